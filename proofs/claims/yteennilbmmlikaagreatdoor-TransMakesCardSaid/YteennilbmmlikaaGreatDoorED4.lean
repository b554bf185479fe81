/- A part of the proof. -/
import Derived.Test.YteennilbmmlikaaGreatDoorYTryzP
import Derived.Test.YteennilbmmlikaaGreatDoorYLoop
import Derived.Test.YteennilbmmlikaaGreatDoorGLX
import Derived.Test.YteennilbmmlikaaGreatDoorYFrz
import Derived.Test.YteennilbmmlikaaGreatDoorGSortK
namespace Go.Y
open Go.Proofs
set_option maxRecDepth 1000000
set_option maxHeartbeats 0
theorem ZCl{a n0 b1 h}(K):CP UY 103 (pre (flat (Za Tryz.f103))) (J a n0 none::.b b1::Rp 53) h [0,1,4,5,6] K=(K .normal 55 [J a n0 none, .b b1, .lb [U 0,U 0,U 0,U 0], .p (some (h.nx,0)),I 0] (h.pushT (UY.tag (25:Nat)) (YObj.arr [U 0,U 0,U 0,U 0] true))):=by kernel_rfl
theorem ZCm{a n0 b1 c x6 h}(K):CP UY 103 (pre (flat (Zx (post (flat (Za Tryz.f103)))))) (MZ 55 [0,1,4,5,6] [J a n0 none,.b b1,.lb [U 0,U 0,U 0,U 0],.p (some (c,0)),I x6]) h [0,1,4,5,6,10] K=(If (ltI x6 256) (K .normal 55 [J a n0 none, .b b1, .lb [U 0,U 0,U 0,U 0], .p (some (c,0)),I x6, .b true] h) (K (.exit 0) 55 [J a n0 none, .b b1, .lb [U 0,U 0,U 0,U 0], .p (some (c,0)),I x6, .b false] h)):=by kernel_rfl
theorem ZCn{a n0 b1 c x6 h}(K):CP UY 103 (pre (flat (Xj (post (flat (Zx (post (flat (Za Tryz.f103))))))))) (MZ 55 [0,1,4,5,6,10] [J a n0 none,.b b1,.lb [U 0,U 0,U 0,U 0],.p (some (c,0)),I x6,.b true]) h [0,1,4,5,6,7,8,10] K=(K .normal 55 [J a n0 none, .b b1, .lb [U 0,U 0,U 0,U 0], .p (some (c,0)),I x6, .b false,I 0, .b true] h):=by kernel_rfl
theorem ZCo{c n0 b1 d x6 e a h}(K):CP UY 103 (flat (Zx (post (flat (Xj (post (flat (Zx (post (flat (Za Tryz.f103))))))))))) (MZ 55 [0,1,4,5,6,7,8,10] [J c n0 none,.b b1,.lb [U 0,U 0,U 0,U 0],.p (some (d,0)),I x6,.b e,I a,.b true]) h [0,1,4,5,6,7,8,10] K=(If (ltI a n0) (If e (K .normal 55 [J c n0 none, .b b1, .lb [U 0,U 0,U 0,U 0], .p (some (d,0)),I x6, .b true,I (IntKind.i64.wrap (a+(1:Int))), .b true] h) ((0<=a∧a<n0)∧ ∃f,Zo 1 (List.drop 0 (List.drop (a.toNat*2) c))=some [.i .u8 f]∧If (leI (IntKind.i64.wrap f) x6) ((0<=a∧a<n0)∧ ∃g,Zo 1 (List.drop 1 (List.drop (a.toNat*2) c))=some [.i .u8 g]∧K .normal 55 [J c n0 none, .b b1, .lb [U 0,U 0,U 0,U 0], .p (some (d,0)),I x6, .b (leI x6 (IntKind.i64.wrap g)),I (IntKind.i64.wrap (a+(1:Int))), .b true] h) (K .normal 55 [J c n0 none, .b b1, .lb [U 0,U 0,U 0,U 0], .p (some (d,0)),I x6, .b false,I (IntKind.i64.wrap (a+(1:Int))), .b true] h))) (K (.exit 2) 55 [J c n0 none, .b b1, .lb [U 0,U 0,U 0,U 0], .p (some (d,0)),I x6, .b e,I a, .b true] h)):=by kernel_rfl
theorem ZCp{c n0 b1 a x6 d h}(K):CP UY 103 ((post (flat (Xj (post (flat (Zx (post (flat (Za Tryz.f103))))))))).drop 1) (MZ 55 [0,1,4,5,6,7] [J c n0 none,.b b1,.lb [U 0,U 0,U 0,U 0],.p (some (a,0)),I x6,.b d]) h [0,1,4,5,6] K=(If (!d==b1) (((64:Int)=(0:Int)->False)∧((64:Int)=(0:Int)->False)∧((0:Int)<=IntKind.i64.wrap (x6.tdiv (64:Int))∧IntKind.i64.wrap (x6.tdiv (64:Int))<(↑(4:Nat):Int))∧ ∃e,Zb h a ((0:Nat)+(IntKind.i64.wrap (x6.tdiv (64:Int))).toNat*1) 1=some [U e]∧((64:Int)=(0:Int)->False)∧(0:Int)<=x6.tmod (64:Int)∧((0:Int)<=IntKind.i64.wrap (x6.tdiv (64:Int))∧IntKind.i64.wrap (x6.tdiv (64:Int))<(↑(4:Nat):Int))∧ ∃f,Zj h a ((0:Nat)+(IntKind.i64.wrap (x6.tdiv (64:Int))).toNat*1) [U (IntKind.u64.wrap (↑(BitVec.ofInt IntKind.u64.bits e|||BitVec.ofInt IntKind.u64.bits (IntKind.u64.wrap ((1:Int)*(2:Int) ^ min (x6.tmod (64:Int)).toNat IntKind.u64.bits))).toNat:Int))]=some f∧K .normal 55 [J c n0 none, .b b1, .lb [U 0,U 0,U 0,U 0], .p (some (a,0)),I x6] f) (K .normal 55 [J c n0 none, .b b1, .lb [U 0,U 0,U 0,U 0], .p (some (a,0)),I x6] h)):=by kernel_rfl
theorem ZCq{a n0 b1 c x6 h}(K):CP UY 103 ((post (flat (Zx (post (flat (Za Tryz.f103)))))).drop 1) (MZ 55 [0,1,4,5,6] [J a n0 none,.b b1,.lb [U 0,U 0,U 0,U 0],.p (some (c,0)),I x6]) h [0,1,4,5,6] K=(K .normal 55 [J a n0 none, .b b1, .lb [U 0,U 0,U 0,U 0], .p (some (c,0)),I (IntKind.i64.wrap (x6+(1:Int)))] h):=by kernel_rfl
theorem ZCr{a h}(K):CP UY 103 ((post (flat (Za Tryz.f103))).drop 1) (MZ 55 [4,5] [.lb [U 0,U 0,U 0,U 0],.p (some (a,0))]) h [4] K=(∃b c d e,Zb h a 0 4=some [U b,U c,U d,U e]∧K .ret 55 [.lb [U b,U c,U d,U e]] h):=by kernel_rfl
theorem ZH7{x0 h}(K):CP UY 96 (flat (Za Tryz.f96)) (.i .u8 x0::Rp 10) h [2] K=(((64:Int)=(0:Int)->False)∧((64:Int)=(0:Int)->False)∧(0:Int)<=x0.tmod (64:Int)∧((0:Int)<=IntKind.u8.wrap (x0.tdiv (64:Int))∧IntKind.u8.wrap (x0.tdiv (64:Int))<(↑(4:Nat):Int))∧ ∃a,Zj (h.pushT (UY.tag (25:Nat)) (YObj.arr [U 0,U 0,U 0,U 0] true)) h.nx ((0:Nat)+(IntKind.u8.wrap (x0.tdiv (64:Int))).toNat*1) [U (IntKind.u64.wrap ((1:Int)*(2:Int) ^ min (x0.tmod (64:Int)).toNat IntKind.u64.bits))]=some a∧ ∃b c d e,Zb a h.nx 0 4=some [U b,U c,U d,U e]∧K .ret 11 [.lb [U b,U c,U d,U e]] a):=by kernel_rfl
abbrev setC(s:S4):List V:= [U s.1,U s.2.1,U s.2.2.1,U s.2.2.2]

theorem Zdr{n:Nat}(h:n<256):IntKind.u8.wrap (n:Int)=(n:Int):=by
 simp only[IntKind.wrap,IntKind.signed,IntKind.bits]
 have:((n:Int)) % 2 ^ 8=n:=by omega
 simpa using this
theorem Zq4(c:Nat)(hc:c<256):splice [U 0,U 0,U 0,U 0] (0+c / 64*1) [U ((2 ^ (c % 64):Nat):Int)]=setC (Zw fun x=>x==c):=by
 have key: ∀k,Zob (fun x=>x==c) k=if c / 64=k then((2 ^ (c % 64):Nat):Int)else 0:=by
  intro k
  rw[Zak]
  split
  ·next e=>rw[Zit (b:=c % 64) (by simp;omega) (by omega) (fun x h1 h2=>by simp;omega)]
  ·next e=>rw[WV (fun x h1=>by simp;omega)];rfl
 have:c / 64=0∨c / 64=1∨c / 64=2∨c / 64=3:=by omega
 simp only[setC,Zw,key]
 rcases this with e|e|e|e<;>rw[e]<;>rfl

theorem Zg2(c:UInt8):PCon UY 96 [.i .u8 (c.toNat:Nat)] (· = .agg (setC (Zw fun x=>x==c.toNat))):=by
 refine Zt UK (fn:=Tryz.f96) rfl ZH7 rfl ?_
 have hc:c.toNat<256:=c.toNat_lt
 generalize c.toNat=c at hc
 have e1:IntKind.u8.wrap (Int.tdiv (c:Int) 64)=((c / 64:Nat):Int):=by rw[Zqu,Zdr (by omega)]
 have e2:(Int.tmod (c:Int) 64).toNat=c % 64:=by rw[Ze9];rfl
 have e3:IntKind.u64.wrap (1*2 ^ min (Int.tmod (c:Int) 64).toNat IntKind.u64.bits)=((2 ^ (c % 64):Nat):Int):=by rw[e2,Zkw (by omega)]
 rw[e1,e3,Ze9]
 have hw:=Zq4 c hc
 generalize (2 ^ (c % 64):Nat)=y at hw
 have hst:Zj ((Heap.empty).pushT (UY.tag 25) (.arr [U 0,U 0,U 0,U 0] true)) Heap.empty.nx (0+(((c / 64:Nat):Int)).toNat*1) [U (y:Nat)]=some ((((Heap.empty).pushT (UY.tag 25) (.arr [U 0,U 0,U 0,U 0] true))).set Heap.empty.nx (some (.arr (setC (Zw fun x=>x==c)) true))):=by
  rw[<-hw]
  simp only[Zj,qj,if_true]
  rw[qdq,if_pos (by simp;omega)]
 refine⟨by omega,by omega,by omega,⟨by omega,by omega⟩,_,hst,_,_,_,_,(Zr (by rw[qc,if_pos rfl]) 0 4).trans rfl,Zv (.inr rfl) rfl (.agg _ _ (.cons _ _ _ _ (.i _ _) (.cons _ _ _ _ (.i _ _) (.cons _ _ _ _ (.i _ _) (.cons _ _ _ _ (.i _ _) .nil))))) rfl⟩

def ofP(l:List Span)(neg:Bool)(c:Nat):Bool:=ZH l c !=neg

structure OfW(h:Heap)(id:Nat)(p:Nat->Bool)(c:Nat):Prop where
 get:h.get id=some (.arr (Qk p c) true)

theorem Zq5(l:List Span){i:Nat}(h:i<l.length):Zo 1 (List.drop 0 (List.drop ((i:Int).toNat*2) (row encS l)))=some [.i .u8 l[i].lo]∧Zo 1 (List.drop 1 (List.drop ((i:Int).toNat*2) (row encS l)))=some [.i .u8 l[i].hi]:=by
 rw[qdq,Zag (f:=encS) (k:=2) Zah l h]
 exact⟨rfl,rfl⟩

theorem Zmn(l:List Span)(neg:Bool)(hl:l.length<2 ^ 40)(hb: ∀x∈l,(0<=x.lo∧x.lo<256)∧(0<=x.hi∧x.hi<256)):PCon UY 103 [lst encS l, .b neg] (· = .agg (setC (Zw (ofP l neg)))):=by
 refine ZE UK (fn:=Tryz.f103) rfl ?_
 refine Zl UK 55 ZCl rfl ?_
 refine⟨rfl,ZL [0,1,4,5,6] [0,1,4,5,6] (fun m vs h=> ∃c:Nat,vs= [lst encS l, .b neg, .lb [U 0,U 0,U 0,U 0], .p (some (Heap.empty.nx,0)),I (c:Nat)]∧c<=256∧m=256-c∧OfW h Heap.empty.nx (ofP l neg) c) 256 Zy ⟨0,rfl,by omega,by omega,⟨by rw[qj,if_pos rfl];rfl⟩⟩ ?_⟩
 rintro m vs h ⟨c,rfl,hc,rfl,hw⟩
 refine Zl UK 55 ZCm rfl ?_
 refine XC (fun hlt=>⟨rfl,Wj (n:=55) [0,1,4,5,6] (by kernel_rfl) ?_⟩) (fun hge=> ?_)
 ·have hlt:c<256:=by omega
  refine Zl UK 55 ZCn rfl ?_
  refine⟨rfl,ZL [0,1,4,5,6,7,8,10] [0,1,4,5,6,7,8,10] (fun m vs h'=> ∃i:Nat,vs= [lst encS l, .b neg, .lb [U 0,U 0,U 0,U 0], .p (some (Heap.empty.nx,0)),I (c:Nat), .b (ZH (l.take i) c),I (i:Nat), .b true]∧i<=l.length∧m=l.length-i∧h'=h) l.length Zy ⟨0,rfl,by omega,by omega,rfl⟩ ?_⟩
  rintro m vs h' ⟨i,rfl,hi,rfl,rfl⟩
  refine Zs UK ZCo rfl ?_
  refine Zm (fun hil=> ?_) (fun hig=> ?_)
  ·have hx:=hb l[i] (qe hil)
   have ht:ZH (l.take (i+1)) c=(ZH (l.take i) c||(decide (l[i].lo<=(c:Int))&&decide ((c:Int)<=l[i].hi))):=by
    simp only[ZH];rw[qa hil,List.any_append];simp
   have wl:IntKind.i64.wrap l[i].lo=l[i].lo:=ZG (by omega) (by omega)
   have wh:IntKind.i64.wrap l[i].hi=l[i].hi:=ZG (by omega) (by omega)
   refine Zg (fun hm=> ?_) (fun hm=>⟨Zz hil,l[i].lo,(Zq5 l hil).1,?_⟩)
   ·exact⟨rfl,l.length-(i+1),by omega,i+1,by rw[Zh (by omega),ht,hm];rfl,by omega,rfl,rfl⟩
   rw[wl]
   refine Wx (fun h1=>⟨Zz hil,l[i].hi,(Zq5 l hil).2,?_⟩) (fun h1=> ?_)
   ·rw[wh]
    refine⟨rfl,l.length-(i+1),by omega,i+1,?_,by omega,rfl,rfl⟩
    rw[Zh (by omega),ht,hm]
    have e:leI (c:Int) l[i].hi=(false||(decide (l[i].lo<=(c:Int))&&decide ((c:Int)<=l[i].hi))):=by rw[decide_eq_true h1];rfl
    rw[e];rfl
   ·refine⟨rfl,l.length-(i+1),by omega,i+1,?_,by omega,rfl,rfl⟩
    rw[Zh (by omega),ht,hm,decide_eq_false (show¬l[i].lo<=(c:Int) by omega)];rfl
  ·have he:i=l.length:=by omega
   subst he
   rw[qm]
   refine Zi [0,1,4,5,6,7] ?_
   refine Zs UK ZCp rfl ?_
   have next: ∀h'',OfW h'' Heap.empty.nx (ofP l neg) (c+1)-> ∀Q,Q=VQ [0,1,4,5,6] (XH UY 55 [0,1,4,5,6] [0,1,4,5,6] (fun m vs h=> ∃c:Nat,vs= [lst encS l, .b neg, .lb [U 0,U 0,U 0,U 0], .p (some (Heap.empty.nx,0)),I (c:Nat)]∧c<=256∧m=256-c∧OfW h Heap.empty.nx (ofP l neg) c) (256-c) (Xa (post (flat (Za Tryz.f103)))) ((post (flat (Za Tryz.f103))).drop 1) (FinS UY Tryz.f103 fun v h=> ∃r,Frz h v r∧r= .agg (setC (Zw (ofP l neg)))))->
     TriL UY ((post (flat (Zx (post (flat (Za Tryz.f103)))))).drop 1) ⟨mk 55 (([0,1,4,5,6]:List Nat).zip [lst encS l, .b neg, .lb [U 0,U 0,U 0,U 0], .p (some (Heap.empty.nx,0)),I (c:Nat)]),[],h''⟩ Q:=by
    rintro h'' hw' Q rfl
    refine Zs UK ZCq rfl ?_
    exact⟨rfl,256-(c+1),by omega,c+1,by rw[Zh (by omega)];rfl,by omega,rfl,hw'⟩
   refine Zg (fun hp=> ?_) (fun hp=>⟨rfl,[0,1,4,5,6],rfl,next _ ⟨?_⟩ _ rfl⟩)
   ·have hp:ofP l neg c=true:=by unfold ofP;revert hp;cases ZH l c<;>cases neg<;>simp
    have e1:IntKind.i64.wrap (Int.tdiv (c:Int) 64)=((c / 64:Nat):Int):=by rw[Zqu,ZG (by omega) (by omega)]
    have e2:(Int.tmod (c:Int) 64).toNat=c % 64:=by rw[Ze9];rfl
    rw[e1,Ze9]
    have hlo:=JZ (ofP l neg) (c / 64) (c % 64)
    refine⟨by omega,by omega,⟨by omega,by omega⟩,_,(Zr hw.get _ _).trans (Zqv _ hlt),by omega,by omega,⟨by omega,by omega⟩,?_⟩
    have hor:=ZCi hlo (show c % 64<64 by omega)
    rw[qdq,qdq,hor]
    refine⟨h'.set Heap.empty.nx (some (.arr (Qk (ofP l neg) (c+1)) true)),?_,⟨rfl,[0,1,4,5,6],rfl,next _ ⟨by rw[qc,if_pos rfl]⟩ _ rfl⟩⟩
    rw[<-Zqw _ hlt hp]
    simp only[Zj,hw.get]
    rw[if_pos (by simp[Qk];omega)]
   ·have hp:ofP l neg c=false:=by unfold ofP;revert hp;cases ZH l c<;>cases neg<;>simp
    rw[Zui _ hlt hp];exact hw.get
 ·have he:c=256:=by omega
  subst he
  refine Qe rfl (Zi [4,5] ?_)
  refine Zn UK ZCr rfl ?_
  exact⟨_,_,_,_,(Zr hw.get 0 4).trans rfl,Zv (.inr rfl) rfl (.agg _ _ (.cons _ _ _ _ (.i _ _) (.cons _ _ _ _ (.i _ _) (.cons _ _ _ _ (.i _ _) (.cons _ _ _ _ (.i _ _) .nil))))) rfl⟩
theorem ZH8{id x h}(K):CP UY 28 (flat (Za Tryz.f28)) (.p (some (id,0))::I x::Rp 11) h [] K=(∃a,Zb h id 3 1=some [I a]∧If (a==(0:Int)) (∃b,Zj h id 3 [I x]=some b∧K .normal 13 [] b) (K .normal 13 [] h)):=by kernel_rfl
theorem ZH9{id x h}(K):CP UY 68 (flat (Za Tryz.f68)) (.p (some (id,0))::.i .u8 x::Rp 33) h [4] K=(∃a,Zb h id 3 1=some [I a]∧If (a==(0:Int)) (∃c,Zb h id 1 1=some [I c]∧ ∃d,Zb h id 0 1=some [.s d]∧If (ltI c (↑d.length:Int)) (∃e,Zb h id 0 1=some [.s e]∧ ∃f,Zb h id 1 1=some [I f]∧ ∃g,((0:Int)<=f∧e[f.toNat]? =some g)∧K .ret 35 [.b ((↑g.toNat:Int)==x)] h) (K .ret 35 [.b false] h)) (K .ret 35 [.b false] h)):=by kernel_rfl
theorem ZCs{id h}(K):CP UY 142 (flat (Za Tryz.f142)) (.p (some (id,0))::Rp 44) h [2,3] K=(Con UY 174 [.p (some (id,0)),I 0] h fun(v:V) (h':Heap)=> ∃a,v=I a∧ ∃b,RCon UY (68:Nat) [.p (some (id,0)),.i .u8 44] h' (.b b)∧If b (∃c,Zb h' id 1 1=some [I c]∧ ∃d,Zj h' id 1 [I (IntKind.i64.wrap (c+(1:Int)))]=some d∧ ∃e,RCon UY (68:Nat) [.p (some (id,0)),.i .u8 125] d (.b e)∧If (!e) (∃f,Zb d id 3 1=some [I f]∧If (f==(0:Int)) (Con UY 174 [.p (some (id,0)),I a] d fun(v:V) (h':Heap)=> ∃g,v=I g∧ ∃j,RCon UY (68:Nat) [.p (some (id,0)),.i .u8 125] h' (.b j)∧If (!j) (Con UY 28 [.p (some (id,0)),I 1] h' fun(v:V) (h':Heap)=>v=.tup []∧K .ret 45 [I 0,I 0] h') (∃l,Zb h' id 1 1=some [I l]∧ ∃m,Zj h' id 1 [I (IntKind.i64.wrap (l+(1:Int)))]=some m∧K .ret 45 [I a,I g] m)) (∃g,RCon UY (68:Nat) [.p (some (id,0)),.i .u8 125] d (.b g)∧If (!g) (Con UY 28 [.p (some (id,0)),I 1] d fun(v:V) (h':Heap)=>v=.tup []∧K .ret 45 [I 0,I 0] h') (∃j,Zb d id 1 1=some [I j]∧ ∃l,Zj d id 1 [I (IntKind.i64.wrap (j+(1:Int)))]=some l∧K .ret 45 [I a,I (-1)] l))) (∃f,RCon UY (68:Nat) [.p (some (id,0)),.i .u8 125] d (.b f)∧If (!f) (Con UY 28 [.p (some (id,0)),I 1] d fun(v:V) (h':Heap)=>v=.tup []∧K .ret 45 [I 0,I 0] h') (∃g,Zb d id 1 1=some [I g]∧ ∃j,Zj d id 1 [I (IntKind.i64.wrap (g+(1:Int)))]=some j∧K .ret 45 [I a,I (-1)] j))) (∃c,RCon UY (68:Nat) [.p (some (id,0)),.i .u8 125] h' (.b c)∧If (!c) (Con UY 28 [.p (some (id,0)),I 1] h' fun(v:V) (h':Heap)=>v=.tup []∧K .ret 45 [I 0,I 0] h') (∃d,Zb h' id 1 1=some [I d]∧ ∃e,Zj h' id 1 [I (IntKind.i64.wrap (d+(1:Int)))]=some e∧K .ret 45 [I a,I a] e))):=by kernel_rfl
theorem ZCt{id x h}(K):CP UY 174 (flat (Za Tryz.f174)) (.p (some (id,0))::I x::Rp 73) h [4] K=(∃a,Zb h id 1 1=some [I a]∧ ∃b,Zb h id 0 1=some [.s b]∧If (ltI a (↑b.length:Int)) (∃c,Zb h id 0 1=some [.s c]∧ ∃d,Zb h id 1 1=some [I d]∧ ∃e,((0:Int)<=d∧c[d.toNat]? =some e)∧If (leI 48 (↑e.toNat:Int)) (∃f,Zb h id 0 1=some [.s f]∧ ∃g,Zb h id 1 1=some [I g]∧ ∃i,((0:Int)<=g∧f[g.toNat]? =some i)∧If (leI (↑i.toNat:Int) (56:Int)) (∃j,Zb h id 0 1=some [.s j]∧ ∃l,Zb h id 1 1=some [I l]∧ ∃m,((0:Int)<=l∧j[l.toNat]? =some m)∧If (leI x (IntKind.i64.wrap (IntKind.i64.wrap (↑m.toNat:Int)-(48:Int)))) (∃n,Zb h id 1 1=some [I n]∧ ∃o,Zj h id 1 [I (IntKind.i64.wrap (n+(1:Int)))]=some o∧ ∃q,Zb o id 0 1=some [.s q]∧ ∃r,Zb o id 1 1=some [I r]∧ ∃s,((0:Int)<=IntKind.i64.wrap (r-(1:Int))∧q[(IntKind.i64.wrap (r-(1:Int))).toNat]? =some s)∧K .ret 75 [I (IntKind.i64.wrap (IntKind.i64.wrap (↑s.toNat:Int)-(48:Int)))] o) (Con UY 28 [.p (some (id,0)),I 1] h fun(v:V) (h':Heap)=>v=.tup []∧K .ret 75 [I (-1)] h')) (Con UY 28 [.p (some (id,0)),I 1] h fun(v:V) (h':Heap)=>v=.tup []∧K .ret 75 [I (-1)] h')) (Con UY 28 [.p (some (id,0)),I 1] h fun(v:V) (h':Heap)=>v=.tup []∧K .ret 75 [I (-1)] h')) (Con UY 28 [.p (some (id,0)),I 1] h fun(v:V) (h':Heap)=>v=.tup []∧K .ret 75 [I (-1)] h')):=by kernel_rfl
theorem ZCu{id h}(K):CP UY 173 (flat (Za Tryz.f173)) (.p (some (id,0))::Rp 46) h [2] K=(∃a,RCon UY (68:Nat) [.p (some (id,0)),.i .u8 94] h (.b a)∧If a (∃b,Zb h id 1 1=some [I b]∧ ∃c,Zj h id 1 [I (IntKind.i64.wrap (b+(1:Int)))]=some c∧ ∃d,Zb c id 0 1=some [.s d]∧ ∃e,Zb c id 1 1=some [I e]∧ ∃f g j l m,(PCon UY 62 [.s d,I e] fun(v:V)=>v=.tup [J f g j,I l,I m])∧If (ltI l 0) (∃n,Zj c id 1 [I m]=some n∧Con UY 28 [.p (some (id,0)),I 1] n fun(v:V) (h':Heap)=>v=.tup []∧K .ret 47 [.lb R0] h') (∃n,Zj c id 1 [I l]=some n∧ ∃o q r s,(PCon UY 103 [J f g j,.b a] fun(v:V)=>v=.agg [U o,U q,U r,U s])∧K .ret 47 [.lb [I 1,U o,U q,U r,U s,S0,I 0,I 0,I 0]] n)) (∃b,Zb h id 0 1=some [.s b]∧ ∃c,Zb h id 1 1=some [I c]∧ ∃d e f g j,(PCon UY 62 [.s b,I c] fun(v:V)=>v=.tup [J d e f,I g,I j])∧If (ltI g 0) (∃l,Zj h id 1 [I j]=some l∧Con UY 28 [.p (some (id,0)),I 1] l fun(v:V) (h':Heap)=>v=.tup []∧K .ret 47 [.lb R0] h') (∃l,Zj h id 1 [I g]=some l∧ ∃m n o q,(PCon UY 103 [J d e f,.b a] fun(v:V)=>v=.agg [U m,U n,U o,U q])∧K .ret 47 [.lb [I 1,U m,U n,U o,U q,S0,I 0,I 0,I 0]] l))):=by kernel_rfl
theorem ZCv{id x h}(K):CP UY 141 (flat (Za Tryz.f141)) (.p (some (id,0))::I x::Rp 138) h [4] K=(∃a,Zb h id 0 1=some [.s a]∧ ∃b,Zb h id 1 1=some [I b]∧ ∃c,((0:Int)<=b∧a[b.toNat]? =some c)∧If ((↑c.toNat:Int)==(42:Int)) (Con UY 28 [.p (some (id,0)),I 1] h fun(v:V) (h':Heap)=>v=.tup []∧K .ret 140 [.lb R0] h') (If ((↑c.toNat:Int)==(43:Int)) (Con UY 28 [.p (some (id,0)),I 1] h fun(v:V) (h':Heap)=>v=.tup []∧K .ret 140 [.lb R0] h') (If ((↑c.toNat:Int)==(63:Int)) (Con UY 28 [.p (some (id,0)),I 1] h fun(v:V) (h':Heap)=>v=.tup []∧K .ret 140 [.lb R0] h') (If ((↑c.toNat:Int)==(123:Int)) (Con UY 28 [.p (some (id,0)),I 1] h fun(v:V) (h':Heap)=>v=.tup []∧K .ret 140 [.lb R0] h') (If ((↑c.toNat:Int)==(40:Int)) (If (leI 64 x) (Con UY 28 [.p (some (id,0)),I 8] h fun(v:V) (h':Heap)=>v=.tup []∧K .ret 140 [.lb R0] h') (∃d,Zb h id 1 1=some [I d]∧ ∃e,Zj h id 1 [I (IntKind.i64.wrap (d+(1:Int)))]=some e∧ ∃f,Zb e id 2 1=some [I f]∧ ∃g,Zj e id 2 [I (IntKind.i64.wrap (f+(1:Int)))]=some g∧ ∃j,Zb g id 2 1=some [I j]∧If (leI j 9) (∃l,Zb g id 2 1=some [I l]∧Con UY 27 [.p (some (id,0)),I (IntKind.i64.wrap (x+(1:Int)))] g fun(v:V) (h':Heap)=> ∃m n o q r s t u w y z,v=.agg (R9 m n o q r s t u w y z)∧ ∃a0,RCon UY (68:Nat) [.p (some (id,0)),.i .u8 41] h' (.b a0)∧If (!a0) (Con UY 28 [.p (some (id,0)),I 1] h' fun(v:V) (h':Heap)=>v=.tup []∧K .ret 140 [.lb [I 0,U 0,U 0,U 0,U 0,S0,I 0,I 0,I (0:Int)]] h') (∃a1,Zb h' id 1 1=some [I a1]∧ ∃a2,Zj h' id 1 [I (IntKind.i64.wrap (a1+(1:Int)))]=some a2∧K .ret 140 [.lb [I (7:Int),U (0:Int),U (0:Int),U (0:Int),U (0:Int),J (R9 m n o q r s t u w y z) 1 (some 1),I (0:Int),I (0:Int),I l]] a2)) (Con UY 27 [.p (some (id,0)),I (IntKind.i64.wrap (x+(1:Int)))] g fun(v:V) (h':Heap)=> ∃l m n o q r s t u w y,v=.agg (R9 l m n o q r s t u w y)∧ ∃z,RCon UY (68:Nat) [.p (some (id,0)),.i .u8 41] h' (.b z)∧If (!z) (Con UY 28 [.p (some (id,0)),I 1] h' fun(v:V) (h':Heap)=>v=.tup []∧K .ret 140 [.lb R0] h') (∃a0,Zb h' id 1 1=some [I a0]∧ ∃a1,Zj h' id 1 [I (IntKind.i64.wrap (a0+(1:Int)))]=some a1∧K .ret 140 [.lb [I 7,U 0,U 0,U 0,U 0,J (R9 l m n o q r s t u w y) 1 (some 1),I 0,I 0,I (0:Int)]] a1)))) (∃d,Zb h id 1 1=some [I d]∧ ∃e,Zj h id 1 [I (IntKind.i64.wrap (d+(1:Int)))]=some e∧If ((↑c.toNat:Int)==(91:Int)) (Con UY 173 [.p (some (id,0))] e fun(v:V) (h':Heap)=> ∃f g j l m n o q r s t,v=.agg (R9 f g j l m n o q r s t)∧K .ret 140 [.lb (R9 f g j l m n o q r s t)] h') (If ((↑c.toNat:Int)==(46:Int)) (∃f g j l,(PCon UY 103 [S0,.b true] fun(v:V)=>v=.agg [U f,U g,U j,U l])∧K .ret 140 [.lb [I 1,U f,U g,U j,U l,S0,I 0,I 0,I 0]] e) (If ((↑c.toNat:Int)==(94:Int)) (K .ret 140 [.lb [I 2,U 0,U 0,U 0,U 0,S0,I 0,I 0,I 0]] e) (If ((↑c.toNat:Int)==(36:Int)) (K .ret 140 [.lb [I 3,U 0,U 0,U 0,U 0,S0,I 0,I 0,I 0]] e) (If ((↑c.toNat:Int)==(92:Int)) (∃f,Zb e id 1 1=some [I f]∧ ∃g,Zb e id 0 1=some [.s g]∧If (leI (↑g.length:Int) f) (Con UY 28 [.p (some (id,0)),I 1] e fun(v:V) (h':Heap)=>v=.tup []∧K .ret 140 [.lb R0] h') (∃j,Zb e id 0 1=some [.s j]∧ ∃l,Zb e id 1 1=some [I l]∧ ∃m,((0:Int)<=l∧j[l.toNat]? =some m)∧ ∃n,Zb e id 1 1=some [I n]∧ ∃o,Zj e id 1 [I (IntKind.i64.wrap (n+(1:Int)))]=some o∧ ∃q r s t,(PCon UY 96 [.i .u8 (↑m.toNat:Int)] fun(v:V)=>v=.agg [U q,U r,U s,U t])∧K .ret 140 [.lb [I 1,U q,U r,U s,U t,S0,I 0,I 0,I 0]] o)) (∃f g j l,(PCon UY 96 [.i .u8 (↑c.toNat:Int)] fun(v:V)=>v=.agg [U f,U g,U j,U l])∧K .ret 140 [.lb [I 1,U f,U g,U j,U l,S0,I 0,I 0,I 0]] e))))))))))):=by kernel_rfl
theorem ZIa{j l c k h}(K):CP UY 27 ((post (flat (Za Tryz.f27))).drop 1) (MZ 33 [4,5] [.lb R0,S (some (j,0)) l c k]) h [4] K=(If ((↑l:Int)==(1:Int)) (((0:Int)<=(0:Int)∧(0:Int)<(l:Int))∧k=9∧ ∃a b d e f g i m n o p,Zb h j (0) (9)=some (R9 a b d e f g i m n o p)∧K .ret (33) [.lb (R9 a b d e f g i m n o p)] h) (K .ret (33) [.lb [I 5,U 0,U 0,U 0,U 0,S (some (j,0)) l c k,I 0,I 0,I 0]] h)):=by kernel_rfl
theorem ZIb{j l c k h}(K):CP UY 67 ((post (flat (Za Tryz.f67))).drop 1) (MZ 65 [4,5] [.lb R0,S (some (j,0)) l c k]) h [4] K=(If ((↑l:Int)==(0:Int)) (K .ret (65) [.lb [I 0,U 0,U 0,U 0,U 0,S none (0) (some (0)) (0),I 0,I 0,I 0]] h) (If ((↑l:Int)==(1:Int)) (((0:Int)<=(0:Int)∧(0:Int)<(l:Int))∧k=9∧ ∃a b d e f g i m n o p,Zb h j (0) (9)=some (R9 a b d e f g i m n o p)∧K .ret (65) [.lb (R9 a b d e f g i m n o p)] h) (K .ret (65) [.lb [I 4,U 0,U 0,U 0,U 0,S (some (j,0)) l c k,I 0,I 0,I 0]] h))):=by kernel_rfl
theorem Zyr{c k h}(K):CP UY 67 ((post (flat (Za Tryz.f67))).drop 1) (MZ 65 [4,5] [.lb R0,S none 0 c k]) h [4] K=(K .ret (65) [.lb [I 0,U 0,U 0,U 0,U 0,S none (0) (some (0)) (0),I 0,I 0,I 0]] h):=by kernel_rfl
structure RdE(h:Heap)(id:Nat)(s:List UInt8)(i g:Nat)(e:Int):Prop where
 get:h.get id=some (.arr [.s s,I i,I g,I e] true)
 lt:id<h.nx
section
variable {h:Heap} {id:Nat} {s:List UInt8} {i g:Nat} {e:Int}
theorem RdE.c0(r:RdE h id s i g e):Zb h id 0 1=some [.s s]:=by simp[Zb,r.get,Zo]
theorem RdE.c1(r:RdE h id s i g e):Zb h id 1 1=some [I i]:=by simp[Zb,r.get,Zo]
theorem RdE.c2(r:RdE h id s i g e):Zb h id 2 1=some [I g]:=by simp[Zb,r.get,Zo]
theorem RdE.c3(r:RdE h id s i g e):Zb h id 3 1=some [I e]:=by simp[Zb,r.get,Zo]
theorem RdE.s1(r:RdE h id s i g e)(j:Nat): ∃h1,Zj h id 1 [I j]=some h1∧RdE h1 id s j g e∧FrO h id h1:=by
 refine⟨h.set id (some (.arr [.s s,I j,I g,I e] true)),?_,⟨by simp,r.lt⟩, .set _ _ _⟩
 simp[Zj,r.get,splice]
theorem RdE.s2(r:RdE h id s i g e)(j:Nat): ∃h1,Zj h id 2 [I j]=some h1∧RdE h1 id s i j e∧FrO h id h1:=by
 refine⟨h.set id (some (.arr [.s s,I i,I j,I e] true)),?_,⟨by simp,r.lt⟩, .set _ _ _⟩
 simp[Zj,r.get,splice]
theorem RdE.s3(r:RdE h id s i g e)(x:Int): ∃h1,Zj h id 3 [I x]=some h1∧RdE h1 id s i g x∧FrO h id h1:=by
 refine⟨h.set id (some (.arr [.s s,I i,I g,I x] true)),?_,⟨by simp,r.lt⟩, .set _ _ _⟩
 simp[Zj,r.get,splice]
end

theorem Vd{s:List UInt8}{i:Nat}(h:i<s.length):(0:Int)<=(i:Nat)∧s[(i:Int).toNat]? =some s[i]:=⟨by omega,by simp[h]⟩

theorem Jb{h:Heap}{id:Nat}{s:List UInt8}{i g:Nat}{e:Int}(r:RdE h id s i g e)(c:UInt8):
  RCon UY 68 [.p (some (id,0)), .i .u8 (c.toNat:Nat)] h (.b (e==0&&s[i]? ==some c)):=by
 refine⟨h,?_,fun _ _=>rfl,fun _ h=>h⟩
 refine Zu UK (fn:=Tryz.f68) (Zn UK ZH9 rfl ?_)
 refine⟨_,r.c3,Zg (fun h0=> ?_) (fun h0=> ?_)⟩
 ·refine⟨_,r.c1,_,r.c0,Zm (fun hlt=> ?_) (fun hge=> ?_)⟩
  ·refine⟨_,r.c0,_,r.c1,s[i],Vd hlt,finC (.inr rfl) rfl (.now ⟨?_,rfl⟩)⟩
   rw[Zqn,h0];simp[hlt,V.plain]
  ·have:s[i]? =none:=qq (by omega)
   refine finC (.inr rfl) rfl (.now ⟨?_,rfl⟩)
   simp[this,V.plain]
 ·refine finC (.inr rfl) rfl (.now ⟨?_,rfl⟩)
  rw[h0];rfl

theorem Zds{h:Heap}{id:Nat}{s:List UInt8}{i g:Nat}{e:Int}(r:RdE h id s i g e)(x:Int):
  Con UY 28 [.p (some (id,0)),I x] h fun v h'=>v= .tup []∧RdE h' id s i g (if e=0 then x else e)∧FrO h id h':=by
 refine Zu UK (fn:=Tryz.f28) (Zn UK ZH8 rfl ?_)
 refine⟨_,r.c3,Zg (fun h0=> ?_) (fun h0=> ?_)⟩
 ·have h0:e=0:=by simpa using h0
  obtain⟨h1,g1,g2,g3⟩:=r.s3 x
  exact⟨h1,g1,finC (.inl rfl) rfl (.now ⟨rfl,by rw[if_pos h0];exact g2,g3⟩)⟩
 ·have h0:e≠0:=by simpa using h0
  exact finC (.inl rfl) rfl (.now ⟨rfl,by rw[if_neg h0];exact r, .refl _ _⟩)
theorem Zmo{h:Heap}{id:Nat}{s:List UInt8}{i g:Nat}(r:RdE h id s i g 0)(x:Int){Q:V->Heap->Prop}(hq: ∀h',RdE h' id s i g x->FrO h id h'->Q (.tup []) h'):
  Con UY 28 [.p (some (id,0)),I x] h Q:=(Zds r x).mono fun v h' ⟨hv,h1,h2⟩=>by
 subst hv
 exact hq h' (by simpa using h1) h2

def Zwr(R:Except Nat (Int×Nat))(h:Heap)(id:Nat)(s:List UInt8)(g:Nat)(v:V)(h':Heap):Prop:=match R with
 | .error e=>v= .i .i64 (-1)∧RdE h' id s e g 1∧FrO h id h'
 | .ok (x,j)=>v= .i .i64 x∧RdE h' id s j g 0∧FrO h id h'

theorem Zfe{h:Heap}{id:Nat}{s:List UInt8}{i g:Nat}(r:RdE h id s i g 0)(least:Int)(hs:s.length<2 ^ 28):
  Con UY 174 [.p (some (id,0)),I least] h (Zwr (XI s i least) h id s g):=by
 refine Zu UK (fn:=Tryz.f174) (Zn UK ZCt rfl ?_)
 have no:XI s i least= .error i->Con UY 28 [.p (some (id,0)),I 1] h fun v h'=>v= .tup []∧Go.Y.Fin UY Tryz.f174 [4] (AfterZ (Zwr (XI s i least) h id s g)) .ret 75 [I (-1)] h':=fun hn=>
  Zmo r 1 fun h' h1 h2=>⟨rfl,finC (.inr rfl) rfl (.now (by rw[hn];exact⟨rfl,h1,h2⟩))⟩
 refine⟨_,r.c1,_,r.c0,Zm (fun hlt=> ?_) (fun hge=>no ?_)⟩
 ·have hsi:s[i]? =some s[i]:=by simp[hlt]
  refine⟨_,r.c0,_,r.c1,s[i],Vd hlt,Wx (fun h1=>⟨_,r.c0,_,r.c1,s[i],Vd hlt,Wx (fun h2=>⟨_,r.c0,_,r.c1,s[i],Vd hlt,?_⟩) (fun h2=>no ?_)⟩) (fun h1=>no ?_)⟩
  ·have hc:s[i].toNat<256:=s[i].toNat_lt
   have w1:IntKind.i64.wrap (s[i].toNat:Int)=s[i].toNat:=ZG (by omega) (by omega)
   have w2:IntKind.i64.wrap ((s[i].toNat:Int)-48)=(s[i].toNat:Int)-48:=ZG (by omega) (by omega)
   rw[w1,w2]
   refine Wx (fun h3=> ?_) (fun h3=>no ?_)
   ·obtain⟨h',g1,g2,g3⟩:=r.s1 (i+1)
    refine⟨_,r.c1,h',by rw[Zh (by omega)];exact g1,_,g2.c0,_,g2.c1,s[i],?_,?_⟩
    ·rw[ZG (by omega) (by omega),show((i+1:Nat):Int)-1=(i:Int) by omega];exact Vd hlt
    rw[w1,w2]
    refine finC (.inr rfl) rfl (.now ?_)
    have:XI s i least= .ok ((s[i].toNat:Int)-48,i+1):=by unfold XI;rw[hsi];simp only[];rw[if_pos ⟨by omega,by omega,h3⟩]
    rw[this]
    exact⟨rfl,g2,g3⟩
   ·unfold XI;rw[hsi];simp only[];rw[if_neg (by omega)]
  ·unfold XI;rw[hsi];simp only[];rw[if_neg (by omega)]
  ·unfold XI;rw[hsi];simp only[];rw[if_neg (by omega)]
 ·unfold XI;rw[qq (by omega)]

def Zkz(R:Except Nat (Int×Int×Nat))(h:Heap)(id:Nat)(s:List UInt8)(g:Nat)(v:V)(h':Heap):Prop:=match R with
 | .error e=>v= .tup [.i .i64 0, .i .i64 0]∧RdE h' id s e g 1∧FrO h id h'
 | .ok (x,y,j)=>v= .tup [.i .i64 x, .i .i64 y]∧RdE h' id s j g 0∧FrO h id h'

theorem Zi4{s:List UInt8}{i j:Nat}{l x:Int}(h:XI s i l= .ok (x,j)):j=i+1∧i<s.length:=by
 unfold XI at h
 split at h
 ·rename_i c hc
  split at h
  ·cases h;exact⟨rfl,(qb.1 hc).1⟩
  ·cases h
 ·cases h
theorem Zk0{h:Heap}{id:Nat}{s:List UInt8}{i g:Nat}(r:RdE h id s i g 0)(hs:s.length<2 ^ 28):
  Con UY 142 [.p (some (id,0))] h (Zkz (ZW s i) h id s g):=by
 refine Zu UK (fn:=Tryz.f142) (Zn UK ZCs rfl ?_)
 have bad: ∀(e:Nat) (h1:Heap) (x:Int),ZW s i= .error e->RdE h1 id s e g x->(x=0∨x=1)->FrO h id h1->
   Con UY 28 [.p (some (id,0)),I 1] h1 fun v h'=>v= .tup []∧Go.Y.Fin UY Tryz.f142 [2,3] (AfterZ (Zkz (ZW s i) h id s g)) .ret 45 [I 0,I 0] h':=fun e h1 x hn hr hx hf=>
  (Zds hr 1).mono fun v h' ⟨hv,h2,h3⟩=>⟨hv,finC (.inr rfl) rfl (.now (by
   rw[hn]
   have h2:RdE h' id s e g 1:=by rcases hx with rfl|rfl<;>simpa using h2
   exact⟨rfl,h2,hf.trans h3⟩))⟩
 have done: ∀(lo hi:Int) (j:Nat) (h1:Heap),ZW s i= .ok (lo,hi,j)->RdE h1 id s j g 0->FrO h id h1->Go.Y.Fin UY Tryz.f142 [2,3] (AfterZ (Zkz (ZW s i) h id s g)) .ret 45 [I lo,I hi] h1:=fun lo hi j h1 hn hr hf=>
  finC (.inr rfl) rfl (.now (by rw[hn];exact⟨rfl,hr,hf⟩))
 refine(Zfe r 0 hs).mono fun v h1 hq=> ?_
 cases hd:XI s i 0 with
 |error e=>
  rw[hd]at hq
  obtain⟨rfl,q1,q2⟩:=hq
  have hb:ZW s i= .error e:=by unfold ZW;rw[hd]
  refine⟨_,rfl,_,Jb q1 44,Zg (fun hc=>by simp at hc) (fun _=>⟨_,Jb q1 125,Zg (fun _=>bad e h1 1 hb q1 (.inr rfl) q2) (fun hc=>by simp at hc)⟩)⟩
 |ok y=>
  obtain⟨lo,j⟩:=y
  rw[hd]at hq
  obtain⟨rfl,q1,q2⟩:=hq
  obtain⟨rfl,hlt⟩:=Zi4 hd
  refine⟨_,rfl,_,Jb q1 44,Zg (fun h44=> ?_) (fun h44=> ?_)⟩
  ·have h44:s[i+1]? =some 44:=by simpa using h44
   have hl1:=(qb.1 h44).1
   obtain⟨h2,g1,g2,g3⟩:=q1.s1 (i+2)
   refine⟨_,q1.c1,h2,by rw[Zh (by omega)];exact g1,_,Jb g2 125,Zg (fun h125=> ?_) (fun h125=> ?_)⟩
   ·have h125:s[i+2]? ≠some 125:=by simpa using h125
    refine⟨_,g2.c3,Zg (fun _=> ?_) (fun hc=>by simp at hc)⟩
    refine(Zfe g2 lo hs).mono fun v h3 hq=> ?_
    cases hd2:XI s (i+2) lo with
    |error e=>
     rw[hd2]at hq
     obtain⟨rfl,u1,u2⟩:=hq
     have hb:ZW s i= .error e:=by unfold ZW;rw[hd];simp only[];rw[if_pos h44,if_neg h125,hd2]
     exact⟨_,rfl,_,Jb u1 125,Zg (fun _=>bad e h3 1 hb u1 (.inr rfl) ((q2.trans g3).trans u2)) (fun hc=>by simp at hc)⟩
    |ok y=>
     obtain⟨hi,k⟩:=y
     rw[hd2]at hq
     obtain⟨rfl,u1,u2⟩:=hq
     obtain⟨rfl,hlt2⟩:=Zi4 hd2
     refine⟨_,rfl,_,Jb u1 125,Zg (fun hk=> ?_) (fun hk=> ?_)⟩
     ·have hk:s[i+3]? ≠some 125:=by simpa using hk
      exact bad (i+3) h3 0 (by unfold ZW;rw[hd];simp only[];rw[if_pos h44,if_neg h125,hd2];simp only[];rw[if_neg hk]) u1 (.inl rfl) ((q2.trans g3).trans u2)
     ·have hk:s[i+3]? =some 125:=by simpa using hk
      have hl3:=(qb.1 hk).1
      obtain⟨h4,w1,w2,w3⟩:=u1.s1 (i+4)
      exact⟨_,u1.c1,h4,by rw[Zh (by omega)];exact w1,done _ _ (i+4) h4 (by unfold ZW;rw[hd];simp only[];rw[if_pos h44,if_neg h125,hd2];simp only[];rw[if_pos hk]) w2 (((q2.trans g3).trans u2).trans w3)⟩
   ·have h125:s[i+2]? =some 125:=by simpa using h125
    have hl2:=(qb.1 h125).1
    refine⟨_,Jb g2 125,Zg (fun hc=>by rw[h125]at hc;simp at hc) (fun _=> ?_)⟩
    obtain⟨h4,w1,w2,w3⟩:=g2.s1 (i+3)
    exact⟨_,g2.c1,h4,by rw[Zh (by omega)];exact w1,done _ _ (i+3) h4 (by unfold ZW;rw[hd];simp only[];rw[if_pos h44,if_pos h125]) w2 ((q2.trans g3).trans w3)⟩
  ·have h44:s[i+1]? ≠some 44:=by simpa using h44
   refine⟨_,Jb q1 125,Zg (fun hk=> ?_) (fun hk=> ?_)⟩
   ·have hk:s[i+1]? ≠some 125:=by simpa using hk
    exact bad (i+1) h1 0 (by unfold ZW;rw[hd];simp only[];rw[if_neg h44,if_neg hk]) q1 (.inl rfl) q2
   ·have hk:s[i+1]? =some 125:=by simpa using hk
    have hl3:=(qb.1 hk).1
    obtain⟨h4,w1,w2,w3⟩:=q1.s1 (i+2)
    exact⟨_,q1.c1,h4,by rw[Zh (by omega)];exact w1,done _ _ (i+2) h4 (by unfold ZW;rw[hd];simp only[];rw[if_neg h44,if_pos hk]) w2 (q2.trans w3)⟩
theorem ZCw{id x h}(K):CP UY 112 (flat (Za Tryz.f112)) (.p (some (id,0))::I x::Rp 86) h [4] K=(Con UY 141 [.p (some (id,0)),I x] h fun(v:V) (h':Heap)=> ∃a b c d e f g i j l m,v=.agg (R9 a b c d e f g i j l m)∧ ∃n,(fun P1=>Zb h' id 3 1=some [I n]∧If (n !=(0:Int)) P1 (∃o,Zb h' id 1 1=some [I o]∧ ∃q,Zb h' id 0 1=some [.s q]∧If (leI (↑q.length:Int) o) P1 (∃r,Zb h' id 0 1=some [.s r]∧ ∃s,Zb h' id 1 1=some [I s]∧ ∃t,(fun P0=>((0:Int)<=s∧r[s.toNat]? =some t)∧If ((↑t.toNat:Int) !=(42:Int)) (If ((↑t.toNat:Int) !=(43:Int)) (If ((↑t.toNat:Int) !=(63:Int)) (If ((↑t.toNat:Int) !=(123:Int)) P1 (If (a==(2:Int)) (Con UY 28 [.p (some (id,0)),I 1] h' fun(v:V) (h':Heap)=>v=.tup []∧K .ret 88 [.lb (R9 a b c d e f g i j l m)] h') (If (a==(3:Int)) (Con UY 28 [.p (some (id,0)),I 1] h' fun(v:V) (h':Heap)=>v=.tup []∧K .ret 88 [.lb (R9 a b c d e f g i j l m)] h') (∃u,Zb h' id 1 1=some [I u]∧ ∃w,Zj h' id 1 [I (IntKind.i64.wrap (u+(1:Int)))]=some w∧If ((↑t.toNat:Int)==(43:Int)) (If ((↑t.toNat:Int)==(63:Int)) (If ((↑t.toNat:Int)==(123:Int)) (Con UY 142 [.p (some (id,0))] w fun(v:V) (h':Heap)=> ∃y z,v=.tup [I y,I z]∧K .ret 88 [.lb [I (6:Int),U (0:Int),U (0:Int),U (0:Int),U (0:Int),J (R9 a b c d e f g i j l m) 1 (some 1),I y,I z,I (0:Int)]] h') (K .ret 88 [.lb [I 6,U 0,U 0,U 0,U 0,J (R9 a b c d e f g i j l m) 1 (some 1),I 1,I 1,I 0]] w)) (If ((↑t.toNat:Int)==(123:Int)) (Con UY 142 [.p (some (id,0))] w fun(v:V) (h':Heap)=> ∃y z,v=.tup [I y,I z]∧K .ret 88 [.lb [I (6:Int),U (0:Int),U (0:Int),U (0:Int),U (0:Int),J (R9 a b c d e f g i j l m) 1 (some 1),I y,I z,I (0:Int)]] h') (K .ret 88 [.lb [I 6,U 0,U 0,U 0,U 0,J (R9 a b c d e f g i j l m) 1 (some 1),I 1,I (-1),I 0]] w))) (If ((↑t.toNat:Int)==(63:Int)) (If ((↑t.toNat:Int)==(123:Int)) (Con UY 142 [.p (some (id,0))] w fun(v:V) (h':Heap)=> ∃y z,v=.tup [I y,I z]∧K .ret 88 [.lb [I (6:Int),U (0:Int),U (0:Int),U (0:Int),U (0:Int),J (R9 a b c d e f g i j l m) 1 (some 1),I y,I z,I (0:Int)]] h') (K .ret 88 [.lb [I 6,U 0,U 0,U 0,U 0,J (R9 a b c d e f g i j l m) 1 (some 1),I 0,I 1,I 0]] w)) (If ((↑t.toNat:Int)==(123:Int)) (Con UY 142 [.p (some (id,0))] w fun(v:V) (h':Heap)=> ∃y z,v=.tup [I y,I z]∧K .ret 88 [.lb [I (6:Int),U (0:Int),U (0:Int),U (0:Int),U (0:Int),J (R9 a b c d e f g i j l m) 1 (some 1),I y,I z,I (0:Int)]] h') (K .ret 88 [.lb [I 6,U 0,U 0,U 0,U 0,J (R9 a b c d e f g i j l m) 1 (some 1),I 0,I (-1),I 0]] w))))))) (If (a==(2:Int)) (Con UY 28 [.p (some (id,0)),I 1] h' fun(v:V) (h':Heap)=>v=.tup []∧K .ret 88 [.lb (R9 a b c d e f g i j l m)] h') (If (a==(3:Int)) (Con UY 28 [.p (some (id,0)),I 1] h' fun(v:V) (h':Heap)=>v=.tup []∧K .ret 88 [.lb (R9 a b c d e f g i j l m)] h') (∃u,Zb h' id 1 1=some [I u]∧ ∃w,Zj h' id 1 [I (IntKind.i64.wrap (u+(1:Int)))]=some w∧If ((↑t.toNat:Int)==(43:Int)) (If ((↑t.toNat:Int)==(63:Int)) (If ((↑t.toNat:Int)==(123:Int)) (Con UY 142 [.p (some (id,0))] w fun(v:V) (h':Heap)=> ∃y z,v=.tup [I y,I z]∧K .ret 88 [.lb [I 6,U 0,U 0,U 0,U 0,J (R9 a b c d e f g i j l m) 1 (some 1),I y,I z,I (0:Int)]] h') (K .ret 88 [.lb [I 6,U 0,U 0,U 0,U 0,J (R9 a b c d e f g i j l m) 1 (some 1),I 1,I 1,I 0]] w)) (If ((↑t.toNat:Int)==(123:Int)) (Con UY 142 [.p (some (id,0))] w fun(v:V) (h':Heap)=> ∃y z,v=.tup [I y,I z]∧K .ret 88 [.lb [I 6,U 0,U 0,U 0,U 0,J (R9 a b c d e f g i j l m) 1 (some 1),I y,I z,I (0:Int)]] h') (K .ret 88 [.lb [I 6,U 0,U 0,U 0,U 0,J (R9 a b c d e f g i j l m) 1 (some 1),I 1,I (-1),I 0]] w))) (If ((↑t.toNat:Int)==(63:Int)) (If ((↑t.toNat:Int)==(123:Int)) (Con UY 142 [.p (some (id,0))] w fun(v:V) (h':Heap)=> ∃y z,v=.tup [I y,I z]∧K .ret 88 [.lb [I 6,U 0,U 0,U 0,U 0,J (R9 a b c d e f g i j l m) 1 (some 1),I y,I z,I (0:Int)]] h') (K .ret 88 [.lb [I 6,U 0,U 0,U 0,U 0,J (R9 a b c d e f g i j l m) 1 (some 1),I 0,I 1,I 0]] w)) (If ((↑t.toNat:Int)==(123:Int)) (Con UY 142 [.p (some (id,0))] w fun(v:V) (h':Heap)=> ∃y z,v=.tup [I y,I z]∧K .ret 88 [.lb [I 6,U 0,U 0,U 0,U 0,J (R9 a b c d e f g i j l m) 1 (some 1),I y,I z,I (0:Int)]] h') (K .ret 88 [.lb [I 6,U 0,U 0,U 0,U 0,J (R9 a b c d e f g i j l m) 1 (some 1),I 0,I (-1),I 0]] w))))))) P0) P0) (If (a==(2:Int)) (Con UY 28 [.p (some (id,0)),I 1] h' fun(v:V) (h':Heap)=>v=.tup []∧K .ret 88 [.lb (R9 a b c d e f g i j l m)] h') (If (a==(3:Int)) (Con UY 28 [.p (some (id,0)),I 1] h' fun(v:V) (h':Heap)=>v=.tup []∧K .ret 88 [.lb (R9 a b c d e f g i j l m)] h') (∃u,Zb h' id 1 1=some [I u]∧ ∃w,Zj h' id 1 [I (IntKind.i64.wrap (u+(1:Int)))]=some w∧If ((↑t.toNat:Int)==(43:Int)) (If ((↑t.toNat:Int)==(63:Int)) (If ((↑t.toNat:Int)==(123:Int)) (Con UY 142 [.p (some (id,0))] w fun(v:V) (h':Heap)=> ∃y z,v=.tup [I y,I z]∧K .ret 88 [.lb [I 6,U 0,U 0,U 0,U 0,J (R9 a b c d e f g i j l m) 1 (some 1),I y,I z,I 0]] h') (K .ret 88 [.lb [I 6,U 0,U 0,U 0,U 0,J (R9 a b c d e f g i j l m) 1 (some 1),I 1,I 1,I 0]] w)) (If ((↑t.toNat:Int)==(123:Int)) (Con UY 142 [.p (some (id,0))] w fun(v:V) (h':Heap)=> ∃y z,v=.tup [I y,I z]∧K .ret 88 [.lb [I 6,U 0,U 0,U 0,U 0,J (R9 a b c d e f g i j l m) 1 (some 1),I y,I z,I 0]] h') (K .ret 88 [.lb [I 6,U 0,U 0,U 0,U 0,J (R9 a b c d e f g i j l m) 1 (some 1),I 1,I (-1),I 0]] w))) (If ((↑t.toNat:Int)==(63:Int)) (If ((↑t.toNat:Int)==(123:Int)) (Con UY 142 [.p (some (id,0))] w fun(v:V) (h':Heap)=> ∃y z,v=.tup [I y,I z]∧K .ret 88 [.lb [I 6,U 0,U 0,U 0,U 0,J (R9 a b c d e f g i j l m) 1 (some 1),I y,I z,I 0]] h') (K .ret 88 [.lb [I 6,U 0,U 0,U 0,U 0,J (R9 a b c d e f g i j l m) 1 (some 1),I 0,I 1,I 0]] w)) (If ((↑t.toNat:Int)==(123:Int)) (Con UY 142 [.p (some (id,0))] w fun(v:V) (h':Heap)=> ∃y z,v=.tup [I y,I z]∧K .ret 88 [.lb [I 6,U 0,U 0,U 0,U 0,J (R9 a b c d e f g i j l m) 1 (some 1),I y,I z,I 0]] h') (K .ret 88 [.lb [I 6,U 0,U 0,U 0,U 0,J (R9 a b c d e f g i j l m) 1 (some 1),I 0,I (-1),I 0]] w))))))))) (K .ret 88 [.lb (R9 a b c d e f g i j l m)] h')):=by kernel_rfl
theorem ZIc{id x h}(K):CP UY 27 (pre (flat (Za Tryz.f27))) (.p (some (id,0))::I x::Rp 31) h [0,1,4,5] K=(Con UY 67 [.p (some (id,0)),I x] h fun(v:V) (h':Heap)=> ∃a b c d e f g i j l m,v=.agg (R9 a b c d e f g i j l m)∧K .normal 33 [.p (some (id,0)),I x, .lb R0,S (some (h'.nx,0)) 1 (some 1) 9] (h'.push (YObj.arr (R9 a b c d e f g i j l m) true))):=by kernel_rfl
theorem ZId{id x j l c k h}(K):CP UY 27 (flat (Zx (post (flat (Za Tryz.f27))))) (MZ 33 [0,1,4,5] [.p (some (id,0)),I x,.lb R0,S (some (j,0)) l c k]) h [0,1,4,5] K=(∃a,RCon UY (68:Nat) [.p (some (id,0)),.i .u8 124] h (.b a)∧If a (∃b,Zb h id 1 1=some [I b]∧ ∃d,Zj h id 1 [I (IntKind.i64.wrap (b+(1:Int)))]=some d∧Con UY 67 [.p (some (id,0)),I x] d fun(v:V) (h':Heap)=> ∃e f g m n o q r s t u,v=.agg (R9 e f g m n o q r s t u)∧ ∃w y z a0 a1,Zf UY h' 26 26 (S (some (j,0)) l c k) (J (R9 e f g m n o q r s t u) 1 (some 1))=some (S w y z a0,a1)∧K .normal 33 [.p (some (id,0)),I x, .lb R0,S w y z a0] a1) (K (.exit 0) 33 [.p (some (id,0)),I x, .lb R0,S (some (j,0)) l c k] h)):=by kernel_rfl
theorem ZIe{id x h}(K):CP UY 67 (pre (flat (Za Tryz.f67))) (.p (some (id,0))::I x::Rp 63) h [0,1,4,5] K=(K .normal 65 [.p (some (id,0)),I x, .lb R0,S0] h):=by kernel_rfl
theorem ZIf{id x a5 l5 c5 k5 h}(K):CP UY 67 (flat (Zx (post (flat (Za Tryz.f67))))) (MZ 65 [0,1,4,5] [.p (some (id,0)),I x,.lb R0,S a5 l5 c5 k5]) h [0,1,4,5] K=(∃a,(fun P0=>Zb h id 3 1=some [I a]∧If (a==(0:Int)) (∃b,Zb h id 1 1=some [I b]∧ ∃c,Zb h id 0 1=some [.s c]∧If (ltI b (↑c.length:Int)) (∃d,Zb h id 0 1=some [.s d]∧ ∃e,Zb h id 1 1=some [I e]∧ ∃f,((0:Int)<=e∧d[e.toNat]? =some f)∧If ((↑f.toNat:Int) !=(124:Int)) (∃g,Zb h id 0 1=some [.s g]∧ ∃i,Zb h id 1 1=some [I i]∧ ∃j,((0:Int)<=i∧g[i.toNat]? =some j)∧If ((↑j.toNat:Int) !=(41:Int)) (Con UY 112 [.p (some (id,0)),I x] h fun(v:V) (h':Heap)=> ∃l m n o q r s t u w y,v=.agg (R9 l m n o q r s t u w y)∧ ∃z a0 a1 a2 a3,Zf UY h' 26 26 (S a5 l5 c5 k5) (J (R9 l m n o q r s t u w y) 1 (some 1))=some (S z a0 a1 a2,a3)∧K .normal 65 [.p (some (id,0)),I x, .lb R0,S z a0 a1 a2] a3) P0) P0) P0) P0) (K (.exit 0) 65 [.p (some (id,0)),I x, .lb R0,S a5 l5 c5 k5] h)):=by kernel_rfl
theorem f8_0{s0 h}(K):CP UY 8 (flat (Za Tryz.f8)) (.s s0::Rp 46) h [2,3,4] K=(If (ltI 200 (↑s0.length:Int)) (K .ret 47 [.lb R0,I 200,I 2] h) (Con UY 27 [.p (some (h.nx,0)),I 0] (h.push (YObj.arr [.s s0,I 0,I 0,I 0] true)) fun(v:V) (h':Heap)=> ∃a b c d e f g i j l m,v=.agg (R9 a b c d e f g i j l m)∧ ∃n,Zb h' h.nx 3 1=some [I n]∧If (n==(0:Int)) (∃o,Zb h' h.nx 1 1=some [I o]∧If (ltI o (↑s0.length:Int)) (Con UY 28 [.p (some (h.nx,0)),I 1] h' fun(v:V) (h':Heap)=>v=.tup []∧ ∃q,Zb h' h.nx 3 1=some [I q]∧If (q !=(0:Int)) (∃r,Zb h' h.nx 1 1=some [I r]∧ ∃t,Zb h' h.nx 3 1=some [I t]∧K .ret 47 [.lb R0,I r,I t] h') (K .ret 47 [.lb (R9 a b c d e f g i j l m),I 0,I 0] h')) (∃q,Zb h' h.nx 3 1=some [I q]∧If (q !=(0:Int)) (∃r,Zb h' h.nx 1 1=some [I r]∧ ∃t,Zb h' h.nx 3 1=some [I t]∧K .ret 47 [.lb R0,I r,I t] h') (K .ret 47 [.lb (R9 a b c d e f g i j l m),I 0,I 0] h'))) (∃o,Zb h' h.nx 3 1=some [I o]∧If (o !=(0:Int)) (∃q,Zb h' h.nx 1 1=some [I q]∧ ∃r,Zb h' h.nx 3 1=some [I r]∧K .ret 47 [.lb R0,I q,I r] h') (K .ret 47 [.lb (R9 a b c d e f g i j l m),I 0,I 0] h')))):=by kernel_rfl
end Go.Y
