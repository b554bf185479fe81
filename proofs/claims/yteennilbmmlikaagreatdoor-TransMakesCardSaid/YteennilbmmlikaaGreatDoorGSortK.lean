/- A part of the proof. -/
import Derived.Test.YteennilbmmlikaaGreatDoorYFrz
import Derived.Sort.Row
import Derived.Sort.Grow
import Derived.Lib.SlicesCompact
import Derived.Test.YteennilbmmlikaaGreatDoorGLX
import Derived.Test.YteennilbmmlikaaGreatDoorYTryzP
import Derived.Test.YteennilbmmlikaaGreatDoorYLoop
namespace Go.Y
open Go.Sort

abbrev ZV(zs:List Int):List V:=zs.map (V.i .i64)
abbrev encZ:Int->Value:=Value.int .i64

theorem Ziy(w:World){b off:Nat}{d:Array Int}{c:Array Value}{e:TypeId}{fr:Nat×Nat}(h:w.heap[b]? =some (.cells c e fr)):
  (putRow encZ w b off d).heap[b]? =some (.cells (putCells encZ off d c) e fr):=by
 simp only[putRow,mapBlock,Array.getElem?_modify,if_true,h,Option.map_some,onCells]
theorem Zof(w:World){b c off:Nat}{d:Array Int}(h:c≠b):(putRow encZ w b off d).heap[c]? =w.heap[c]? :=by
 simp only[putRow,mapBlock,Array.getElem?_modify,if_neg (Ne.symm h)]

theorem HRel.holds{W:Vw}{h:Heap}{w:World}{id:Nat}{zs:List Int}(hr:HRel W h w)(hg:h.get id=some (.arr (ZV zs) true)):
  Holds encZ w (W.mu id).1 (W.mu id).2 zs.toArray∧(W.mu id).1<w.heap.size:=by
 obtain⟨c,e,fr,h1,h2,h3,h4,h5⟩:=hr.obj id _ hg
 refine⟨fun j hj=> ?_,Zq h1⟩
 have hj:j<zs.length:=by simpa using hj
 obtain⟨u,hu,hvu⟩:=h4 j (I zs[j]) (by simp[hj])
 cases hvu
 have hb:=(Array.getElem?_eq_some_iff.1 hu).1
 constructor
 ·rw[Zf8 h1,hu];simp[hj,encZ]
 ·rw[Zhp h1]
  have:=h5 ((W.mu id).2+j) (by simp) hb
  rw[Bool.eq_false_iff]
  simp only[ne_eq,qrq,decide_eq_true_eq]
  exact this

theorem HRel.row{W:Vw}{h:Heap}{w:World}{id:Nat}{zs zs':List Int}(hr:HRel W h w)(hg:h.get id=some (.arr (ZV zs) true))(hl:zs'.length=zs.length)(n:Nat):
  HRel W (h.set id (some (.arr (ZV zs') true))) (putRow encZ (Sort.ahead w n) (W.mu id).1 (W.mu id).2 zs'.toArray)∧Stp W W.own w W W.own (putRow encZ (Sort.ahead w n) (W.mu id).1 (W.mu id).2 zs'.toArray):=by
 obtain⟨c,e,fr,h1,h2,h3,h4,h5⟩:=hr.obj id _ hg
 have hlv:W.lv id:=(hr.lv id).2 (by simp[hg])
 have hsz:(putCells encZ (W.mu id).2 zs'.toArray c).size=c.size:=by simp[putCells]
 have hstr:Str w (putRow encZ (Sort.ahead w n) (W.mu id).1 (W.mu id).2 zs'.toArray):=⟨rfl,rfl,rfl⟩
 have ho:ORel W (putRow encZ (Sort.ahead w n) (W.mu id).1 (W.mu id).2 zs'.toArray) id (.arr (ZV zs') true):=by
  refine⟨putCells encZ (W.mu id).2 zs'.toArray c,e,fr,Ziy (Sort.ahead w n) h1,by rw[hsz];exact h2,by rw[hsz];simpa[hl]using h3,fun j v hj=> ?_,fun j hj1 hj2=>h5 j (by simpa using hj1) (by rw[hsz]at hj2;exact hj2)⟩
  have hj':j<zs'.length:=by
   have:=(qb.1 hj).1
   simpa using this
  have hv:v= I zs'[j]:=by
   have:=hj
   simp[hj']at this
   exact this.symm
  subst hv
  refine⟨encZ zs'[j],?_, .i _ _⟩
  have hb:(W.mu id).2+j<c.size:=by simp at h3;omega
  simp only[putCells,Array.getElem?_mapIdx,Array.getElem?_eq_getElem hb,Option.map_some]
  rw[if_pos ⟨by omega,by simp;omega⟩]
  simp[hj']
 refine hr.write hstr hlv (fun b hb=>Zof (Sort.ahead w n) hb) (by simp) (fun c' e' fr' hc g1 g2=> ?_) ho
 rw[h1]at hc
 cases hc
 exact⟨_,fr,Ziy (Sort.ahead w n) h1,g1,by rw[hsz];exact g2⟩

theorem HRel.grown{W:Vw}{h:Heap}{w:World}(hr:HRel W h w)(os:Array Obj): ∃W',HRel W' h (grow w os)∧Stp W W.own w W' W'.own (grow w os):=by
 have hk: ∀b,b<w.heap.size->(grow w os).heap[b]? =w.heap[b]? :=fun b hb=>by
  simp only[grow,Array.getElem?_append_left hb]
 obtain⟨g1,g2⟩:=hr.more (w':=grow w os) (s:=W.snap) (fun _ _ h=>h) (by simp[grow]) hk (fun b o hb=>by
  have:=hr.snap b o hb
  rw[hk b (Zq this)];exact this) ⟨rfl,rfl,rfl⟩
 exact⟨_,g1,g2⟩

abbrev XV(zs:List Int):List Int:=zs.mergeSort fun x y=>decide (x<=y)

abbrev ZO(P:Program)(f:FuncId):Prop:=(∀(blk off cap:Nat) (zs:List Int) (w:World),Holds encZ w blk off zs.toArray->blk<w.heap.size->zs.length<4611686018427387904->
   Calls P f #[.slice (some ⟨blk,off,none⟩) zs.length cap] w fun e w'=>e= .returned (.tuple #[])∧ ∃n os,w'=grow (putRow encZ (Sort.ahead w n) blk off (XV zs).toArray) os)∧
  ∀(w:World),Calls P f #[.slice none 0 0] w fun e w'=>e= .returned (.tuple #[])∧w'=w
abbrev ZC(P:Program)(f:FuncId):Prop:=(∀(blk off cap:Nat) (zs:List Int) (w:World),Holds encZ w blk off zs.toArray->zs.length<=9223372036854775807->zs.length<=cap->
   Calls P f #[.slice (some ⟨blk,off,none⟩) zs.length cap] w fun e w'=>e= .returned (.slice (some ⟨blk,off,none⟩) (Lib.compact zs).length cap)∧ ∃q,w'=putRow encZ (Sort.ahead w q) blk off (Lib.compact zs++List.replicate (zs.length-(Lib.compact zs).length) 0).toArray)∧
  ∀(w:World),Calls P f #[.slice none 0 0] w fun e w'=>e= .returned (.slice none 0 0)∧w'=w

theorem Zml{Y:YP}{f:FuncId}(hb:QV Y f)(hs:ZO Y.P f){h:Heap}{id k:Nat}{c:Option Nat}{zs:List Int}(hg:h.get id=some (.arr (ZV zs) true))(hne:zs≠ [])(hl:zs.length<2 ^ 60):
  Con Y f [.sl (some (id,0)) zs.length c k] h fun v h'=>v= .tup []∧h'=h.set id (some (.arr (ZV (XV zs)) true)):=
 ⟨hb,fun W w us hr hv=>by
  obtain⟨g1,g2⟩:=hr.holds hg
  have hpos:0<zs.length:=List.length_pos_iff.2 hne
  have hlv:W.lv id:=(hr.lv id).2 (by simp[hg])
  cases hv with
  |cons _ u _ _ h1 h2=>
   cases h2
   cases h1 with
   |sls _ _ _ _ _ a cap' hid hl' hc ha hn hk=>
    have ha':=ha hlv (by omega)
    subst ha'
    refine(hs.1 _ _ cap' zs w g1 g2 (by omega)).mono ?_
    rintro e w' ⟨rfl,n,os,rfl⟩
    obtain⟨q1,q2⟩:=hr.row hg (zs':=XV zs) (List.length_mergeSort _) n
    obtain⟨W',q3,q4⟩:=q1.grown os
    exact⟨.tup [],_,W',_,⟨rfl,rfl⟩,rfl,q3, .tup [] [] .nil,q2.trans q4⟩⟩

theorem Ziz{Y:YP}{f:FuncId}(hb:QV Y f)(hs:ZO Y.P f){h:Heap}{k:Nat}{c:Option Nat} :
  Con Y f [.sl none 0 c k] h fun v h'=>v= .tup []∧h'=h:=
 ⟨hb,fun W w us hr hv=>by
  cases hv with
  |cons _ u _ _ h1 h2=>
   cases h2
   cases h1
   refine(hs.2 w).mono ?_
   rintro e w' ⟨rfl,rfl⟩
   exact⟨.tup [],_,W,_,⟨rfl,rfl⟩,rfl,hr, .tup [] [] .nil, .refl _ _ _⟩⟩

/-! ### Compact -/
def Zi0:Int->List Int->List Int
 |_,[]=> []
 |a,b::l=>if b=a then Zi0 b l else b::Zi0 b l
theorem Zfc: ∀(a:Int) (l:List Int),ZX (a::l)=a::Zi0 a l
 |a,[]=>by simp[ZX,Zi0]
 |a,b::l=>by
  have ih:=Zfc b l
  unfold ZX Zi0
  by_cases h:a=b
  ·rw[if_pos h,if_pos h.symm,ih,h]
  ·rw[if_neg h,if_neg (Ne.symm h),ih]
theorem Zfd: ∀(a:Int) (l:List Int),((List.range l.length).filter fun j=>decide ((a::l)[j+1]! ≠(a::l)[j]!)).map (fun j=>(a::l)[j+1]!)=Zi0 a l
 |a,[]=>by simp[Zi0]
 |a,b::l=>by
  have ih:=Zfd b l
  have e:List.range (b::l).length=0::(List.range l.length).map Nat.succ:=by
   rw[qh,List.range_succ_eq_map]
  rw[e,List.filter_cons,List.filter_map]
  have e1:((fun j=>decide ((a::b::l)[j+1]! ≠(a::b::l)[j]!)) ∘ Nat.succ)=fun j=>decide ((b::l)[j+1]! ≠(b::l)[j]!):=rfl
  unfold Zi0
  rw[e1]
  by_cases h:b=a
  ·subst h
   rw[if_neg (by simp),List.map_map]
   simp only[if_true]
   exact ih
  ·rw[if_neg h,if_pos (by simpa using h),qz,List.map_map]
   exact congrArg (b:: ·) ih
theorem Zgz: ∀zs:List Int,Lib.compact zs=ZX zs
 | []=>rfl
 |a::l=>by
  rw[Zfc,<-Zfd]
  unfold Lib.compact Lib.compactUpTo
  rw[qh,List.range_succ_eq_map,List.filter_cons,List.filter_map,if_pos (by simp[Lib.keeps]),qz,List.map_map]
  have e0:(a::l).toArray[0]! =a:=by simp
  rw[e0]
  refine congrArg (a:: ·) ?_
  have e1:(Lib.keeps (a::l).toArray ∘ Nat.succ)=fun j=>decide ((a::l)[j+1]! ≠(a::l)[j]!):=by
   funext j;simp[Lib.keeps]
  rw[e1]
  refine List.map_congr_left fun j _=> ?_
  simp
theorem Zmm: ∀zs:List Int,(ZX zs).length<=zs.length
 | []=>by simp[ZX]
 | [a]=>by simp[ZX]
 |a::b::l=>by
  have:=Zmm (b::l)
  unfold ZX
  split
  ·simp at this ⊢;omega
  ·simp at this ⊢;omega

abbrev Zq1(zs:List Int):List Int:=ZX zs++List.replicate (zs.length-(ZX zs).length) 0

theorem Zdq{Y:YP}{f:FuncId}(hb:QV Y f)(hs:ZC Y.P f){h:Heap}{id k:Nat}{c:Option Nat}{zs:List Int}(hg:h.get id=some (.arr (ZV zs) true))(hne:zs≠ [])(hl:zs.length<2 ^ 60):
  Con Y f [.sl (some (id,0)) zs.length c k] h fun v h'=>v= .sl (some (id,0)) (ZX zs).length c k∧h'=h.set id (some (.arr (ZV (Zq1 zs)) true)):=
 ⟨hb,fun W w us hr hv=>by
  obtain⟨g1,g2⟩:=hr.holds hg
  have hpos:0<zs.length:=List.length_pos_iff.2 hne
  have hlv:W.lv id:=(hr.lv id).2 (by simp[hg])
  have hd:=Zmm zs
  cases hv with
  |cons _ u _ _ h1 h2=>
   cases h2
   cases h1 with
   |sls _ _ _ _ _ a cap' hid hl' hc ha hn hk=>
    have ha':=ha hlv (by omega)
    subst ha'
    refine(hs.1 _ _ cap' zs w g1 (by omega) hl').mono ?_
    rintro e w' ⟨rfl,n,rfl⟩
    rw[Zgz]
    obtain⟨q1,q2⟩:=hr.row hg (zs':=Zq1 zs) (by simp;omega) n
    exact⟨.sl (some (id,0)) (ZX zs).length c k,_,W,_,⟨rfl,rfl⟩,rfl,q1, .sls _ _ _ _ _ _ cap' hid (by omega) hc (fun _ _=>rfl) hn hk,q2⟩⟩

theorem Zb6{Y:YP}{f:FuncId}(hb:QV Y f)(hs:ZC Y.P f){h:Heap}{k:Nat}{c:Option Nat} :
  Con Y f [.sl none 0 c k] h fun v h'=>v= .sl none 0 c k∧h'=h:=
 ⟨hb,fun W w us hr hv=>by
  cases hv with
  |cons _ u _ _ h1 h2=>
   cases h2
   cases h1
   refine(hs.2 w).mono ?_
   rintro e w' ⟨rfl,rfl⟩
   exact⟨.sl none 0 c k,_,W,_,⟨rfl,rfl⟩,rfl,hr, .sln _ _, .refl _ _ _⟩⟩

theorem Zun(zs:List Int):(XV zs).Pairwise (· <= ·):=by
 have:=List.pairwise_mergeSort (le:=fun x y:Int=>decide (x<=y)) (fun a b c h g=>by simp at*;omega) (fun a b=>by simp;omega) zs
 exact this.imp (fun h=>by simpa using h)
theorem Zq2(zs:List Int)(x:Int):x∈XV zs↔x∈zs:=List.mem_mergeSort
theorem Zi1(zs:List Int):ZX (XV zs)=allS [] zs:=Zod (Zun zs) (Zq2 zs)
end Go.Y
namespace Go.Y
set_option maxRecDepth 1000000
set_option maxHeartbeats 0
theorem Con.wk{Y:YP}{f:FuncId}{args args'}{h:Heap}{Q:V->Heap->Prop}(hw:WkA args args')(c:Con Y f args' h Q):Con Y f args h Q:=
 ⟨c.body,fun W w us hr hv=>c.tr W w us hr (hw.vr hv)⟩
theorem WkL.get: ∀ {l l':List V},WkL l l'-> ∀ {t:Nat} {v':V},l'[t]? =some v'-> ∃v,l[t]? =some v∧Wk0 v v'
 |_,_, .nil,t,v',h=>by simp at h
 |_,_, .cons v v1 l l' hv hl,0,v',h=>by simp at h;subst h;exact⟨v,rfl,hv⟩
 |_,_, .cons v v1 l l' hv hl,t+1,v',h=>by simp at h;simpa using hl.get h
theorem WkL.length: ∀ {l l':List V},WkL l l'->l.length=l'.length
 |_,_, .nil=>rfl
 |_,_, .cons _ _ _ _ _ hl=>by simp[hl.length]
theorem WkL.append: ∀ {a a' b b'},WkL a a'->WkL b b'->WkL (a++b) (a'++b')
 |_,_,_,_, .nil,g=>g
 |_,_,_,_, .cons v v' l l' h hl,g=> .cons v v' _ _ h (hl.append g)

theorem HRel.weak{W:Vw}{h:Heap}{w:World}{id:Nat}{cs cs'}(r:HRel W h w)(hg:h.get id=some (.arr cs true))(hw:WkL cs cs'):HRel W (h.set id (some (.arr cs' true))) w:=by
 have hraw: ∀i,((h.set id (some (.arr cs' true))).raw i).isSome=true↔(h.raw i).isSome=true:=fun i=>by
  rw[Heap.raw_set]
  split
  ·next e=>
   subst e
   have hj:(h.raw i).join=some (.arr cs true):=hg
   cases hr:h.raw i with
   |none=>rw[hr]at hj;cases hj
   |some o=>simp
  ·exact Iff.rfl
 have hsome: ∀i,((h.set id (some (.arr cs' true))).get i).isSome=true↔(h.get i).isSome=true:=fun i=>by
  rw[qc]
  split
  ·next e=>subst e;rw[hg];simp
  ·exact Iff.rfl
 refine⟨fun i hi=>(hraw i).2 (r.kn i hi),r.lk,fun i=>(r.lv i).trans (hsome i).symm,fun i hi=>by simpa using r.lt i ((hraw i).1 hi),r.snap,fun i o ho=> ?_,r.inj,r.apart,fun p hp=>r.tg p hp,r.gl⟩
 rw[qc]at ho
 split at ho
 ·next e=>
  subst e
  cases ho
  obtain⟨c,e,fr,h1,h2,h3,h4,h5⟩:=r.obj i _ hg
  refine⟨c,e,fr,h1,h2,by rw[<-hw.length];exact h3,fun j v' hj=> ?_,fun j h6 h7=>h5 j h6 h7⟩
  obtain⟨v,hv,hk⟩:=hw.get hj
  obtain⟨u,hu,hr⟩:=h4 j v hv
  exact⟨u,hu,hk.vr hr⟩
 ·exact r.obj i o ho

def ZH4(Q:V->Heap->Prop)(v:V)(h:Heap):Prop:=Q v h∨ ∃(id:Nat) (cs cs':List V),h.get id=some (.arr cs true)∧WkL cs cs'∧Q v (h.set id (some (.arr cs' true)))
theorem Con.weakH{Y:YP}{f:FuncId}{args}{h:Heap}{Q:V->Heap->Prop}(c:Con Y f args h (ZH4 Q)):Con Y f args h Q:=
 ⟨c.body,fun W w us hr hv=>(c.tr W w us hr hv).mono fun e w' ⟨v,h1,W',u,hq,he,hh,hvu,hst⟩=>by
  rcases hq with hq|⟨id,cs,cs',hg,hw,hq⟩
  ·exact⟨v,h1,W',u,hq,he,hh,hvu,hst⟩
  ·exact⟨v,_,W',u,hq,he,hh.weak hg hw,hvu,hst⟩⟩
end Go.Y
namespace Go.Y
open Go.Proofs
set_option maxRecDepth 1000000
set_option maxHeartbeats 0
theorem ZH5(s0:List UInt8)(x1:Int)(h:Heap)(K:KT):(Zc UY (UY.loc 62) 100 (pre (flat (Za Tryz.f62))) ⟨(.s s0::I x1::List.replicate 79 .undef),[],h⟩ (VQ [0,1,3,4,7,9] K))=(K .normal 81 [.s s0,I x1,Ud,S0,S0,Ud] h):=by kernel_rfl
theorem ZH6(s0:List UInt8)(x1:Int)(d:Option (Nat×Nat))(b:Nat)(e:Option Nat)(f:Nat)(g:V)(h:Heap)(K:KT):(Zc UY (UY.loc 62) 100 ((flat (Zx (post (flat (Za Tryz.f62)))))) ⟨mk 81 (([0,1,3,4,7,9]:List Nat).zip [.s s0,I x1,V.undef,S0,S d b e f,g]),[],h⟩ (VQ [0,1,3,4,5,6,7,9] K))=(If (ltI 0 b) (If (ltI x1 (↑s0.length:Int)) (∃c,(0<=x1∧s0[x1.toNat]? =some c)∧If ((↑c.toNat:Int)==93) (K .ret 81 [.s s0,I x1,Ud,S d b e f,I (IntKind.i64.wrap (x1+1)),I 0,S d b e f,g] h) (∃n n_1 n_2,(PCon UY 111 [.s s0,I x1] fun(v:V)=>v=.tup [.i .u8 n,I n_1,I n_2])∧If (ltI n_1 0) (K .ret 81 [.s s0,I x1,Ud,S0,I (-1),I n_2,S d b e f,I n_1] h) (If (ltI (IntKind.i64.wrap (x1+n_1)) (↑s0.length:Int)) (∃c,(0<=IntKind.i64.wrap (x1+n_1)∧s0[(IntKind.i64.wrap (x1+n_1)).toNat]? =some c)∧If ((↑c.toNat:Int)==45) (∃n_3 n_4 n_5,(PCon UY 111 [.s s0,I (IntKind.i64.wrap (IntKind.i64.wrap (x1+n_1)+1))] fun(v:V)=>v=.tup [.i .u8 n_3,I n_4,I n_5])∧If (ltI n_4 0) (K .ret 81 [.s s0,I (IntKind.i64.wrap (x1+n_1)),Ud,S0,I (-1),I n_5,S d b e f,I n_4] h) (If (ltI n_3 n) (K .ret 81 [.s s0,I (IntKind.i64.wrap (x1+n_1)),Ud,S0,I (-1),I (IntKind.i64.wrap (IntKind.i64.wrap (x1+n_1)+n_4)),S d b e f,I n_4] h) (∃a l c k h_1,Zf UY h 57 57 (S d b e f) (J [.i .u8 n,.i .u8 n_3] 1 (some 1))=some (S a l c k,h_1)∧K .normal 81 [.s s0,I (IntKind.i64.wrap (IntKind.i64.wrap (IntKind.i64.wrap (x1+n_1)+1)+n_4)),Ud,S0,Ud,Ud,S a l c k,I n_4] h_1))) (∃a l c k h_1,Zf UY h 57 57 (S d b e f) (J [.i .u8 n,.i .u8 n] 1 (some 1))=some (S a l c k,h_1)∧K .normal 81 [.s s0,I (IntKind.i64.wrap (x1+n_1)),Ud,S0,Ud,Ud,S a l c k,I n_1] h_1)) (∃a l c k h_1,Zf UY h 57 57 (S d b e f) (J [.i .u8 n,.i .u8 n] 1 (some 1))=some (S a l c k,h_1)∧K .normal 81 [.s s0,I (IntKind.i64.wrap (x1+n_1)),Ud,S0,Ud,Ud,S a l c k,I n_1] h_1)))) (∃n n_1 n_2,(PCon UY 111 [.s s0,I x1] fun(v:V)=>v=.tup [.i .u8 n,I n_1,I n_2])∧If (ltI n_1 0) (K .ret 81 [.s s0,I x1,Ud,S0,I (-1),I n_2,S d b e f,I n_1] h) (If (ltI (IntKind.i64.wrap (x1+n_1)) (↑s0.length:Int)) (∃c,(0<=IntKind.i64.wrap (x1+n_1)∧s0[(IntKind.i64.wrap (x1+n_1)).toNat]? =some c)∧If ((↑c.toNat:Int)==45) (∃n_3 n_4 n_5,(PCon UY 111 [.s s0,I (IntKind.i64.wrap (IntKind.i64.wrap (x1+n_1)+1))] fun(v:V)=>v=.tup [.i .u8 n_3,I n_4,I n_5])∧If (ltI n_4 0) (K .ret 81 [.s s0,I (IntKind.i64.wrap (x1+n_1)),Ud,S0,I (-1),I n_5,S d b e f,I n_4] h) (If (ltI n_3 n) (K .ret 81 [.s s0,I (IntKind.i64.wrap (x1+n_1)),Ud,S0,I (-1),I (IntKind.i64.wrap (IntKind.i64.wrap (x1+n_1)+n_4)),S d b e f,I n_4] h) (∃a l c k h_1,Zf UY h 57 57 (S d b e f) (J [.i .u8 n,.i .u8 n_3] 1 (some 1))=some (S a l c k,h_1)∧K .normal 81 [.s s0,I (IntKind.i64.wrap (IntKind.i64.wrap (IntKind.i64.wrap (x1+n_1)+1)+n_4)),Ud,S0,Ud,Ud,S a l c k,I n_4] h_1))) (∃a l c k h_1,Zf UY h 57 57 (S d b e f) (J [.i .u8 n,.i .u8 n] 1 (some 1))=some (S a l c k,h_1)∧K .normal 81 [.s s0,I (IntKind.i64.wrap (x1+n_1)),Ud,S0,Ud,Ud,S a l c k,I n_1] h_1)) (∃a l c k h_1,Zf UY h 57 57 (S d b e f) (J [.i .u8 n,.i .u8 n] 1 (some 1))=some (S a l c k,h_1)∧K .normal 81 [.s s0,I (IntKind.i64.wrap (x1+n_1)),Ud,S0,Ud,Ud,S a l c k,I n_1] h_1)))) (∃n n_1 n_2,(PCon UY 111 [.s s0,I x1] fun(v:V)=>v=.tup [.i .u8 n,I n_1,I n_2])∧If (ltI n_1 0) (K .ret 81 [.s s0,I x1,Ud,S0,I (-1),I n_2,S d b e f,I n_1] h) (If (ltI (IntKind.i64.wrap (x1+n_1)) (↑s0.length:Int)) (∃c,(0<=IntKind.i64.wrap (x1+n_1)∧s0[(IntKind.i64.wrap (x1+n_1)).toNat]? =some c)∧If ((↑c.toNat:Int)==45) (∃n_3 n_4 n_5,(PCon UY 111 [.s s0,I (IntKind.i64.wrap (IntKind.i64.wrap (x1+n_1)+1))] fun v=>v=.tup [.i .u8 n_3,I n_4,I n_5])∧If (ltI n_4 0) (K .ret 81 [.s s0,I (IntKind.i64.wrap (x1+n_1)),Ud,S0,I (-1),I n_5,S d b e f,I n_4] h) (If (ltI n_3 n) (K .ret 81 [.s s0,I (IntKind.i64.wrap (x1+n_1)),Ud,S0,I (-1),I (IntKind.i64.wrap (IntKind.i64.wrap (x1+n_1)+n_4)),S d b e f,I n_4] h) (∃a l c k h_1,Zf UY h 57 57 (S d b e f) (J [.i .u8 n,.i .u8 n_3] 1 (some 1))=some (S a l c k,h_1)∧K .normal 81 [.s s0,I (IntKind.i64.wrap (IntKind.i64.wrap (IntKind.i64.wrap (x1+n_1)+1)+n_4)),Ud,S0,Ud,Ud,S a l c k,I n_4] h_1))) (∃a l c k h_1,Zf UY h 57 57 (S d b e f) (J [.i .u8 n,.i .u8 n] 1 (some 1))=some (S a l c k,h_1)∧K .normal 81 [.s s0,I (IntKind.i64.wrap (x1+n_1)),Ud,S0,Ud,Ud,S a l c k,I n_1] h_1)) (∃a l c k h_1,Zf UY h 57 57 (S d b e f) (J [.i .u8 n,.i .u8 n] 1 (some 1))=some (S a l c k,h_1)∧K .normal 81 [.s s0,I (IntKind.i64.wrap (x1+n_1)),Ud,S0,Ud,Ud,S a l c k,I n_1] h_1)))):=by kernel_rfl
theorem ZCk(s0:List UInt8)(x1:Int)(h:Heap)(K:KT):(Zc UY (UY.loc 111) 100 ((flat (Za Tryz.f111))) ⟨(.s s0::I x1::List.replicate 40 .undef),[],h⟩ (VQ [4,5,6] K))=(If (leI (↑s0.length:Int) x1) (K .ret 42 [.i .u8 0,I (-1),I x1] h) (∃c,(0<=x1∧s0[x1.toNat]? =some c)∧If ((↑c.toNat:Int)==93) (K .ret 42 [.i .u8 0,I (-1),I x1] h) (∃c,(0<=x1∧s0[x1.toNat]? =some c)∧If ((↑c.toNat:Int)==45) (K .ret 42 [.i .u8 0,I (-1),I x1] h) (∃c,(0<=x1∧s0[x1.toNat]? =some c)∧If ((↑c.toNat:Int) !=92) (∃c,(0<=x1∧s0[x1.toNat]? =some c)∧K .ret 42 [.i .u8 (↑c.toNat:Int),I 1,I 0] h) (If (leI (↑s0.length:Int) (IntKind.i64.wrap (x1+1))) (K .ret 42 [.i .u8 0,I (-1),I (IntKind.i64.wrap (x1+1))] h) (∃c,(0<=IntKind.i64.wrap (x1+1)∧s0[(IntKind.i64.wrap (x1+1)).toNat]? =some c)∧K .ret 42 [.i .u8 (↑c.toNat:Int),I 2,I 0] h)))))):=by kernel_rfl
theorem Ja(c d:UInt8):(((c.toNat:Nat):Int)==((d.toNat:Nat):Int))=decide (c=d):=by rw[Zqn];rfl
theorem Zg0{Y:YP}{fn:Func}{slots:List Nat}{o:Out}{n:Nat}{vs}{h:Heap}{v1 v2 v3 r1 r2 r3 R:V}(ho:o= .normal∨o= .ret)(hv:resV Y fn (slots.zip vs)=some (.tup [v1,v2,v3]))(h1:Frz h v1 r1)(h2:Frz h v2 r2)(h3:Frz h v3 r3)(hr: .tup [r1,r2,r3]=R):
  Fin Y fn slots (fun v h=> ∃r,Frz h v r∧r=R) o n vs h:=⟨ho,_,hv,_, .tup _ _ (.cons _ _ _ _ h1 (.cons _ _ _ _ h2 (.cons _ _ _ _ h3 .nil))),hr⟩
theorem Zg1{h:Heap}{a}{l:Nat}{c}{kk:Nat}{out:List Span}(x:Span)(hl:Lst encS 2 h a l c kk out)(hb:out.length<2 ^ 29):
  ∃a' l' c' k' h',Zf UY h 57 57 (.sl a l c kk) (.ts (encS x) 1 (some 1))=some (.sl a' l' c' k',h')∧Lst encS 2 h' a' l' c' k' (out++ [x])∧Fr h a h'∧ ∃j,a'=some (j,0)∧h.nx<=j:=
 Lst.app1 (Y:=UY) (e:=155) (te:=⟨2,2, .struct [(0,5),(1,5)],[.i .u8 0, .i .u8 0]⟩) x (by kernel_rfl) (by kernel_rfl) rfl (by decide) hl (ZU _ rfl) rfl rfl rfl (by decide) hb
def Vm(s:List UInt8)(i:Nat):V:=match endS s i with
 | .error e=> .tup [.i .u8 0, .i .i64 (-1), .i .i64 (e:Nat)]
 | .ok (c,j)=> .tup [.i .u8 c, .i .i64 (j-i:Nat), .i .i64 0]

theorem Zi2(s:List UInt8)(i:Nat)(hs:s.length<2 ^ 30)(hi:i<2 ^ 30):PCon UY 111 [.s s,I i] (· =Vm s i):=by
 refine ZE UK (fn:=Tryz.f111) rfl (ZB UK (loc:=UY.loc 111) 100 [4,5,6] ?_)
 rw[show(⟨[.s s,I i]++List.replicate (Tryz.f111.ntmps- [V.s s,I i].length) .undef,[], .empty⟩:St)=⟨.s s:: I i::List.replicate 40 .undef,[], .empty⟩ by rfl,ZCk]
 unfold Vm
 have f: ∀(a b c:Int) (R:V), .tup [.i .u8 a,I b,I c]=R->Fin UY Tryz.f111 [4,5,6] (fun v h=> ∃r,Frz h v r∧r=R) .ret 42 [.i .u8 a,I b,I c] .empty:=fun a b c R hR=>
  Zg0 (.inr rfl) rfl (.i _ _) (.i _ _) (.i _ _) hR
 refine Wx (fun hle=>f _ _ _ _ ?_) (fun hlt=> ?_)
 ·have:s[i]? =none:=qq (by omega)
  simp[endS,this]
 have hlt':i<s.length:=by omega
 have hsi:s[i]? =some s[i]:=by simp[hlt']
 have get:(0:Int)<=(i:Nat)∧s[(i:Int).toNat]? =some s[i]:=⟨by omega,by simp[hlt']⟩
 rw[show(93:Int)=(((93:UInt8).toNat:Nat):Int) by decide,show(45:Int)=(((45:UInt8).toNat:Nat):Int) by decide]
 refine⟨_,get,?_⟩
 rw[Ja]
 refine Wi (fun c1=>f _ _ _ _ ?_) (fun c1=>⟨_,get,?_⟩)
 ·unfold endS;rw[hsi];simp only[];rw[if_pos (.inl c1)]
 rw[Ja]
 refine Wi (fun c2=>f _ _ _ _ ?_) (fun c2=>⟨_,get,?_⟩)
 ·unfold endS;rw[hsi];simp only[];rw[if_pos (.inr c2)]
 have hn: ¬(s[i]=93∨s[i]=45):=by simp[c1,c2]
 have e92:((s[i].toNat:Int) !=92)= !decide (s[i]=92):=by
  rw[show(92:Int)=(((92:UInt8).toNat:Nat):Int) by decide]
  show(!((s[i].toNat:Int)==(((92:UInt8).toNat:Nat):Int)))=_
  rw[Ja]
 rw[e92]
 refine Zg (fun c3=>⟨_,get,f _ _ _ _ ?_⟩) (fun c3=> ?_)
 ·have c3:s[i]≠92:=by simpa using c3
  unfold endS;rw[hsi];simp only[];rw[if_neg hn,if_neg c3];simp
 ·have c3:s[i]=92:=by simpa using c3
  rw[Zh (by omega)]
  refine Wx (fun hle=>f _ _ _ _ ?_) (fun hlt=> ?_)
  ·have:s[i+1]? =none:=qq (by omega)
   unfold endS;rw[hsi];simp only[];rw[if_neg hn,if_pos c3,this]
  ·have hl:i+1<s.length:=by omega
   have:s[i+1]? =some s[i+1]:=by simp[hl]
   refine⟨_,⟨by omega,by rw[show(((i+1:Nat):Int)).toNat=i+1 by omega];exact this⟩,f _ _ _ _ ?_⟩
   unfold endS;rw[hsi];simp only[];rw[if_neg hn,if_pos c3,this];simp

def Zq3(r:Except Nat (List Span×Nat)):V:=match r with
 | .error e=> .tup [lst encS [], .i .i64 (-1), .i .i64 (e:Nat)]
 | .ok (l,j)=> .tup [lst encS l, .i .i64 (j:Nat), .i .i64 0]

def Zwq(s:List UInt8)(R:Except Nat (List Span×Nat))(m:Nat)(vs:List V)(h:Heap):Prop:=
 ∃(i:Nat) (out:List Span) (a:Option (Nat×Nat)) (l:Nat) (c:Option Nat) (k:Nat) (v9:V),vs= [.s s, .i .i64 (i:Nat), .undef, .sl none 0 (some 0) 0, .sl a l c k,v9]∧Lst encS 2 h a l c k out∧
  i<=s.length∧out.length<=i∧s.length-i<m∧setS m s i out=R

theorem Zi3(s:List UInt8)(i:Nat)(hs:s.length<2 ^ 28)(hi:i<=s.length):PCon UY 62 [.s s,I i] (· =Zq3 (setS (s.length+1) s i [])):=by
  refine ZE UK (fn:=Tryz.f62) rfl ?_
  refine Xm UK (n:=81) (loc:=UY.loc 62) 100 [0,1,3,4,7,9] (by kernel_rfl) ?_
  rw[show(⟨[.s s,I i]++List.replicate (Tryz.f62.ntmps- [V.s s,I i].length) .undef,[], .empty⟩:St)=⟨.s s:: I i::List.replicate 79 .undef,[], .empty⟩ by rfl,ZH5]
  generalize hR:setS (s.length+1) s i []=R
  refine⟨rfl,Zn9 [0,1,3,4,7,9] [0,1,3,4,5,6,7,9] (Zwq s R) (s.length+1) Zy ⟨i,[],none,0,some 0,0, .undef,rfl,Lst.nil _ _ _ _ _,hi,by simp,by omega,hR⟩ ?_⟩
  rintro m vs h ⟨i,out,a,l,c,k,v9,rfl,hL,hi,hol,hm,hg⟩
  refine ZT UK (loc:=UY.loc 62) 100 [0,1,3,4,5,6,7,9] ?_
  rw[ZH6]
  obtain⟨m,rfl⟩: ∃m',m=m'+1:=⟨m-1,by omega⟩
  have hll:=hL.len
  generalize hK:Zip 81 [0,1,3,4,5,6,7,9] [0,1,3,4,7,9] (Zwq s R) (m+1) (Xa (post (flat (Za Tryz.f62)))) (FinS UY Tryz.f62 fun v h=> ∃r,Frz h v r∧r=Zq3 R)=K
  have stop: ∀(v1 v3:V) (a:Option (Nat×Nat)) (l:Nat) (c:Option Nat) (k:Nat) (x:Int) (y:Int) (w4 w9:V) (h:Heap) (r:V),Frz h (.sl a l c k) r-> .tup [r,I x,I y]=Zq3 R->K .ret 81 [.s s,v1,v3, .sl a l c k,I x,I y,w4,w9] h:=by
    intro v1 v3 a l c k x y w4 w9 h r h1 h2
    subst hK
    exact Xv (.inr rfl) rfl ⟨_, .tup _ _ (.cons _ _ _ _ h1 (.cons _ _ _ _ (.i _ _) (.cons _ _ _ _ (.i _ _) .nil))),h2⟩
  have hiw: ∀(j:Nat),j<=s.length->IntKind.i64.wrap ((i:Int)+((j-i:Nat):Int))=(i:Int)+((j-i:Nat):Int):=fun j hj=>ZG (by omega) (by omega)
  have item: ¬(out≠ []∧s[i]? =some 93)-> ∃n n_1 n_2:Int,(PCon UY 111 [.s s,I i] fun v=>v= .tup [.i .u8 n,I n_1,I n_2])∧
      If (ltI n_1 0) (K .ret 81 [.s s,I i, .undef, .sl none 0 (some 0) 0,I (-1),I n_2, .sl a l c k,I n_1] h)
        (If (ltI (IntKind.i64.wrap ((i:Nat)+n_1)) (s.length:Nat)) (∃c_1:UInt8,(0<=IntKind.i64.wrap ((i:Nat)+n_1)∧s[(IntKind.i64.wrap ((i:Nat)+n_1)).toNat]? =some c_1)∧If ((c_1.toNat:Int)==45)
          (∃n_3 n_4 n_5:Int,(PCon UY 111 [.s s,I (IntKind.i64.wrap (IntKind.i64.wrap ((i:Nat)+n_1)+1))] fun v=>v= .tup [.i .u8 n_3,I n_4,I n_5])∧
            If (ltI n_4 0) (K .ret 81 [.s s,I (IntKind.i64.wrap ((i:Nat)+n_1)), .undef, .sl none 0 (some 0) 0,I (-1),I n_5, .sl a l c k,I n_4] h)
              (If (ltI n_3 n) (K .ret 81 [.s s,I (IntKind.i64.wrap ((i:Nat)+n_1)), .undef, .sl none 0 (some 0) 0,I (-1),I (IntKind.i64.wrap (IntKind.i64.wrap ((i:Nat)+n_1)+n_4)), .sl a l c k,I n_4] h)
                (∃(a':Option (Nat×Nat)) (l':Nat) (c':Option Nat) (k':Nat) (h_1:Heap),Zf UY h 57 57 (.sl a l c k) (.ts [.i .u8 n, .i .u8 n_3] 1 (some 1))=some (.sl a' l' c' k',h_1)∧
                  K .normal 81 [.s s,I (IntKind.i64.wrap (IntKind.i64.wrap (IntKind.i64.wrap ((i:Nat)+n_1)+1)+n_4)), .undef, .sl none 0 (some 0) 0, .undef, .undef, .sl a' l' c' k',I n_4] h_1)))
          (∃(a':Option (Nat×Nat)) (l':Nat) (c':Option Nat) (k':Nat) (h_1:Heap),Zf UY h 57 57 (.sl a l c k) (.ts [.i .u8 n, .i .u8 n] 1 (some 1))=some (.sl a' l' c' k',h_1)∧
            K .normal 81 [.s s,I (IntKind.i64.wrap ((i:Nat)+n_1)), .undef, .sl none 0 (some 0) 0, .undef, .undef, .sl a' l' c' k',I n_1] h_1))
          (∃(a':Option (Nat×Nat)) (l':Nat) (c':Option Nat) (k':Nat) (h_1:Heap),Zf UY h 57 57 (.sl a l c k) (.ts [.i .u8 n, .i .u8 n] 1 (some 1))=some (.sl a' l' c' k',h_1)∧
            K .normal 81 [.s s,I (IntKind.i64.wrap ((i:Nat)+n_1)), .undef, .sl none 0 (some 0) 0, .undef, .undef, .sl a' l' c' k',I n_1] h_1)):=by
    intro hn
    simp only[setS,hn,if_false]at hg
    have hc:=Zi2 s i (by omega) (by omega)
    have nilz: ∀h:Heap,Frz h (.sl none 0 (some 0) 0) (lst encS []):=fun h=>QY encS h _ _
    have more: ∀(x:Span) (j:Nat) (w9:V),i<j->j<=s.length->setS m s j (out++ [x])=R-> ∃(a':Option (Nat×Nat)) (l':Nat) (c':Option Nat) (k':Nat) (h_1:Heap),Zf UY h 57 57 (.sl a l c k) (.ts [.i .u8 x.lo, .i .u8 x.hi] 1 (some 1))=some (.sl a' l' c' k',h_1)∧
            K .normal 81 [.s s,I (j:Nat), .undef, .sl none 0 (some 0) 0, .undef, .undef, .sl a' l' c' k',w9] h_1:=by
      intro x j w9 h1 h2 h3
      obtain⟨a',l',c',k',h',q1,q2,_⟩:=Zg1 x hL (by omega)
      refine⟨a',l',c',k',h',q1,?_⟩
      subst hK
      exact⟨rfl,m,by omega,j,out++ [x],a',l',c',k',w9,rfl,q2,h2,by simp;omega,by omega,h3⟩
    cases he:endS s i with
    |error e=>
      have hi1:XJ s i= .error e:=by simp only[XJ,he]
      rw[hi1]at hg
      have hr:Vm s i= .tup [.i .u8 0,I (-1),I e]:=by simp only[Vm,he]
      rw[hr]at hc
      refine⟨_,_,_,hc,XC (fun _=>stop _ _ _ _ _ _ _ _ _ _ _ _ (nilz _) ?_) (fun h=>by omega)⟩
      subst hg;rfl
    |ok y=>
      obtain⟨lo,j⟩:=y
      have hj:=WA he
      have hr:Vm s i= .tup [.i .u8 lo,I (j-i:Nat),I 0]:=by simp only[Vm,he]
      rw[hr]at hc
      have hwj:IntKind.i64.wrap ((i:Int)+((j-i:Nat):Int))=(j:Nat):=by rw[ZG (by omega) (by omega)];omega
      refine⟨lo,((j-i:Nat):Int),0,hc,XC (fun h=>by omega) (fun _=> ?_)⟩
      rw[hwj]
      refine Zm (fun hjl=> ?_) (fun hjg=> ?_)
      · refine⟨s[j],⟨by omega,by simp[hjl]⟩,?_⟩
        rw[show(45:Int)=(((45:UInt8).toNat:Nat):Int) by decide,Ja]
        refine Wi (fun c45=> ?_) (fun c45=> ?_)
        · have h45:s[j]? =some 45:=by rw[<-c45];simp[hjl]
          have hc2:=Zi2 s (j+1) (by omega) (by omega)
          rw[Zh (by omega)]
          cases he2:endS s (j+1) with
          |error e=>
            have hi1:XJ s i= .error e:=by simp only[XJ,he,h45,if_true,he2]
            rw[hi1]at hg
            have hr2:Vm s (j+1)= .tup [.i .u8 0,I (-1),I e]:=by simp only[Vm,he2]
            rw[hr2]at hc2
            refine⟨_,_,_,hc2,XC (fun _=>stop _ _ _ _ _ _ _ _ _ _ _ _ (nilz _) ?_) (fun h=>by omega)⟩
            subst hg;rfl
          |ok y=>
            obtain⟨hi2,k2⟩:=y
            have hk:=WA he2
            have hr2:Vm s (j+1)= .tup [.i .u8 hi2,I (k2-(j+1):Nat),I 0]:=by simp only[Vm,he2]
            rw[hr2]at hc2
            refine⟨hi2,((k2-(j+1):Nat):Int),0,hc2,XC (fun h=>by omega) (fun _=>XC (fun hlt=> ?_) (fun hge=> ?_))⟩
            · have hi1:XJ s i= .error (k2-1):=by simp only[XJ,he,h45,if_true,he2,hlt]
              rw[hi1]at hg
              rw[show IntKind.i64.wrap (((j:Nat):Int)+((k2-(j+1):Nat):Int))=((k2-1:Nat):Int) by rw[ZG (by omega) (by omega)];omega]
              refine stop _ _ _ _ _ _ _ _ _ _ _ _ (nilz _) ?_
              subst hg;rfl
            · have hn: ¬hi2<lo:=by omega
              have hi1:XJ s i= .ok (⟨lo,hi2⟩,k2):=by simp only[XJ,he,h45,if_true,he2,hn,if_false]
              rw[hi1]at hg
              rw[show IntKind.i64.wrap (((j+1:Nat):Int)+((k2-(j+1):Nat):Int))=(k2:Int) by rw[ZG (by omega) (by omega)];omega]
              exact more ⟨lo,hi2⟩ k2 _ (by omega) (by omega) hg
        · have h45: ¬s[j]? =some 45:=by simp[hjl,c45]
          have hi1:XJ s i= .ok (⟨lo,lo⟩,j):=by simp only[XJ,he,h45,if_false]
          rw[hi1]at hg
          exact more ⟨lo,lo⟩ j _ (by omega) (by omega) hg
      · have h45: ¬s[j]? =some 45:=by rw[qq hjg];simp
        have hi1:XJ s i= .ok (⟨lo,lo⟩,j):=by simp only[XJ,he,h45,if_false]
        rw[hi1]at hg
        exact more ⟨lo,lo⟩ j _ (by omega) (by omega) hg
  refine Ze7 (fun hp=> ?_) (fun hz=>item ?_)
  · have hne:out≠ []:=by intro he;subst he;rw[hll]at hp;simp at hp
    refine Zm (fun hlt=> ?_) (fun hge=>item ?_)
    · refine⟨s[i],⟨by omega,by simp[hlt]⟩,?_⟩
      rw[show(93:Int)=(((93:UInt8).toNat:Nat):Int) by decide,Ja]
      refine Wi (fun c93=> ?_) (fun c93=>item ?_)
      · have h93:s[i]? =some 93:=by rw[<-c93];simp[hlt]
        simp only[setS,hne,h93,ne_eq,not_false_eq_true,and_self,if_true]at hg
        rw[Zh (by omega)]
        refine stop _ _ _ _ _ _ _ _ _ _ _ _ (hL.frz (by decide) Zah) ?_
        subst hg;rfl
      · rintro⟨_,h1⟩;simp[hlt]at h1;exact c93 h1
    · rintro⟨_,h1⟩;rw[qq hge]at h1;cases h1
  · rintro⟨h1,_⟩
    exact h1 (qg (by omega))
end Go.Y
