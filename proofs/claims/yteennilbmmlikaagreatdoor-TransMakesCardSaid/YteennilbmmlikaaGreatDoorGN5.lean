/- A part of the proof. -/
import Derived.Test.YteennilbmmlikaaGreatDoorGN0
import Derived.Test.YteennilbmmlikaaGreatDoorYLoop
import Derived.Test.YteennilbmmlikaaGreatDoorYTryzP
import Derived.Test.YteennilbmmlikaaGreatDoorGPartP
namespace Go.Y
open Go.Proofs
set_option maxRecDepth 1000000
set_option maxHeartbeats 0
def idxI(l:List Int)(x:Int):Int:=if hasI l x then(l.findIdx (fun y=>x==y):Nat)else -1
theorem Zy1(l:List Int)(x:Int):leI 0 (idxI l x)=hasI l x:=by
 unfold idxI
 by_cases h:hasI l x=true
 ·rw[if_pos h,h];simp[leI]
 ·have h:hasI l x=false:=by simpa using h
  rw[h];rfl

theorem Zy2(l:List Int)(x:Int)(hl:l.length<2 ^ 20):PCon UY 123 [lst encI l,I x] (· = I (idxI l x)):=by
 refine ZE UK (fn:=Tryz.f123) rfl ?_
 refine Xm UK (n:=19) (loc:=UY.loc 123) 100 [0,1,7,8] (by kernel_rfl) ?_
 refine Eq.mpr (ZDi (row encI l) l.length x .empty _) ?_
 refine⟨rfl,ZL [0,1,7,8] [0,1,4,7,8] (fun m vs _=> ∃i:Nat,vs= [lst encI l,I x,I l.length,I (i:Nat)]∧i<=l.length∧hasI (l.take i) x=false∧m=l.length-i) l.length Zy ⟨0,rfl,by omega,by simp[hasI],by omega⟩ ?_⟩
 rintro m vs h ⟨i,rfl,hi,hno,rfl⟩
 refine ZT UK (loc:=UY.loc 123) 100 [0,1,4,7,8] ?_
 refine Eq.mpr (ZDj (row encI l) l.length x (i:Nat) h _) ?_
 refine Zm (fun hlt=> ?_) (fun hge=> ?_)
 ·refine⟨Zz hlt,_,getI l hlt,Zg (fun hc=> ?_) (fun hc=> ?_)⟩
  ·refine Xv (.inr rfl) rfl ⟨_, .i _ _,?_⟩
   have h1:hasI l x=true:=List.any_eq_true.2 ⟨l[i],qe hlt,hc⟩
   have h2:l.findIdx (fun y=>x==y)=i:=(List.findIdx_eq hlt).2 ⟨hc,fun j hj=>by
    have:=List.any_eq_false.1 hno l[j] (List.mem_take_iff_getElem.2 ⟨j,by omega,rfl⟩)
    simpa using this⟩
   unfold idxI
   rw[if_pos h1,h2]
  ·refine⟨rfl,l.length-(i+1),by omega,i+1,by rw[Zh (by omega)];rfl,by omega,?_,rfl⟩
   unfold hasI at hno ⊢
   rw[qa hlt,List.any_append,hno];simp only[List.any_cons,List.any_nil,hc,Bool.or_false]
 ·refine Zi [] ?_
  refine ZB UK (loc:=UY.loc 123) 100 [4] ?_
  refine Eq.mpr (ZDk h _) ?_
  rw[qt hge]at hno
  exact Zv (.inr rfl) rfl (.i _ _) (by unfold idxI;rw[hno];rfl)

theorem Zom(l:List Int)(x:Int)(hl:l.length<2 ^ 20):PCon UY 79 [lst encI l,I x] (· = .b (hasI l x)):=
 Zt UK (fn:=Tryz.f79) rfl ZJm rfl ⟨_,Zy2 l x hl,Zv (.inr rfl) rfl (.b _) (by rw[Zy1])⟩

/-! ### ends -/
theorem Con.zr{f:FuncId}{args}{h:Heap}{Q:V->Heap->Prop}(c:Con Tryr.Y f args h Q):Con UY f args h Q:=⟨c.body,c.tr⟩
theorem PCon.rz{f:FuncId}{args}{Q:V->Prop}(c:PCon UY f args Q):PCon Tryr.Y f args Q:=⟨c.body,c.tr⟩
theorem Zy3{a:Au}(hl:a.last.length<=300)(x:Int){h:Heap}{id:Nat}(hg:h.get id=some (.arr (auC a) true)):Con UY 78 [I x, .p (some (id,0))] h fun v h'=>v= .b (hasI a.last x)∧h'=h:=by
 refine Con.zr ?_
 refine Zu Tryr.Yok (fn:=Tryz.f78) (ZB Tryr.Yok (loc:=Tryr.Y.loc 78) 100 [3] ?_)
 refine Eq.mpr (ZJl x id h _) ?_
 exact⟨_,_,_,by rw[Zr hg];rfl,_,PCon.rz (Zom a.last x (by omega)),finC (.inr rfl) rfl (.now ⟨rfl,rfl⟩)⟩
theorem ZDl{a:Au}(hl:a.last.length<=300)(x:Int){h:Heap}{id:Nat}(hg:h.get id=some (.arr (auC a) true)):RCon UY 78 [I x, .p (some (id,0))] h (.b (hasI a.last x)):=
 ⟨h,Zy3 hl x hg,fun _ _=>rfl,fun _ hp=>hp⟩

theorem Zy4{a:Au}(ha:a.last.length<=300)(l:List Int){h:Heap}{id:Nat}(hg:h.get id=some (.arr (auC a) true))(hl:l.length<=2 ^ 10):
  Con UY 122 [lst encI l, .fn (.func 78) [] [.p (some (id,0))]] h fun v h'=> ∃n:Int,v= I n∧leI 0 n=Zdp a l∧h'=h:=by
 refine Zu UK (fn:=Tryz.f122) ?_
 refine Xm UK (n:=19) (loc:=UY.loc 122) 100 [0,1,7,8] (by kernel_rfl) ?_
 refine Eq.mpr (ZDf (row encI l) l.length id h _) ?_
 refine⟨rfl,ZL [0,1,7,8] [0,1,4,7,8] (fun m vs h'=> ∃i:Nat,vs= [lst encI l, .fn (.func 78) [] [.p (some (id,0))],I l.length,I (i:Nat)]∧i<=l.length∧Zdp a (l.take i)=false∧m=l.length-i∧h'=h) l.length Zy ⟨0,rfl,by omega,by simp[Zdp],by omega,rfl⟩ ?_⟩
 rintro m vs h' ⟨i,rfl,hi,hno,rfl,rfl⟩
 refine ZT UK (loc:=UY.loc 122) 100 [0,1,4,7,8] ?_
 refine Eq.mpr (ZDg (row encI l) l.length id (i:Nat) h' _) ?_
 refine Zm (fun hlt=> ?_) (fun hge=> ?_)
 ·refine⟨Zz hlt,_,getI l hlt,_,ZDl ha l[i] hg,Zg (fun hc=> ?_) (fun hc=> ?_)⟩
  ·refine Xv (.inr rfl) rfl (.now ⟨(i:Nat),rfl,?_,rfl⟩)
   have:Zdp a l=true:=List.any_eq_true.2 ⟨l[i],qe hlt,hc⟩
   rw[this];simp[leI]
  ·refine⟨rfl,l.length-(i+1),by omega,i+1,?_,by omega,?_,rfl,rfl⟩
   ·rw[Zh (by omega)];rfl
   ·unfold Zdp at hno ⊢
    rw[qa hlt,List.any_append,hno];simp only[List.any_cons,List.any_nil,hc,Bool.or_false]
 ·refine Zi [] ?_
  refine ZB UK (loc:=UY.loc 122) 100 [4] ?_
  refine Eq.mpr (ZDh h' _) ?_
  rw[qt hge]at hno
  exact finC (.inr rfl) rfl (.now ⟨-1,rfl,by rw[hno];rfl,rfl⟩)
theorem Zon{a:Au}(ha:a.last.length<=300)(l:List Int){h:Heap}{id:Nat}(hg:h.get id=some (.arr (auC a) true))(hl:l.length<=2 ^ 10):
  Con UY 77 [lst encI l, .fn (.func 78) [] [.p (some (id,0))]] h fun v h'=>v= .b (Zdp a l)∧h'=h:=by
 refine Zu UK (fn:=Tryz.f77) (ZB UK (loc:=UY.loc 77) 100 [4] ?_)
 refine Eq.mpr (ZJk (row encI l) l.length id h _) ?_
 refine(Zy4 ha l hg hl).mono fun v h' ⟨n,e1,e2,e3⟩=>⟨n,e1,?_⟩
 subst e3
 rw[e2]
 exact finC (.inr rfl) rfl (.now ⟨rfl,rfl⟩)
theorem ZDm{a:Au}(ha:a.last.length<=300)(ps:List Int)(hl:ps.length<=2 ^ 10):PCon UY 36 [.agg (auC a),lst encI ps] (· = .b (Zdp a ps)):=by
 refine Zt UK (fn:=Tryz.f36) rfl ZJa rfl ?_
 refine(Zon ha ps (by simp) hl).mono fun v h' ⟨e1,e2⟩=>⟨_,e1,Zv (.inr rfl) rfl (.b _) rfl⟩

/-! ### May -/
abbrev nC(n:Int):List V:= [I n]
theorem Zy5(l:List Int)(hl:l.length<=300)(n:Int){h:Heap}{id:Nat}(hg:h.get id=some (.arr (nC n) true)):Con UY 66 [lst encI l, .p (some (id,0))] h fun v h'=>v= .b (!risB l n)∧h'=h:=by
 refine Zu UK (fn:=Tryz.f66) (ZB UK (loc:=UY.loc 66) 100 [3] ?_)
 refine Eq.mpr (ZJg (row encI l) l.length id h _) ?_
 exact⟨n,by rw[Zr hg];rfl,_,Zyz l n (by omega),finC (.inr rfl) rfl (.now ⟨rfl,rfl⟩)⟩
theorem ZDn(l:List Int)(hl:l.length<=300)(n:Int){h:Heap}{id:Nat}(hg:h.get id=some (.arr (nC n) true)):RCon UY 66 [lst encI l, .p (some (id,0))] h (.b (!risB l n)):=
 ⟨h,Zy5 l hl n hg,fun _ _=>rfl,fun _ hp=>hp⟩

theorem Zy6(ls:List (List Int))(hls: ∀l∈ls,l.length<=300)(k:Int){h:Heap}{id:Nat}(hg:h.get id=some (.arr (nC k) true))(hl:ls.length<=300):
  Con UY 85 [lst ZY ls, .fn (.func 66) [] [.p (some (id,0))]] h fun v h'=> ∃n:Int,v= I n∧leI 0 n=(ls.any fun l=> !risB l k)∧h'=h:=by
 refine Zu UK (fn:=Tryz.f85) ?_
 refine Xm UK (n:=19) (loc:=UY.loc 85) 100 [0,1,7,8] (by kernel_rfl) ?_
 refine Eq.mpr (ZJh (row ZY ls) ls.length id h _) ?_
 refine⟨rfl,ZL [0,1,7,8] [0,1,4,7,8] (fun m vs h'=> ∃i:Nat,vs= [lst ZY ls, .fn (.func 66) [] [.p (some (id,0))],I ls.length,I (i:Nat)]∧i<=ls.length∧((ls.take i).any fun l=> !risB l k)=false∧m=ls.length-i∧h'=h) ls.length Zy ⟨0,rfl,by omega,by simp,by omega,rfl⟩ ?_⟩
 rintro m vs h' ⟨i,rfl,hi,hno,rfl,rfl⟩
 refine ZT UK (loc:=UY.loc 85) 100 [0,1,4,7,8] ?_
 refine Eq.mpr (ZJi (row ZY ls) ls.length id (i:Nat) h' _) ?_
 refine Zm (fun hlt=> ?_) (fun hge=> ?_)
 ·refine⟨Zz hlt,_,_,_,getL ls hlt,_,ZDn ls[i] (hls _ (qe hlt)) k hg,Zg (fun hc=> ?_) (fun hc=> ?_)⟩
  ·refine Xv (.inr rfl) rfl (.now ⟨(i:Nat),rfl,?_,rfl⟩)
   have:(ls.any fun l=> !risB l k)=true:=List.any_eq_true.2 ⟨ls[i],qe hlt,hc⟩
   rw[this];simp[leI]
  ·refine⟨rfl,ls.length-(i+1),by omega,i+1,?_,by omega,?_,rfl,rfl⟩
   ·rw[Zh (by omega)];rfl
   ·rw[qa hlt,List.any_append,hno];simp only[List.any_cons,List.any_nil,hc,Bool.or_false]
 ·refine Zi [] ?_
  refine ZB UK (loc:=UY.loc 85) 100 [4] ?_
  refine Eq.mpr (ZJj h' _) ?_
  rw[qt hge]at hno
  exact finC (.inr rfl) rfl (.now ⟨-1,rfl,by rw[hno];rfl,rfl⟩)
theorem Zoo(ls:List (List Int))(hls: ∀l∈ls,l.length<=300)(k:Int){h:Heap}{id:Nat}(hg:h.get id=some (.arr (nC k) true))(hl:ls.length<=300):
  Con UY 65 [lst ZY ls, .fn (.func 66) [] [.p (some (id,0))]] h fun v h'=>v= .b (!ls.all fun l=>risB l k)∧h'=h:=by
 refine Zu UK (fn:=Tryz.f65) (ZB UK (loc:=UY.loc 65) 100 [4] ?_)
 refine Eq.mpr (ZJf (row ZY ls) ls.length id h _) ?_
 refine(Zy6 ls hls k hg hl).mono fun v h' ⟨n,e1,e2,e3⟩=>⟨n,e1,?_⟩
 subst e3
 rw[e2,Zyx]
 exact finC (.inr rfl) rfl (.now ⟨rfl,rfl⟩)

theorem may7(a:Au)(hs:Zi8 a=true):PCon UY 26 [.agg (auC a)] (· = .b (mayA a)):=by
 obtain⟨s1,s2,s3,s4,s5⟩:=Zau hs
 refine Zt UK (fn:=Tryz.f26) rfl ZIv rfl ?_
 have htag:UY.tag 3=none:=by kernel_rfl
 rw[htag]
 have hgp: ∀j,((Heap.empty).pushT none (YObj.arr [I 0] true)).get j=if j=Heap.empty.nx then some (YObj.arr [I 0] true)else Heap.empty.get j:=fun j=>qj _ _ _ _
 let h1:Heap:=((Heap.empty).pushT none (YObj.arr [I 0] true)).set Heap.empty.nx (some (.arr (nC a.sets.length) true))
 have hst:Zj ((Heap.empty).pushT none (YObj.arr [I 0] true)) Heap.empty.nx 0 [I (a.sets.length:Nat)]=some h1:=by
  simp only[Zj,hgp,if_true]
  rfl
 have hx:h1.get Heap.empty.nx=some (.arr (nC a.sets.length) true):=by rw[qc,if_pos rfl]
 have c1:Zb h1 Heap.empty.nx 0 1=some [I (a.sets.length:Nat)]:=by rw[Zr hx];rfl
 have no:mayA a=false->Fin UY Tryz.f26 [2] (fun v h=> ∃r,Frz h v r∧r= .b (mayA a)) .ret 35 [.b false] h1:=fun e=>Zv (.inr rfl) rfl (.b _) (by rw[e])
 refine⟨h1,hst,_,c1,XC (fun g=>by omega) (fun g1=>⟨_,c1,Zg (fun g=>no (by simp at g;simp[mayA,show¬a.follow.length=a.sets.length by omega])) (fun g2=> ?_)⟩)⟩
 have g2:a.follow.length=a.sets.length:=by simp at g2;omega
 refine⟨_,c1,_,Zyz a.first a.sets.length (by omega),Zg (fun g=>no (by simp[mayA,show risB a.first a.sets.length=false by simpa using g])) (fun g3=> ?_)⟩
 have g3:risB a.first a.sets.length=true:=by simpa using g3
 refine⟨_,c1,_,Zyz a.last a.sets.length (by omega),Zg (fun g=>no (by simp[mayA,show risB a.last a.sets.length=false by simpa using g])) (fun g4=> ?_)⟩
 have g4:risB a.last a.sets.length=true:=by simpa using g4
 refine(Zoo a.follow s5 a.sets.length hx s4).mono fun v h' ⟨e1,e2⟩=>⟨_,e1,Zv (.inr rfl) rfl (.b _) ?_⟩
 simp only[mayA,g2,g3,g4,show a.sets.length<=300 by omega,decide_true,Bool.true_and,Bool.not_not]
theorem ZDo{s0 s1 s2 s3 x h}(K):CP Tryr.Y 190 (flat (Za Tryz.f190)) (.agg [U s0,U s1,U s2,U s3]::I x::Rp 12) h [4] K=((0:Int)<=(6:Int)∧((0:Int)<=x.fdiv ((2:Int) ^ min (Int.toNat (6:Int)) IntKind.i64.bits)∧x.fdiv ((2:Int) ^ min (Int.toNat (6:Int)) IntKind.i64.bits)<(↑(4:Nat):Int))∧ ∃a,Zb (h.push (YObj.arr [U s0,U s1,U s2,U s3] true)) h.nx ((0:Nat)+(x.fdiv ((2:Int) ^ min (Int.toNat (6:Int)) IntKind.i64.bits)).toNat*1) 1=some [U a]∧(0:Int)<=IntKind.i64.wrap (↑(BitVec.ofInt IntKind.i64.bits x&&&BitVec.ofInt IntKind.i64.bits (63:Int)).toNat:Int)∧K .ret 14 [.b (IntKind.u64.wrap (↑(BitVec.ofInt IntKind.u64.bits (a.fdiv ((2:Int) ^ min (IntKind.i64.wrap (↑(BitVec.ofInt IntKind.i64.bits x&&&BitVec.ofInt IntKind.i64.bits (63:Int)).toNat:Int)).toNat IntKind.u64.bits))&&&BitVec.ofInt IntKind.u64.bits (1:Int)).toNat:Int)==(1:Int))] (h.push (YObj.arr [U s0,U s1,U s2,U s3] true))):=by kernel_rfl
theorem Zwx{s0 s1 s2 s3 h}(K):CP Tryr.Y 176 (pre (flat (Za Tryz.f176))) (.agg [U s0,U s1,U s2,U s3]::Rp 14) h [1,2,4] K=(K .normal 15 [.p (some (h.nx,0)), .lb [U 0,U 0,U 0,U 0],I 0] (h.push (YObj.arr [U s0,U s1,U s2,U s3] true))):=by kernel_rfl
theorem Zwy{a x4 h}(K):CP Tryr.Y 176 (flat (Zx (post (flat (Za Tryz.f176))))) (MZ 15 [1,2,4] [.p (some (a,0)),.lb [U 0,U 0,U 0,U 0],I x4]) h [1,2,4] K=(If (ltI x4 4) (((0:Int)<=x4∧x4<(↑(4:Nat):Int))∧ ∃b,Zb h a ((0:Nat)+x4.toNat*1) 1=some [U b]∧((0:Int)<=x4∧x4<(↑(4:Nat):Int))∧ ∃c,Zj h a ((0:Nat)+x4.toNat*1) [U (IntKind.u64.wrap (↑(BitVec.ofInt IntKind.u64.bits (if IntKind.u64.signed=true then(-1:Int)else IntKind.u64.max) ^^^ BitVec.ofInt IntKind.u64.bits b).toNat:Int))]=some c∧K .normal 15 [.p (some (a,0)), .lb [U 0,U 0,U 0,U 0],I (IntKind.i64.wrap (x4+(1:Int)))] c) (K (.exit 0) 15 [.p (some (a,0)), .lb [U 0,U 0,U 0,U 0],I x4] h)):=by kernel_rfl
theorem Zwz{a h}(K):CP Tryr.Y 176 ((post (flat (Za Tryz.f176))).drop 1) (MZ 15 [1,2] [.p (some (a,0)),.lb [U 0,U 0,U 0,U 0]]) h [2] K=(∃b c d e,Zb h a 0 4=some [U b,U c,U d,U e]∧K .ret 15 [.lb [U b,U c,U d,U e]] h):=by kernel_rfl
theorem ZDp{x s h}(K):CP UY 177 (flat (Za Tryz.f177)) (.i .u8 x::.s s::Rp 13) h [4] K=(∃a,(PCon UY 171 [.s s,.i .u8 x] fun v=>v=I a)∧If (leI 0 a) (∃b,some (Q.val (.s ((fun(x:List UInt8)=>UInt8.ofNat (Int.toNat (92:Int))::x) ((fun(x_1:List UInt8)=>UInt8.ofNat x.toNat::x_1) []))))=some (Q.val (.s b))∧K .ret 15 [.s b] h) (∃b,some (Q.val (.s ((fun(x_1:List UInt8)=>UInt8.ofNat x.toNat::x_1) [])))=some (Q.val (.s b))∧K .ret 15 [.s b] h)):=by kernel_rfl
theorem ZDq{s x h}(K):CP UY 171 (flat (Za Tryz.f171)) (.s s::.i .u8 x::Rp 6) h [4] K=(∃a,(PCon UY 189 [.s s,.i .u8 x] fun v=>v=I a)∧K .ret 8 [I a] h):=by kernel_rfl
theorem Zw0(id h K):CP UY 116 (flat (Za Tryz.f116)) (.p (some (id,0))::Rp 13) h [2] K=(∃a b c d,Zb h id 1 1=some [S a b c d]∧(b=0->a=none)∧ ∃e f g i,Zb h id 1 1=some [S e f g i]∧ ∃j l,strH UY h 224 a (f:Int)=some (l,j)∧K .ret 14 [.s j] l):=by kernel_rfl
theorem Zw1(id h K):CP UY 162 (flat (Za Tryz.f162)) (.p (some (id,0))::Rp 19) h [] K=(∃a,Zb h id 0 1=some [.p a]∧(UY.ty 182).isSome=true∧If a.isNone ((fun P0=>P0∧P0∧ ∃b,Zj h id 0 [.p (some (id,0))]=some b∧K .normal 20 [] b) (∃b c d e,some (id,0)=some (b,0)∧h.get b=some (YObj.arr c d)∧h.tagOf b=some 182∧some (TI.mk (2:Nat) (32:Nat) (Kd.struct [((0:Nat),180),((1:Nat),138)]) [.p none,S none (0:Nat) (some (0:Nat)) (0:Nat)])=some e∧(e.size=0->False)∧e.size<=c.length)) (∃b,Zb h id 0 1=some [.p b]∧(UY.ty 182).isSome=true∧(∃c,b=some c∧some (id,0)=some c∧(h.get c.fst).isSome=true)∧K .normal 20 [] h)):=by kernel_rfl
theorem Zw2(id x h K):CP UY 126 (flat (Za Tryz.f126)) (.p (some (id,0))::.i .u8 x::Rp 15) h [4] K=(Con UY 162 [.p (some (id,0))] h fun(v:V) (h':Heap)=>v=.tup []∧ ∃a b c d,Zb h' id 1 1=some [S a b c d]∧ ∃e f g j l,Zf UY h' 138 138 (S a b c d) (J [.i .u8 x] 1 (some 1))=some (S e f g j,l)∧ ∃m,Zj l id 1 [S e f g j]=some m∧K .ret 17 [V.nilifc] m):=by kernel_rfl
theorem ZDr(id s h K):CP UY 146 (flat (Za Tryz.f146)) (.p (some (id,0))::.s s::Rp 17) h [4,5] K=(Con UY 162 [.p (some (id,0))] h fun(v:V) (h':Heap)=>v=.tup []∧ ∃a b c d,Zb h' id 1 1=some [S a b c d]∧ ∃e f g i j,Zf UY h' 138 9 (S a b c d) (.s s)=some (S e f g i,j)∧ ∃l,Zj j id 1 [S e f g i]=some l∧K .ret 19 [I (↑s.length:Int),V.nilifc] l):=by kernel_rfl
theorem ZDs{s x h}(K):CP UY 189 (flat (Za Tryz.f189)) (.s s::.i .u8 x::Rp 6) h [4] K=(K .ret 8 [I (QN s x.toNat.toUInt8 (0:Nat))] h):=by kernel_rfl
theorem ZDt{id h}(K):CP UY 115 (flat (Za Tryz.f115)) (.p (some (id,0))::Rp 7) h [2] K=(∃a b c d,Zb h id 1 1=some [S a b c d]∧K .ret 8 [I (b:Int)] h):=by kernel_rfl
theorem PCon.zr{f:FuncId}{args}{Q:V->Prop}(c:PCon Tryr.Y f args Q):PCon UY f args Q:=⟨c.body,c.tr⟩

/-! ### told -/
theorem Zy7(c:UInt8):((c.toNat:Int)).toNat.toUInt8=c:=by
 rw[qdq];simp
theorem Zrv(s:List UInt8)(c:UInt8):PCon UY 171 [.s s, .i .u8 (c.toNat:Nat)] (· = I (QN s c 0)):=by
 refine Zt UK (fn:=Tryz.f171) rfl ZDq rfl ⟨_,?_,Zv (.inr rfl) rfl (.i _ _) rfl⟩
 refine Zt UK (fn:=Tryz.f189) rfl ZDs rfl ?_
 rw[Zy7]
 exact Zv (.inr rfl) rfl (.i _ _) rfl
def Zav(c:UInt8)(means:List UInt8):List UInt8:=if leI 0 (QN means c 0)=true then [92,c]else [c]
theorem WC(c:UInt8)(m:List UInt8):(Zav c m).length<=2:=by unfold Zav;split<;>simp
theorem Zg5(c:UInt8)(m:List UInt8):PCon UY 177 [.i .u8 (c.toNat:Nat), .s m] (· = .s (Zav c m)):=by
 refine Zt UK (fn:=Tryz.f177) rfl ZDp rfl ⟨_,Zrv m c,?_⟩
 unfold Zav
 refine Zg (fun h=> ?_) (fun h=> ?_)<;>rw[h]
 ·exact⟨_,rfl,Zv (.inr rfl) rfl (.s _) (by simp)⟩
 ·exact⟨_,rfl,Zv (.inr rfl) rfl (.s _) (by simp)⟩

/-! ### has -/
theorem Zux{c:Nat} :(c:Int).fdiv ((2:Int) ^ min (Int.toNat (6:Int)) IntKind.i64.bits)=((c / 64:Nat):Int):=by
 have e:(2:Int) ^ min (Int.toNat (6:Int)) IntKind.i64.bits=64:=by decide
 rw[e,Int.fdiv_eq_ediv_of_nonneg _ (by decide)]
 omega
theorem Zuy{c:Nat}(hc:c<256):IntKind.i64.wrap (((BitVec.ofInt IntKind.i64.bits (c:Int)&&&BitVec.ofInt IntKind.i64.bits (63:Int)).toNat:Nat):Int)=((c % 64:Nat):Int):=by
 have h: ∀c:_root_.Fin 256,IntKind.i64.wrap (((BitVec.ofInt IntKind.i64.bits (c.val:Int)&&&BitVec.ofInt IntKind.i64.bits (63:Int)).toNat:Nat):Int)=((c.val % 64:Nat):Int):=by decide+kernel
 exact h ⟨c,hc⟩
theorem Zy8(x:Set4)(c:Nat)(hc:c<256):PCon UY 190 [.agg (setC x),I c] (· = .b (hasN x c)):=by
 refine PCon.zr (Zt Tryr.Yok (fn:=Tryz.f190) rfl ZDo rfl ?_)
 rw[Zux,Zuy hc]
 have hk:c / 64<4:=by omega
 refine⟨by decide,⟨by omega,by omega⟩,Zeo x (c / 64),?_,by omega,?_⟩
 ·rw[Zr (cs:= [U x.1,U x.2.1,U x.2.2.1,U x.2.2.2]) (wr:=true) (by simp),qdq]
  generalize c / 64=k at hk
  match k,hk with
  |0,_=>rfl
  |1,_=>rfl
  |2,_=>rfl
  |3,_=>rfl
 ·have e4:min (((c % 64:Nat):Int)).toNat IntKind.u64.bits=c % 64:=by
   have:IntKind.u64.bits=64:=rfl
   rw[this,qdq];omega
  rw[e4,Zy0]
  exact Zv (.inr rfl) rfl (.b _) rfl

/-! ### not, of nothing -/
def maxU:Int:=IntKind.u64.wrap (((BitVec.ofInt IntKind.u64.bits (if IntKind.u64.signed=true then -1 else IntKind.u64.max) ^^^ BitVec.ofInt IntKind.u64.bits 0).toNat:Nat):Int)
def notL(i:Nat):List Int:=List.replicate i maxU++List.replicate (4-i) 0
abbrev u64s(l:List Int):List V:=l.map fun x=>U x
theorem Zy9:PCon UY 176 [.agg (setC (0,0,0,0))] (· = .agg (setC (maxU,maxU,maxU,maxU))):=by
 refine PCon.zr (ZE Tryr.Yok (fn:=Tryz.f176) rfl ?_)
 refine Zl Tryr.Yok 15 Zwx rfl ?_
 refine⟨rfl,ZL [1,2,4] [1,2,4] (fun m vs h=> ∃i:Nat,vs= [.p (some (Heap.empty.nx,0)), .lb (setC (0,0,0,0)),I (i:Nat)]∧i<=4∧m=4-i∧h.get Heap.empty.nx=some (.arr (u64s (notL i)) true)) 4 Zy ⟨0,rfl,by omega,by omega,by simp[qk,notL,u64s]⟩ ?_⟩
 rintro m vs h ⟨i,rfl,hi,rfl,hg⟩
 refine Zs Tryr.Yok Zwy rfl ?_
 refine XC (fun hlt=> ?_) (fun hge=> ?_)
 ·have hlt:i<4:=by omega
  refine⟨⟨by omega,by omega⟩,0,?_,⟨by omega,by omega⟩,?_⟩
  ·rw[Zr hg,qdq]
   match i,hlt with
   |0,_=>rfl
   |1,_=>rfl
   |2,_=>rfl
   |3,_=>rfl
  ·refine⟨h.set Heap.empty.nx (some (.arr (u64s (notL (i+1))) true)),?_,rfl,4-(i+1),by omega,i+1,by rw[Zh (by omega)];rfl,by omega,rfl,by rw[qc,if_pos rfl]⟩
   simp only[Zj,hg,qdq]
   match i,hlt with
   |0,_=>rfl
   |1,_=>rfl
   |2,_=>rfl
   |3,_=>rfl
 ·have he:i=4:=by omega
  subst he
  refine Zi [1,2] ?_
  refine Zn Tryr.Yok Zwz rfl ?_
  refine⟨maxU,maxU,maxU,maxU,by rw[Zr hg];rfl,Zv (.inr rfl) rfl ?_ rfl⟩
  exact .agg _ _ (.cons _ _ _ _ (.i _ _) (.cons _ _ _ _ (.i _ _) (.cons _ _ _ _ (.i _ _) (.cons _ _ _ _ (.i _ _) .nil))))
theorem ZDu(x0 x1 x2 x3 h K):CP UY 175 (pre (flat (Za Tryz.f175))) (.agg [U x0,U x1,U x2,U x3]::Rp 32) h [1,2,3,4] K=(K .normal 33 [.lb [U x0,U x1,U x2,U x3],S0,S0,I 0] h):=by kernel_rfl
theorem ZDv(x0 x1 x2 x3 b c d e a h K):CP UY 175 (pre (flat (Zx (post (flat (Za Tryz.f175)))))) (MZ 33 [1,2,3,4] [.lb [U x0,U x1,U x2,U x3],S0,S b c d e,I a]) h [1,2,3,4] K=(If (ltI a 256) (K .normal 33 [.lb [U x0,U x1,U x2,U x3],S0,S b c d e,I a] h) (K (.exit 0) 33 [.lb [U x0,U x1,U x2,U x3],S0,S b c d e,I a] h)):=by kernel_rfl
theorem ZDw(x0 x1 x2 x3 b c d e a h K):CP UY 175 (pre (flat (Xj (post (flat (Zx (post (flat (Za Tryz.f175))))))))) (MZ 33 [1,2,3,4] [.lb [U x0,U x1,U x2,U x3],S0,S b c d e,I a]) h [1,2,3,4,5] K=(K .normal 33 [.lb [U x0,U x1,U x2,U x3],S0,S b c d e,I a,I a] h):=by kernel_rfl
theorem ZDx(x0 x1 x2 x3 c d e f a x5 h K):CP UY 175 (flat (Zx (post (flat (Xj (post (flat (Zx (post (flat (Za Tryz.f175))))))))))) (MZ 33 [1,2,3,4,5] [.lb [U x0,U x1,U x2,U x3],S0,S c d e f,I a,I x5]) h [1,2,3,4,5] K=(If (ltI a 256) (∃b,(PCon UY 190 [.agg [U x0,U x1,U x2,U x3],I a] fun v=>v=.b b)∧If b (K .normal 33 [.lb [U x0,U x1,U x2,U x3],S0,S c d e f,I (IntKind.i64.wrap (a+(1:Int))),I x5] h) (K (.exit 2) 33 [.lb [U x0,U x1,U x2,U x3],S0,S c d e f,I a,I x5] h)) (K (.exit 2) 33 [.lb [U x0,U x1,U x2,U x3],S0,S c d e f,I a,I x5] h)):=by kernel_rfl
theorem Zw3(x0 x1 x2 x3 d e f g b x5 h K):CP UY 175 ((post (flat (Xj (post (flat (Zx (post (flat (Za Tryz.f175))))))))).drop 1) (MZ 33 [1,2,3,4,5] [.lb [U x0,U x1,U x2,U x3],S0,S d e f g,I b,I x5]) h [1,2,3,4] K=(If (ltI x5 b) (∃a c j l m,Zf UY h 57 57 (S d e f g) (J [.i .u8 (IntKind.u8.wrap x5),.i .u8 (IntKind.u8.wrap (IntKind.i64.wrap (b-(1:Int))))] 1 (some 1))=some (S a c j l,m)∧K .normal 33 [.lb [U x0,U x1,U x2,U x3],S0,S a c j l,I b] m) (K .normal 33 [.lb [U x0,U x1,U x2,U x3],S0,S d e f g,I b] h)):=by kernel_rfl
theorem Zmy(x0 x1 x2 x3 a b c d e h K):CP UY 175 ((post (flat (Zx (post (flat (Za Tryz.f175)))))).drop 1) (MZ 33 [1,2,3,4] [.lb [U x0,U x1,U x2,U x3],S0,S b c d e,I a]) h [1,2,3,4] K=(K .normal 33 [.lb [U x0,U x1,U x2,U x3],S0,S b c d e,I (IntKind.i64.wrap (a+(1:Int)))] h):=by kernel_rfl
theorem ZDy(a b c d h K):CP UY 175 ((post (flat (Za Tryz.f175))).drop 1) (MZ 33 [3] [S a b c d]) h [2] K=(K .ret 33 [S a b c d] h):=by kernel_rfl
end Go.Y
