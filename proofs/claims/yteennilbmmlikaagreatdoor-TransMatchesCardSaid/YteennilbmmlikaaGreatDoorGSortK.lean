/- A part of the proof. -/
import Derived.Test.YteennilbmmlikaaGreatDoorYFrz
import Derived.Sort.Row
import Derived.Sort.Grow
import Derived.Lib.SlicesCompact
import Derived.Test.YteennilbmmlikaaGreatDoorGReD
import Derived.Test.YteennilbmmlikaaGreatDoorYAny3
import Derived.Test.YteennilbmmlikaaGreatDoorYLoop
namespace Go.Y
open Go.Sort
abbrev Xj(a:List Int):List V:=a.map (V.i .i64)
abbrev encZ:Int->Value:=Value.int .i64
theorem Zld(w:World){b off:Nat}{d:Array Int}{c:Array Value}{e:TypeId}{fr:Nat×Nat}(h:w.heap[b]? =some (.cells c e fr)):
  (putRow encZ w b off d).heap[b]? =some (.cells (putCells encZ off d c) e fr):=by
 simp only[putRow,mapBlock,Array.getElem?_modify,vG,h,uw,onCells]
theorem Zr5(w:World){b c off:Nat}{d:Array Int}(h:c≠b):(putRow encZ w b off d).heap[c]? =w.heap[c]? :=by
 simp only[putRow,mapBlock,Array.getElem?_modify,uE (Ne.symm h)]
theorem HRel.holds{W}{h:Heap}{w}{a:Nat}{f:List Int}(hr:HRel W h w)(n:h.get a=some (.arr (Xj f) true)):
  Holds encZ w (W.mu a).1 (W.mu a).2 f.toArray/\(W.mu a).1<w.heap.size:=by
 obtain⟨c,e,fr,k,t,v,m,r⟩:=hr.obj a _ n;refine⟨λj d=> ?_,Zt k⟩;have d:j<f.length:=by simpa using d
 obtain⟨u,l,g⟩:=m j (I f[j]) (by simp[d]);cases g;have o:=(Array.getElem?_eq_some_iff.1 l).1;constructor
 .rw[Zim k,l];simp[d,encZ]
 .rw[Zj6 k];have:=r ((W.mu a).2+j) sm o;rw[Bool.eq_false_iff];simp only[ne_eq,qrq,vJ];exact this
theorem HRel.row{W}{h:Heap}{w}{a:Nat}{z zs':List Int}(hr:HRel W h w)(u:h.get a=some (.arr (Xj z) true))(F:zs'.length=z.length)(n:Nat):
  HRel W (h.set a (some (.arr (Xj zs') true))) (putRow encZ (Sort.ahead w n) (W.mu a).1 (W.mu a).2 zs'.toArray)/\Stp W W.own w W W.own (putRow encZ (Sort.ahead w n) (W.mu a).1 (W.mu a).2 zs'.toArray):=by
 obtain⟨c,e,fr,r,B,t,K,H⟩:=hr.obj a _ u;have m:W.lv a:=(hr.lv a).2 (by simp[u]);have d:(putCells encZ (W.mu a).2 zs'.toArray c).size=c.size:=by simp[putCells]
 have g:Str w (putRow encZ (Sort.ahead w n) (W.mu a).1 (W.mu a).2 zs'.toArray):=⟨rfl,rfl,rfl⟩;have E:ORel W (putRow encZ (Sort.ahead w n) (W.mu a).1 (W.mu a).2 zs'.toArray) a (.arr (Xj zs') true):=by
  refine⟨putCells encZ (W.mu a).2 zs'.toArray c,e,fr,Zld (Sort.ahead w n) r,by rw[d];exact B,by rw[d];simpa[F]using t,λj v y=> ?_,λj l k=>H j (by simpa using l) (by rw[d]at k;exact k)⟩;have f:j<zs'.length:=by
   have:=(qb.1 y).1;simpa using this
  have G:v= I zs'[j]:=by
   have:=y;simp[f]at this;exact this.symm
  subst G;refine⟨encZ zs'[j],?_, .i _ _⟩;have o:(W.mu a).2+j<c.size:=by simp at t;omega
  simp only[putCells,Array.getElem?_mapIdx,Array.getElem?_eq_getElem o,uw];rw[uF ⟨om,by simp;omega⟩];simp[f]
 refine hr.write g m (λb o=>Zr5 (Sort.ahead w n) o) sm (λL e' A x C D=> ?_) E;rw[r]at x;cases x;exact⟨_,fr,Zld (Sort.ahead w n) r,C,by rw[d];exact D⟩
theorem HRel.grown{W:Vw}{h}{w}(hr:HRel W h w)(os:Array Obj): ∃a,HRel a h (grow w os)/\Stp W W.own w a a.own (grow w os):=by
 have d: ∀b,b<w.heap.size->(grow w os).heap[b]? =w.heap[b]? :=λb c=>by
  simp only[grow,Array.getElem?_append_left c]
 obtain⟨e,f⟩:=hr.more (w':=grow w os) (s:=W.snap) (λ_ _ h=>h) (by simp[grow]) d (λb o c=>by
  have:=hr.snap b o c;rw[d b (Zt this)];exact this) ⟨rfl,rfl,rfl⟩
 exact⟨_,e,f⟩
abbrev Ql(a:List Int):List Int:=a.mergeSort λx y=>decide (x<=y)
abbrev ZY(P:Program)(f:FuncId):Prop:=(∀(blk off cap:Nat) (a:List Int) (w:World),Holds encZ w blk off a.toArray->blk<w.heap.size->a.length<4611686018427387904->
   Calls P f #[.slice (some ⟨blk,off,none⟩) a.length cap] w λe c=>e= .returned (.tuple #[])/\ ∃n os,c=grow (putRow encZ (Sort.ahead w n) blk off (Ql a).toArray) os)/\
  ∀(w:World),Calls P f #[.slice none 0 0] w λe c=>e= .returned (.tuple #[])/\c=w
abbrev ZF(P:Program)(f:FuncId):Prop:=(∀(blk off cap:Nat) (a:List Int) (w:World),Holds encZ w blk off a.toArray->a.length<=9223372036854775807->a.length<=cap->
   Calls P f #[.slice (some ⟨blk,off,none⟩) a.length cap] w λe c=>e= .returned (.slice (some ⟨blk,off,none⟩) (Lib.compact a).length cap)/\ ∃q,c=putRow encZ (Sort.ahead w q) blk off (Lib.compact a++List.replicate (a.length-(Lib.compact a).length) 0).toArray)/\
  ∀(w:World),Calls P f #[.slice none 0 0] w λe c=>e= .returned (.slice none 0 0)/\c=w
theorem Zp0{Y:YP}{f:FuncId}(C:Jq Y f)(x:ZY Y.P f){h:Heap}{g k:Nat}{c:Option Nat}{d:List Int}(r:h.get g=some (.arr (Xj d) true))(o:d≠ [])(hl:d.length<2 ^ 60):
  Con Y f [.sl (some (g,0)) d.length c k] h λv y=>v= .tup []/\y=h.set g (some (.arr (Xj (Ql d)) true)):=
 ⟨C,λW w Z hr F=>by
  obtain⟨L,A⟩:=hr.holds r;have t:0<d.length:=List.length_pos_iff.2 o;have m:W.lv g:=(hr.lv g).2 (by simp[r])
  cases F with
  |cons _ u _ _ O H=>
   cases H
   cases O with
   |sls _ _ _ _ _ a j X N hc E hn hk=>
    have l:=E m om;subst l;refine(x.1 _ _ j d w L A om).mono ?_;rintro e w' ⟨rfl,n,os,rfl⟩;obtain⟨B,z⟩:=hr.row r (zs':=Ql d) (List.length_mergeSort _) n;obtain⟨K,D,G⟩:=B.grown os;exact⟨.tup [],_,K,_,⟨rfl,rfl⟩,rfl,D, .tup [] [] .nil,z.trans G⟩⟩
theorem Zle{Y:YP}{f:FuncId}(m:Jq Y f)(a:ZY Y.P f){h:Heap}{k:Nat}{c:Option Nat} :
  Con Y f [.sl none 0 c k] h λv d=>v= .tup []/\d=h:=
 ⟨m,λW w n hr j=>by
  cases j with
  |cons _ u _ _ l g=>
   cases g;cases l;refine(a.2 w).mono ?_;rintro e o ⟨rfl,rfl⟩;exact⟨.tup [],_,W,_,⟨rfl,rfl⟩,rfl,hr, .tup [] [] .nil, .refl _ _ _⟩⟩
/-! ### Compact -/
def Zlf:Int->List Int->List Int
 |_,[]=> []
 |a,b::l=>if b=a then Zlf b l else b::Zlf b l
theorem Zhi: ∀(a:Int) (l:List Int),Xl (a::l)=a::Zlf a l
 |a,[]=>by simp[Xl,Zlf]
 |a,b::l=>by
  have c:=Zhi b l;unfold Xl Zlf;by_cases h:a=b
  .rw[uF h,uF h.symm,c,h]
  .rw[uE h,uE (Ne.symm h),c]
theorem Zhj: ∀(a:Int) (l:List Int),((List.range l.length).filter λj=>decide ((a::l)[j+1]! ≠(a::l)[j]!)).map (λj=>(a::l)[j+1]!)=Zlf a l
 |a,[]=>by simp[Zlf]
 |a,b::l=>by
  have c:=Zhj b l;have e:List.range (b::l).length=0::(List.range l.length).map Nat.succ:=by
   rw[qh,List.range_succ_eq_map]
  rw[e,List.filter_cons,List.filter_map];have d:((λj=>decide ((a::b::l)[j+1]! ≠(a::b::l)[j]!)) ∘ Nat.succ)=λj=>decide ((b::l)[j+1]! ≠(b::l)[j]!):=rfl;unfold Zlf;rw[d];by_cases h:b=a
  .subst h;rw[uE sm,List.map_map];simp only[vG];exact c
  .rw[uE h,uF (by simpa using h),qz,List.map_map];exact congrArg (b:: ·) c
theorem Zjc: ∀c:List Int,Lib.compact c=Xl c
 | []=>rfl
 |a::l=>by
  rw[Zhi,<-Zhj];unfold Lib.compact Lib.compactUpTo;rw[qh,List.range_succ_eq_map,List.filter_cons,List.filter_map,uF (by simp[Lib.keeps]),qz,List.map_map];have e:(a::l).toArray[0]! =a:=sm;rw[e];refine congrArg (a:: ·) ?_;have d:(Lib.keeps (a::l).toArray ∘ Nat.succ)=λj=>decide ((a::l)[j+1]! ≠(a::l)[j]!):=by
   funext j;simp[Lib.keeps]
  rw[d];refine List.map_congr_left λj _=> ?_;simp
theorem Zp1: ∀c:List Int,(Xl c).length<=c.length
 | []=>by simp[Xl]
 | [a]=>by simp[Xl]
 |a::b::l=>by
  have:=Zp1 (b::l);unfold Xl;split
  .simp at this ⊢;omega
  .simp at this ⊢;omega
abbrev Zu3(a:List Int):List Int:=Xl a++List.replicate (a.length-(Xl a).length) 0
theorem Zfj{Y:YP}{f:FuncId}(E:Jq Y f)(z:ZF Y.P f){h:Heap}{j k:Nat}{c:Option Nat}{d:List Int}(r:h.get j=some (.arr (Xj d) true))(o:d≠ [])(hl:d.length<2 ^ 60):
  Con Y f [.sl (some (j,0)) d.length c k] h λv A=>v= .sl (some (j,0)) (Xl d).length c k/\A=h.set j (some (.arr (Xj (Zu3 d)) true)):=
 ⟨E,λW w X hr G=>by
  obtain⟨H,g2⟩:=hr.holds r;have y:0<d.length:=List.length_pos_iff.2 o;have m:W.lv j:=(hr.lv j).2 (by simp[r]);have Z:=Zp1 d
  cases G with
  |cons _ u _ _ L O=>
   cases O
   cases L with
   |sls _ _ _ _ _ a g x t C F N K=>
    have l:=F m om;subst l;refine(z.1 _ _ g d w H om t).mono ?_;rintro e w' ⟨rfl,n,rfl⟩;rw[Zjc];obtain⟨D,B⟩:=hr.row r (zs':=Zu3 d) (by simp;omega) n;exact⟨.sl (some (j,0)) (Xl d).length c k,_,W,_,⟨rfl,rfl⟩,rfl,D, .sls _ _ _ _ _ _ g x om C (λ_ _=>rfl) N K,B⟩⟩
theorem Zdq{Y:YP}{f:FuncId}(m:Jq Y f)(a:ZF Y.P f){h:Heap}{k:Nat}{c:Option Nat} :
  Con Y f [.sl none 0 c k] h λv d=>v= .sl none 0 c k/\d=h:=
 ⟨m,λW w n hr j=>by
  cases j with
  |cons _ u _ _ l g=>
   cases g;cases l;refine(a.2 w).mono ?_;rintro e o ⟨rfl,rfl⟩;exact⟨.sl none 0 c k,_,W,_,⟨rfl,rfl⟩,rfl,hr, .sln _ _, .refl _ _ _⟩⟩
theorem Zzj(d:List Int):(Ql d).Pairwise (· <= ·):=by
 have:=List.pairwise_mergeSort (le:=λx y:Int=>decide (x<=y)) (λa b c h g=>by simp at*;omega) (λa b=>by simp;omega) d;exact this.imp (λh=>by simpa using h)
theorem Zu4(a:List Int)(x:Int):x∈Ql a↔x∈a:=List.mem_mergeSort
theorem Zlg(a:List Int):Xl (Ql a)=allS [] a:=Zr3 (Zzj a) (Zu4 a)
end Go.Y
namespace Go.Y
set_option maxRecDepth 1000000
set_option maxHeartbeats 0
theorem Con.wk{Y}{f:FuncId}{args args'}{h}{Q}(d:WkA args args')(c:Con Y f args' h Q):Con Y f args h Q:=
 ⟨c.body,λW w a hr e=>c.tr W w a hr (d.vr e)⟩
theorem WkL.get: ∀ {l a:List V},WkL l a-> ∀ {t:Nat} {v':V},a[t]? =some v'-> ∃v,l[t]? =some v/\Wk0 v v'
 |_,_, .nil,t,v',h=>by simp at h
 |_,_, .cons v v1 l a d c,0,v',h=>by simp at h;subst h;exact⟨v,rfl,d⟩
 |_,_, .cons v v1 l a d c,t+1,v',h=>by simp at h;simpa using c.get h
theorem WkL.length: ∀ {l a:List V},WkL l a->l.length=a.length
 |_,_, .nil=>rfl
 |_,_, .cons _ _ _ _ _ c=>by simp[c.length]
theorem WkL.append: ∀ {a a' b b'},WkL a a'->WkL b b'->WkL (a++b) (a'++b')
 |_,_,_,_, .nil,g=>g
 |_,_,_,_, .cons v c l e h d,g=> .cons v c _ _ h (d.append g)
theorem HRel.weak{W}{h:Heap}{w}{f:Nat}{cs cs'}(r:HRel W h w)(l:h.get f=some (.arr cs true))(n:WkL cs cs'):HRel W (h.set f (some (.arr cs' true))) w:=by
 have a: ∀i,((h.set f (some (.arr cs' true))).raw i).isSome=true↔(h.raw i).isSome=true:=λi=>by
  rw[Heap.raw_set];split
  .next e=>
   subst e;have g:(h.raw i).join=some (.arr cs true):=l
   cases hr:h.raw i with
   |none=>rw[hr]at g;cases g
   |some o=>simp
  .exact Iff.rfl
 have d: ∀i,((h.set f (some (.arr cs' true))).get i).isSome=true↔(h.get i).isSome=true:=λi=>by
  rw[qc];split
  .next e=>subst e;rw[l];simp
  .exact Iff.rfl
 refine⟨λi m=>(a i).2 (r.kn i m),r.lk,λi=>(r.lv i).trans (d i).symm,λi m=>by simpa using r.lt i ((a i).1 m),r.snap,λi o k=> ?_,r.inj,r.apart,λp hp=>r.tg p hp,r.gl⟩;rw[qc]at k;split at k
 .next e=>
  subst e;cases k;obtain⟨c,e,fr,D,t,x,E,F⟩:=r.obj i _ l;refine⟨c,e,fr,D,t,by rw[<-n.length];exact x,λj G g=> ?_,λj C z=>F j C z⟩;obtain⟨v,y,B⟩:=n.get g;obtain⟨u,A,hr⟩:=E j v y;exact⟨u,A,B.vr hr⟩
 .exact r.obj i o k
def ZOx(Q:V->Heap->Prop)(v:V)(h:Heap):Prop:=Q v h\/ ∃(d:Nat) (c a:List V),h.get d=some (.arr c true)/\WkL c a/\Q v (h.set d (some (.arr a true)))
theorem Con.weakH{Y}{f:FuncId}{args}{h}{Q}(c:Con Y f args h (ZOx Q)):Con Y f args h Q:=
 ⟨c.body,λW w m hr o=>(c.tr W w m hr o).mono λe A ⟨v,x,j,u,d,k,l,a,g⟩=>by
  rcases d with d|⟨y,z,t,r,n,d⟩
  .exact⟨v,x,j,u,d,k,l,a,g⟩
  .exact⟨v,_,j,u,d,k,l.weak r n,a,g⟩⟩
end Go.Y
namespace Go.Y
open Go.Proofs
set_option maxRecDepth 1000000
set_option maxHeartbeats 0
theorem ZOy(c:List UInt8)(a:Int)(h)(K:KT):(Zc UY (UY.loc 62) 100 (pre (flat (Za Tryz.f62))) ⟨(.s c::I a::List.replicate 79 .undef),[],h⟩ (VQ [0,1,3,4,7,9] K))=(K .normal 81 [.s c,I a,Ud,S0,S0,Ud] h):=kr
theorem ZOz(t:List UInt8)(r:Int)(d:Option (Nat×Nat))(b:Nat)(e)(f:Nat)(g:V)(h)(K:KT):(Zc UY (UY.loc 62) 100 ((flat (Zx (post (flat (Za Tryz.f62)))))) ⟨mk 81 (([0,1,3,4,7,9]:List Nat).zip [.s t,I r,V.undef,S0,S d b e f,g]),[],h⟩ (VQ [0,1,3,4,5,6,7,9] K))=(If (ltI 0 b) (If (ltI r (↑t.length:Int)) (∃c,(0<=r/\t[r.toNat]? =some c)/\If ((↑c.toNat:Int)==93) (K .ret 81 [.s t,I r,Ud,S d b e f,I (wW (r+1)),I 0,S d b e f,g] h) (∃n j w,(PCon UY 111 [.s t,I r] fun(v:V)=>v=.tup [.i .u8 n,I j,I w])/\If (ltI j 0) (K .ret 81 [.s t,I r,Ud,S0,I (-1),I w,S d b e f,I j] h) (If (ltI (wW (r+j)) (↑t.length:Int)) (∃c,(0<=wW (r+j)/\t[(wW (r+j)).toNat]? =some c)/\If ((↑c.toNat:Int)==45) (∃u o x,(PCon UY 111 [.s t,I (wW (wW (r+j)+1))] fun(v:V)=>v=.tup [.i .u8 u,I o,I x])/\If (ltI o 0) (K .ret 81 [.s t,I (wW (r+j)),Ud,S0,I (-1),I x,S d b e f,I o] h) (If (ltI u n) (K .ret 81 [.s t,I (wW (r+j)),Ud,S0,I (-1),I (wW (wW (r+j)+o)),S d b e f,I o] h) (∃a l c k m,Zk UY h 57 57 (S d b e f) (J [.i .u8 n,.i .u8 u] 1 (some 1))=some (S a l c k,m)/\K .normal 81 [.s t,I (wW (wW (wW (r+j)+1)+o)),Ud,S0,Ud,Ud,S a l c k,I o] m))) (∃a l c k m,Zk UY h 57 57 (S d b e f) (J [.i .u8 n,.i .u8 n] 1 (some 1))=some (S a l c k,m)/\K .normal 81 [.s t,I (wW (r+j)),Ud,S0,Ud,Ud,S a l c k,I j] m)) (∃a l c k m,Zk UY h 57 57 (S d b e f) (J [.i .u8 n,.i .u8 n] 1 (some 1))=some (S a l c k,m)/\K .normal 81 [.s t,I (wW (r+j)),Ud,S0,Ud,Ud,S a l c k,I j] m)))) (∃n j w,(PCon UY 111 [.s t,I r] fun(v:V)=>v=.tup [.i .u8 n,I j,I w])/\If (ltI j 0) (K .ret 81 [.s t,I r,Ud,S0,I (-1),I w,S d b e f,I j] h) (If (ltI (wW (r+j)) (↑t.length:Int)) (∃c,(0<=wW (r+j)/\t[(wW (r+j)).toNat]? =some c)/\If ((↑c.toNat:Int)==45) (∃u o x,(PCon UY 111 [.s t,I (wW (wW (r+j)+1))] fun(v:V)=>v=.tup [.i .u8 u,I o,I x])/\If (ltI o 0) (K .ret 81 [.s t,I (wW (r+j)),Ud,S0,I (-1),I x,S d b e f,I o] h) (If (ltI u n) (K .ret 81 [.s t,I (wW (r+j)),Ud,S0,I (-1),I (wW (wW (r+j)+o)),S d b e f,I o] h) (∃a l c k m,Zk UY h 57 57 (S d b e f) (J [.i .u8 n,.i .u8 u] 1 (some 1))=some (S a l c k,m)/\K .normal 81 [.s t,I (wW (wW (wW (r+j)+1)+o)),Ud,S0,Ud,Ud,S a l c k,I o] m))) (∃a l c k m,Zk UY h 57 57 (S d b e f) (J [.i .u8 n,.i .u8 n] 1 (some 1))=some (S a l c k,m)/\K .normal 81 [.s t,I (wW (r+j)),Ud,S0,Ud,Ud,S a l c k,I j] m)) (∃a l c k m,Zk UY h 57 57 (S d b e f) (J [.i .u8 n,.i .u8 n] 1 (some 1))=some (S a l c k,m)/\K .normal 81 [.s t,I (wW (r+j)),Ud,S0,Ud,Ud,S a l c k,I j] m)))) (∃n j w,(PCon UY 111 [.s t,I r] fun(v:V)=>v=.tup [.i .u8 n,I j,I w])/\If (ltI j 0) (K .ret 81 [.s t,I r,Ud,S0,I (-1),I w,S d b e f,I j] h) (If (ltI (wW (r+j)) (↑t.length:Int)) (∃c,(0<=wW (r+j)/\t[(wW (r+j)).toNat]? =some c)/\If ((↑c.toNat:Int)==45) (∃u o x,(PCon UY 111 [.s t,I (wW (wW (r+j)+1))] λv=>v=.tup [.i .u8 u,I o,I x])/\If (ltI o 0) (K .ret 81 [.s t,I (wW (r+j)),Ud,S0,I (-1),I x,S d b e f,I o] h) (If (ltI u n) (K .ret 81 [.s t,I (wW (r+j)),Ud,S0,I (-1),I (wW (wW (r+j)+o)),S d b e f,I o] h) (∃a l c k m,Zk UY h 57 57 (S d b e f) (J [.i .u8 n,.i .u8 u] 1 (some 1))=some (S a l c k,m)/\K .normal 81 [.s t,I (wW (wW (wW (r+j)+1)+o)),Ud,S0,Ud,Ud,S a l c k,I o] m))) (∃a l c k m,Zk UY h 57 57 (S d b e f) (J [.i .u8 n,.i .u8 n] 1 (some 1))=some (S a l c k,m)/\K .normal 81 [.s t,I (wW (r+j)),Ud,S0,Ud,Ud,S a l c k,I j] m)) (∃a l c k m,Zk UY h 57 57 (S d b e f) (J [.i .u8 n,.i .u8 n] 1 (some 1))=some (S a l c k,m)/\K .normal 81 [.s t,I (wW (r+j)),Ud,S0,Ud,Ud,S a l c k,I j] m)))):=kr
theorem ZIf(d:List UInt8)(a:Int)(h)(K:KT):(Zc UY (UY.loc 111) 100 ((flat (Za Tryz.f111))) ⟨(.s d::I a::List.replicate 40 .undef),[],h⟩ (VQ [4,5,6] K))=(If (leI (↑d.length:Int) a) (K .ret 42 [.i .u8 0,I (-1),I a] h) (∃c,(0<=a/\d[a.toNat]? =some c)/\If ((↑c.toNat:Int)==93) (K .ret 42 [.i .u8 0,I (-1),I a] h) (∃c,(0<=a/\d[a.toNat]? =some c)/\If ((↑c.toNat:Int)==45) (K .ret 42 [.i .u8 0,I (-1),I a] h) (∃c,(0<=a/\d[a.toNat]? =some c)/\If ((↑c.toNat:Int) !=92) (∃c,(0<=a/\d[a.toNat]? =some c)/\K .ret 42 [.i .u8 (↑c.toNat:Int),I 1,I 0] h) (If (leI (↑d.length:Int) (wW (a+1))) (K .ret 42 [.i .u8 0,I (-1),I (wW (a+1))] h) (∃c,(0<=wW (a+1)/\d[(wW (a+1)).toNat]? =some c)/\K .ret 42 [.i .u8 (↑c.toNat:Int),I 2,I 0] h)))))):=kr
theorem Ju(c d:UInt8):(((c.toNat:Nat):Int)==((d.toNat:Nat):Int))=decide (c=d):=by rw[Zuo];rfl
theorem Zjd{Y}{fn}{a:List Nat}{o:Out}{n:Nat}{vs}{h}{v1 c d r1 f e R:V}(j:o= .normal\/o= .ret)(l:resV Y fn (a.zip vs)=some (.tup [v1,c,d]))(k:Frz h v1 r1)(m:Frz h c f)(g:Frz h d e)(hr: .tup [r1,f,e]=R):
  Fin Y fn a (λv h=> ∃r,Frz h v r/\r=R) o n vs h:=⟨j,_,l,_, .tup _ _ (.cons _ _ _ _ k (.cons _ _ _ _ m (.cons _ _ _ _ g .nil))),hr⟩
theorem Zje{h}{a}{l:Nat}{c}{k:Nat}{d:List Span}(x:Span)(r:Lst encS 2 h a l c k d)(t:d.length<2 ^ 29):
  ∃f m o n g,Zk UY h 57 57 (.sl a l c k) (.ts (encS x) 1 (some 1))=some (.sl f m o n,g)/\Lst encS 2 g f m o n (d++ [x])/\Fr h a g/\ ∃j,f=some (j,0)/\h.nx<=j:=
 Lst.app1 (Y:=UY) (e:=155) (te:=⟨2,2, .struct [(0,5),(1,5)],[.i .u8 0, .i .u8 0]⟩) x kr kr rfl dc r (Xc _ rfl) rfl rfl rfl dc t
def Zal(s:List UInt8)(i:Nat):V:=match endS s i with
 | .error e=> .tup [.i .u8 0, .i .i64 (-1), .i .i64 (e:Nat)]
 | .ok (c,j)=> .tup [.i .u8 c, .i .i64 (j-i:Nat), .i .i64 0]
theorem Zlh(s:List UInt8)(i:Nat)(o:s.length<2 ^ 30)(t:i<2 ^ 30):PCon UY 111 [.s s,I i] (· =Zal s i):=by
 refine ZG UK (fn:=Tryz.f111) rfl (ZE UK (loc:=UY.loc 111) 100 [4,5,6] ?_);rw[show(⟨[.s s,I i]++List.replicate (Tryz.f111.ntmps- [V.s s,I i].length) .undef,[], .empty⟩:St)=⟨.s s:: I i::List.replicate 40 .undef,[], .empty⟩ by rfl,ZIf];unfold Zal;have f: ∀(a b c:Int) (R:V), .tup [.i .u8 a,I b,I c]=R->Fin UY Tryz.f111 [4,5,6] (λv h=> ∃r,Frz h v r/\r=R) .ret 42 [.i .u8 a,I b,I c] .empty:=λa b c R m=>
  Zjd rr rfl (.i _ _) (.i _ _) (.i _ _) m
 refine JT (λg=>f _ _ _ _ ?_) (λl=> ?_)
 .have:s[i]? =none:=qq om;simp[endS,this]
 have e:i<s.length:=om;have d:s[i]? =some s[i]:=by simp[e]
 have get:(0:Int)<=(i:Nat)/\s[(i:Int).toNat]? =some s[i]:=⟨om,by simp[e]⟩;rw[show(93:Int)=(((93:UInt8).toNat:Nat):Int) from dc,show(45:Int)=(((45:UInt8).toNat:Nat):Int) from dc];refine⟨_,get,?_⟩;rw[Ju];refine WT (λc1=>f _ _ _ _ ?_) (λc1=>⟨_,get,?_⟩)
 .unfold endS;rw[d];simp only[];rw[uF (.inl c1)]
 rw[Ju];refine WT (λc2=>f _ _ _ _ ?_) (λc2=>⟨_,get,?_⟩)
 .unfold endS;rw[d];simp only[];rw[uF (.inr c2)]
 have j: ¬(s[i]=93\/s[i]=45):=by simp[c1,c2]
 have k:((s[i].toNat:Int) !=92)= !decide (s[i]=92):=by
  rw[show(92:Int)=(((92:UInt8).toNat:Nat):Int) from dc];show(!((s[i].toNat:Int)==(((92:UInt8).toNat:Nat):Int)))=_;rw[Ju]
 rw[k];refine Zf (λc3=>⟨_,get,f _ _ _ _ ?_⟩) (λc3=> ?_)
 .have c3:s[i]≠92:=by simpa using c3
  unfold endS;rw[d];simp only[];rw[uE j,uE c3];simp
 .have c3:s[i]=92:=by simpa using c3
  rw[Ze om];refine JT (λg=>f _ _ _ _ ?_) (λl=> ?_)
  .have:s[i+1]? =none:=qq om;unfold endS;rw[d];simp only[];rw[uE j,uF c3,this]
  .have n:i+1<s.length:=om;have:s[i+1]? =some s[i+1]:=by simp[n]
   refine⟨_,⟨om,by rw[show(((i+1:Nat):Int)).toNat=i+1 from om];exact this⟩,f _ _ _ _ ?_⟩;unfold endS;rw[d];simp only[];rw[uE j,uF c3,this];simp
def Zu5(r:Except Nat (List Span×Nat)):V:=match r with
 | .error e=> .tup [lst encS [], .i .i64 (-1), .i .i64 (e:Nat)]
 | .ok (l,j)=> .tup [lst encS l, .i .i64 (j:Nat), .i .i64 0]
def ZBz(s:List UInt8)(R:Except Nat (List Span×Nat))(m:Nat)(f:List V)(h:Heap):Prop:=
 ∃(i:Nat) (d:List Span) (a:Option (Nat×Nat)) (l:Nat) (c:Option Nat) (k:Nat) (e:V),f= [.s s, .i .i64 (i:Nat), .undef, .sl none 0 (some 0) 0, .sl a l c k,e]/\Lst encS 2 h a l c k d/\
  i<=s.length/\d.length<=i/\s.length-i<m/\setS m s i d=R
theorem Zli(s:List UInt8)(i:Nat)(hs:s.length<2 ^ 28)(hi:i<=s.length):PCon UY 62 [.s s,I i] (· =Zu5 (setS (s.length+1) s i [])):=by
  refine ZG UK (fn:=Tryz.f62) rfl ?_;refine Xg UK (n:=81) (loc:=UY.loc 62) 100 [0,1,3,4,7,9] kr ?_;rw[show(⟨[.s s,I i]++List.replicate (Tryz.f62.ntmps- [V.s s,I i].length) .undef,[], .empty⟩:St)=⟨.s s:: I i::List.replicate 79 .undef,[], .empty⟩ by rfl,ZOy];generalize hR:setS (s.length+1) s i []=R;refine⟨rfl,Zfa [0,1,3,4,7,9] [0,1,3,4,5,6,7,9] (ZBz s R) (s.length+1) ZA ⟨i,[],none,0,some 0,0, .undef,rfl,Lst.nil _ _ _ _ _,hi,sm,om,hR⟩ ?_⟩;rintro m vs h ⟨i,W,a,l,c,k,v9,rfl,hL,hi,b3,hm,t⟩;refine ZR UK (loc:=UY.loc 62) 100 [0,1,3,4,5,6,7,9] ?_;rw[ZOz];obtain⟨m,rfl⟩: ∃m',m=m'+1:=⟨m-1,om⟩;have b0:=hL.len;generalize hK:Zhe 81 [0,1,3,4,5,6,7,9] [0,1,3,4,7,9] (ZBz s R) (m+1) (Xd (post (flat (Za Tryz.f62)))) (FinS UY Tryz.f62 λv h=> ∃r,Frz h v r/\r=Zu5 R)=K;have stop: ∀(v1 v3:V) (a:Option (Nat×Nat)) (l:Nat) (c:Option Nat) (k:Nat) (x:Int) (y:Int) (w4 w9:V) (h:Heap) (r:V),Frz h (.sl a l c k) r-> .tup [r,I x,I y]=Zu5 R->K .ret 81 [.s s,v1,v3, .sl a l c k,I x,I y,w4,w9] h:=by
    intro v1 v3 a l c k x y w4 w9 h r N h2;subst hK;exact ZZ rr rfl ⟨_, .tup _ _ (.cons _ _ _ _ N (.cons _ _ _ _ (.i _ _) (.cons _ _ _ _ (.i _ _) .nil))),h2⟩
  have b2: ∀(j:Nat),j<=s.length->wW ((i:Int)+((j-i:Nat):Int))=(i:Int)+((j-i:Nat):Int):=λj hj=>ZI om om;have G: ¬(W≠ []/\s[i]? =some 93)-> ∃n d a5:Int,(PCon UY 111 [.s s,I i] λv=>v= .tup [.i .u8 n,I d,I a5])/\
      If (ltI d 0) (K .ret 81 [.s s,I i, .undef, .sl none 0 (some 0) 0,I (-1),I a5, .sl a l c k,I d] h)
        (If (ltI (wW ((i:Nat)+d)) (s.length:Nat)) (∃a3:UInt8,(0<=wW ((i:Nat)+d)/\s[(wW ((i:Nat)+d)).toNat]? =some a3)/\If ((a3.toNat:Int)==45)
          (∃Z o a6:Int,(PCon UY 111 [.s s,I (wW (wW ((i:Nat)+d)+1))] λv=>v= .tup [.i .u8 Z,I o,I a6])/\
            If (ltI o 0) (K .ret 81 [.s s,I (wW ((i:Nat)+d)), .undef, .sl none 0 (some 0) 0,I (-1),I a6, .sl a l c k,I o] h)
              (If (ltI Z n) (K .ret 81 [.s s,I (wW ((i:Nat)+d)), .undef, .sl none 0 (some 0) 0,I (-1),I (wW (wW ((i:Nat)+d)+o)), .sl a l c k,I o] h)
                (∃(z:Option (Nat×Nat)) (w:Nat) (B:Option Nat) (A:Nat) (g:Heap),Zk UY h 57 57 (.sl a l c k) (.ts [.i .u8 n, .i .u8 Z] 1 (some 1))=some (.sl z w B A,g)/\
                  K .normal 81 [.s s,I (wW (wW (wW ((i:Nat)+d)+1)+o)), .undef, .sl none 0 (some 0) 0, .undef, .undef, .sl z w B A,I o] g)))
          (∃(z:Option (Nat×Nat)) (w:Nat) (B:Option Nat) (A:Nat) (g:Heap),Zk UY h 57 57 (.sl a l c k) (.ts [.i .u8 n, .i .u8 n] 1 (some 1))=some (.sl z w B A,g)/\
            K .normal 81 [.s s,I (wW ((i:Nat)+d)), .undef, .sl none 0 (some 0) 0, .undef, .undef, .sl z w B A,I d] g))
          (∃(z:Option (Nat×Nat)) (w:Nat) (B:Option Nat) (A:Nat) (g:Heap),Zk UY h 57 57 (.sl a l c k) (.ts [.i .u8 n, .i .u8 n] 1 (some 1))=some (.sl z w B A,g)/\
            K .normal 81 [.s s,I (wW ((i:Nat)+d)), .undef, .sl none 0 (some 0) 0, .undef, .undef, .sl z w B A,I d] g)):=by
    intro hn;simp only[setS,hn,vF]at t;have hc:=Zlh s i om om;have E: ∀h:Heap,Frz h (.sl none 0 (some 0) 0) (lst encS []):=λh=>Js encS h _ _;have more: ∀(x:Span) (j:Nat) (w9:V),i<j->j<=s.length->setS m s j (W++ [x])=R-> ∃(z:Option (Nat×Nat)) (w:Nat) (B:Option Nat) (A:Nat) (g:Heap),Zk UY h 57 57 (.sl a l c k) (.ts [.i .u8 x.lo, .i .u8 x.hi] 1 (some 1))=some (.sl z w B A,g)/\
            K .normal 81 [.s s,I (j:Nat), .undef, .sl none 0 (some 0) 0, .undef, .undef, .sl z w B A,w9] g:=by
      intro x j w9 N h2 h3;obtain⟨z,w,B,A,h',q1,q2,_⟩:=Zje x hL om;refine⟨z,w,B,A,h',q1,?_⟩;subst hK;exact⟨rfl,m,om,j,W++ [x],z,w,B,A,w9,rfl,q2,h2,by simp;omega,om,h3⟩
    cases F:endS s i with
    |error e=>
      have f:XS s i= .error e:=by simp only[XS,F]
      rw[f]at t;have hr:Zal s i= .tup [.i .u8 0,I (-1),I e]:=by simp only[Zal,F]
      rw[hr]at hc;refine⟨_,_,_,hc,Xr (λ_=>stop _ _ _ _ _ _ _ _ _ _ _ _ (E _) ?_) (λh=>om)⟩;subst t;rfl
    |ok y=>
      obtain⟨C,j⟩:=y;have hj:=Vl F;have hr:Zal s i= .tup [.i .u8 C,I (j-i:Nat),I 0]:=by simp only[Zal,F]
      rw[hr]at hc;have b1:wW ((i:Int)+((j-i:Nat):Int))=(j:Nat):=by rw[ZI om om];omega
      refine⟨C,((j-i:Nat):Int),0,hc,Xr (λh=>om) (λ_=> ?_)⟩;rw[b1];refine Zq (λa1=> ?_) (λa9=> ?_)
      · refine⟨s[j],⟨om,by simp[a1]⟩,?_⟩
        rw[show(45:Int)=(((45:UInt8).toNat:Nat):Int) from dc,Ju];refine WT (λa2=> ?_) (λa2=> ?_)
        · have u:s[j]? =some 45:=by rw[<-a2];simp[a1]
          have O:=Zlh s (j+1) om om;rw[Ze om]
          cases D:endS s (j+1) with
          |error e=>
            have f:XS s i= .error e:=by simp only[XS,F,u,vG,D]
            rw[f]at t;have a0:Zal s (j+1)= .tup [.i .u8 0,I (-1),I e]:=by simp only[Zal,D]
            rw[a0]at O;refine⟨_,_,_,O,Xr (λ_=>stop _ _ _ _ _ _ _ _ _ _ _ _ (E _) ?_) (λh=>om)⟩;subst t;rfl
          |ok y=>
            obtain⟨H,P⟩:=y;have hk:=Vl D;have a0:Zal s (j+1)= .tup [.i .u8 H,I (P-(j+1):Nat),I 0]:=by simp only[Zal,D]
            rw[a0]at O;refine⟨H,((P-(j+1):Nat):Int),0,O,Xr (λh=>om) (λ_=>Xr (λL=> ?_) (λa4=> ?_))⟩
            · have f:XS s i= .error (P-1):=by simp only[XS,F,u,vG,D,L]
              rw[f]at t;rw[show wW (((j:Nat):Int)+((P-(j+1):Nat):Int))=((P-1:Nat):Int) by rw[ZI om om];omega];refine stop _ _ _ _ _ _ _ _ _ _ _ _ (E _) ?_;subst t;rfl
            · have hn: ¬H<C:=om
              have f:XS s i= .ok (⟨C,H⟩,P):=by simp only[XS,F,u,vG,D,hn,vF]
              rw[f]at t;rw[show wW (((j+1:Nat):Int)+((P-(j+1):Nat):Int))=(P:Int) by rw[ZI om om];omega];exact more ⟨C,H⟩ P _ om om t
        · have u: ¬s[j]? =some 45:=by simp[a1,a2]
          have f:XS s i= .ok (⟨C,C⟩,j):=by simp only[XS,F,u,vF]
          rw[f]at t;exact more ⟨C,C⟩ j _ om om t
      · have u: ¬s[j]? =some 45:=by rw[qq a9];simp
        have f:XS s i= .ok (⟨C,C⟩,j):=by simp only[XS,F,u,vF]
        rw[f]at t;exact more ⟨C,C⟩ j _ om om t
  refine VM (λhp=> ?_) (λhz=>G ?_)
  · have a7:W≠ []:=by intro F;subst F;rw[b0]at hp;simp at hp
    refine Zq (λL=> ?_) (λa4=>G ?_)
    · refine⟨s[i],⟨om,by simp[L]⟩,?_⟩
      rw[show(93:Int)=(((93:UInt8).toNat:Nat):Int) from dc,Ju];refine WT (λX=> ?_) (λX=>G ?_)
      · have a8:s[i]? =some 93:=by rw[<-X];simp[L]
        simp only[setS,a7,a8,ne_eq,not_false_eq_true,and_self,vG]at t;rw[Ze om];refine stop _ _ _ _ _ _ _ _ _ _ _ _ (hL.frz dc VO) ?_;subst t;rfl
      · rintro⟨_,N⟩;simp[L]at N;exact X N
    · rintro⟨_,N⟩;rw[qq a4]at N;cases N
  · rintro⟨N,_⟩
    exact N (qg om)
theorem ZIg{a c b1 h}(K):CP UY 103 (pre (flat (Za Tryz.f103))) (J a c none::.b b1::Rp 53) h [0,1,4,5,6] K=(K .normal 55 [J a c none, .b b1, .lb [U 0,U 0,U 0,U 0], .p (some (h.nx,0)),I 0] (h.pushT (UY.tag (25:Nat)) (YObj.arr [U 0,U 0,U 0,U 0] true))):=kr
theorem ZIh{a n0 b1 c x6 h}(K):CP UY 103 (pre (flat (Zx (post (flat (Za Tryz.f103)))))) (MZ 55 [0,1,4,5,6] [J a n0 none,.b b1,.lb [U 0,U 0,U 0,U 0],.p (some (c,0)),I x6]) h [0,1,4,5,6,10] K=(If (ltI x6 256) (K .normal 55 [J a n0 none, .b b1, .lb [U 0,U 0,U 0,U 0], .p (some (c,0)),I x6, .b true] h) (K (.exit 0) 55 [J a n0 none, .b b1, .lb [U 0,U 0,U 0,U 0], .p (some (c,0)),I x6, .b false] h)):=kr
theorem ZIi{a n0 b1 c x6 h}(K):CP UY 103 (pre (flat (ZL (post (flat (Zx (post (flat (Za Tryz.f103))))))))) (MZ 55 [0,1,4,5,6,10] [J a n0 none,.b b1,.lb [U 0,U 0,U 0,U 0],.p (some (c,0)),I x6,.b true]) h [0,1,4,5,6,7,8,10] K=(K .normal 55 [J a n0 none, .b b1, .lb [U 0,U 0,U 0,U 0], .p (some (c,0)),I x6, .b false,I 0, .b true] h):=kr
theorem ZIj{c n0 b1 d x6 e a h}(K):CP UY 103 (flat (Zx (post (flat (ZL (post (flat (Zx (post (flat (Za Tryz.f103))))))))))) (MZ 55 [0,1,4,5,6,7,8,10] [J c n0 none,.b b1,.lb [U 0,U 0,U 0,U 0],.p (some (d,0)),I x6,.b e,I a,.b true]) h [0,1,4,5,6,7,8,10] K=(If (ltI a n0) (If e (K .normal 55 [J c n0 none, .b b1, .lb [U 0,U 0,U 0,U 0], .p (some (d,0)),I x6, .b true,I (wW (a+(1:Int))), .b true] h) ((0<=a/\a<n0)/\ ∃f,Zr 1 (List.drop 0 (List.drop (a.toNat*2) c))=some [.i .u8 f]/\If (leI (wW f) x6) ((0<=a/\a<n0)/\ ∃g,Zr 1 (List.drop 1 (List.drop (a.toNat*2) c))=some [.i .u8 g]/\K .normal 55 [J c n0 none, .b b1, .lb [U 0,U 0,U 0,U 0], .p (some (d,0)),I x6, .b (leI x6 (wW g)),I (wW (a+(1:Int))), .b true] h) (K .normal 55 [J c n0 none, .b b1, .lb [U 0,U 0,U 0,U 0], .p (some (d,0)),I x6, .b false,I (wW (a+(1:Int))), .b true] h))) (K (.exit 2) 55 [J c n0 none, .b b1, .lb [U 0,U 0,U 0,U 0], .p (some (d,0)),I x6, .b e,I a, .b true] h)):=kr
theorem ZIk{c n0 b1 a x6 d h}(K):CP UY 103 ((post (flat (ZL (post (flat (Zx (post (flat (Za Tryz.f103))))))))).drop 1) (MZ 55 [0,1,4,5,6,7] [J c n0 none,.b b1,.lb [U 0,U 0,U 0,U 0],.p (some (a,0)),I x6,.b d]) h [0,1,4,5,6] K=(If (!d==b1) (((64:Int)=(0:Int)->False)/\((64:Int)=(0:Int)->False)/\((0:Int)<=wW (x6.tdiv (64:Int))/\wW (x6.tdiv (64:Int))<(↑(4:Nat):Int))/\ ∃e,Zb h a ((0:Nat)+(wW (x6.tdiv (64:Int))).toNat*1) 1=some [U e]/\((64:Int)=(0:Int)->False)/\(0:Int)<=x6.tmod (64:Int)/\((0:Int)<=wW (x6.tdiv (64:Int))/\wW (x6.tdiv (64:Int))<(↑(4:Nat):Int))/\ ∃f,Zi h a ((0:Nat)+(wW (x6.tdiv (64:Int))).toNat*1) [U (IntKind.u64.wrap (↑(BitVec.ofInt IntKind.u64.bits e|||BitVec.ofInt IntKind.u64.bits (IntKind.u64.wrap ((1:Int)*(2:Int) ^ min (x6.tmod (64:Int)).toNat IntKind.u64.bits))).toNat:Int))]=some f/\K .normal 55 [J c n0 none, .b b1, .lb [U 0,U 0,U 0,U 0], .p (some (a,0)),I x6] f) (K .normal 55 [J c n0 none, .b b1, .lb [U 0,U 0,U 0,U 0], .p (some (a,0)),I x6] h)):=kr
theorem ZIl{a n0 b1 c x6 h}(K):CP UY 103 ((post (flat (Zx (post (flat (Za Tryz.f103)))))).drop 1) (MZ 55 [0,1,4,5,6] [J a n0 none,.b b1,.lb [U 0,U 0,U 0,U 0],.p (some (c,0)),I x6]) h [0,1,4,5,6] K=(K .normal 55 [J a n0 none, .b b1, .lb [U 0,U 0,U 0,U 0], .p (some (c,0)),I (wW (x6+(1:Int)))] h):=kr
theorem ZIm{a h}(K):CP UY 103 ((post (flat (Za Tryz.f103))).drop 1) (MZ 55 [4,5] [.lb [U 0,U 0,U 0,U 0],.p (some (a,0))]) h [4] K=(∃b c d e,Zb h a 0 4=some [U b,U c,U d,U e]/\K .ret 55 [.lb [U b,U c,U d,U e]] h):=kr
theorem ZO0{x0 h}(K):CP UY 96 (flat (Za Tryz.f96)) (.i .u8 x0::Rp 10) h [2] K=(((64:Int)=(0:Int)->False)/\((64:Int)=(0:Int)->False)/\(0:Int)<=x0.tmod (64:Int)/\((0:Int)<=IntKind.u8.wrap (x0.tdiv (64:Int))/\IntKind.u8.wrap (x0.tdiv (64:Int))<(↑(4:Nat):Int))/\ ∃a,Zi (h.pushT (UY.tag (25:Nat)) (YObj.arr [U 0,U 0,U 0,U 0] true)) h.nx ((0:Nat)+(IntKind.u8.wrap (x0.tdiv (64:Int))).toNat*1) [U (IntKind.u64.wrap ((1:Int)*(2:Int) ^ min (x0.tmod (64:Int)).toNat IntKind.u64.bits))]=some a/\ ∃b c d e,Zb a h.nx 0 4=some [U b,U c,U d,U e]/\K .ret 11 [.lb [U b,U c,U d,U e]] a):=kr
abbrev setC(s:S4):List V:= [U s.1,U s.2.1,U s.2.2.1,U s.2.2.2]
theorem Zfk{n:Nat}(h:n<256):IntKind.u8.wrap (n:Int)=(n:Int):=by
 simp only[IntKind.wrap,IntKind.signed,IntKind.bits];have:((n:Int)) % 2 ^ 8=n:=om;simpa using this
theorem Zu6(c:Nat)(f:c<256):splice [U 0,U 0,U 0,U 0] (0+c / 64*1) [U ((2 ^ (c % 64):Nat):Int)]=setC (ZC λx=>x==c):=by
 have a: ∀k,Zr1 (λx=>x==c) k=if c / 64=k then((2 ^ (c % 64):Nat):Int)else 0:=by
  intro k;rw[Zbv];split
  .next e=>rw[Zk8 (b:=c % 64) (by simp;omega) om (λx d g=>by simp;omega)]
  .next e=>rw[VS (λx d=>by simp;omega)];rfl
 have:c / 64=0\/c / 64=1\/c / 64=2\/c / 64=3:=om;simp only[setC,ZC,a];rcases this with e|e|e|e<;>rw[e]<;>rfl
theorem Zu7(c:UInt8):PCon UY 96 [.i .u8 (c.toNat:Nat)] (· = .agg (setC (ZC λx=>x==c.toNat))):=by
 refine Zw UK (fn:=Tryz.f96) rfl ZO0 rfl ?_;have e:c.toNat<256:=c.toNat_lt;generalize c.toNat=c at e;have g:IntKind.u8.wrap (Int.tdiv (c:Int) 64)=((c / 64:Nat):Int):=by rw[Zuw,Zfk om]
 have f:(Int.tmod (c:Int) 64).toNat=c % 64:=by rw[Zhf];rfl
 have h:IntKind.u64.wrap (1*2 ^ min (Int.tmod (c:Int) 64).toNat IntKind.u64.bits)=((2 ^ (c % 64):Nat):Int):=by rw[f,Znu om]
 rw[g,h,Zhf];have d:=Zu6 c e;generalize (2 ^ (c % 64):Nat)=y at d;have a:Zi ((Heap.empty).pushT (UY.tag 25) (.arr [U 0,U 0,U 0,U 0] true)) Heap.empty.nx (0+(((c / 64:Nat):Int)).toNat*1) [U (y:Nat)]=some ((((Heap.empty).pushT (UY.tag 25) (.arr [U 0,U 0,U 0,U 0] true))).set Heap.empty.nx (some (.arr (setC (ZC λx=>x==c)) true))):=by
  rw[<-d];simp only[Zi,qj,vG];rw[qdq,uF (by simp;omega)]
 refine⟨om,om,om,⟨om,om⟩,_,a,_,_,_,_,(Zs (by rw[qc,uF rfl]) 0 4).trans rfl,ZB rr rfl (.agg _ _ (.cons _ _ _ _ (.i _ _) (.cons _ _ _ _ (.i _ _) (.cons _ _ _ _ (.i _ _) (.cons _ _ _ _ (.i _ _) .nil))))) rfl⟩
def ofP(l:List Span)(a:Bool)(c:Nat):Bool:=ZQ l c !=a
structure OfW(h:Heap)(id:Nat)(p:Nat->Bool)(c:Nat):Prop where
 get:h.get id=some (.arr (QD p c) true)
theorem Zu8(l:List Span){i:Nat}(h:i<l.length):Zr 1 (List.drop 0 (List.drop ((i:Int).toNat*2) (row encS l)))=some [.i .u8 l[i].lo]/\Zr 1 (List.drop 1 (List.drop ((i:Int).toNat*2) (row encS l)))=some [.i .u8 l[i].hi]:=by
 rw[qdq,VN (f:=encS) (k:=2) VO l h];exact⟨rfl,rfl⟩
theorem ZB0(l:List Span)(a:Bool)(O:l.length<2 ^ 40)(D: ∀x∈l,(0<=x.lo/\x.lo<256)/\(0<=x.hi/\x.hi<256)):PCon UY 103 [lst encS l, .b a] (· = .agg (setC (ZC (ofP l a)))):=by
 refine ZG UK (fn:=Tryz.f103) rfl ?_;refine Zh UK 55 ZIg rfl ?_;refine⟨rfl,ZN [0,1,4,5,6] [0,1,4,5,6] (λm j h=> ∃c:Nat,j= [lst encS l, .b a, .lb [U 0,U 0,U 0,U 0], .p (some (Heap.empty.nx,0)),I (c:Nat)]/\c<=256/\m=256-c/\OfW h Heap.empty.nx (ofP l a) c) 256 ZA ⟨0,rfl,om,om,⟨by rw[qj,uF rfl];rfl⟩⟩ ?_⟩;rintro m j h ⟨c,rfl,K,rfl,k⟩;refine Zh UK 55 ZIh rfl ?_;refine Xr (λf=>⟨rfl,QZ (n:=55) [0,1,4,5,6] kr ?_⟩) (λE=> ?_)
 .have f:c<256:=om;refine Zh UK 55 ZIi rfl ?_;refine⟨rfl,ZN [0,1,4,5,6,7,8,10] [0,1,4,5,6,7,8,10] (λm j u=> ∃i:Nat,j= [lst encS l, .b a, .lb [U 0,U 0,U 0,U 0], .p (some (Heap.empty.nx,0)),I (c:Nat), .b (ZQ (l.take i) c),I (i:Nat), .b true]/\i<=l.length/\m=l.length-i/\u=h) l.length ZA ⟨0,rfl,om,om,rfl⟩ ?_⟩;rintro m j u ⟨i,rfl,P,rfl,rfl⟩;refine Zn UK ZIj rfl ?_;refine Zq (λd=> ?_) (λF=> ?_)
  .have L:=D l[i] (qe d);have t:ZQ (l.take (i+1)) c=(ZQ (l.take i) c||(decide (l[i].lo<=(c:Int))&&decide ((c:Int)<=l[i].hi))):=by
    simp only[ZQ];rw[qa d,uj];simp
   have G:wW l[i].lo=l[i].lo:=ZI om om;have C:wW l[i].hi=l[i].hi:=ZI om om;refine Zf (λo=> ?_) (λo=>⟨Zu d,l[i].lo,(Zu8 l d).1,?_⟩)
   .exact⟨rfl,l.length-(i+1),om,i+1,by rw[Ze om,t,o];rfl,om,rfl,rfl⟩
   rw[G];refine JT (λB=>⟨Zu d,l[i].hi,(Zu8 l d).2,?_⟩) (λB=> ?_)
   .rw[C];refine⟨rfl,l.length-(i+1),om,i+1,?_,om,rfl,rfl⟩;rw[Ze om,t,o];have e:leI (c:Int) l[i].hi=(false||(decide (l[i].lo<=(c:Int))&&decide ((c:Int)<=l[i].hi))):=by rw[uN B];rfl
    rw[e];rfl
   .refine⟨rfl,l.length-(i+1),om,i+1,?_,om,rfl,rfl⟩;rw[Ze om,t,o,uK (show¬l[i].lo<=(c:Int) from om)];rfl
  .have y:i=l.length:=om;subst y;rw[qm];refine Zj [0,1,4,5,6,7] ?_;refine Zn UK ZIk rfl ?_;have next: ∀g,OfW g Heap.empty.nx (ofP l a) (c+1)-> ∀Q,Q=VQ [0,1,4,5,6] (XE UY 55 [0,1,4,5,6] [0,1,4,5,6] (λm j h=> ∃c:Nat,j= [lst encS l, .b a, .lb [U 0,U 0,U 0,U 0], .p (some (Heap.empty.nx,0)),I (c:Nat)]/\c<=256/\m=256-c/\OfW h Heap.empty.nx (ofP l a) c) (256-c) (Xd (post (flat (Za Tryz.f103)))) ((post (flat (Za Tryz.f103))).drop 1) (FinS UY Tryz.f103 λv h=> ∃r,Frz h v r/\r= .agg (setC (ZC (ofP l a)))))->
     TriL UY ((post (flat (Zx (post (flat (Za Tryz.f103)))))).drop 1) ⟨mk 55 (([0,1,4,5,6]:List Nat).zip [lst encS l, .b a, .lb [U 0,U 0,U 0,U 0], .p (some (Heap.empty.nx,0)),I (c:Nat)]),[],g⟩ Q:=by
    rintro g w Q rfl;refine Zn UK ZIl rfl ?_;exact⟨rfl,256-(c+1),om,c+1,by rw[Ze om];rfl,om,rfl,w⟩
   refine Zf (λhp=> ?_) (λhp=>⟨rfl,[0,1,4,5,6],rfl,next _ ⟨?_⟩ _ rfl⟩)
   .have hp:ofP l a c=true:=by unfold ofP;revert hp;cases ZQ l c<;>cases a<;>simp
    have H:wW (Int.tdiv (c:Int) 64)=((c / 64:Nat):Int):=by rw[Zuw,ZI om om]
    have N:(Int.tmod (c:Int) 64).toNat=c % 64:=by rw[Zhf];rfl
    rw[H,Zhf];have A:=WH (ofP l a) (c / 64) (c % 64);refine⟨om,om,⟨om,om⟩,_,(Zs k.get _ _).trans (Zux _ f),om,om,⟨om,om⟩,?_⟩;have z:=ZId A (show c % 64<64 from om);rw[qdq,qdq,z];refine⟨u.set Heap.empty.nx (some (.arr (QD (ofP l a) (c+1)) true)),?_,⟨rfl,[0,1,4,5,6],rfl,next _ ⟨by rw[qc,uF rfl]⟩ _ rfl⟩⟩;rw[<-Zuy _ f hp];simp only[Zi,k.get];rw[uF (by simp[QD];omega)]
   .have hp:ofP l a c=false:=by unfold ofP;revert hp;cases ZQ l c<;>cases a<;>simp
    rw[Zze _ f hp];exact k.get
 .have y:c=256:=om;subst y;refine ZU rfl (Zj [4,5] ?_);refine Zo UK ZIm rfl ?_;exact⟨_,_,_,_,(Zs k.get 0 4).trans rfl,ZB rr rfl (.agg _ _ (.cons _ _ _ _ (.i _ _) (.cons _ _ _ _ (.i _ _) (.cons _ _ _ _ (.i _ _) (.cons _ _ _ _ (.i _ _) .nil))))) rfl⟩
end Go.Y
