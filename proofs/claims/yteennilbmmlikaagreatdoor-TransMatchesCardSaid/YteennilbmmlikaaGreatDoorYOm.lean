/- A part of the proof. -/
import Derived.Still
import Derived.KernelRfl
import Derived.Laws.Sem
namespace Go.Y
set_option maxRecDepth 1000000
set_option maxHeartbeats 0
theorem om{p:Prop}(h:p:=by omega):p:=h
theorem kr{p:Prop}(h:p:=by kernel_rfl):p:=h
theorem dc{p:Prop}(h:p:=by decide):p:=h
theorem sm{p:Prop}(h:p:=by simp):p:=h
theorem uA:type_of% @Result.andThen_ok:=@Result.andThen_ok
theorem uB:type_of% @Option.some.injEq:=@Option.some.injEq
theorem uC:type_of% @Sem.run_bind:=@Sem.run_bind
theorem uD:type_of% @Sem.run_pure:=@Sem.run_pure
theorem uE:type_of% @if_neg:=@if_neg
theorem uF:type_of% @if_pos:=@if_pos
theorem uG:type_of% @Option.map_eq_some_iff:=@Option.map_eq_some_iff
theorem uH:type_of% @Bool.and_eq_true:=@Bool.and_eq_true
theorem uI:type_of% @Bool.false_eq_true:=@Bool.false_eq_true
theorem uJ:type_of% @Nat.zero_add:=@Nat.zero_add
theorem uK:type_of% @decide_eq_false:=@decide_eq_false
theorem uL:type_of% @Prod.mk.injEq:=@Prod.mk.injEq
theorem uM:type_of% @List.drop_eq_getElem_cons:=@List.drop_eq_getElem_cons
theorem uN:type_of% @decide_eq_true:=@decide_eq_true
theorem uO:type_of% @List.length_take:=@List.length_take
theorem uP:type_of% @List.all_eq_true:=@List.all_eq_true
theorem uQ:type_of% @List.take_zero:=@List.take_zero
theorem uR:type_of% @List.foldl_cons:=@List.foldl_cons
theorem uS:type_of% @Bool.or_eq_true:=@Bool.or_eq_true
theorem uT:type_of% @Bool.true_and:=@Bool.true_and
theorem uU:type_of% @List.append_assoc:=@List.append_assoc
theorem uV:type_of% @List.map_append:=@List.map_append
theorem uW:type_of% @List.mem_map:=@List.mem_map
theorem uX:type_of% @Nat.add_assoc:=@Nat.add_assoc
theorem uY:type_of% @Nat.mul_one:=@Nat.mul_one
theorem uZ:type_of% @List.replicate_succ:=@List.replicate_succ
theorem ug:type_of% @List.flatMap_append:=@List.flatMap_append
theorem uj:type_of% @List.any_append:=@List.any_append
theorem uk:type_of% @Bool.or_eq_false_iff:=@Bool.or_eq_false_iff
theorem uq:type_of% @Option.getD_some:=@Option.getD_some
theorem ur:type_of% @Nat.add_mul:=@Nat.add_mul
theorem uu:type_of% @Nat.le_trans:=@Nat.le_trans
theorem uv:type_of% @List.mem_cons_of_mem:=@List.mem_cons_of_mem
theorem uw:type_of% @Option.map_some:=@Option.map_some
theorem uz:type_of% @List.getElem?_drop:=@List.getElem?_drop
theorem vA:type_of% @List.ext_getElem?:=@List.ext_getElem?
theorem vB:type_of% @List.getElem?_append_right:=@List.getElem?_append_right
theorem vC:type_of% @List.getElem?_append_left:=@List.getElem?_append_left
theorem vD:type_of% @List.length_drop:=@List.length_drop
theorem vE:type_of% @List.mem_singleton:=@List.mem_singleton
theorem vF:type_of% @if_false:=@if_false
theorem vG:type_of% @if_true:=@if_true
theorem vH:type_of% @List.drop_drop:=@List.drop_drop
theorem vI:type_of% @List.length_set:=@List.length_set
theorem vJ:type_of% @decide_eq_true_eq:=@decide_eq_true_eq
theorem vK:type_of% @Nat.sub_self:=@Nat.sub_self
theorem vL:type_of% @List.take_append_drop:=@List.take_append_drop
theorem vM:type_of% @beq_iff_eq:=@beq_iff_eq
inductive V where
 |undef
 |b (x:Bool)
 |i (k:IntKind) (n:Int)
 |s (l:List UInt8)
 |p (a:Option (Nat×Nat))
 |tp (cs:List V)
 |sl (a:Option (Nat×Nat)) (len:Nat) (cap:Option Nat) (k:Nat)
 |ts (cs:List V) (len:Nat) (cap:Option Nat)
 |mp (r:Option Nat)
 |fn (f:Fn) (first cap:List V)
 |nilfn
 |ifc (t:TypeId) (v:V)
 |nilifc
 |agg (cs:List V)
 |tup (vs:List V)
 |lb (cs:List V)
 |rf
 |yl (id:Nat)
 deriving Inhabited
def tabs:List (Nat×List V):= []
inductive Kd where
 |bool|int (k:IntKind)|str|slice (e:TypeId)|arr (n:Nat) (e:TypeId)|struct (fs:List (Nat×TypeId))
 |ptr (e:TypeId)|map (k e:TypeId)|func|iface|other
 deriving Inhabited
structure TI where
 size:Nat
 bytes:Nat
 kd:Kd
 zero:List V
 deriving Inhabited
def Kd.agg:Kd->Bool
 | .arr _ _| .struct _=>true
 |_=>false
structure YLp where
 st:LoopState
 pend:Option Code
 env:List V
 ps:Array Tmp
 assign:Code
 body:Code
 loc:Nat->Bool
inductive YObj where
 |arr (cs:List V) (wr:Bool)
 |map (es:List (V×V))
 |siter (l:List UInt8) (pos:Nat)
 |loop (L:YLp)
 deriving Inhabited
inductive Tr where
 |leaf
 |node (l:Tr) (x:Option (Option YObj)) (r:Tr)
 deriving Inhabited
def Tr.raw:Tr->Nat->Option (Option YObj)
 | .leaf,_=>none
 | .node l x r,n=>
  match n with
  |0=>x
  |m+1=>if(m+1) % 2=1 then l.raw ((m+1) / 2)else r.raw ((m+1) / 2-1)
def Tr.get(t:Tr)(n:Nat):Option YObj:=(t.raw n).join
def Tr.set:Nat->Tr->Nat->Option YObj->Tr
 |0,t,_,_=>t
 |f+1,t,n,o=>
  let (l,x,r):=match t with| .leaf=>(Tr.leaf,none,Tr.leaf)| .node l x r=>(l,x,r)
  match n with
  |0=> .node l (some o) r
  |m+1=>if(m+1) % 2=1 then .node (Tr.set f l ((m+1) / 2) o) x r else .node l x (Tr.set f r ((m+1) / 2-1) o)
structure Heap where
 t:Tr
 nx:Nat
 lo:Nat
 tg:List (Nat×TypeId)
 deriving Inhabited
def Heap.get(h:Heap)(i:Nat):Option YObj:=h.t.get i
def Heap.raw(h:Heap)(i:Nat):Option (Option YObj):=h.t.raw i
def Heap.set(h:Heap)(i:Nat)(o:Option YObj):Heap:= {h with t:=Tr.set (i+1) h.t i o,lo:=min h.lo i}
def Heap.push(h:Heap)(o:YObj):Heap:= {h with t:=Tr.set (h.nx+1) h.t h.nx (some o),nx:=h.nx+1}
def Heap.empty:Heap:=⟨.leaf,0,0,[]⟩
def Heap.tag(h:Heap)(i:Nat)(t:TypeId):Heap:= {h with tg:=(i,t)::h.tg}
def Heap.tagIf(h:Heap)(i:Nat)(t:Option TypeId):Heap:=match t with
 |some t=>h.tag i t
 |none=>h
def Heap.pushT(h:Heap)(t:Option TypeId)(o:YObj):Heap:=(h.push o).tagIf h.nx t
def Ztc:List (Nat×TypeId)->Nat->Option TypeId
 | [],_=>none
 |p::r,i=>if p.1=i then some p.2 else Ztc r i
def Heap.tagOf(h:Heap)(i:Nat):Option TypeId:=Ztc h.tg i
structure St where
 env:List V
 refs:List (Nat×Nat×Nat)
 h:Heap
 deriving Inhabited
structure YP where
 P:Program
 tys:List (Option TI)
 locs:List (List Nat)
 /-- How a function is called: 0: over memory; 1: what comes back may hold what is read-only; 2: it holds nothing. -/
 modes:List Nat
 /-- Types of objects whose lie in their block is kept in mind. -/
 tags:List TypeId
 /-- Functions without a body, by kind. -/
 ext:List (FuncId×Nat)
 /-- Types of which an object's cells hold what is read-only. -/
 hro:List TypeId
def YP.extOf(Y:YP)(f:FuncId):Option Nat:=Ztc Y.ext f
def YP.hr(Y:YP)(t:TypeId):Bool:=Y.hro.contains t
def YP.tag(Y:YP)(t:TypeId):Option TypeId:=if Y.tags.contains t then some t else none
def YP.ty(Y:YP)(t:TypeId):Option TI:=(Y.tys[t]?).join
def YP.loc(Y:YP)(f:FuncId)(t:Nat):Bool:=(Y.locs.getD f []).contains t
def YP.mode(Y:YP)(f:FuncId):Nat:=Y.modes.getD f 0
def YP.kd(Y:YP)(t:TypeId):Option Kd:=(Y.ty t).map TI.kd
def ofC:Value->V
 | .bool b=> .b b
 | .int k n=> .i k n
 | .string s=> .s s.data.toList
 | .pointer none=> .p none
 | .slice none 0 0=> .sl none 0 (some 0) 0
 | .map none=> .mp none
 | .nilFunc=> .nilfn
 | .nilIface=> .nilifc
 |_=> .undef
def V.plain:V->V
 | .lb _| .rf=> .undef
 |v=>v
def Zrg:List (Nat×List V)->Nat->Option (List V)
 | [],_=>none
 |p::r,i=>if p.1=i then some p.2 else Zrg r i
def ev(a:List V):Operand->V
 | .tmp t=>(a.getD t .undef).plain
 | .const v=>ofC v
 | .global g=>match Zrg tabs g with
  |some c=> .tp c
  |none=> .undef
 | .func f=> .fn (.func f) [] []
inductive Ad where
 |lb (slot off:Nat)
 |hp (id off:Nat)
 |ro (cs:List V)
def Ji:List (Nat×Nat×Nat)->Nat->Option (Nat×Nat)
 | [],_=>none
 |(d,s,o)::r,t=>if d=t then some (s,o)else Ji r t
def addr(a:St):Operand->Option Ad
 | .tmp t=>
  match a.env.getD t .undef with
  | .lb _=>some (.lb t 0)
  | .p (some (i,o))=>some (.hp i o)
  | .tp c=>some (.ro c)
  | .rf=>match Ji a.refs t with
   |some (s,o)=>match a.env.getD s .undef with
    | .lb _=>some (.lb s o)
    |_=>none
   |none=>none
  |_=>none
 | .global g=>(Zrg tabs g).map .ro
 |_=>none
def Zr:Nat->List V->Option (List V)
 |0,_=>some []
 |_+1,[]=>none
 |n+1,v::l=>(Zr n l).map (v:: ·)
def Xu(c:St)(n:Nat):Ad->Option (List V)
 | .lb s o=>match c.env.getD s .undef with
  | .lb a=>Zr n (a.drop o)
  |_=>none
 | .hp d o=>match c.h.get d with
  |some (.arr a _)=>Zr n (a.drop o)
  |_=>none
 | .ro a=>Zr n a
def Jj(agg:Bool)(a:List V):Option V:=
 if agg then some (.agg a)else match a with
  | [v]=>some v
  |_=>none
def V.cells:V->List V
 | .agg a=>a
 |v=> [v]
def V.cellOK:V->Bool
 | .undef| .agg _| .tup _| .lb _| .rf=>false
 |_=>true
def Zp:List V->Bool
 | []=>true
 |v::r=>v.cellOK&&Zp r
def splice{a:Type} :List a->Nat->List a->List a
 |l,0,new=>new++l.drop new.length
 | [],_+1,_=> []
 |v::l,n+1,new=>v::splice l n new
def storeAt(a:St)(new:List V):Ad->Option St
 | .lb s o=>match a.env.getD s .undef with
  | .lb c=>if o+new.length<=c.length then some {a with env:=a.env.set s (.lb (splice c o new))} else none
  |_=>none
 | .hp d o=>match a.h.get d with
  |some (.arr c true)=>if o+new.length<=c.length then some {a with h:=a.h.set d (some (.arr (splice c o new) true))} else none
  |_=>none
 | .ro _=>none
def Ad.shift(n:Nat):Ad->Ad
 | .lb s o=> .lb s (o+n)
 | .hp i o=> .hp i (o+n)
 | .ro a=> .ro (a.drop n)
inductive Q where
 |val (v:V)
 |ref (slot off:Nat)
def Ad.q:Ad->Q
 | .lb s o=> .ref s o
 | .hp i o=> .val (.p (some (i,o)))
 | .ro a=> .val (.tp a)
def ltI(a b:Int):Bool:=decide (a<b)
def leI(a b:Int):Bool:=decide (a<=b)
def Zj3(c:BinOp)(k:IntKind)(a b:Int):Option V:=
 match c with
 | .add=>some (.i k (k.wrap (a+b)))
 | .sub=>some (.i k (k.wrap (a-b)))
 | .mul=>some (.i k (k.wrap (a*b)))
 | .quo=>if b=0 then none else some (.i k (k.wrap (a.tdiv b)))
 | .rem=>if b=0 then none else some (.i k (a.tmod b))
 | .and=>some (.i k (k.wrap (BitVec.ofInt k.bits a&&&BitVec.ofInt k.bits b).toNat))
 | .or=>some (.i k (k.wrap (BitVec.ofInt k.bits a|||BitVec.ofInt k.bits b).toNat))
 | .xor=>some (.i k (k.wrap (BitVec.ofInt k.bits a ^^^ BitVec.ofInt k.bits b).toNat))
 | .andNot=>some (.i k (k.wrap (BitVec.ofInt k.bits a&&& ~~~ BitVec.ofInt k.bits b).toNat))
 | .eql=>some (.b (a==b))
 | .neq=>some (.b (a !=b))
 | .lss=>some (.b (ltI a b))
 | .leq=>some (.b (leI a b))
 | .gtr=>some (.b (ltI b a))
 | .geq=>some (.b (leI b a))
 |_=>none
def Zo9(c:BinOp)(a b:List UInt8):Option V:=
 match c with
 | .add=>if a.length+b.length<=2 ^ 60 then some (.s (a++b))else none
 | .eql=>some (.b (a==b))
 | .neq=>some (.b (!(a==b)))
 | .lss=>some (.b (Op.bytesLess a b))
 | .leq=>some (.b (Op.bytesLess a b||a==b))
 | .gtr=>some (.b (!(Op.bytesLess a b||a==b)))
 | .geq=>some (.b (!Op.bytesLess a b))
 |_=>none
def Wx:Kd->V->V->Option Bool
 | .bool, .b x, .b y=>some (x==y)
 | .int _, .i j x, .i k y=>if j=k then some (x==y)else none
 | .str, .s x, .s y=>some (x==y)
 |_,_,_=>none
def eqTy(Y:YP):Nat->TypeId->List V->List V->Option Bool
 |0,_,_,_=>none
 |n+1,t,h,g=>
  match Y.kd t with
  |some (.struct k)=>
   k.foldr (λf c=>match Y.ty f.2 with
    |some j=>match Zr j.size (h.drop f.1),Zr j.size (g.drop f.1) with
     |some a,some b=>match eqTy Y n f.2 a b,c with
      |some p,some q=>some (p&&q)
      |_,_=>none
     |_,_=>none
    |none=>none) (some true)
  |some (.arr len e)=>
   match Y.ty e with
   |some d=>(List.range len).foldr (λi c=>match Zr d.size (h.drop (i*d.size)),Zr d.size (g.drop (i*d.size)) with
     |some a,some b=>match eqTy Y n e a b,c with
      |some p,some q=>some (p&&q)
      |_,_=>none
     |_,_=>none) (some true)
   |none=>none
  |some kd=>match h,g with
   | [x],[y]=>Wx kd x y
   |_,_=>none
  |none=>none
def eqV:Kd->V->V->Option Bool
 | .bool, .b x, .b y=>some (x==y)
 | .ptr _, .p none, .p none=>some true
 | .ptr _, .p none, .p (some _)| .ptr _, .p (some _), .p none| .ptr _, .p none, .tp _| .ptr _, .tp _, .p none=>some false
 | .slice _, .sl none _ _ _, .sl none _ _ _=>some true
 | .slice _, .sl none _ _ _, .sl (some _) _ _ _| .slice _, .sl (some _) _ _ _, .sl none _ _ _=>some false
 | .slice _, .sl none _ _ _, .ts _ n _| .slice _, .ts _ n _, .sl none _ _ _=>if n=0 then none else some false
 | .map _ _, .mp none, .mp none=>some true
 | .map _ _, .mp none, .mp (some _)| .map _ _, .mp (some _), .mp none=>some false
 | .func, .nilfn, .nilfn=>some true
 | .func, .nilfn, .fn _ _ _| .func, .fn _ _ _, .nilfn=>some false
 | .iface, .nilifc, .ifc _ _| .iface, .ifc _ _, .nilifc=>some false
 |_,_,_=>none
def Zao:Operand->Bool
 | .const _=>true
 |_=>false
def binY(Y:YP)(c:BinOp)(t:TypeId)(x y:Operand)(a b:V):Option V:=
 match a,b with
 | .i k m, .i e n=>
  match c with
  | .shl=>if n<0 then none else some (.i k (k.wrap (m*2 ^ (min n.toNat k.bits))))
  | .shr=>if n<0 then none else some (.i k (m.fdiv (2 ^ (min n.toNat k.bits))))
  |_=>if k=e then Zj3 c k m n else none
 | .s l, .s m=>Zo9 c l m
 | .nilifc, .nilifc=>
  match Y.kd t,c with
  |some .iface, .eql=>if Zao x||Zao y then some (.b true)else none
  |some .iface, .neq=>if Zao x||Zao y then some (.b false)else none
  |_,_=>none
 | .agg f, .agg d=>
  match Y.kd t with
  |some kd=>
   if kd.agg then
    match c,eqTy Y 8 t f d with
    | .eql,some r=>some (.b r)
    | .neq,some r=>some (.b (!r))
    |_,_=>none
   else none
  |none=>none
 |a,b=>
  match Y.kd t with
  |some kd=>
   match c,eqV kd a b with
   | .eql,some r=>some (.b r)
   | .neq,some r=>some (.b (!r))
   |_,_=>none
  |none=>none
def unY(a:UnOp)(v:V):Option V:=
 match a,v with
 | .not, .b x=>some (.b (!x))
 | .neg, .i k n=>some (.i k (k.wrap (0-n)))
 | .xor, .i k n=>some (.i k (k.wrap (BitVec.ofInt k.bits (if k.signed then -1 else k.max) ^^^ BitVec.ofInt k.bits n).toNat))
 |_,_=>none
def QA:List V->Option (List UInt8)
 | []=>some []
 | .i .u8 n::r=>(QA r).map (UInt8.ofNat n.toNat:: ·)
 |_=>none
def XQ(d:St)(k:Nat):V->Option (Nat×List V)
 | .sl none n _ _=>if n=0 then some (0,[])else none
 | .sl (some (e,o)) len _ c=>if c=k then(Xu d (len*k) (.hp e o)).map (len,·)else none
 | .ts a len _=>(Zr (len*k) a).map (len,·)
 |_=>none
def QT(a:St)(k:Nat):V->Option (Nat×List V)
 | .s l=>if k=1 then some (l.length,l.map λc=> .i .u8 c.toNat)else none
 |v=>XQ a k v
def bnd(y d:Nat):Option V->Option Nat
 |none=>some d
 |some (.i _ n)=>if 0<=n/\n<=y then some n.toNat else none
 |some _=>none
def QY(y d:Nat)(c a:Option V):Option (Nat×Nat):=
 match bnd y d a with
 |some h=>match bnd h 0 c with
  |some l=>some (l,h)
  |none=>none
 |none=>none
def Zbd(Y:YP)(t:TypeId)(v:V)(g d f:Option V):Option V:=
 match Y.kd t with
 |some .str=>
  match v,f with
  | .s l,none=>match QY l.length l.length g d with
   |some (a,b)=>some (.s ((l.drop a).take (b-a)))
   |none=>none
  |_,_=>none
 |some (.slice e)=>
  match Y.ty e with
  |none=>none
  |some h=>
   match v with
   | .sl none n _ k=>
    if n=0 then
     match bnd 0 0 f with
     |some _=>match QY 0 0 g d with
      |some _=>if f.isSome&&d.isNone then none else some (.sl none 0 (some 0) k)
      |none=>none
     |none=>none
    else none
   | .sl (some (j,o)) len c k=>
    if k=h.size then
     match f with
     |none=>match QY (c.getD len) len g d with
      |some (a,b)=>some (.sl (some (j,o+a*k)) (b-a) (c.map (· - a)) k)
      |none=>none
     |some _=>match bnd (c.getD len) 0 f with
      |some m=>if d.isNone then none else match QY m 0 g d with
       |some (a,b)=>some (.sl (some (j,o+a*k)) (b-a) (some (m-a)) k)
       |none=>none
      |none=>none
    else none
   | .ts r len c=>
    match f with
    |none=>match QY len len g d with
     |some (a,b)=>some (.ts ((r.drop (a*h.size)).take ((b-a)*h.size)) (b-a) (c.map (· - a)))
     |none=>none
    |some _=>match bnd len 0 f with
     |some m=>if d.isNone then none else match QY m 0 g d with
      |some (a,b)=>some (.ts ((r.drop (a*h.size)).take ((b-a)*h.size)) (b-a) (some (m-a)))
      |none=>none
     |none=>none
   |_=>none
 |_=>none
def fieldsOf(Y:YP)(t:TypeId):Option (List (Nat×TypeId)):=
 match Y.kd t with
 |some (.struct a)=>some a
 |_=>none
def Zbe(Y:YP)(d:St)(t:TypeId)(x:Operand)(g:V):Option Ad:=
 match Y.kd t,g with
 |some (.arr n e), .i _ i=>
  match Y.ty e,addr d x with
  |some c,some a=>if 0<=i/\i<n/\c.size≠0 then some (a.shift (i.toNat*c.size))else none
  |_,_=>none
 |some (.slice e), .i _ i=>
  match Y.ty e,ev d.env x with
  |some c, .sl (some (f,o)) len _ k=>if 0<=i/\i<len/\c.size≠0/\k=c.size then some (.hp f (o+i.toNat*c.size))else none
  |some c, .ts h len _=>if 0<=i/\i<len/\c.size≠0 then some (.ro (h.drop (i.toNat*c.size)))else none
  |_,_=>none
 |_,_=>none
def Zgy(Y:YP)(d:St)(t:TypeId)(x:Operand)(f:Nat):Option Ad:=
 match fieldsOf Y t with
 |some c=>
  match c[f]?,addr d x with
  |some (off,e),some a=>
   match Y.ty e with
   |some g=>if g.size≠0 then some (a.shift off)else none
   |none=>none
  |_,_=>none
 |none=>none
def Zyj(a:TI)(c:List V)(off:Nat):Option V:=
 match Zr a.size (c.drop off) with
 |some l=>Jj a.kd.agg l
 |none=>none
def Zbf(a:Int->Int->Int)(k:IntKind)(x:Int):List V->Option V
 | []=>some (.i k x)
 | .i c y::r=>if c=k then Zbf a k (a x y) r else none
 |_=>none
def Zil(a:Int->Int->Int):List V->Option V
 | .i k x::r=>Zbf a k x r
 |_=>none
def Wa(e:Operand->V)(a:Nat->Option (Nat×Nat)):List (Nat×Operand)->List V->Option (List V)
 | [],c=>some c
 |p::r,c=>match a p.1 with
  |some (off,size)=>
   let new:=(e p.2).cells
   if new.length=size/\off+new.length<=c.length/\Zp new then Wa e a r (splice c off new)else none
  |none=>none
def Zj4(Y:YP)(d:List (Nat×TypeId))(j:Nat):Option (Nat×Nat):=
 match d[j]? with
 |some (off,a)=>(Y.ty a).map λc=>(off,c.size)
 |none=>none
def opQ(Y:YP)(g:St)(o:Oper):Option Q:=
 let e:=ev g.env
 let v (x:Option V):Option Q:=x.map .val
 match o.op with
 | .move x| .assign x=>some (.val (e x))
 | .pick c a b=>match e c with
  | .b x=>some (.val (if x then e a else e b))
  |_=>none
 | .nilCheck x=>
  match e x with
  | .p (some a)=>some (.val (.p (some a)))
  | .tp z=>some (.val (.tp z))
  | .fn (.func f) a c=>some (.val (.fn (.func f) a c))
  | .undef=>match addr g x with
   |some (.lb s off)=>some (.ref s off)
   |_=>none
  |_=>none
 | .binOp C t x y _=>v (binY Y C t x y (e x) (e y))
 | .unOp C _ x=>v (unY C (e x))
 | .makeFunc f a c=>some (.val (.fn f (a.toList.map e) (c.toList.map e)))
 | .makeInterface t x=>match Y.kd t with
  |some .iface=>none
  |some _=>some (.val (.ifc t (e x)))
  |none=>none
 | .build t d=>
  match Y.ty t with
  |some u=>
   match u.kd with
   | .struct B=>if B.all (λf=>(Y.ty f.2).isSome)then v ((Wa e (Zj4 Y B) d.toList u.zero).map .agg)else none
   | .arr _ A=>match Y.ty A with
    |some m=>v ((Wa e (λj=>some (j*m.size,m.size)) d.toList u.zero).map .agg)
    |none=>none
   |_=>none
  |none=>none
 | .load t a=>
  match Y.ty t,addr g a with
  |some u,some ad=>v ((Xu g u.size ad).bind (Jj u.kd.agg))
  |_,_=>none
 | .fieldAddr t x f=>(Zgy Y g t x f).map (·.q)
 | .indexAddr t x w=>(Zbe Y g t x (e w)).map (·.q)
 | .field t x f=>
  match fieldsOf Y t,e x with
  |some B, .agg z=>match B[f]? with
   |some (off,F)=>match Y.ty F with
    |some m=>v (Zyj m z off)
    |none=>none
   |none=>none
  |_,_=>none
 | .index t x w=>
  match Y.kd t,e x,e w with
  |some .str, .s l, .i _ i=>if 0<=i then v ((l[i.toNat]?).map λc=> .i .u8 c.toNat)else none
  |some (.arr n A), .agg z, .i _ i=>if 0<=i/\i<n then
    match Y.ty A with
    |some m=>v (Zyj m z (i.toNat*m.size))
    |none=>none
   else none
  |_,_,_=>none
 | .extract t w=>match e t with
  | .tup L=>v (L[w]?)
  |_=>none
 | .slice t x K H N=>v (Zbd Y t (e x) (K.map e) (H.map e) (N.map e))
 | .convert E D x=>
  match Y.kd E,Y.kd D,e x with
  |some _,some (.int k), .i _ n=>some (.val (.i k (k.wrap n)))
  |some .str,some .str, .s l=>some (.val (.s l))
  |some (.slice A),some .str,x=>match Y.kd A with
   |some (.int .u8)=>v (((XQ g 1 x).bind λG=>QA G.2).map .s)
   |_=>none
  |_,_,_=>none
 | .call {callee:= .builtin .len,args,argTypes} =>
  match argTypes.toList,args.toList with
  | [t],[x]=>match Y.kd t,e x with
   |some .str, .s l=>some (.val (.i .i64 l.length))
   |some (.slice _), .sl _ n _ _=>some (.val (.i .i64 n))
   |some (.slice _), .ts _ n _=>some (.val (.i .i64 n))
   |some (.map _ _), .mp none=>some (.val (.i .i64 0))
   |some (.map _ _), .mp (some r)=>match g.h.get r with
    |some (.map O)=>some (.val (.i .i64 O.length))
    |_=>none
   |some (.arr n _),_=>some (.val (.i .i64 n))
   |_,_=>none
  |_,_=>none
 | .call {callee:= .builtin .cap,args,argTypes} =>
  match argTypes.toList,args.toList with
  | [t],[x]=>match Y.kd t,e x with
   |some (.slice _), .sl none _ _ _=>some (.val (.i .i64 (0:Nat)))
   |some (.slice _), .sl (some _) _ (some c) _=>some (.val (.i .i64 c))
   |_,_=>none
  |_,_=>none
 | .call {callee:= .builtin .max,args, ..} =>v (Zil (λx y=>if y>x then y else x) (args.toList.map e))
 | .call {callee:= .builtin .min,args, ..} =>v (Zil (λx y=>if y<x then y else x) (args.toList.map e))
 |_=>none
def putQ(a:St)(d:Option Tmp):Q->Option St
 | .val v=>match d with
  |some d=>some {a with env:=a.env.set d v}
  |none=>some a
 | .ref s o=>match d with
  |some d=>some {a with env:=a.env.set d .rf,refs:=(d,s,o)::a.refs.filter λr=>r.1 !=d}
  |none=>some a
def putV(a:St)(d:Option Tmp)(v:V):St:=
 match d with
 |some d=> {a with env:=a.env.set d v}
 |none=>a
def most:Nat:=2 ^ 40
def XI(Y:YP)(d:St)(a:TI)(c:TypeId)(x:V):Option (Nat×List V):=
 match Y.kd c with
 |none=>none
 |some (.int _)=>match x with
  | .i _ n=>if 0<=n/\n<=most/\n.toNat*a.bytes<=most then some (n.toNat,(List.replicate n.toNat a.zero).flatten)else none
  |_=>none
 |some _=>QT d a.size x
def Xe(Y:YP)(a:St)(st l:TypeId)(s x:V):Option (V×Heap):=
 match Y.kd st with
 |some (.slice e)=>
  match Y.ty e with
  |none=>none
  |some f=>
   match XI Y a f l x with
   |none=>none
   |some (n,new)=>
    if !Zp new||f.size=0 then none else
    match s with
    | .sl none _ _ _=>
     if n=0 then some (.sl none 0 (some 0) f.size,a.h) else
     if n*f.bytes<=most/\n<=most then some (.sl (some (a.h.nx,0)) n none f.size,a.h.pushT (Y.tag e) (.arr new true))else none
    | .sl (some (g,o)) len c k=>
     if k≠f.size then none else
     if n=0 then some (.sl (some (g,o)) len c k,a.h) else
     if(len+n)*f.bytes>most\/len+n>most then none else
     match c with
     |some c=>
      if len+n<=c then
       match a.h.get g with
       |some (.arr j true)=>if o+(len+n)*k<=j.length then some (.sl (some (g,o)) (len+n) (some c) k,a.h.set g (some (.arr (splice j (o+len*k) new) true)))else none
       |_=>none
      else
       match Xu a (len*k) (.hp g o) with
       |some d=>some (.sl (some (a.h.nx,0)) (len+n) none k,a.h.push (.arr (d++new) true))
       |none=>none
     |none=>
      match a.h.get g with
      |some (.arr j wr)=>
       if o+(len+n)*k<=j.length then
        if wr then some (.sl (some (g,o)) (len+n) none k,a.h.set g (some (.arr (splice j (o+len*k) new) true)))else none
       else
        if wr||o+len*k=j.length then
         match Zr (len*k) (j.drop o) with
         |some d=>some (.sl (some (a.h.nx,0)) (len+n) none k,(a.h.set g none).pushT (if o=0/\a.h.tagOf g=some e then some e else none) (.arr (d++new) wr))
         |none=>none
        else none
      |_=>none
    | .ts j len c=>
     if n=0 then some (.ts j len c,a.h) else
     if(len+n)*f.bytes>most\/len+n>most then none else
     match c with
     |some c=>
      if len+n<=c then none else
       match Zr (len*f.size) j with
       |some d=>some (.sl (some (a.h.nx,0)) (len+n) none f.size,a.h.push (.arr (d++new) true))
       |none=>none
     |none=>none
    |_=>none
 |_=>none
inductive R where
 |st (σ:St)
 |call (f:FuncId) (args:List V)
def WY(loc:Nat->Bool)(a:St)(d:Option Tmp)(c:List V)(e:Option TypeId):Option St:=
 match d with
 |some d=>
  if loc d then some {a with env:=a.env.set d (.lb c),refs:=a.refs.filter λr=>r.2.1 !=d}
  else some {a with env:=a.env.set d (.p (some (a.h.nx,0))),h:=a.h.pushT e (.arr c true)}
 |none=>none
def Qf:List V->List V->Option Bool
 | [],[]=>some true
 | .i j x::xs, .i k y::ys=>if j=k then(Qf xs ys).map λr=>x==y&&r else none
 |_,_=>none
def Zeo(a:Kd)(x y:V):Option Bool:=match a with
 | .arr _ _=>(match x,y with
  | .agg d, .agg c=>Qf d c
  |_,_=>none)
 |a=>Wx a x y
def Zm1(c:Kd)(x:V):Bool:=match c with
 | .arr n _=>(match x with
  | .agg a=>a.length==n&&(Qf a a).isSome
  |_=>false)
 |_=>true
def Jk(a:Kd)(k:V)(e:V×V):Bool:=match Zeo a k e.1 with|some r=>r|none=>false
def Xa(a:Kd)(k:V):List (V×V)->Bool
 | []=>Zm1 a k
 |e::r=>(Zeo a k e.1).isSome&&Xa a k r
def XT(a:Kd)(k:V):List (V×V)->Option V
 | []=>none
 |e::r=>if Jk a k e then some e.2 else XT a k r
def Xv(a:Kd)(k v:V):List (V×V)->List (V×V)
 | []=> [(k,v)]
 |e::r=>if Jk a k e then(k,v)::r else e::Xv a k v r
def WZ:Kd->Bool
 | .int _| .str| .bool=>true
 |_=>false
def QF(Y:YP)(t:TypeId):Bool:=match Y.kd t with
 |some (.arr _ e)=>(match Y.ty e with
  |some a=>a.size==1&&(match a.kd with| .int _=>true|_=>false)
  |none=>false)
 |some c=>WZ c
 |none=>false
def Qp(Y:YP)(loc:Nat->Bool)(d:St)(o:Oper):Option R:=
 match opQ Y d o with
 |some q=>(putQ d o.dst q).map .st
 |none=>
  match o.op with
  | .alloc t=>match Y.ty t with
   |some m=>(WY loc d o.dst m.zero (Y.tag t)).map .st
   |none=>none
  | .box t x=>match Y.ty t with
   |some m=>if(ev d.env x).cells.length=m.size/\Zp (ev d.env x).cells then(WY loc d o.dst (ev d.env x).cells none).map .st else none
   |none=>none
  | .store t a x=>
   match Y.ty t,addr d a with
   |some m,some ad=>if(ev d.env x).cells.length=m.size/\Zp (ev d.env x).cells then(storeAt d (ev d.env x).cells ad).map λu=> .st (putV u o.dst .undef)else none
   |_,_=>none
  | .buildSlice t n k=>
   match Y.kd t with
   |some (.slice r)=>match Y.ty r with
    |some e=>
     if e.size=0\/n*e.size>2 ^ 20 then none else
     match Wa (ev d.env) (λj=>some (j*e.size,e.size)) k.toList (List.replicate n e.zero).flatten with
     |some z=>some (.st (putV {d with h:=d.h.push (.arr z true)} o.dst (.sl (some (d.h.nx,0)) n (some n) e.size)))
     |none=>none
    |none=>none
   |_=>none
  | .makeSlice t l c=>
   match Y.kd t,ev d.env l,ev d.env c with
   |some (.slice r), .i _ l, .i _ c=>match Y.ty r with
    |some e=>
     if e.size≠0/\0<=l/\l<=c/\c<=most/\c*e.bytes<=most then
      some (.st (putV {d with h:=d.h.push (.arr (List.replicate c.toNat e.zero).flatten true)} o.dst (.sl (some (d.h.nx,0)) l.toNat (some c.toNat) e.size)))
     else none
    |none=>none
   |_,_,_=>none
  | .convert w y x=>
   match Y.kd w,Y.kd y,ev d.env x with
   |some .str,some (.slice r), .s l=>match Y.ty r with
    |some e=>match e.kd with
     | .int .u8=>some (.st (putV {d with h:=d.h.push (.arr (l.map λc=> .i .u8 c.toNat) true)} o.dst (.sl (some (d.h.nx,0)) l.length none 1)))
     |_=>none
    |none=>none
   |_,_,_=>none
  | .call {callee:= .builtin .append,args,argTypes} =>
   match args.toList,argTypes.toList with
   | [s,x],[st,A]=>match Xe Y d st A (ev d.env s) (ev d.env x) with
    |some (v,h)=>some (.st (putV {d with h:=h} o.dst v))
    |none=>none
   |_,_=>none
  | .call {callee:= .value f,args, ..} =>
   match ev d.env f with
   | .fn (.func g) a c=>some (.call g (a++args.toList.map (ev d.env)++c))
   |_=>none
  |_=>none
def Zm2(Y:YP)(t:TypeId):V:=match (Y.P.info? t).bind (·.zero) with
 |some z=>ofC z
 |none=> .undef
def Zbg(h:Heap)(r:Option Nat):Option (List (V×V)):=match r with
 |none=>some []
 |some r=>match h.get r with
  |some (.map a)=>some a
  |_=>none
def mapH(Y:YP)(a:St)(o:Oper):Option (Heap×V):=
 match o.op with
 | .lookup t m k ok=>match Y.kd t,ev a.env m with
  |some (.map g y), .mp r=>match Y.kd g,Zbg a.h r with
   |some l,some w=>if QF Y g&&Xa l (ev a.env k) w&&(Y.ty y).isSome then
     match XT l (ev a.env k) w with
     |some v=>some (a.h,if ok then .tup [v, .b true]else v)
     |none=>some (a.h,if ok then .tup [Zm2 Y y, .b false]else Zm2 Y y)
    else none
   |_,_=>none
  |_,_=>none
 | .mapUpdate t m k v| .insert t m k v=>match Y.kd t,ev a.env m with
  |some (.map g _), .mp (some r)=>match Y.kd g,a.h.get r with
   |some l,some (.map w)=>if QF Y g&&Xa l (ev a.env k) w then some (a.h.set r (some (.map (Xv l (ev a.env k) (ev a.env v) w))), .undef)else none
   |_,_=>none
  |_,_=>none
 | .call {callee:= .builtin .clear,args,argTypes} =>match args.toList,argTypes.toList with
  | [x],[t]=>match Y.kd t,ev a.env x with
   |some (.slice _), .sl none _ _ _=>some (a.h, .tup [])
   |some (.slice e), .sl (some (j,off)) len _ k=>match Y.ty e with
    |some c=>if len=0 then some (a.h, .tup []) else
     if k=c.size then match a.h.get j with
     |some (.arr f true)=>if off+len*c.size<=f.length then some (a.h.set j (some (.arr (splice f off (List.replicate len c.zero).flatten) true)), .tup [])else none
     |_=>none
     else none
    |none=>none
   |_,_=>none
  |_,_=>none
 | .call {callee:= .builtin .copy,args,argTypes} =>match args.toList,argTypes.toList with
  | [d,x],st::_=>match Y.kd st,ev a.env d with
   |some (.slice e), .sl (some (j,off)) len _ k=>match Y.ty e with
    |some c=>match QT a c.size (ev a.env x) with
     |some (n,f)=>if k=c.size/\c.size≠0/\Zp f=true then
       match a.h.get j with
       |some (.arr u true)=>if off+(f.take (min n len*c.size)).length<=u.length then
         some (a.h.set j (some (.arr (splice u off (f.take (min n len*c.size))) true)), .i .i64 ((min n len:Nat):Int))else none
       |_=>none
      else none
     |none=>none
    |none=>none
   |_,_=>none
  |_,_=>none
 |_=>none
def Zgr(Y:YP)(a:St)(o:Oper):Option V:=match o.op with
 | .lookup _ _ _ _=>(mapH Y a o).map (·.2)
 |_=>none
def newO(Y:YP)(d:St)(o:Oper):Option (YObj×(Nat->V)):=
 match o.op with
 | .makeSlice t l c=>
  match Y.kd t,ev d.env l,ev d.env c with
  |some (.slice e), .i _ l, .i _ c=>match Y.ty e with
   |some a=>
    if a.size≠0/\0<=l/\l<=c/\c<=most/\c*a.bytes<=most then
     some (.arr (List.replicate c.toNat a.zero).flatten true,λi=> .sl (some (i,0)) l.toNat (some c.toNat) a.size)
    else none
   |none=>none
  |_,_,_=>none
 | .makeMap _ none=>some (.map [],λi=> .mp (some i))
 |_=>none
def Jl:List UInt8->UInt8->Nat->Int
 | [],_,_=> -1
 |b::l,c,k=>if b==c then(k:Int)else Jl l c (k+1)
def extV:Nat->List V->Option V
 |1,[.p a]=>some (.p a)
 |2,[.s l, .i .u8 c]=>some (.i .i64 (Jl l c.toNat.toUInt8 0))
 |_,_=>none
def exoQ(Y:YP)(d:St)(o:Oper):Option V:=
 match o.op with
 | .call {callee:= .value f,args, ..} =>match ev d.env f with
  | .fn (.func g) a c=>match Y.extOf g with
   |some k=>extV k (a++args.toList.map (ev d.env)++c)
   |none=>none
  |_=>none
 | .call {callee:= .builtin .unsafeSliceData,args, ..} =>match args.toList with
  | [x]=>match ev d.env x with
   | .sl none _ _ _=>some (.p none)
   | .sl (some (h,off)) len _ _=>if len=0 then none else some (.p (some (h,off)))
   |_=>none
  |_=>none
 | .slice t x none none none=>match Y.kd t,ev d.env x with
  |some (.arr n e), .tp j=>match Y.ty e with
   |some _=>some (.ts j n (some n))
   |none=>none
  |_,_=>none
 |_=>none
def nilT(Y:YP)(a:St)(o:Oper):Option (Nat×Bool):=
 match o.op with
 | .binOp c t x y _=>match Y.kd t,ev a.env x,ev a.env y with
  |some (.slice _), .ts _ n _, .sl none _ _ _=>match c with
   | .eql=>some (n,false)
   | .neq=>some (n,true)
   |_=>none
  |_,_,_=>none
 |_=>none
def isU(Y:YP)(t:TypeId):Bool:=match Y.P.underlying t with
 |some .unsafePointer=>true
 |_=>false
def Zep(Y:YP)(t e:TypeId):Bool:=match Y.kd t with
 |some (.ptr e')=>e'==e
 |_=>false
def exoH(Y:YP)(c:St)(o:Oper):Option (Heap×V):=
 match o.op with
 | .slice t x none none none=>match Y.kd t,ev c.env x with
  |some (.arr n e), .p (some (d,off))=>match Y.ty e,c.h.get d with
   |some k,some (.arr f _)=>if k.size≠0/\off+n*k.size<=f.length then some (c.h, .sl (some (d,off)) n (some n) k.size)else none
   |_,_=>none
  |_,_=>none
 | .convert g j x=>match ev c.env x with
  | .p (some (d,0))=>match c.h.get d,c.h.tagOf d with
   |some (.arr f _),some t=>match Y.ty t with
    |some m=>if m.size≠0/\m.size<=f.length/\((Zep Y g t&&isU Y j)||(isU Y g&&Zep Y j t))=true then some (c.h, .p (some (d,0)))else none
    |none=>none
   |_,_=>none
  |_=>none
 | .binOp u t x y _=>match ev c.env x,ev c.env y,Y.kd t with
  | .p (some a), .p (some b),some (.ptr e)=>if a=b/\(c.h.get a.1).isSome=true/\(Y.ty e).isSome=true then
    match u with
    | .eql=>some (c.h, .b true)
    | .neq=>some (c.h, .b false)
    |_=>none
   else none
  |_,_,_=>none
 | .call {callee:= .builtin .unsafeString,args,argTypes} =>match args.toList,argTypes.toList with
  | [x,n],[r,_]=>match ev c.env x,ev c.env n with
   | .p a, .i .i64 n=>if n=0 then some (c.h, .s []) else
    match a with
    |some (d,0)=>match c.h.get d,c.h.tagOf d with
     |some (.arr f _),some t=>match Y.kd t with
      |some (.int .u8)=>if Zep Y r t=true/\n=f.length/\f.length<=most then(QA f).map λl=>(c.h.set d (some (.arr f false)), .s l)else none
      |_=>none
     |_,_=>none
    |_=>none
   |_,_=>none
  |_,_=>none
 |_=>none
inductive Out where
 |normal
 |exit (id:Nat)
 |ret
def JG(e:Array Oper)(c:List V)(o:Oper):Option Bool:=
 match o.guard with
 |none=>some true
 |some (j,a)=>
  match (e[j]?).bind (·.dst) with
  |some d=>match c.getD d .undef with
   | .b x=>some (x==a)
   | .tup []=>some false
   |_=>none
  |none=>none
def Zap(Y:YP)(c:St):ResultVar->Option V
 | .tmp t=>match ev c.env (.tmp t) with
  | .undef=>none
  |v=>some v
 | .cell a t=>match Y.ty t,addr c (.tmp a) with
  |some d,some ad=>(Xu c d.size ad).bind (Jj d.kd.agg)
  |_,_=>none
def Jb(Y:YP)(a:St):List ResultVar->Option (List V)
 | []=>some []
 |r::l=>match Zap Y a r,Jb Y a l with
  |some v,some c=>some (v::c)
  |_,_=>none
def JI(Y:YP)(fn:Func)(a:St):Option V:=
 match Jb Y a fn.results.toList with
 |some [v]=>some v
 |some c=>some (.tup c)
 |none=>none
end Go.Y
