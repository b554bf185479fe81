/- A part of the proof. -/
import Derived.Still
import Derived.KernelRfl
import Derived.Laws.Sem
namespace Go.Y
set_option maxRecDepth 1000000
set_option maxHeartbeats 0
theorem om{p:Prop}(h:p:=by omega):p:=h
theorem kr{p:Prop}(h:p:=by kernel_rfl):p:=h
theorem dc{p:Prop}(h:p:=by decide):p:=h
theorem sm{p:Prop}(h:p:=by simp):p:=h
theorem su{p q:Prop}(h:p)(g:p->q:=by intro h;simpa using h):q:=g h
theorem uA:type_of% @Result.andThen_ok:=@Result.andThen_ok
theorem uB:type_of% @Option.some.injEq:=@Option.some.injEq
theorem uC:type_of% @Sem.run_bind:=@Sem.run_bind
theorem uD:type_of% @Sem.run_pure:=@Sem.run_pure
theorem uE:type_of% @if_neg:=@if_neg
theorem uF:type_of% @if_pos:=@if_pos
theorem uG:type_of% @Option.map_eq_some_iff:=@Option.map_eq_some_iff
theorem uH:type_of% @Bool.and_eq_true:=@Bool.and_eq_true
theorem uI:type_of% @Bool.false_eq_true:=@Bool.false_eq_true
theorem uJ:type_of% @Nat.zero_add:=@Nat.zero_add
theorem uK:type_of% @decide_eq_false:=@decide_eq_false
theorem uL:type_of% @Prod.mk.injEq:=@Prod.mk.injEq
theorem uM:type_of% @List.drop_eq_getElem_cons:=@List.drop_eq_getElem_cons
theorem uN:type_of% @decide_eq_true:=@decide_eq_true
theorem uO:type_of% @List.length_take:=@List.length_take
theorem uP:type_of% @List.all_eq_true:=@List.all_eq_true
theorem uQ:type_of% @List.take_zero:=@List.take_zero
theorem uR:type_of% @List.foldl_cons:=@List.foldl_cons
theorem uS:type_of% @Bool.or_eq_true:=@Bool.or_eq_true
theorem uT:type_of% @Bool.true_and:=@Bool.true_and
theorem uU:type_of% @List.append_assoc:=@List.append_assoc
theorem uV:type_of% @List.map_append:=@List.map_append
theorem uW:type_of% @List.mem_map:=@List.mem_map
theorem uX:type_of% @Nat.add_assoc:=@Nat.add_assoc
theorem uY:type_of% @Nat.mul_one:=@Nat.mul_one
theorem uZ:type_of% @List.replicate_succ:=@List.replicate_succ
theorem ug:type_of% @List.flatMap_append:=@List.flatMap_append
theorem uj:type_of% @List.any_append:=@List.any_append
theorem uk:type_of% @Bool.or_eq_false_iff:=@Bool.or_eq_false_iff
theorem uq:type_of% @Option.getD_some:=@Option.getD_some
theorem ur:type_of% @Nat.add_mul:=@Nat.add_mul
theorem uu:type_of% @Nat.le_trans:=@Nat.le_trans
theorem uv:type_of% @List.mem_cons_of_mem:=@List.mem_cons_of_mem
theorem uw:type_of% @Option.map_some:=@Option.map_some
theorem uz:type_of% @List.getElem?_drop:=@List.getElem?_drop
theorem vA:type_of% @List.ext_getElem?:=@List.ext_getElem?
theorem vB:type_of% @List.getElem?_append_right:=@List.getElem?_append_right
theorem vC:type_of% @List.getElem?_append_left:=@List.getElem?_append_left
theorem vD:type_of% @List.length_drop:=@List.length_drop
theorem vE:type_of% @List.mem_singleton:=@List.mem_singleton
theorem vF:type_of% @if_false:=@if_false
theorem vG:type_of% @if_true:=@if_true
theorem vH:type_of% @List.getElem?_map:=@List.getElem?_map
theorem vI:type_of% @List.drop_drop:=@List.drop_drop
theorem vJ:type_of% @List.length_set:=@List.length_set
theorem vK:type_of% @List.getElem?_set:=@List.getElem?_set
theorem vL:type_of% @decide_eq_true_eq:=@decide_eq_true_eq
theorem vM:type_of% @Nat.sub_self:=@Nat.sub_self
theorem vN:type_of% @List.take_append_drop:=@List.take_append_drop
theorem vO:type_of% @beq_iff_eq:=@beq_iff_eq
inductive V where
 |undef
 |b (x:Bool)
 |i (k:IntKind) (n:Int)
 |s (l:List UInt8)
 |p (a:Option (Nat×Nat))
 |tp (cs:List V)
 |sl (a:Option (Nat×Nat)) (len:Nat) (cap:Option Nat) (k:Nat)
 |ts (cs:List V) (len:Nat) (cap:Option Nat)
 |mp (r:Option Nat)
 |fn (f:Fn) (first cap:List V)
 |nilfn
 |ifc (t:TypeId) (v:V)
 |nilifc
 |agg (cs:List V)
 |tup (vs:List V)
 |lb (cs:List V)
 |rf
 |yl (id:Nat)
 deriving Inhabited
def tabs:List (Nat×List V):= []
inductive Kd where
 |bool|int (k:IntKind)|str|slice (e:TypeId)|arr (n:Nat) (e:TypeId)|struct (fs:List (Nat×TypeId))
 |ptr (e:TypeId)|map (k e:TypeId)|func|iface|other
 deriving Inhabited
structure TI where
 size:Nat
 bytes:Nat
 kd:Kd
 zero:List V
 deriving Inhabited
def Kd.agg:Kd->Bool
 | .arr _ _| .struct _=>true
 |_=>false
structure YLp where
 st:LoopState
 pend:Option Code
 env:List V
 ps:Array Tmp
 assign:Code
 body:Code
 loc:Nat->Bool
inductive YObj where
 |arr (cs:List V) (wr:Bool)
 |map (es:List (V×V))
 |siter (l:List UInt8) (pos:Nat)
 |loop (L:YLp)
 deriving Inhabited
inductive Tr where
 |leaf
 |node (l:Tr) (x:Option (Option YObj)) (r:Tr)
 deriving Inhabited
def Tr.raw:Tr->Nat->Option (Option YObj)
 | .leaf,_=>none
 | .node l x r,n=>
  match n with
  |0=>x
  |m+1=>if(m+1) % 2=1 then l.raw ((m+1) / 2)else r.raw ((m+1) / 2-1)
def Tr.get(t:Tr)(n:Nat):Option YObj:=(t.raw n).join
def Tr.set:Nat->Tr->Nat->Option YObj->Tr
 |0,t,_,_=>t
 |f+1,t,n,o=>
  let (l,x,r):=match t with| .leaf=>(Tr.leaf,none,Tr.leaf)| .node l x r=>(l,x,r)
  match n with
  |0=> .node l (some o) r
  |m+1=>if(m+1) % 2=1 then .node (Tr.set f l ((m+1) / 2) o) x r else .node l x (Tr.set f r ((m+1) / 2-1) o)
structure Heap where
 t:Tr
 nx:Nat
 lo:Nat
 tg:List (Nat×TypeId)
 deriving Inhabited
def Heap.get(h:Heap)(i:Nat):Option YObj:=h.t.get i
def Heap.raw(h:Heap)(i:Nat):Option (Option YObj):=h.t.raw i
def Heap.set(h:Heap)(i:Nat)(o:Option YObj):Heap:= {h with t:=Tr.set (i+1) h.t i o,lo:=min h.lo i}
def Heap.push(h:Heap)(o:YObj):Heap:= {h with t:=Tr.set (h.nx+1) h.t h.nx (some o),nx:=h.nx+1}
def Heap.empty:Heap:=⟨.leaf,0,0,[]⟩
def Heap.tag(h:Heap)(i:Nat)(t:TypeId):Heap:= {h with tg:=(i,t)::h.tg}
def Heap.tagIf(h:Heap)(i:Nat)(t:Option TypeId):Heap:=match t with
 |some t=>h.tag i t
 |none=>h
def Heap.pushT(h:Heap)(t:Option TypeId)(o:YObj):Heap:=(h.push o).tagIf h.nx t
def Zub:List (Nat×TypeId)->Nat->Option TypeId
 | [],_=>none
 |p::r,i=>if p.1=i then some p.2 else Zub r i
def Heap.tagOf(h:Heap)(i:Nat):Option TypeId:=Zub h.tg i
structure St where
 env:List V
 refs:List (Nat×Nat×Nat)
 h:Heap
 deriving Inhabited
structure YP where
 P:Program
 tys:List (Option TI)
 locs:List (List Nat)
 /-- How a function is called: 0: over memory; 1: what comes back may hold what is read-only; 2: it holds nothing. -/
 modes:List Nat
 /-- Types of objects whose lie in their block is kept in mind. -/
 tags:List TypeId
 /-- Functions without a body, by kind. -/
 ext:List (FuncId×Nat)
 /-- Types of which an object's cells hold what is read-only. -/
 hro:List TypeId
def YP.extOf(Y:YP)(f:FuncId):Option Nat:=Zub Y.ext f
def YP.hr(Y:YP)(t:TypeId):Bool:=Y.hro.contains t
def YP.tag(Y:YP)(t:TypeId):Option TypeId:=if Y.tags.contains t then some t else none
def YP.ty(Y:YP)(t:TypeId):Option TI:=(Y.tys[t]?).join
def YP.loc(Y:YP)(f:FuncId)(t:Nat):Bool:=(Y.locs.getD f []).contains t
def YP.mode(Y:YP)(f:FuncId):Nat:=Y.modes.getD f 0
def YP.kd(Y:YP)(t:TypeId):Option Kd:=(Y.ty t).map TI.kd
def ofC:Value->V
 | .bool b=> .b b
 | .int k n=> .i k n
 | .string s=> .s s.data.toList
 | .pointer none=> .p none
 | .slice none 0 0=> .sl none 0 (some 0) 0
 | .map none=> .mp none
 | .nilFunc=> .nilfn
 | .nilIface=> .nilifc
 |_=> .undef
def V.plain:V->V
 | .lb _| .rf=> .undef
 |v=>v
def Zsf:List (Nat×List V)->Nat->Option (List V)
 | [],_=>none
 |p::r,i=>if p.1=i then some p.2 else Zsf r i
def ev(a:List V):Operand->V
 | .tmp t=>(a.getD t .undef).plain
 | .const v=>ofC v
 | .global g=>match Zsf tabs g with
  |some b=> .tp b
  |none=> .undef
 | .func f=> .fn (.func f) [] []
inductive Ad where
 |lb (slot off:Nat)
 |hp (id off:Nat)
 |ro (cs:List V)
def Jg:List (Nat×Nat×Nat)->Nat->Option (Nat×Nat)
 | [],_=>none
 |(d,s,o)::r,t=>if d=t then some (s,o)else Jg r t
def addr(a:St):Operand->Option Ad
 | .tmp t=>
  match a.env.getD t .undef with
  | .lb _=>some (.lb t 0)
  | .p (some (i,o))=>some (.hp i o)
  | .tp b=>some (.ro b)
  | .rf=>match Jg a.refs t with
   |some (s,o)=>match a.env.getD s .undef with
    | .lb _=>some (.lb s o)
    |_=>none
   |none=>none
  |_=>none
 | .global g=>(Zsf tabs g).map .ro
 |_=>none
def Zs:Nat->List V->Option (List V)
 |0,_=>some []
 |_+1,[]=>none
 |n+1,v::l=>(Zs n l).map (v:: ·)
def Xt(b:St)(n:Nat):Ad->Option (List V)
 | .lb s o=>match b.env.getD s .undef with
  | .lb a=>Zs n (a.drop o)
  |_=>none
 | .hp c o=>match b.h.get c with
  |some (.arr a _)=>Zs n (a.drop o)
  |_=>none
 | .ro a=>Zs n a
def Jh(a:Bool)(b:List V):Option V:=
 if a then some (.agg b)else match b with
  | [v]=>some v
  |_=>none
def V.cells:V->List V
 | .agg a=>a
 |v=> [v]
def V.cellOK:V->Bool
 | .undef| .agg _| .tup _| .lb _| .rf=>false
 |_=>true
def Zp:List V->Bool
 | []=>true
 |v::r=>v.cellOK&&Zp r
def splice{b:Type} :List b->Nat->List b->List b
 |l,0,a=>a++l.drop a.length
 | [],_+1,_=> []
 |v::l,n+1,a=>v::splice l n a
def storeAt(b:St)(a:List V):Ad->Option St
 | .lb s o=>match b.env.getD s .undef with
  | .lb c=>if o+a.length<=c.length then some {b with env:=b.env.set s (.lb (splice c o a))} else none
  |_=>none
 | .hp d o=>match b.h.get d with
  |some (.arr c true)=>if o+a.length<=c.length then some {b with h:=b.h.set d (some (.arr (splice c o a) true))} else none
  |_=>none
 | .ro _=>none
def Ad.shift(n:Nat):Ad->Ad
 | .lb s o=> .lb s (o+n)
 | .hp i o=> .hp i (o+n)
 | .ro a=> .ro (a.drop n)
inductive Q where
 |val (v:V)
 |ref (slot off:Nat)
def Ad.q:Ad->Q
 | .lb s o=> .ref s o
 | .hp i o=> .val (.p (some (i,o)))
 | .ro a=> .val (.tp a)
def ltI(a b:Int):Bool:=decide (a<b)
def leI(a b:Int):Bool:=decide (a<=b)
def Zkp(c:BinOp)(k:IntKind)(a b:Int):Option V:=
 match c with
 | .add=>some (.i k (k.wrap (a+b)))
 | .sub=>some (.i k (k.wrap (a-b)))
 | .mul=>some (.i k (k.wrap (a*b)))
 | .quo=>if b=0 then none else some (.i k (k.wrap (a.tdiv b)))
 | .rem=>if b=0 then none else some (.i k (a.tmod b))
 | .and=>some (.i k (k.wrap (BitVec.ofInt k.bits a&&&BitVec.ofInt k.bits b).toNat))
 | .or=>some (.i k (k.wrap (BitVec.ofInt k.bits a|||BitVec.ofInt k.bits b).toNat))
 | .xor=>some (.i k (k.wrap (BitVec.ofInt k.bits a ^^^ BitVec.ofInt k.bits b).toNat))
 | .andNot=>some (.i k (k.wrap (BitVec.ofInt k.bits a&&& ~~~ BitVec.ofInt k.bits b).toNat))
 | .eql=>some (.b (a==b))
 | .neq=>some (.b (a !=b))
 | .lss=>some (.b (ltI a b))
 | .leq=>some (.b (leI a b))
 | .gtr=>some (.b (ltI b a))
 | .geq=>some (.b (leI b a))
 |_=>none
def Zpu(c:BinOp)(a b:List UInt8):Option V:=
 match c with
 | .add=>if a.length+b.length<=2 ^ 60 then some (.s (a++b))else none
 | .eql=>some (.b (a==b))
 | .neq=>some (.b (!(a==b)))
 | .lss=>some (.b (Op.bytesLess a b))
 | .leq=>some (.b (Op.bytesLess a b||a==b))
 | .gtr=>some (.b (!(Op.bytesLess a b||a==b)))
 | .geq=>some (.b (!Op.bytesLess a b))
 |_=>none
def WA:Kd->V->V->Option Bool
 | .bool, .b x, .b y=>some (x==y)
 | .int _, .i j x, .i k y=>if j=k then some (x==y)else none
 | .str, .s x, .s y=>some (x==y)
 |_,_,_=>none
def eqTy(Y:YP):Nat->TypeId->List V->List V->Option Bool
 |0,_,_,_=>none
 |n+1,t,h,j=>
  match Y.kd t with
  |some (.struct l)=>
   l.foldr (λf c=>match Y.ty f.2 with
    |some k=>match Zs k.size (h.drop f.1),Zs k.size (j.drop f.1) with
     |some a,some b=>match eqTy Y n f.2 a b,c with
      |some p,some q=>some (p&&q)
      |_,_=>none
     |_,_=>none
    |none=>none) (some true)
  |some (.arr g e)=>
   match Y.ty e with
   |some d=>(List.range g).foldr (λi c=>match Zs d.size (h.drop (i*d.size)),Zs d.size (j.drop (i*d.size)) with
     |some a,some b=>match eqTy Y n e a b,c with
      |some p,some q=>some (p&&q)
      |_,_=>none
     |_,_=>none) (some true)
   |none=>none
  |some m=>match h,j with
   | [x],[y]=>WA m x y
   |_,_=>none
  |none=>none
def eqV:Kd->V->V->Option Bool
 | .bool, .b x, .b y=>some (x==y)
 | .ptr _, .p none, .p none=>some true
 | .ptr _, .p none, .p (some _)| .ptr _, .p (some _), .p none| .ptr _, .p none, .tp _| .ptr _, .tp _, .p none=>some false
 | .slice _, .sl none _ _ _, .sl none _ _ _=>some true
 | .slice _, .sl none _ _ _, .sl (some _) _ _ _| .slice _, .sl (some _) _ _ _, .sl none _ _ _=>some false
 | .slice _, .sl none _ _ _, .ts _ n _| .slice _, .ts _ n _, .sl none _ _ _=>if n=0 then none else some false
 | .map _ _, .mp none, .mp none=>some true
 | .map _ _, .mp none, .mp (some _)| .map _ _, .mp (some _), .mp none=>some false
 | .func, .nilfn, .nilfn=>some true
 | .func, .nilfn, .fn _ _ _| .func, .fn _ _ _, .nilfn=>some false
 | .iface, .nilifc, .ifc _ _| .iface, .ifc _ _, .nilifc=>some false
 |_,_,_=>none
def Zas:Operand->Bool
 | .const _=>true
 |_=>false
def binY(Y:YP)(c:BinOp)(t:TypeId)(x y:Operand)(a b:V):Option V:=
 match a,b with
 | .i k m, .i e n=>
  match c with
  | .shl=>if n<0 then none else some (.i k (k.wrap (m*2 ^ (min n.toNat k.bits))))
  | .shr=>if n<0 then none else some (.i k (m.fdiv (2 ^ (min n.toNat k.bits))))
  |_=>if k=e then Zkp c k m n else none
 | .s l, .s m=>Zpu c l m
 | .nilifc, .nilifc=>
  match Y.kd t,c with
  |some .iface, .eql=>if Zas x||Zas y then some (.b true)else none
  |some .iface, .neq=>if Zas x||Zas y then some (.b false)else none
  |_,_=>none
 | .agg f, .agg g=>
  match Y.kd t with
  |some d=>
   if d.agg then
    match c,eqTy Y 8 t f g with
    | .eql,some r=>some (.b r)
    | .neq,some r=>some (.b (!r))
    |_,_=>none
   else none
  |none=>none
 |a,b=>
  match Y.kd t with
  |some d=>
   match c,eqV d a b with
   | .eql,some r=>some (.b r)
   | .neq,some r=>some (.b (!r))
   |_,_=>none
  |none=>none
def unY(a:UnOp)(v:V):Option V:=
 match a,v with
 | .not, .b x=>some (.b (!x))
 | .neg, .i k n=>some (.i k (k.wrap (0-n)))
 | .xor, .i k n=>some (.i k (k.wrap (BitVec.ofInt k.bits (if k.signed then -1 else k.max) ^^^ BitVec.ofInt k.bits n).toNat))
 |_,_=>none
def Qz:List V->Option (List UInt8)
 | []=>some []
 | .i .u8 n::r=>(Qz r).map (UInt8.ofNat n.toNat:: ·)
 |_=>none
def XS(e:St)(k:Nat):V->Option (Nat×List V)
 | .sl none n _ _=>if n=0 then some (0,[])else none
 | .sl (some (c,o)) a _ d=>if d=k then(Xt e (a*k) (.hp c o)).map (a,·)else none
 | .ts b a _=>(Zs (a*k) b).map (a,·)
 |_=>none
def QS(a:St)(k:Nat):V->Option (Nat×List V)
 | .s l=>if k=1 then some (l.length,l.map λc=> .i .u8 c.toNat)else none
 |v=>XS a k v
def bnd(y d:Nat):Option V->Option Nat
 |none=>some d
 |some (.i _ n)=>if 0<=n/\n<=y then some n.toNat else none
 |some _=>none
def QW(y d:Nat)(b a:Option V):Option (Nat×Nat):=
 match bnd y d a with
 |some h=>match bnd h 0 b with
  |some l=>some (l,h)
  |none=>none
 |none=>none
def Zbi(Y:YP)(t:TypeId)(v:V)(h f g:Option V):Option V:=
 match Y.kd t with
 |some .str=>
  match v,g with
  | .s l,none=>match QW l.length l.length h f with
   |some (a,b)=>some (.s ((l.drop a).take (b-a)))
   |none=>none
  |_,_=>none
 |some (.slice e)=>
  match Y.ty e with
  |none=>none
  |some i=>
   match v with
   | .sl none n _ k=>
    if n=0 then
     match bnd 0 0 g with
     |some _=>match QW 0 0 h f with
      |some _=>if g.isSome&&f.isNone then none else some (.sl none 0 (some 0) k)
      |none=>none
     |none=>none
    else none
   | .sl (some (p,o)) d c k=>
    if k=i.size then
     match g with
     |none=>match QW (c.getD d) d h f with
      |some (a,b)=>some (.sl (some (p,o+a*k)) (b-a) (c.map (· - a)) k)
      |none=>none
     |some _=>match bnd (c.getD d) 0 g with
      |some m=>if f.isNone then none else match QW m 0 h f with
       |some (a,b)=>some (.sl (some (p,o+a*k)) (b-a) (some (m-a)) k)
       |none=>none
      |none=>none
    else none
   | .ts j d c=>
    match g with
    |none=>match QW d d h f with
     |some (a,b)=>some (.ts ((j.drop (a*i.size)).take ((b-a)*i.size)) (b-a) (c.map (· - a)))
     |none=>none
    |some _=>match bnd d 0 g with
     |some m=>if f.isNone then none else match QW m 0 h f with
      |some (a,b)=>some (.ts ((j.drop (a*i.size)).take ((b-a)*i.size)) (b-a) (some (m-a)))
      |none=>none
     |none=>none
   |_=>none
 |_=>none
def fieldsOf(Y:YP)(t:TypeId):Option (List (Nat×TypeId)):=
 match Y.kd t with
 |some (.struct a)=>some a
 |_=>none
def Zbj(Y:YP)(d:St)(t:TypeId)(x:Operand)(h:V):Option Ad:=
 match Y.kd t,h with
 |some (.arr n e), .i _ i=>
  match Y.ty e,addr d x with
  |some b,some a=>if 0<=i/\i<n/\b.size≠0 then some (a.shift (i.toNat*b.size))else none
  |_,_=>none
 |some (.slice e), .i _ i=>
  match Y.ty e,ev d.env x with
  |some b, .sl (some (g,o)) c _ k=>if 0<=i/\i<c/\b.size≠0/\k=b.size then some (.hp g (o+i.toNat*b.size))else none
  |some b, .ts f c _=>if 0<=i/\i<c/\b.size≠0 then some (.ro (f.drop (i.toNat*b.size)))else none
  |_,_=>none
 |_,_=>none
def Zg7(Y:YP)(g:St)(t:TypeId)(x:Operand)(f:Nat):Option Ad:=
 match fieldsOf Y t with
 |some c=>
  match c[f]?,addr g x with
  |some (b,d),some a=>
   match Y.ty d with
   |some e=>if e.size≠0 then some (a.shift b)else none
   |none=>none
  |_,_=>none
 |none=>none
def Zzq(b:TI)(c:List V)(a:Nat):Option V:=
 match Zs b.size (c.drop a) with
 |some l=>Jh b.kd.agg l
 |none=>none
def Zbk(a:Int->Int->Int)(k:IntKind)(x:Int):List V->Option V
 | []=>some (.i k x)
 | .i b y::r=>if b=k then Zbk a k (a x y) r else none
 |_=>none
def Ziz(a:Int->Int->Int):List V->Option V
 | .i k x::r=>Zbk a k x r
 |_=>none
def Wb(e:Operand->V)(a:Nat->Option (Nat×Nat)):List (Nat×Operand)->List V->Option (List V)
 | [],f=>some f
 |p::r,f=>match a p.1 with
  |some (c,d)=>
   let b:=(e p.2).cells
   if b.length=d/\c+b.length<=f.length/\Zp b then Wb e a r (splice f c b)else none
  |none=>none
def Zkq(Y:YP)(b:List (Nat×TypeId))(j:Nat):Option (Nat×Nat):=
 match b[j]? with
 |some (a,c)=>(Y.ty c).map λd=>(a,d.size)
 |none=>none
def opQ(Y:YP)(g:St)(o:Oper):Option Q:=
 let e:=ev g.env
 let v (x:Option V):Option Q:=x.map .val
 match o.op with
 | .move x| .assign x=>some (.val (e x))
 | .pick c a b=>match e c with
  | .b x=>some (.val (if x then e a else e b))
  |_=>none
 | .nilCheck x=>
  match e x with
  | .p (some a)=>some (.val (.p (some a)))
  | .tp z=>some (.val (.tp z))
  | .fn (.func f) a c=>some (.val (.fn (.func f) a c))
  | .undef=>match addr g x with
   |some (.lb s m)=>some (.ref s m)
   |_=>none
  |_=>none
 | .binOp E t x y _=>v (binY Y E t x y (e x) (e y))
 | .unOp E _ x=>v (unY E (e x))
 | .makeFunc f a c=>some (.val (.fn f (a.toList.map e) (c.toList.map e)))
 | .makeInterface t x=>match Y.kd t with
  |some .iface=>none
  |some _=>some (.val (.ifc t (e x)))
  |none=>none
 | .build t d=>
  match Y.ty t with
  |some w=>
   match w.kd with
   | .struct C=>if C.all (λf=>(Y.ty f.2).isSome)then v ((Wb e (Zkq Y C) d.toList w.zero).map .agg)else none
   | .arr _ A=>match Y.ty A with
    |some u=>v ((Wb e (λj=>some (j*u.size,u.size)) d.toList w.zero).map .agg)
    |none=>none
   |_=>none
  |none=>none
 | .load t a=>
  match Y.ty t,addr g a with
  |some w,some ad=>v ((Xt g w.size ad).bind (Jh w.kd.agg))
  |_,_=>none
 | .fieldAddr t x f=>(Zg7 Y g t x f).map (·.q)
 | .indexAddr t x B=>(Zbj Y g t x (e B)).map (·.q)
 | .field t x f=>
  match fieldsOf Y t,e x with
  |some C, .agg z=>match C[f]? with
   |some (m,H)=>match Y.ty H with
    |some u=>v (Zzq u z m)
    |none=>none
   |none=>none
  |_,_=>none
 | .index t x B=>
  match Y.kd t,e x,e B with
  |some .str, .s l, .i _ i=>if 0<=i then v ((l[i.toNat]?).map λc=> .i .u8 c.toNat)else none
  |some (.arr n A), .agg z, .i _ i=>if 0<=i/\i<n then
    match Y.ty A with
    |some u=>v (Zzq u z (i.toNat*u.size))
    |none=>none
   else none
  |_,_,_=>none
 | .extract t B=>match e t with
  | .tup P=>v (P[B]?)
  |_=>none
 | .slice t x L K N=>v (Zbi Y t (e x) (L.map e) (K.map e) (N.map e))
 | .convert F D x=>
  match Y.kd F,Y.kd D,e x with
  |some _,some (.int k), .i _ n=>some (.val (.i k (k.wrap n)))
  |some .str,some .str, .s l=>some (.val (.s l))
  |some (.slice A),some .str,x=>match Y.kd A with
   |some (.int .u8)=>v (((XS g 1 x).bind λO=>Qz O.2).map .s)
   |_=>none
  |_,_,_=>none
 | .call {callee:= .builtin .len,args,argTypes} =>
  match argTypes.toList,args.toList with
  | [t],[x]=>match Y.kd t,e x with
   |some .str, .s l=>some (.val (.i .i64 l.length))
   |some (.slice _), .sl _ n _ _=>some (.val (.i .i64 n))
   |some (.slice _), .ts _ n _=>some (.val (.i .i64 n))
   |some (.map _ _), .mp none=>some (.val (.i .i64 0))
   |some (.map _ _), .mp (some r)=>match g.h.get r with
    |some (.map G)=>some (.val (.i .i64 G.length))
    |_=>none
   |some (.arr n _),_=>some (.val (.i .i64 n))
   |_,_=>none
  |_,_=>none
 | .call {callee:= .builtin .cap,args,argTypes} =>
  match argTypes.toList,args.toList with
  | [t],[x]=>match Y.kd t,e x with
   |some (.slice _), .sl none _ _ _=>some (.val (.i .i64 (0:Nat)))
   |some (.slice _), .sl (some _) _ (some c) _=>some (.val (.i .i64 c))
   |_,_=>none
  |_,_=>none
 | .call {callee:= .builtin .max,args, ..} =>v (Ziz (λx y=>if y>x then y else x) (args.toList.map e))
 | .call {callee:= .builtin .min,args, ..} =>v (Ziz (λx y=>if y<x then y else x) (args.toList.map e))
 |_=>none
def putQ(a:St)(d:Option Tmp):Q->Option St
 | .val v=>match d with
  |some d=>some {a with env:=a.env.set d v}
  |none=>some a
 | .ref s o=>match d with
  |some d=>some {a with env:=a.env.set d .rf,refs:=(d,s,o)::a.refs.filter λr=>r.1 !=d}
  |none=>some a
def putV(a:St)(d:Option Tmp)(v:V):St:=
 match d with
 |some d=> {a with env:=a.env.set d v}
 |none=>a
def most:Nat:=2 ^ 40
def XJ(Y:YP)(c:St)(a:TI)(b:TypeId)(x:V):Option (Nat×List V):=
 match Y.kd b with
 |none=>none
 |some (.int _)=>match x with
  | .i _ n=>if 0<=n/\n<=most/\n.toNat*a.bytes<=most then some (n.toNat,(List.replicate n.toNat a.zero).flatten)else none
  |_=>none
 |some _=>QS c a.size x
def Xd(Y:YP)(b:St)(st l:TypeId)(s x:V):Option (V×Heap):=
 match Y.kd st with
 |some (.slice e)=>
  match Y.ty e with
  |none=>none
  |some j=>
   match XJ Y b j l x with
   |none=>none
   |some (n,d)=>
    if !Zp d||j.size=0 then none else
    match s with
    | .sl none _ _ _=>
     if n=0 then some (.sl none 0 (some 0) j.size,b.h) else
     if n*j.bytes<=most/\n<=most then some (.sl (some (b.h.nx,0)) n none j.size,b.h.pushT (Y.tag e) (.arr d true))else none
    | .sl (some (i,o)) a c k=>
     if k≠j.size then none else
     if n=0 then some (.sl (some (i,o)) a c k,b.h) else
     if(a+n)*j.bytes>most\/a+n>most then none else
     match c with
     |some c=>
      if a+n<=c then
       match b.h.get i with
       |some (.arr g true)=>if o+(a+n)*k<=g.length then some (.sl (some (i,o)) (a+n) (some c) k,b.h.set i (some (.arr (splice g (o+a*k) d) true)))else none
       |_=>none
      else
       match Xt b (a*k) (.hp i o) with
       |some f=>some (.sl (some (b.h.nx,0)) (a+n) none k,b.h.push (.arr (f++d) true))
       |none=>none
     |none=>
      match b.h.get i with
      |some (.arr g wr)=>
       if o+(a+n)*k<=g.length then
        if wr then some (.sl (some (i,o)) (a+n) none k,b.h.set i (some (.arr (splice g (o+a*k) d) true)))else none
       else
        if wr||o+a*k=g.length then
         match Zs (a*k) (g.drop o) with
         |some f=>some (.sl (some (b.h.nx,0)) (a+n) none k,(b.h.set i none).pushT (if o=0/\b.h.tagOf i=some e then some e else none) (.arr (f++d) wr))
         |none=>none
        else none
      |_=>none
    | .ts g a c=>
     if n=0 then some (.ts g a c,b.h) else
     if(a+n)*j.bytes>most\/a+n>most then none else
     match c with
     |some c=>
      if a+n<=c then none else
       match Zs (a*j.size) g with
       |some f=>some (.sl (some (b.h.nx,0)) (a+n) none j.size,b.h.push (.arr (f++d) true))
       |none=>none
     |none=>none
    |_=>none
 |_=>none
inductive R where
 |st (σ:St)
 |call (f:FuncId) (args:List V)
def Vc(b:Nat->Bool)(a:St)(d:Option Tmp)(c:List V)(e:Option TypeId):Option St:=
 match d with
 |some d=>
  if b d then some {a with env:=a.env.set d (.lb c),refs:=a.refs.filter λr=>r.2.1 !=d}
  else some {a with env:=a.env.set d (.p (some (a.h.nx,0))),h:=a.h.pushT e (.arr c true)}
 |none=>none
def Qg:List V->List V->Option Bool
 | [],[]=>some true
 | .i j x::xs, .i k y::ys=>if j=k then(Qg xs ys).map λr=>x==y&&r else none
 |_,_=>none
def Ze2(a:Kd)(x y:V):Option Bool:=match a with
 | .arr _ _=>(match x,y with
  | .agg b, .agg c=>Qg b c
  |_,_=>none)
 |a=>WA a x y
def Znt(b:Kd)(x:V):Bool:=match b with
 | .arr n _=>(match x with
  | .agg a=>a.length==n&&(Qg a a).isSome
  |_=>false)
 |_=>true
def Ji(a:Kd)(k:V)(e:V×V):Bool:=match Ze2 a k e.1 with|some r=>r|none=>false
def ZY(a:Kd)(k:V):List (V×V)->Bool
 | []=>Znt a k
 |e::r=>(Ze2 a k e.1).isSome&&ZY a k r
def XV(a:Kd)(k:V):List (V×V)->Option V
 | []=>none
 |e::r=>if Ji a k e then some e.2 else XV a k r
def Xu(a:Kd)(k v:V):List (V×V)->List (V×V)
 | []=> [(k,v)]
 |e::r=>if Ji a k e then(k,v)::r else e::Xu a k v r
def Vd:Kd->Bool
 | .int _| .str| .bool=>true
 |_=>false
def QE(Y:YP)(t:TypeId):Bool:=match Y.kd t with
 |some (.arr _ e)=>(match Y.ty e with
  |some a=>a.size==1&&(match a.kd with| .int _=>true|_=>false)
  |none=>false)
 |some b=>Vd b
 |none=>false
def Qo(Y:YP)(m:Nat->Bool)(b:St)(o:Oper):Option R:=
 match opQ Y b o with
 |some q=>(putQ b o.dst q).map .st
 |none=>
  match o.op with
  | .alloc t=>match Y.ty t with
   |some p=>(Vc m b o.dst p.zero (Y.tag t)).map .st
   |none=>none
  | .box t x=>match Y.ty t with
   |some p=>if(ev b.env x).cells.length=p.size/\Zp (ev b.env x).cells then(Vc m b o.dst (ev b.env x).cells none).map .st else none
   |none=>none
  | .store t a x=>
   match Y.ty t,addr b a with
   |some p,some ad=>if(ev b.env x).cells.length=p.size/\Zp (ev b.env x).cells then(storeAt b (ev b.env x).cells ad).map λw=> .st (putV w o.dst .undef)else none
   |_,_=>none
  | .buildSlice t n e=>
   match Y.kd t with
   |some (.slice k)=>match Y.ty k with
    |some d=>
     if d.size=0\/n*d.size>2 ^ 20 then none else
     match Wb (ev b.env) (λj=>some (j*d.size,d.size)) e.toList (List.replicate n d.zero).flatten with
     |some y=>some (.st (putV {b with h:=b.h.push (.arr y true)} o.dst (.sl (some (b.h.nx,0)) n (some n) d.size)))
     |none=>none
    |none=>none
   |_=>none
  | .makeSlice t l c=>
   match Y.kd t,ev b.env l,ev b.env c with
   |some (.slice k), .i _ l, .i _ c=>match Y.ty k with
    |some d=>
     if d.size≠0/\0<=l/\l<=c/\c<=most/\c*d.bytes<=most then
      some (.st (putV {b with h:=b.h.push (.arr (List.replicate c.toNat d.zero).flatten true)} o.dst (.sl (some (b.h.nx,0)) l.toNat (some c.toNat) d.size)))
     else none
    |none=>none
   |_,_,_=>none
  | .convert u r x=>
   match Y.kd u,Y.kd r,ev b.env x with
   |some .str,some (.slice k), .s l=>match Y.ty k with
    |some d=>match d.kd with
     | .int .u8=>some (.st (putV {b with h:=b.h.push (.arr (l.map λc=> .i .u8 c.toNat) true)} o.dst (.sl (some (b.h.nx,0)) l.length none 1)))
     |_=>none
    |none=>none
   |_,_,_=>none
  | .call {callee:= .builtin .append,args,argTypes} =>
   match args.toList,argTypes.toList with
   | [s,x],[st,z]=>match Xd Y b st z (ev b.env s) (ev b.env x) with
    |some (v,h)=>some (.st (putV {b with h:=h} o.dst v))
    |none=>none
   |_,_=>none
  | .call {callee:= .value f,args, ..} =>
   match ev b.env f with
   | .fn (.func g) a c=>some (.call g (a++args.toList.map (ev b.env)++c))
   |_=>none
  |_=>none
def Znu(Y:YP)(t:TypeId):V:=match (Y.P.info? t).bind (·.zero) with
 |some z=>ofC z
 |none=> .undef
def Zbl(h:Heap)(r:Option Nat):Option (List (V×V)):=match r with
 |none=>some []
 |some r=>match h.get r with
  |some (.map a)=>some a
  |_=>none
def mapH(Y:YP)(a:St)(o:Oper):Option (Heap×V):=
 match o.op with
 | .lookup t m k ok=>match Y.kd t,ev a.env m with
  |some (.map u w), .mp r=>match Y.kd u,Zbl a.h r with
   |some s,some p=>if QE Y u&&ZY s (ev a.env k) p&&(Y.ty w).isSome then
     match XV s (ev a.env k) p with
     |some v=>some (a.h,if ok then .tup [v, .b true]else v)
     |none=>some (a.h,if ok then .tup [Znu Y w, .b false]else Znu Y w)
    else none
   |_,_=>none
  |_,_=>none
 | .mapUpdate t m k v| .insert t m k v=>match Y.kd t,ev a.env m with
  |some (.map u _), .mp (some r)=>match Y.kd u,a.h.get r with
   |some s,some (.map p)=>if QE Y u&&ZY s (ev a.env k) p then some (a.h.set r (some (.map (Xu s (ev a.env k) (ev a.env v) p))), .undef)else none
   |_,_=>none
  |_,_=>none
 | .call {callee:= .builtin .clear,args,argTypes} =>match args.toList,argTypes.toList with
  | [x],[t]=>match Y.kd t,ev a.env x with
   |some (.slice _), .sl none _ _ _=>some (a.h, .tup [])
   |some (.slice e), .sl (some (q,f)) c _ k=>match Y.ty e with
    |some g=>if c=0 then some (a.h, .tup []) else
     if k=g.size then match a.h.get q with
     |some (.arr j true)=>if f+c*g.size<=j.length then some (a.h.set q (some (.arr (splice j f (List.replicate c g.zero).flatten) true)), .tup [])else none
     |_=>none
     else none
    |none=>none
   |_,_=>none
  |_,_=>none
 | .call {callee:= .builtin .copy,args,argTypes} =>match args.toList,argTypes.toList with
  | [d,x],st::_=>match Y.kd st,ev a.env d with
   |some (.slice e), .sl (some (q,f)) c _ k=>match Y.ty e with
    |some g=>match QS a g.size (ev a.env x) with
     |some (n,j)=>if k=g.size/\g.size≠0/\Zp j=true then
       match a.h.get q with
       |some (.arr l true)=>if f+(j.take (min n c*g.size)).length<=l.length then
         some (a.h.set q (some (.arr (splice l f (j.take (min n c*g.size))) true)), .i .i64 ((min n c:Nat):Int))else none
       |_=>none
      else none
     |none=>none
    |none=>none
   |_,_=>none
  |_,_=>none
 |_=>none
def Zg2(Y:YP)(a:St)(o:Oper):Option V:=match o.op with
 | .lookup _ _ _ _=>(mapH Y a o).map (·.2)
 |_=>none
def newO(Y:YP)(b:St)(o:Oper):Option (YObj×(Nat->V)):=
 match o.op with
 | .makeSlice t l c=>
  match Y.kd t,ev b.env l,ev b.env c with
  |some (.slice d), .i _ l, .i _ c=>match Y.ty d with
   |some a=>
    if a.size≠0/\0<=l/\l<=c/\c<=most/\c*a.bytes<=most then
     some (.arr (List.replicate c.toNat a.zero).flatten true,λi=> .sl (some (i,0)) l.toNat (some c.toNat) a.size)
    else none
   |none=>none
  |_,_,_=>none
 | .makeMap _ none=>some (.map [],λi=> .mp (some i))
 |_=>none
def Jj:List UInt8->UInt8->Nat->Int
 | [],_,_=> -1
 |b::l,c,k=>if b==c then(k:Int)else Jj l c (k+1)
def extV:Nat->List V->Option V
 |1,[.p a]=>some (.p a)
 |2,[.s l, .i .u8 c]=>some (.i .i64 (Jj l c.toNat.toUInt8 0))
 |_,_=>none
def exoQ(Y:YP)(b:St)(o:Oper):Option V:=
 match o.op with
 | .call {callee:= .value f,args, ..} =>match ev b.env f with
  | .fn (.func g) a c=>match Y.extOf g with
   |some k=>extV k (a++args.toList.map (ev b.env)++c)
   |none=>none
  |_=>none
 | .call {callee:= .builtin .unsafeSliceData,args, ..} =>match args.toList with
  | [x]=>match ev b.env x with
   | .sl none _ _ _=>some (.p none)
   | .sl (some (j,h)) d _ _=>if d=0 then none else some (.p (some (j,h)))
   |_=>none
  |_=>none
 | .slice t x none none none=>match Y.kd t,ev b.env x with
  |some (.arr n e), .tp i=>match Y.ty e with
   |some _=>some (.ts i n (some n))
   |none=>none
  |_,_=>none
 |_=>none
def nilT(Y:YP)(a:St)(o:Oper):Option (Nat×Bool):=
 match o.op with
 | .binOp b t x y _=>match Y.kd t,ev a.env x,ev a.env y with
  |some (.slice _), .ts _ n _, .sl none _ _ _=>match b with
   | .eql=>some (n,false)
   | .neq=>some (n,true)
   |_=>none
  |_,_,_=>none
 |_=>none
def isU(Y:YP)(t:TypeId):Bool:=match Y.P.underlying t with
 |some .unsafePointer=>true
 |_=>false
def Ze3(Y:YP)(t e:TypeId):Bool:=match Y.kd t with
 |some (.ptr e')=>e'==e
 |_=>false
def exoH(Y:YP)(c:St)(o:Oper):Option (Heap×V):=
 match o.op with
 | .slice t x none none none=>match Y.kd t,ev c.env x with
  |some (.arr n e), .p (some (d,j))=>match Y.ty e,c.h.get d with
   |some m,some (.arr f _)=>if m.size≠0/\j+n*m.size<=f.length then some (c.h, .sl (some (d,j)) n (some n) m.size)else none
   |_,_=>none
  |_,_=>none
 | .convert k g x=>match ev c.env x with
  | .p (some (d,0))=>match c.h.get d,c.h.tagOf d with
   |some (.arr f _),some t=>match Y.ty t with
    |some q=>if q.size≠0/\q.size<=f.length/\((Ze3 Y k t&&isU Y g)||(isU Y k&&Ze3 Y g t))=true then some (c.h, .p (some (d,0)))else none
    |none=>none
   |_,_=>none
  |_=>none
 | .binOp r t x y _=>match ev c.env x,ev c.env y,Y.kd t with
  | .p (some a), .p (some b),some (.ptr e)=>if a=b/\(c.h.get a.1).isSome=true/\(Y.ty e).isSome=true then
    match r with
    | .eql=>some (c.h, .b true)
    | .neq=>some (c.h, .b false)
    |_=>none
   else none
  |_,_,_=>none
 | .call {callee:= .builtin .unsafeString,args,argTypes} =>match args.toList,argTypes.toList with
  | [x,n],[u,_]=>match ev c.env x,ev c.env n with
   | .p a, .i .i64 n=>if n=0 then some (c.h, .s []) else
    match a with
    |some (d,0)=>match c.h.get d,c.h.tagOf d with
     |some (.arr f _),some t=>match Y.kd t with
      |some (.int .u8)=>if Ze3 Y u t=true/\n=f.length/\f.length<=most then(Qz f).map λl=>(c.h.set d (some (.arr f false)), .s l)else none
      |_=>none
     |_,_=>none
    |_=>none
   |_,_=>none
  |_,_=>none
 |_=>none
inductive Out where
 |normal
 |exit (id:Nat)
 |ret
def JG(e:Array Oper)(c:List V)(o:Oper):Option Bool:=
 match o.guard with
 |none=>some true
 |some (j,a)=>
  match (e[j]?).bind (·.dst) with
  |some d=>match c.getD d .undef with
   | .b x=>some (x==a)
   | .tup []=>some false
   |_=>none
  |none=>none
def Zat(Y:YP)(b:St):ResultVar->Option V
 | .tmp t=>match ev b.env (.tmp t) with
  | .undef=>none
  |v=>some v
 | .cell a t=>match Y.ty t,addr b (.tmp a) with
  |some c,some ad=>(Xt b c.size ad).bind (Jh c.kd.agg)
  |_,_=>none
def QZ(Y:YP)(a:St):List ResultVar->Option (List V)
 | []=>some []
 |r::l=>match Zat Y a r,QZ Y a l with
  |some v,some b=>some (v::b)
  |_,_=>none
def JI(Y:YP)(a:Func)(c:St):Option V:=
 match QZ Y c a.results.toList with
 |some [v]=>some v
 |some b=>some (.tup b)
 |none=>none
end Go.Y
