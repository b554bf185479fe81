/- A part of the proof. -/
import Derived.Still
namespace Go.Y
set_option maxRecDepth 1000000
set_option maxHeartbeats 0
inductive V where
 |undef
 |b (x:Bool)
 |i (k:IntKind) (n:Int)
 |s (l:List UInt8)
 |p (a:Option (Nat×Nat))
 |tp (cs:List V)
 |sl (a:Option (Nat×Nat)) (len:Nat) (cap:Option Nat) (k:Nat)
 |ts (cs:List V) (len:Nat) (cap:Option Nat)
 |mp (r:Option Nat)
 |fn (f:Fn) (first cap:List V)
 |nilfn
 |ifc (t:TypeId) (v:V)
 |nilifc
 |agg (cs:List V)
 |tup (vs:List V)
 |lb (cs:List V)
 |rf
 |yl (id:Nat)
 deriving Inhabited
def tabs:List (Nat×List V):= []
inductive Kd where
 |bool|int (k:IntKind)|str|slice (e:TypeId)|arr (n:Nat) (e:TypeId)|struct (fs:List (Nat×TypeId))
 |ptr (e:TypeId)|map (k e:TypeId)|func|iface|other
 deriving Inhabited

structure TI where
 size:Nat
 bytes:Nat
 kd:Kd
 zero:List V
 deriving Inhabited

def Kd.agg:Kd->Bool
 | .arr _ _| .struct _=>true
 |_=>false

structure YLp where
 st:LoopState
 pend:Option Code
 env:List V
 ps:Array Tmp
 assign:Code
 body:Code
 loc:Nat->Bool

inductive YObj where
 |arr (cs:List V) (wr:Bool)
 |map (es:List (V×V))
 |siter (l:List UInt8) (pos:Nat)
 |loop (L:YLp)
 deriving Inhabited

inductive Tr where
 |leaf
 |node (l:Tr) (x:Option (Option YObj)) (r:Tr)
 deriving Inhabited

def Tr.raw:Tr->Nat->Option (Option YObj)
 | .leaf,_=>none
 | .node l x r,n=>
  match n with
  |0=>x
  |m+1=>if(m+1) % 2=1 then l.raw ((m+1) / 2)else r.raw ((m+1) / 2-1)
def Tr.get(t:Tr)(n:Nat):Option YObj:=(t.raw n).join

def Tr.set:Nat->Tr->Nat->Option YObj->Tr
 |0,t,_,_=>t
 |f+1,t,n,o=>
  let (l,x,r):=match t with| .leaf=>(Tr.leaf,none,Tr.leaf)| .node l x r=>(l,x,r)
  match n with
  |0=> .node l (some o) r
  |m+1=>if(m+1) % 2=1 then .node (Tr.set f l ((m+1) / 2) o) x r else .node l x (Tr.set f r ((m+1) / 2-1) o)

structure Heap where
 t:Tr
 nx:Nat
 lo:Nat
 tg:List (Nat×TypeId)
 deriving Inhabited

def Heap.get(h:Heap)(i:Nat):Option YObj:=h.t.get i
def Heap.raw(h:Heap)(i:Nat):Option (Option YObj):=h.t.raw i
def Heap.set(h:Heap)(i:Nat)(o:Option YObj):Heap:= {h with t:=Tr.set (i+1) h.t i o,lo:=min h.lo i}
def Heap.push(h:Heap)(o:YObj):Heap:= {h with t:=Tr.set (h.nx+1) h.t h.nx (some o),nx:=h.nx+1}
def Heap.empty:Heap:=⟨.leaf,0,0,[]⟩
def Heap.tag(h:Heap)(i:Nat)(t:TypeId):Heap:= {h with tg:=(i,t)::h.tg}
def Heap.tagIf(h:Heap)(i:Nat)(t:Option TypeId):Heap:=match t with
 |some t=>h.tag i t
 |none=>h
def Heap.pushT(h:Heap)(t:Option TypeId)(o:YObj):Heap:=(h.push o).tagIf h.nx t
def Zpc:List (Nat×TypeId)->Nat->Option TypeId
 | [],_=>none
 |p::r,i=>if p.1=i then some p.2 else Zpc r i
def Heap.tagOf(h:Heap)(i:Nat):Option TypeId:=Zpc h.tg i

structure St where
 env:List V
 refs:List (Nat×Nat×Nat)
 h:Heap
 deriving Inhabited

structure YP where
 P:Program
 tys:List (Option TI)
 locs:List (List Nat)
 /-- How a function is called: 0: over memory; 1: what comes back may hold what is read-only; 2: it holds nothing. -/
 modes:List Nat
 /-- Types of objects whose lie in their block is kept in mind. -/
 tags:List TypeId
 /-- Functions without a body, by kind. -/
 ext:List (FuncId×Nat)
 /-- Types of which an object's cells hold what is read-only. -/
 hro:List TypeId

def YP.extOf(Y:YP)(f:FuncId):Option Nat:=Zpc Y.ext f

def YP.hr(Y:YP)(t:TypeId):Bool:=Y.hro.contains t

def YP.tag(Y:YP)(t:TypeId):Option TypeId:=if Y.tags.contains t then some t else none

def YP.ty(Y:YP)(t:TypeId):Option TI:=(Y.tys[t]?).join
def YP.loc(Y:YP)(f:FuncId)(t:Nat):Bool:=(Y.locs.getD f []).contains t

def YP.mode(Y:YP)(f:FuncId):Nat:=Y.modes.getD f 0

def YP.kd(Y:YP)(t:TypeId):Option Kd:=(Y.ty t).map TI.kd

def ofC:Value->V
 | .bool b=> .b b
 | .int k n=> .i k n
 | .string s=> .s s.data.toList
 | .pointer none=> .p none
 | .slice none 0 0=> .sl none 0 (some 0) 0
 | .map none=> .mp none
 | .nilFunc=> .nilfn
 | .nilIface=> .nilifc
 |_=> .undef

def V.plain:V->V
 | .lb _| .rf=> .undef
 |v=>v

def Znr:List (Nat×List V)->Nat->Option (List V)
 | [],_=>none
 |p::r,i=>if p.1=i then some p.2 else Znr r i

def ev(env:List V):Operand->V
 | .tmp t=>(env.getD t .undef).plain
 | .const v=>ofC v
 | .global g=>match Znr tabs g with
  |some cs=> .tp cs
  |none=> .undef
 | .func f=> .fn (.func f) [] []

inductive Ad where
 |lb (slot off:Nat)
 |hp (id off:Nat)
 |ro (cs:List V)

def QJ:List (Nat×Nat×Nat)->Nat->Option (Nat×Nat)
 | [],_=>none
 |(d,s,o)::r,t=>if d=t then some (s,o)else QJ r t

def addr(σ:St):Operand->Option Ad
 | .tmp t=>
  match σ.env.getD t .undef with
  | .lb _=>some (.lb t 0)
  | .p (some (i,o))=>some (.hp i o)
  | .tp cs=>some (.ro cs)
  | .rf=>match QJ σ.refs t with
   |some (s,o)=>match σ.env.getD s .undef with
    | .lb _=>some (.lb s o)
    |_=>none
   |none=>none
  |_=>none
 | .global g=>(Znr tabs g).map .ro
 |_=>none

def Zo:Nat->List V->Option (List V)
 |0,_=>some []
 |_+1,[]=>none
 |n+1,v::l=>(Zo n l).map (v:: ·)

def Xg(σ:St)(n:Nat):Ad->Option (List V)
 | .lb s o=>match σ.env.getD s .undef with
  | .lb cs=>Zo n (cs.drop o)
  |_=>none
 | .hp id o=>match σ.h.get id with
  |some (.arr cs _)=>Zo n (cs.drop o)
  |_=>none
 | .ro cs=>Zo n cs

def QK(agg:Bool)(cs:List V):Option V:=
 if agg then some (.agg cs)else match cs with
  | [v]=>some v
  |_=>none

def V.cells:V->List V
 | .agg cs=>cs
 |v=> [v]

def V.cellOK:V->Bool
 | .undef| .agg _| .tup _| .lb _| .rf=>false
 |_=>true

def Zk:List V->Bool
 | []=>true
 |v::r=>v.cellOK&&Zk r

def splice{α:Type} :List α->Nat->List α->List α
 |l,0,new=>new++l.drop new.length
 | [],_+1,_=> []
 |v::l,n+1,new=>v::splice l n new

def storeAt(σ:St)(new:List V):Ad->Option St
 | .lb s o=>match σ.env.getD s .undef with
  | .lb cs=>if o+new.length<=cs.length then some {σ with env:=σ.env.set s (.lb (splice cs o new))} else none
  |_=>none
 | .hp id o=>match σ.h.get id with
  |some (.arr cs true)=>if o+new.length<=cs.length then some {σ with h:=σ.h.set id (some (.arr (splice cs o new) true))} else none
  |_=>none
 | .ro _=>none

def Ad.shift(n:Nat):Ad->Ad
 | .lb s o=> .lb s (o+n)
 | .hp i o=> .hp i (o+n)
 | .ro cs=> .ro (cs.drop n)

inductive Q where
 |val (v:V)
 |ref (slot off:Nat)

def Ad.q:Ad->Q
 | .lb s o=> .ref s o
 | .hp i o=> .val (.p (some (i,o)))
 | .ro cs=> .val (.tp cs)

def ltI(a b:Int):Bool:=decide (a<b)
def leI(a b:Int):Bool:=decide (a<=b)

def Zhm(op:BinOp)(k:IntKind)(a b:Int):Option V:=
 match op with
 | .add=>some (.i k (k.wrap (a+b)))
 | .sub=>some (.i k (k.wrap (a-b)))
 | .mul=>some (.i k (k.wrap (a*b)))
 | .quo=>if b=0 then none else some (.i k (k.wrap (a.tdiv b)))
 | .rem=>if b=0 then none else some (.i k (a.tmod b))
 | .and=>some (.i k (k.wrap (BitVec.ofInt k.bits a&&&BitVec.ofInt k.bits b).toNat))
 | .or=>some (.i k (k.wrap (BitVec.ofInt k.bits a|||BitVec.ofInt k.bits b).toNat))
 | .xor=>some (.i k (k.wrap (BitVec.ofInt k.bits a ^^^ BitVec.ofInt k.bits b).toNat))
 | .andNot=>some (.i k (k.wrap (BitVec.ofInt k.bits a&&& ~~~ BitVec.ofInt k.bits b).toNat))
 | .eql=>some (.b (a==b))
 | .neq=>some (.b (a !=b))
 | .lss=>some (.b (ltI a b))
 | .leq=>some (.b (leI a b))
 | .gtr=>some (.b (ltI b a))
 | .geq=>some (.b (leI b a))
 |_=>none

def Zlt(op:BinOp)(a b:List UInt8):Option V:=
 match op with
 | .add=>if a.length+b.length<=2 ^ 60 then some (.s (a++b))else none
 | .eql=>some (.b (a==b))
 | .neq=>some (.b (!(a==b)))
 | .lss=>some (.b (Op.bytesLess a b))
 | .leq=>some (.b (Op.bytesLess a b||a==b))
 | .gtr=>some (.b (!(Op.bytesLess a b||a==b)))
 | .geq=>some (.b (!Op.bytesLess a b))
 |_=>none

def JO:Kd->V->V->Option Bool
 | .bool, .b x, .b y=>some (x==y)
 | .int _, .i j x, .i k y=>if j=k then some (x==y)else none
 | .str, .s x, .s y=>some (x==y)
 |_,_,_=>none

def eqTy(Y:YP):Nat->TypeId->List V->List V->Option Bool
 |0,_,_,_=>none
 |n+1,t,xs,ys=>
  match Y.kd t with
  |some (.struct fs)=>
   fs.foldr (fun f acc=>match Y.ty f.2 with
    |some tf=>match Zo tf.size (xs.drop f.1),Zo tf.size (ys.drop f.1) with
     |some a,some b=>match eqTy Y n f.2 a b,acc with
      |some p,some q=>some (p&&q)
      |_,_=>none
     |_,_=>none
    |none=>none) (some true)
  |some (.arr len e)=>
   match Y.ty e with
   |some te=>(List.range len).foldr (fun i acc=>match Zo te.size (xs.drop (i*te.size)),Zo te.size (ys.drop (i*te.size)) with
     |some a,some b=>match eqTy Y n e a b,acc with
      |some p,some q=>some (p&&q)
      |_,_=>none
     |_,_=>none) (some true)
   |none=>none
  |some kd=>match xs,ys with
   | [x],[y]=>JO kd x y
   |_,_=>none
  |none=>none

def eqV:Kd->V->V->Option Bool
 | .bool, .b x, .b y=>some (x==y)
 | .ptr _, .p none, .p none=>some true
 | .ptr _, .p none, .p (some _)| .ptr _, .p (some _), .p none| .ptr _, .p none, .tp _| .ptr _, .tp _, .p none=>some false
 | .slice _, .sl none _ _ _, .sl none _ _ _=>some true
 | .slice _, .sl none _ _ _, .sl (some _) _ _ _| .slice _, .sl (some _) _ _ _, .sl none _ _ _=>some false
 | .slice _, .sl none _ _ _, .ts _ n _| .slice _, .ts _ n _, .sl none _ _ _=>if n=0 then none else some false
 | .map _ _, .mp none, .mp none=>some true
 | .map _ _, .mp none, .mp (some _)| .map _ _, .mp (some _), .mp none=>some false
 | .func, .nilfn, .nilfn=>some true
 | .func, .nilfn, .fn _ _ _| .func, .fn _ _ _, .nilfn=>some false
 | .iface, .nilifc, .ifc _ _| .iface, .ifc _ _, .nilifc=>some false
 |_,_,_=>none

def Vq:Operand->Bool
 | .const _=>true
 |_=>false

def binY(Y:YP)(op:BinOp)(t:TypeId)(x y:Operand)(a b:V):Option V:=
 match a,b with
 | .i k m, .i k' n=>
  match op with
  | .shl=>if n<0 then none else some (.i k (k.wrap (m*2 ^ (min n.toNat k.bits))))
  | .shr=>if n<0 then none else some (.i k (m.fdiv (2 ^ (min n.toNat k.bits))))
  |_=>if k=k' then Zhm op k m n else none
 | .s l, .s m=>Zlt op l m
 | .nilifc, .nilifc=>
  match Y.kd t,op with
  |some .iface, .eql=>if Vq x||Vq y then some (.b true)else none
  |some .iface, .neq=>if Vq x||Vq y then some (.b false)else none
  |_,_=>none
 | .agg xs, .agg ys=>
  match Y.kd t with
  |some kd=>
   if kd.agg then
    match op,eqTy Y 8 t xs ys with
    | .eql,some r=>some (.b r)
    | .neq,some r=>some (.b (!r))
    |_,_=>none
   else none
  |none=>none
 |a,b=>
  match Y.kd t with
  |some kd=>
   match op,eqV kd a b with
   | .eql,some r=>some (.b r)
   | .neq,some r=>some (.b (!r))
   |_,_=>none
  |none=>none

def unY(op:UnOp)(v:V):Option V:=
 match op,v with
 | .not, .b x=>some (.b (!x))
 | .neg, .i k n=>some (.i k (k.wrap (0-n)))
 | .xor, .i k n=>some (.i k (k.wrap (BitVec.ofInt k.bits (if k.signed then -1 else k.max) ^^^ BitVec.ofInt k.bits n).toNat))
 |_,_=>none

def Qi:List V->Option (List UInt8)
 | []=>some []
 | .i .u8 n::r=>(Qi r).map (UInt8.ofNat n.toNat:: ·)
 |_=>none

def XE(σ:St)(k:Nat):V->Option (Nat×List V)
 | .sl none n _ _=>if n=0 then some (0,[])else none
 | .sl (some (id,o)) len _ k'=>if k'=k then(Xg σ (len*k) (.hp id o)).map (len,·)else none
 | .ts cs len _=>(Zo (len*k) cs).map (len,·)
 |_=>none

def QL(σ:St)(k:Nat):V->Option (Nat×List V)
 | .s l=>if k=1 then some (l.length,l.map fun c=> .i .u8 c.toNat)else none
 |v=>XE σ k v

def bnd(y d:Nat):Option V->Option Nat
 |none=>some d
 |some (.i _ n)=>if 0<=n∧n<=y then some n.toNat else none
 |some _=>none

def Qz(y d:Nat)(lo hi:Option V):Option (Nat×Nat):=
 match bnd y d hi with
 |some h=>match bnd h 0 lo with
  |some l=>some (l,h)
  |none=>none
 |none=>none

def VN(Y:YP)(t:TypeId)(v:V)(lo hi mx:Option V):Option V:=
 match Y.kd t with
 |some .str=>
  match v,mx with
  | .s l,none=>match Qz l.length l.length lo hi with
   |some (a,b)=>some (.s ((l.drop a).take (b-a)))
   |none=>none
  |_,_=>none
 |some (.slice e)=>
  match Y.ty e with
  |none=>none
  |some te=>
   match v with
   | .sl none n _ k=>
    if n=0 then
     match bnd 0 0 mx with
     |some _=>match Qz 0 0 lo hi with
      |some _=>if mx.isSome&&hi.isNone then none else some (.sl none 0 (some 0) k)
      |none=>none
     |none=>none
    else none
   | .sl (some (id,o)) len c k=>
    if k=te.size then
     match mx with
     |none=>match Qz (c.getD len) len lo hi with
      |some (a,b)=>some (.sl (some (id,o+a*k)) (b-a) (c.map (· - a)) k)
      |none=>none
     |some _=>match bnd (c.getD len) 0 mx with
      |some m=>if hi.isNone then none else match Qz m 0 lo hi with
       |some (a,b)=>some (.sl (some (id,o+a*k)) (b-a) (some (m-a)) k)
       |none=>none
      |none=>none
    else none
   | .ts cs len c=>
    match mx with
    |none=>match Qz len len lo hi with
     |some (a,b)=>some (.ts ((cs.drop (a*te.size)).take ((b-a)*te.size)) (b-a) (c.map (· - a)))
     |none=>none
    |some _=>match bnd len 0 mx with
     |some m=>if hi.isNone then none else match Qz m 0 lo hi with
      |some (a,b)=>some (.ts ((cs.drop (a*te.size)).take ((b-a)*te.size)) (b-a) (some (m-a)))
      |none=>none
     |none=>none
   |_=>none
 |_=>none

def fieldsOf(Y:YP)(t:TypeId):Option (List (Nat×TypeId)):=
 match Y.kd t with
 |some (.struct fs)=>some fs
 |_=>none

def VO(Y:YP)(σ:St)(t:TypeId)(x:Operand)(ix:V):Option Ad:=
 match Y.kd t,ix with
 |some (.arr n e), .i _ i=>
  match Y.ty e,addr σ x with
  |some te,some a=>if 0<=i∧i<n∧te.size≠0 then some (a.shift (i.toNat*te.size))else none
  |_,_=>none
 |some (.slice e), .i _ i=>
  match Y.ty e,ev σ.env x with
  |some te, .sl (some (id,o)) len _ k=>if 0<=i∧i<len∧te.size≠0∧k=te.size then some (.hp id (o+i.toNat*te.size))else none
  |some te, .ts cs len _=>if 0<=i∧i<len∧te.size≠0 then some (.ro (cs.drop (i.toNat*te.size)))else none
  |_,_=>none
 |_,_=>none

def Zes(Y:YP)(σ:St)(t:TypeId)(x:Operand)(f:Nat):Option Ad:=
 match fieldsOf Y t with
 |some fs=>
  match fs[f]?,addr σ x with
  |some (off,ft),some a=>
   match Y.ty ft with
   |some ti=>if ti.size≠0 then some (a.shift off)else none
   |none=>none
  |_,_=>none
 |none=>none

def Ztn(ti:TI)(cs:List V)(off:Nat):Option V:=
 match Zo ti.size (cs.drop off) with
 |some l=>QK ti.kd.agg l
 |none=>none

def VP(op:Int->Int->Int)(k:IntKind)(x:Int):List V->Option V
 | []=>some (.i k x)
 | .i k' y::r=>if k'=k then VP op k (op x y) r else none
 |_=>none

def Zf7(op:Int->Int->Int):List V->Option V
 | .i k x::r=>VP op k x r
 |_=>none

def Ju(e:Operand->V)(place:Nat->Option (Nat×Nat)):List (Nat×Operand)->List V->Option (List V)
 | [],cs=>some cs
 |p::r,cs=>match place p.1 with
  |some (off,size)=>
   let new:=(e p.2).cells
   if new.length=size∧off+new.length<=cs.length∧Zk new then Ju e place r (splice cs off new)else none
  |none=>none

def Zhn(Y:YP)(fs:List (Nat×TypeId))(j:Nat):Option (Nat×Nat):=
 match fs[j]? with
 |some (off,ft)=>(Y.ty ft).map fun tf=>(off,tf.size)
 |none=>none

def opQ(Y:YP)(σ:St)(o:Oper):Option Q:=
 let e:=ev σ.env
 let v (x:Option V):Option Q:=x.map .val
 match o.op with
 | .move x| .assign x=>some (.val (e x))
 | .pick c a b=>match e c with
  | .b x=>some (.val (if x then e a else e b))
  |_=>none
 | .nilCheck x=>
  match e x with
  | .p (some a)=>some (.val (.p (some a)))
  | .tp cs=>some (.val (.tp cs))
  | .fn (.func f) a c=>some (.val (.fn (.func f) a c))
  | .undef=>match addr σ x with
   |some (.lb s off)=>some (.ref s off)
   |_=>none
  |_=>none
 | .binOp op t x y _=>v (binY Y op t x y (e x) (e y))
 | .unOp op _ x=>v (unY op (e x))
 | .makeFunc f a c=>some (.val (.fn f (a.toList.map e) (c.toList.map e)))
 | .makeInterface t x=>match Y.kd t with
  |some .iface=>none
  |some _=>some (.val (.ifc t (e x)))
  |none=>none
 | .build t parts=>
  match Y.ty t with
  |some ti=>
   match ti.kd with
   | .struct fs=>if fs.all (fun f=>(Y.ty f.2).isSome)then v ((Ju e (Zhn Y fs) parts.toList ti.zero).map .agg)else none
   | .arr _ et=>match Y.ty et with
    |some tf=>v ((Ju e (fun j=>some (j*tf.size,tf.size)) parts.toList ti.zero).map .agg)
    |none=>none
   |_=>none
  |none=>none
 | .load t a=>
  match Y.ty t,addr σ a with
  |some ti,some ad=>v ((Xg σ ti.size ad).bind (QK ti.kd.agg))
  |_,_=>none
 | .fieldAddr t x f=>(Zes Y σ t x f).map (·.q)
 | .indexAddr t x ix=>(VO Y σ t x (e ix)).map (·.q)
 | .field t x f=>
  match fieldsOf Y t,e x with
  |some fs, .agg cs=>match fs[f]? with
   |some (off,ft)=>match Y.ty ft with
    |some tf=>v (Ztn tf cs off)
    |none=>none
   |none=>none
  |_,_=>none
 | .index t x ix=>
  match Y.kd t,e x,e ix with
  |some .str, .s l, .i _ i=>if 0<=i then v ((l[i.toNat]?).map fun c=> .i .u8 c.toNat)else none
  |some (.arr n et), .agg cs, .i _ i=>if 0<=i∧i<n then
    match Y.ty et with
    |some tf=>v (Ztn tf cs (i.toNat*tf.size))
    |none=>none
   else none
  |_,_,_=>none
 | .extract t ix=>match e t with
  | .tup vs=>v (vs[ix]?)
  |_=>none
 | .slice t x lo hi mx=>v (VN Y t (e x) (lo.map e) (hi.map e) (mx.map e))
 | .convert src dst x=>
  match Y.kd src,Y.kd dst,e x with
  |some _,some (.int k), .i _ n=>some (.val (.i k (k.wrap n)))
  |some .str,some .str, .s l=>some (.val (.s l))
  |some (.slice et),some .str,x=>match Y.kd et with
   |some (.int .u8)=>v (((XE σ 1 x).bind fun nc=>Qi nc.2).map .s)
   |_=>none
  |_,_,_=>none
 | .call {callee:= .builtin .len,args,argTypes} =>
  match argTypes.toList,args.toList with
  | [t],[x]=>match Y.kd t,e x with
   |some .str, .s l=>some (.val (.i .i64 l.length))
   |some (.slice _), .sl _ n _ _=>some (.val (.i .i64 n))
   |some (.slice _), .ts _ n _=>some (.val (.i .i64 n))
   |some (.map _ _), .mp none=>some (.val (.i .i64 0))
   |some (.map _ _), .mp (some r)=>match σ.h.get r with
    |some (.map es)=>some (.val (.i .i64 es.length))
    |_=>none
   |some (.arr n _),_=>some (.val (.i .i64 n))
   |_,_=>none
  |_,_=>none
 | .call {callee:= .builtin .cap,args,argTypes} =>
  match argTypes.toList,args.toList with
  | [t],[x]=>match Y.kd t,e x with
   |some (.slice _), .sl none _ _ _=>some (.val (.i .i64 (0:Nat)))
   |some (.slice _), .sl (some _) _ (some c) _=>some (.val (.i .i64 c))
   |_,_=>none
  |_,_=>none
 | .call {callee:= .builtin .max,args, ..} =>v (Zf7 (fun x y=>if y>x then y else x) (args.toList.map e))
 | .call {callee:= .builtin .min,args, ..} =>v (Zf7 (fun x y=>if y<x then y else x) (args.toList.map e))
 |_=>none

def putQ(σ:St)(d:Option Tmp):Q->Option St
 | .val v=>match d with
  |some d=>some {σ with env:=σ.env.set d v}
  |none=>some σ
 | .ref s o=>match d with
  |some d=>some {σ with env:=σ.env.set d .rf,refs:=(d,s,o)::σ.refs.filter fun r=>r.1 !=d}
  |none=>some σ

def putV(σ:St)(d:Option Tmp)(v:V):St:=
 match d with
 |some d=> {σ with env:=σ.env.set d v}
 |none=>σ

def most:Nat:=2 ^ 40

def Xz(Y:YP)(σ:St)(te:TI)(xt:TypeId)(x:V):Option (Nat×List V):=
 match Y.kd xt with
 |none=>none
 |some (.int _)=>match x with
  | .i _ n=>if 0<=n∧n<=most∧n.toNat*te.bytes<=most then some (n.toNat,(List.replicate n.toNat te.zero).flatten)else none
  |_=>none
 |some _=>QL σ te.size x

def ZR(Y:YP)(σ:St)(st xt:TypeId)(s x:V):Option (V×Heap):=
 match Y.kd st with
 |some (.slice e)=>
  match Y.ty e with
  |none=>none
  |some te=>
   match Xz Y σ te xt x with
   |none=>none
   |some (n,new)=>
    if !Zk new||te.size=0 then none else
    match s with
    | .sl none _ _ _=>
     if n=0 then some (.sl none 0 (some 0) te.size,σ.h) else
     if n*te.bytes<=most∧n<=most then some (.sl (some (σ.h.nx,0)) n none te.size,σ.h.pushT (Y.tag e) (.arr new true))else none
    | .sl (some (id,o)) len c k=>
     if k≠te.size then none else
     if n=0 then some (.sl (some (id,o)) len c k,σ.h) else
     if(len+n)*te.bytes>most∨len+n>most then none else
     match c with
     |some c=>
      if len+n<=c then
       match σ.h.get id with
       |some (.arr cs true)=>if o+(len+n)*k<=cs.length then some (.sl (some (id,o)) (len+n) (some c) k,σ.h.set id (some (.arr (splice cs (o+len*k) new) true)))else none
       |_=>none
      else
       match Xg σ (len*k) (.hp id o) with
       |some old=>some (.sl (some (σ.h.nx,0)) (len+n) none k,σ.h.push (.arr (old++new) true))
       |none=>none
     |none=>
      match σ.h.get id with
      |some (.arr cs wr)=>
       if o+(len+n)*k<=cs.length then
        if wr then some (.sl (some (id,o)) (len+n) none k,σ.h.set id (some (.arr (splice cs (o+len*k) new) true)))else none
       else
        if wr||o+len*k=cs.length then
         match Zo (len*k) (cs.drop o) with
         |some old=>some (.sl (some (σ.h.nx,0)) (len+n) none k,(σ.h.set id none).pushT (if o=0∧σ.h.tagOf id=some e then some e else none) (.arr (old++new) wr))
         |none=>none
        else none
      |_=>none
    | .ts cs len c=>
     if n=0 then some (.ts cs len c,σ.h) else
     if(len+n)*te.bytes>most∨len+n>most then none else
     match c with
     |some c=>
      if len+n<=c then none else
       match Zo (len*te.size) cs with
       |some old=>some (.sl (some (σ.h.nx,0)) (len+n) none te.size,σ.h.push (.arr (old++new) true))
       |none=>none
     |none=>none
    |_=>none
 |_=>none

inductive R where
 |st (σ:St)
 |call (f:FuncId) (args:List V)

def Wo(loc:Nat->Bool)(σ:St)(d:Option Tmp)(cs:List V)(tg:Option TypeId):Option St:=
 match d with
 |some d=>
  if loc d then some {σ with env:=σ.env.set d (.lb cs),refs:=σ.refs.filter fun r=>r.2.1 !=d}
  else some {σ with env:=σ.env.set d (.p (some (σ.h.nx,0))),h:=σ.h.pushT tg (.arr cs true)}
 |none=>none

def XQ:List V->List V->Option Bool
 | [],[]=>some true
 | .i j x::xs, .i k y::ys=>if j=k then(XQ xs ys).map fun r=>x==y&&r else none
 |_,_=>none
def Zcv(kk:Kd)(x y:V):Option Bool:=match kk with
 | .arr _ _=>(match x,y with
  | .agg xs, .agg ys=>XQ xs ys
  |_,_=>none)
 |kk=>JO kk x y
def Zj1(kk:Kd)(x:V):Bool:=match kk with
 | .arr n _=>(match x with
  | .agg xs=>xs.length==n&&(XQ xs xs).isSome
  |_=>false)
 |_=>true
def QM(kk:Kd)(k:V)(e:V×V):Bool:=match Zcv kk k e.1 with|some r=>r|none=>false
def ZP(kk:Kd)(k:V):List (V×V)->Bool
 | []=>Zj1 kk k
 |e::r=>(Zcv kk k e.1).isSome&&ZP kk k r
def XF(kk:Kd)(k:V):List (V×V)->Option V
 | []=>none
 |e::r=>if QM kk k e then some e.2 else XF kk k r
def Xh(kk:Kd)(k v:V):List (V×V)->List (V×V)
 | []=> [(k,v)]
 |e::r=>if QM kk k e then(k,v)::r else e::Xh kk k v r

def Wp:Kd->Bool
 | .int _| .str| .bool=>true
 |_=>false
def Qm(Y:YP)(t:TypeId):Bool:=match Y.kd t with
 |some (.arr _ e)=>(match Y.ty e with
  |some te=>te.size==1&&(match te.kd with| .int _=>true|_=>false)
  |none=>false)
 |some kk=>Wp kk
 |none=>false

def XZ(Y:YP)(loc:Nat->Bool)(σ:St)(o:Oper):Option R:=
 match opQ Y σ o with
 |some q=>(putQ σ o.dst q).map .st
 |none=>
  match o.op with
  | .alloc t=>match Y.ty t with
   |some ti=>(Wo loc σ o.dst ti.zero (Y.tag t)).map .st
   |none=>none
  | .box t x=>match Y.ty t with
   |some ti=>if(ev σ.env x).cells.length=ti.size∧Zk (ev σ.env x).cells then(Wo loc σ o.dst (ev σ.env x).cells none).map .st else none
   |none=>none
  | .store t a x=>
   match Y.ty t,addr σ a with
   |some ti,some ad=>if(ev σ.env x).cells.length=ti.size∧Zk (ev σ.env x).cells then(storeAt σ (ev σ.env x).cells ad).map fun σ'=> .st (putV σ' o.dst .undef)else none
   |_,_=>none
  | .buildSlice t n parts=>
   match Y.kd t with
   |some (.slice et)=>match Y.ty et with
    |some te=>
     if te.size=0∨n*te.size>2 ^ 20 then none else
     match Ju (ev σ.env) (fun j=>some (j*te.size,te.size)) parts.toList (List.replicate n te.zero).flatten with
     |some cs=>some (.st (putV {σ with h:=σ.h.push (.arr cs true)} o.dst (.sl (some (σ.h.nx,0)) n (some n) te.size)))
     |none=>none
    |none=>none
   |_=>none
  | .makeSlice t l c=>
   match Y.kd t,ev σ.env l,ev σ.env c with
   |some (.slice et), .i _ l, .i _ c=>match Y.ty et with
    |some te=>
     if te.size≠0∧0<=l∧l<=c∧c<=most∧c*te.bytes<=most then
      some (.st (putV {σ with h:=σ.h.push (.arr (List.replicate c.toNat te.zero).flatten true)} o.dst (.sl (some (σ.h.nx,0)) l.toNat (some c.toNat) te.size)))
     else none
    |none=>none
   |_,_,_=>none
  | .convert src dst x=>
   match Y.kd src,Y.kd dst,ev σ.env x with
   |some .str,some (.slice et), .s l=>match Y.ty et with
    |some te=>match te.kd with
     | .int .u8=>some (.st (putV {σ with h:=σ.h.push (.arr (l.map fun c=> .i .u8 c.toNat) true)} o.dst (.sl (some (σ.h.nx,0)) l.length none 1)))
     |_=>none
    |none=>none
   |_,_,_=>none
  | .call {callee:= .builtin .append,args,argTypes} =>
   match args.toList,argTypes.toList with
   | [s,x],[st,xt]=>match ZR Y σ st xt (ev σ.env s) (ev σ.env x) with
    |some (v,h)=>some (.st (putV {σ with h:=h} o.dst v))
    |none=>none
   |_,_=>none
  | .call {callee:= .value f,args, ..} =>
   match ev σ.env f with
   | .fn (.func g) a c=>some (.call g (a++args.toList.map (ev σ.env)++c))
   |_=>none
  |_=>none

def Zj2(Y:YP)(t:TypeId):V:=match (Y.P.info? t).bind (·.zero) with
 |some z=>ofC z
 |none=> .undef

def VS(h:Heap)(r:Option Nat):Option (List (V×V)):=match r with
 |none=>some []
 |some r=>match h.get r with
  |some (.map es)=>some es
  |_=>none

def mapH(Y:YP)(σ:St)(o:Oper):Option (Heap×V):=
 match o.op with
 | .lookup t m k ok=>match Y.kd t,ev σ.env m with
  |some (.map kt et), .mp r=>match Y.kd kt,VS σ.h r with
   |some kk,some es=>if Qm Y kt&&ZP kk (ev σ.env k) es&&(Y.ty et).isSome then
     match XF kk (ev σ.env k) es with
     |some v=>some (σ.h,if ok then .tup [v, .b true]else v)
     |none=>some (σ.h,if ok then .tup [Zj2 Y et, .b false]else Zj2 Y et)
    else none
   |_,_=>none
  |_,_=>none
 | .mapUpdate t m k v| .insert t m k v=>match Y.kd t,ev σ.env m with
  |some (.map kt _), .mp (some r)=>match Y.kd kt,σ.h.get r with
   |some kk,some (.map es)=>if Qm Y kt&&ZP kk (ev σ.env k) es then some (σ.h.set r (some (.map (Xh kk (ev σ.env k) (ev σ.env v) es))), .undef)else none
   |_,_=>none
  |_,_=>none
 | .call {callee:= .builtin .clear,args,argTypes} =>match args.toList,argTypes.toList with
  | [x],[t]=>match Y.kd t,ev σ.env x with
   |some (.slice _), .sl none _ _ _=>some (σ.h, .tup [])
   |some (.slice e), .sl (some (id,off)) len _ k=>match Y.ty e with
    |some te=>if len=0 then some (σ.h, .tup []) else
     if k=te.size then match σ.h.get id with
     |some (.arr cs true)=>if off+len*te.size<=cs.length then some (σ.h.set id (some (.arr (splice cs off (List.replicate len te.zero).flatten) true)), .tup [])else none
     |_=>none
     else none
    |none=>none
   |_,_=>none
  |_,_=>none
 | .call {callee:= .builtin .copy,args,argTypes} =>match args.toList,argTypes.toList with
  | [d,x],st::_=>match Y.kd st,ev σ.env d with
   |some (.slice e), .sl (some (id,off)) len _ k=>match Y.ty e with
    |some te=>match QL σ te.size (ev σ.env x) with
     |some (n,cs)=>if k=te.size∧te.size≠0∧Zk cs=true then
       match σ.h.get id with
       |some (.arr cs0 true)=>if off+(cs.take (min n len*te.size)).length<=cs0.length then
         some (σ.h.set id (some (.arr (splice cs0 off (cs.take (min n len*te.size))) true)), .i .i64 ((min n len:Nat):Int))else none
       |_=>none
      else none
     |none=>none
    |none=>none
   |_,_=>none
  |_,_=>none
 |_=>none

def Zel(Y:YP)(σ:St)(o:Oper):Option V:=match o.op with
 | .lookup _ _ _ _=>(mapH Y σ o).map (·.2)
 |_=>none

def newO(Y:YP)(σ:St)(o:Oper):Option (YObj×(Nat->V)):=
 match o.op with
 | .makeSlice t l c=>
  match Y.kd t,ev σ.env l,ev σ.env c with
  |some (.slice et), .i _ l, .i _ c=>match Y.ty et with
   |some te=>
    if te.size≠0∧0<=l∧l<=c∧c<=most∧c*te.bytes<=most then
     some (.arr (List.replicate c.toNat te.zero).flatten true,fun i=> .sl (some (i,0)) l.toNat (some c.toNat) te.size)
    else none
   |none=>none
  |_,_,_=>none
 | .makeMap _ none=>some (.map [],fun i=> .mp (some i))
 |_=>none

def QN:List UInt8->UInt8->Nat->Int
 | [],_,_=> -1
 |b::l,c,k=>if b==c then(k:Int)else QN l c (k+1)

def extV:Nat->List V->Option V
 |1,[.p a]=>some (.p a)
 |2,[.s l, .i .u8 c]=>some (.i .i64 (QN l c.toNat.toUInt8 0))
 |_,_=>none

def exoQ(Y:YP)(σ:St)(o:Oper):Option V:=
 match o.op with
 | .call {callee:= .value f,args, ..} =>match ev σ.env f with
  | .fn (.func g) a c=>match Y.extOf g with
   |some k=>extV k (a++args.toList.map (ev σ.env)++c)
   |none=>none
  |_=>none
 | .call {callee:= .builtin .unsafeSliceData,args, ..} =>match args.toList with
  | [x]=>match ev σ.env x with
   | .sl none _ _ _=>some (.p none)
   | .sl (some (id,off)) len _ _=>if len=0 then none else some (.p (some (id,off)))
   |_=>none
  |_=>none
 | .slice t x none none none=>match Y.kd t,ev σ.env x with
  |some (.arr n e), .tp cs=>match Y.ty e with
   |some _=>some (.ts cs n (some n))
   |none=>none
  |_,_=>none
 |_=>none

def nilT(Y:YP)(σ:St)(o:Oper):Option (Nat×Bool):=
 match o.op with
 | .binOp op t x y _=>match Y.kd t,ev σ.env x,ev σ.env y with
  |some (.slice _), .ts _ n _, .sl none _ _ _=>match op with
   | .eql=>some (n,false)
   | .neq=>some (n,true)
   |_=>none
  |_,_,_=>none
 |_=>none

def isU(Y:YP)(t:TypeId):Bool:=match Y.P.underlying t with
 |some .unsafePointer=>true
 |_=>false
def Zcw(Y:YP)(t e:TypeId):Bool:=match Y.kd t with
 |some (.ptr e')=>e'==e
 |_=>false

def exoH(Y:YP)(σ:St)(o:Oper):Option (Heap×V):=
 match o.op with
 | .slice t x none none none=>match Y.kd t,ev σ.env x with
  |some (.arr n e), .p (some (id,off))=>match Y.ty e,σ.h.get id with
   |some te,some (.arr cs _)=>if te.size≠0∧off+n*te.size<=cs.length then some (σ.h, .sl (some (id,off)) n (some n) te.size)else none
   |_,_=>none
  |_,_=>none
 | .convert src dst x=>match ev σ.env x with
  | .p (some (id,0))=>match σ.h.get id,σ.h.tagOf id with
   |some (.arr cs _),some t=>match Y.ty t with
    |some ti=>if ti.size≠0∧ti.size<=cs.length∧((Zcw Y src t&&isU Y dst)||(isU Y src&&Zcw Y dst t))=true then some (σ.h, .p (some (id,0)))else none
    |none=>none
   |_,_=>none
  |_=>none
 | .binOp op t x y _=>match ev σ.env x,ev σ.env y,Y.kd t with
  | .p (some a), .p (some b),some (.ptr e)=>if a=b∧(σ.h.get a.1).isSome=true∧(Y.ty e).isSome=true then
    match op with
    | .eql=>some (σ.h, .b true)
    | .neq=>some (σ.h, .b false)
    |_=>none
   else none
  |_,_,_=>none
 | .call {callee:= .builtin .unsafeString,args,argTypes} =>match args.toList,argTypes.toList with
  | [x,n],[pt,_]=>match ev σ.env x,ev σ.env n with
   | .p a, .i .i64 n=>if n=0 then some (σ.h, .s []) else
    match a with
    |some (id,0)=>match σ.h.get id,σ.h.tagOf id with
     |some (.arr cs _),some t=>match Y.kd t with
      |some (.int .u8)=>if Zcw Y pt t=true∧n=cs.length∧cs.length<=most then(Qi cs).map fun l=>(σ.h.set id (some (.arr cs false)), .s l)else none
      |_=>none
     |_,_=>none
    |_=>none
   |_,_=>none
  |_,_=>none
 |_=>none

inductive Out where
 |normal
 |exit (id:Nat)
 |ret

def Jf(ops:Array Oper)(env:List V)(o:Oper):Option Bool:=
 match o.guard with
 |none=>some true
 |some (j,want)=>
  match (ops[j]?).bind (·.dst) with
  |some d=>match env.getD d .undef with
   | .b x=>some (x==want)
   | .tup []=>some false
   |_=>none
  |none=>none

def Vr(Y:YP)(σ:St):ResultVar->Option V
 | .tmp t=>match ev σ.env (.tmp t) with
  | .undef=>none
  |v=>some v
 | .cell a t=>match Y.ty t,addr σ (.tmp a) with
  |some ti,some ad=>(Xg σ ti.size ad).bind (QK ti.kd.agg)
  |_,_=>none

def QB(Y:YP)(σ:St):List ResultVar->Option (List V)
 | []=>some []
 |r::l=>match Vr Y σ r,QB Y σ l with
  |some v,some vs=>some (v::vs)
  |_,_=>none

def Jg(Y:YP)(fn:Func)(σ:St):Option V:=
 match QB Y σ fn.results.toList with
 |some [v]=>some v
 |some vs=>some (.tup vs)
 |none=>none
end Go.Y
