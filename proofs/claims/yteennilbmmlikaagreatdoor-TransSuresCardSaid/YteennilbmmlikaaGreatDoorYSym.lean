/- A part of the proof. -/
import Derived.Test.YteennilbmmlikaaGreatDoorYAny3
namespace Go.Y
set_option maxRecDepth 1000000
set_option maxHeartbeats 0
section
variable {Y:YP} {σ σ':St}
def Br(x:Bool)(p:Bool->Prop):Prop:=match x with|true=>p true|false=>p false
theorem Zvd{x:Bool}{p:Bool->Prop} :Br x p↔p x:=by cases x<;>exact Iff.rfl
def If(x:Bool)(a b:Prop):Prop:=match x with|true=>a|false=>b
theorem Zf{x:Bool}{a b:Prop}(h:x=true->a)(g:x=false->b):If x a b:=by cases x;exact g rfl;exact h rfl
def SlO(a:Option (Nat×Nat))(n:Prop)(p:Nat->Nat->Prop):Prop:=match a with
 |none=>n
 |some (c,b)=>p c b
def Zb(h:Heap)(c a n:Nat):Option (List V):=
 match h.get c with
 |some (.arr b _)=>Zs n (b.drop a)
 |_=>none
def Zi(h:Heap)(id off:Nat)(new:List V):Option Heap:=
 match h.get id with
 |some (.arr cs true)=>if off+new.length<=cs.length then some (h.set id (some (.arr (splice cs off new) true)))else none
 |_=>none
def Zk(Y:YP)(h:Heap)(st a:TypeId)(s x:V):Option (V×Heap):=Xd Y ⟨[],[],h⟩ st a s x
def ZJa:V->Bool
 | .i _ _=>true
 |_=>false
theorem VO{st a}{s x:V} :Xd Y σ st a s x=Zk Y σ.h st a s x:=rfl
def Zve(Y:YP):Nat->TypeId->List Kd
 |0,_=> []
 |n+1,t=>match Y.kd t with
  |some (.struct b)=>b.flatMap λf=>Zve Y n f.2
  |some (.arr a e)=>(List.replicate a (Zve Y n e)).flatten
  |some k=> [k]
  |none=> []
def ExK1(ro:Bool)(k:Kd)(p:V->Prop):Prop:=
 match k with
 | .int k=> ∃n:Int,p (.i k n)
 | .bool=> ∃b:Bool,p (.b b)
 | .str=> ∃s:List UInt8,p (.s s)
 | .ptr _=>match ro with
  |true=> ∃d:List V,p (.tp d)
  |false=> ∃a:Option (Nat×Nat),p (.p a)
 | .slice _=>match ro with
  |true=> ∃(d:List V) (l:Nat) (c:Option Nat),p (.ts d l c)
  |false=> ∃(a:Option (Nat×Nat)) (l:Nat) (c:Option Nat) (k:Nat),p (.sl a l c k)
 | .map _ _=> ∃r:Option Nat,p (.mp r)
 | .iface=>p .nilifc\/ ∃(t:TypeId) (v:V),p (.ifc t v)
 |_=> ∃v:V,p v
theorem exK1{ro:Bool}{k:Kd}{p:V->Prop}(h:ExK1 ro k p): ∃v,p v:=by
 unfold ExK1 at h;split at h;obtain⟨n,h⟩:=h;exact⟨_,h⟩;obtain⟨n,h⟩:=h;exact⟨_,h⟩;obtain⟨n,h⟩:=h;exact⟨_,h⟩;split at h;obtain⟨n,h⟩:=h;exact⟨_,h⟩;obtain⟨n,h⟩:=h;exact⟨_,h⟩;split at h;obtain⟨_,_,_,h⟩:=h;exact⟨_,h⟩;obtain⟨_,_,_,_,h⟩:=h;exact⟨_,h⟩;obtain⟨n,h⟩:=h;exact⟨_,h⟩;rcases h with h|⟨t,v,h⟩;exact⟨_,h⟩;exact⟨_,h⟩;exact h
def ExK(ro:Bool):List Kd->(List V->Prop)->Prop
 | [],p=>p []
 |k::r,p=>ExK1 ro k λv=>ExK ro r λl=>p (v::l)
theorem exK{ro:Bool}{a:List Kd} : ∀ {p:List V->Prop},ExK ro a p-> ∃r,p r:=by
 induction a with
 |nil=>intro p h;exact⟨[],h⟩
 |cons k r b=>
  intro p h;obtain⟨x,h⟩:=exK1 h;obtain⟨l,h⟩:=b h;exact⟨_,h⟩
def ExL(ro:Bool)(a:List Kd)(p:List V->Prop):Prop:=
 match Nat.blt 64 a.length with
 |true=> ∃b:List V,p b
 |false=>ExK ro a p
theorem exL{ro:Bool}{a:List Kd}{p:List V->Prop}(h:ExL ro a p): ∃r,p r:=by
 unfold ExL at h;split at h;exact h;exact exK h
def ExR(Y:YP)(ro:Bool)(t:TypeId)(p:V->Prop):Prop:=
 match Y.kd t with
 |some k=>match k.agg with
  |true=>ExL ro (Zve Y 8 t) λr=>p (.agg r)
  |false=>ExK1 ro k p
 |none=> ∃v:V,p v
theorem exR{ro:Bool}{t}{p:V->Prop}(h:ExR Y ro t p): ∃v,p v:=by
 unfold ExR at h;split at h;split at h;obtain⟨r,h⟩:=exL h;exact⟨_,h⟩;exact exK1 h;exact h
def ExRs(Y:YP)(ro:Bool):List TypeId->(List V->Prop)->Prop
 | [],p=>p []
 |t::r,p=>ExR Y ro t λv=>ExRs Y ro r λl=>p (v::l)
theorem exRs{ro:Bool}{a:List TypeId} : ∀ {p:List V->Prop},ExRs Y ro a p-> ∃r,p r:=by
 induction a with
 |nil=>intro p h;exact⟨[],h⟩
 |cons t r b=>
  intro p h;obtain⟨x,h⟩:=exR h;obtain⟨l,h⟩:=b h;exact⟨_,h⟩
def Zfk(Y:YP)(ro:Bool)(ts:List TypeId)(p:V->Prop):Prop:=
 match ts with
 | [t]=>ExR Y ro t p
 |ts=>ExRs Y ro ts λl=>p (.tup l)
theorem Zog{ro:Bool}{a:List TypeId}{p:V->Prop}(h:Zfk Y ro a p): ∃v,p v:=by
 unfold Zfk at h;split at h;exact exR h;obtain⟨l,h⟩:=exRs h;exact⟨_,h⟩
def bndP(y d:Nat)(o:Option V)(K:Nat->Prop):Prop:=
 match o with
 |none=>K d
 |some (.i _ n)=>(0<=n/\n<=y)/\K n.toNat
 |_=>False
theorem WF{y d:Nat}{o:Option V}{K:Nat->Prop}(h:bndP y d o K): ∃n,bnd y d o=some n/\K n:=by
 unfold bndP at h;split at h;exact⟨d,rfl,h⟩;exact⟨_,by simp only[bnd];rw[uF h.1],h.2⟩;exact h.elim
def qPd(Y:YP)(σ:St)(o:Oper)(K:Q->Prop):Prop:=
 match opQ Y σ o with
 |some q=>K q
 |none=>False
def binP(Y:YP)(σ:St)(o:Oper)(d:BinOp)(a b:V)(K:Q->Prop):Prop:=
 match d,a,b with
 | .add, .s l, .s m=>l.length+m.length<=2 ^ 60/\K (.val (.s (l++m)))
 | .quo, .i k m, .i c n=>if k=c then n≠0/\K (.val (.i k (k.wrap (m.tdiv n))))else False
 | .rem, .i k m, .i c n=>if k=c then n≠0/\K (.val (.i k (m.tmod n)))else False
 | .shl, .i k m, .i _ n=>0<=n/\K (.val (.i k (k.wrap (m*2 ^ (min n.toNat k.bits)))))
 | .shr, .i k m, .i _ n=>0<=n/\K (.val (.i k (m.fdiv (2 ^ (min n.toNat k.bits)))))
 |_,_,_=>qPd Y σ o K
def bigB(Y:YP)(t:TypeId):Bool:=match Y.ty t with
 |some a=>Nat.blt 64 a.size
 |none=>false
def Zvf(Y:YP)(t:TypeId)(b c:Nat)(a:List V):Option (List V):=match Y.ty t with
 |some d=>if a.length=c/\b+a.length<=d.zero.length/\Zp a then some (splice d.zero b a)else none
 |none=>none
def qP(Y:YP)(ro:Bool)(σ:St)(o:Oper)(K:Q->Prop):Prop:=
 match o.op with
 | .load t a=>match Y.ty t,addr σ a with
  |some _,some (.lb _ _)=>qPd Y σ o K
  |some E,some (.hp A j)=>ExL ro (Zve Y 8 t) λr=>Zb σ.h A j E.size=some r/\match Jh E.kd.agg r with
   |some v=>K (.val v)
   |none=>False
  |some E,some (.ro u)=>ExL true (Zve Y 8 t) λr=>Zs E.size u=some r/\match Jh E.kd.agg r with
   |some v=>K (.val v)
   |none=>False
  |_,_=>False
 | .indexAddr t x G=>match Y.kd t,ev σ.env G with
  |some (.slice F), .i _ i=>match Y.ty F,ev σ.env x with
   |some d, .sl a g _ k=>if d.size=0 then False else SlO a False λA j=>(0<=i/\i<g)/\k=d.size/\K (.val (.p (some (A,j+i.toNat*d.size))))
   |some d, .ts u g _=>if d.size=0 then False else(0<=i/\i<g)/\K (.val (.tp (u.drop (i.toNat*d.size))))
   |_,_=>False
  |some (.arr n F), .i _ i=>match Y.ty F,addr σ x with
   |some d,some a=>if d.size=0 then False else(0<=i/\i<n)/\K (a.shift (i.toNat*d.size)).q
   |_,_=>False
  |_,_=>False
 | .pick c a b=>match ev σ.env c with
  | .b x=>Br x λx=>K (.val (if x then ev σ.env a else ev σ.env b))
  |_=>False
 | .slice t x B z C=>match ev σ.env x with
  | .s l=>match Y.kd t,C with
   |some .str,none=>bndP l.length l.length (z.map (ev σ.env)) λb=>bndP b 0 (B.map (ev σ.env)) λa=>K (.val (.s ((l.drop a).take (b-a))))
   |_,_=>False
  | .ts u n c=>match Y.kd t,C with
   |some (.slice e),none=>match Y.ty e with
    |some d=>bndP n n (z.map (ev σ.env)) λb=>bndP b 0 (B.map (ev σ.env)) λa=>K (.val (.ts ((u.drop (a*d.size)).take ((b-a)*d.size)) (b-a) (c.map (· - a))))
    |none=>False
   |some (.slice e),some _=>match Y.ty e,z with
    |some d,some _=>bndP n 0 (C.map (ev σ.env)) λm=>bndP m 0 (z.map (ev σ.env)) λb=>bndP b 0 (B.map (ev σ.env)) λa=>K (.val (.ts ((u.drop (a*d.size)).take ((b-a)*d.size)) (b-a) (some (m-a))))
    |_,_=>False
   |_,_=>False
  | .sl a g c k=>SlO a (∃(H:Option (Nat×Nat)) (n':Nat) (L:Option Nat) (O:Nat),Zbi Y t (.sl none g c k) (B.map (ev σ.env)) (z.map (ev σ.env)) (C.map (ev σ.env))=some (.sl H n' L O)/\K (.val (.sl H n' L O)))
   λA j=>match Y.kd t,C with
   |some (.slice e),none=>match Y.ty e with
    |some d=>k=d.size/\bndP (c.getD g) g (z.map (ev σ.env)) λb=>bndP b 0 (B.map (ev σ.env)) λa=>K (.val (.sl (some (A,j+a*k)) (b-a) (c.map (· - a)) k))
    |none=>False
   |_,_=>False
  |_=>False
 | .index t x G=>match Y.kd t,ev σ.env x,ev σ.env G with
  |some .str, .s l, .i _ i=> ∃c:UInt8,(0<=i/\l[i.toNat]? =some c)/\K (.val (.i .u8 c.toNat))
  |_,_,_=>qPd Y σ o K
 | .binOp P _ x y _=>binP Y σ o P (ev σ.env x) (ev σ.env y) K
 | .build t w=>(match bigB Y t,w.toList with
  |true,[p]=>(match Y.kd t with
   |some (.struct N)=>(match N.all (λf=>(Y.ty f.2).isSome),Zkq Y N p.1 with
    |true,some (j,D)=> ∃u:List V,Zvf Y t j D (ev σ.env p.2).cells=some u/\K (.val (.agg u))
    |_,_=>False)
   |_=>qPd Y σ o K)
  |_,_=>qPd Y σ o K)
 | .convert _ _ x=>match ev σ.env x with
  | .i _ _=>qPd Y σ o K
  | .s _=>qPd Y σ o K
  |_=> ∃l,opQ Y σ o=some (.val (.s l))/\K (.val (.s l))
 |_=>qPd Y σ o K
def QP(Y:YP)(σ:St)(o:Oper)(K:Q->Prop):Prop:= ∃q,opQ Y σ o=some q/\K q
theorem Zdx{o}{K:Q->Prop}(h:qPd Y σ o K):QP Y σ o K:=by
 unfold qPd at h;split at h;rename_i q a;exact⟨q,a,h⟩;exact h.elim
theorem Zlj{ro:Bool}{o}{K:Q->Prop}(h:qP Y ro σ o K):QP Y σ o K:=by
 unfold qP at h;split at h;rename_i t a d;split at h;exact Zdx h;rename_i ti id B f g;obtain⟨r,E,A⟩:=exL h;split at A;rename_i v hv;refine⟨_,?_,A⟩;have W:Xt σ ti.size (.hp id B)=some r:=E;simp[opQ,d,f,g,W,hv];exact A.elim;rename_i ti P f g;obtain⟨r,E,A⟩:=exL h;split at A;rename_i v hv;refine⟨_,?_,A⟩;simp[opQ,d,f,g,E,hv,Xt];exact A.elim;exact h.elim
 .rename_i t x ix d;split at h
  .rename_i et k i s G;split at h
   .rename_i N a L c O j w;split at h;exact h.elim;rename_i H
    cases a with
    |none=>exact h.elim
    |some p=>
    obtain⟨id,B⟩:=p;obtain⟨D,rfl,F⟩:=h;refine⟨_,?_,F⟩;simp[opQ,d,Zbj,s,G,j,w,D,H,Ad.q]
   .rename_i N P L c j w;split at h;exact h.elim;rename_i H;obtain⟨D,F⟩:=h;refine⟨_,?_,F⟩;simp[opQ,d,Zbj,s,G,j,w,D,H,Ad.q]
   .exact h.elim
  .rename_i n et k i s G;split at h;rename_i N a j ha;split at h;exact h.elim;rename_i H;obtain⟨D,F⟩:=h;refine⟨_,?_,F⟩;simp[opQ,d,Zbj,s,G,j,ha,D,H];exact h.elim
  .exact h.elim
 .rename_i c a b d;split at h;rename_i x w;rw[Zvd]at h;exact⟨_,by simp[opQ,d,w],h⟩;exact h.elim
 .rename_i t x lo G mx d;split at h
  .rename_i l w;split at h
   .rename_i s;obtain⟨b,f,h⟩:=WF h;obtain⟨a,g,h⟩:=WF h;refine⟨_,?_,h⟩;simp only[opQ,d,w,Zbi,s,Option.map_none,QW,f,g]
    rfl
   .exact h.elim
  .rename_i P n c w;split at h
   .rename_i e s;split at h
    .rename_i N j;obtain⟨b,f,h⟩:=WF h;obtain⟨a,g,h⟩:=WF h;refine⟨_,?_,h⟩;simp only[opQ,d,w,Zbi,s,j,Option.map_none,QW,f,g]
     rfl
    .exact h.elim
   .rename_i e m0 s;split at h;rename_i N a3 j;obtain⟨m,h0,h⟩:=WF h;obtain⟨b,f,h⟩:=WF h;obtain⟨a,g,h⟩:=WF h;refine⟨_,?_,h⟩;simp only[uw]at h0 f;simp only[opQ,d,w,Zbi,s,j,uw,QW,h0,f,g,Option.isNone_some,uI,vF];exact h.elim
   .exact h.elim
  .rename_i a L c k w
   cases a with
   |none=>
    obtain⟨_,_,_,_,f,g⟩:=h;rw[<-w]at f;exact⟨_,by simp[opQ,d,f],g⟩
   |some p=>
   obtain⟨id,B⟩:=p;simp only[SlO]at h;split at h
   .rename_i e s;split at h
    .rename_i N j;obtain⟨rfl,h⟩:=h;obtain⟨b,f,h⟩:=WF h;obtain⟨a,g,h⟩:=WF h;refine⟨_,?_,h⟩;simp only[opQ,d,w,Zbi,s,j,Option.map_none,QW,f,g,vG]
     rfl
    .exact h.elim
   .exact h.elim
  .exact h.elim
 .rename_i t x ix d;split at h;rename_i l k i f g E;obtain⟨c,⟨A,h5⟩,h6⟩:=h;exact⟨_,by simp[opQ,d,f,g,E,A,h5],h6⟩;exact Zdx h
 .rename_i op t x y z d;unfold binP at h;split at h;rename_i l m f g;refine⟨_,?_,h.2⟩;have:=h.1;simp[opQ,d,binY,f,g,Zpu];omega;rename_i k m O n f g;split at h;rename_i s;subst s;refine⟨_,?_,h.2⟩;simp[opQ,d,binY,f,g,Zkp,h.1];exact h.elim;rename_i k m O n f g;split at h;rename_i s;subst s;refine⟨_,?_,h.2⟩;simp[opQ,d,binY,f,g,Zkp,h.1];exact h.elim
  .rename_i k m O n f g;have Z: ¬n<0:=by have:=h.1;omega
   exact⟨_,by simp[opQ,d,binY,f,g,Z],h.2⟩
  .rename_i k m O n f g;have Z: ¬n<0:=by have:=h.1;omega
   exact⟨_,by simp[opQ,d,binY,f,g,Z],h.2⟩
  .exact Zdx h
 .rename_i t a1 d;split at h
  .rename_i p D hp;split at h
   .rename_i fs s;split at h
    .rename_i B a2 X a0;obtain⟨P,f,g⟩:=h;refine⟨_,?_,g⟩;unfold Zvf at f;have u:=s;unfold YP.kd at u
     cases C:Y.ty t with
     |none=>rw[C]at u;cases u
     |some ti=>
      rw[C]at f u;simp only[uw,uB]at u;simp only[]at f;simp only[opQ,d,C,u,X,vG,hp,Wb,a0];split at f;rename_i W;rw[uF W];cases f;rfl;cases f
    .exact h.elim
   .exact Zdx h
  .exact Zdx h
 .split at h;exact Zdx h;exact Zdx h;obtain⟨l,f,g⟩:=h;exact⟨_,f,g⟩
 .exact Zdx h
def T(x:Bool)(p:Prop):Prop:=match x with|true=>p|false=>False
theorem Zbt{x:Bool}{p:Prop} :T x p↔x=true/\p:=by cases x<;>simp[T]
def RCon(Y:YP)(f:FuncId)(a:List V)(h:Heap)(r:V):Prop:= ∃b,(Con Y f a h λv k=>v=r/\k=b)/\(∀i,i<h.nx->b.get i=h.get i)/\ ∀p,p∈h.tg->p∈b.tg
def FCon(Y:YP)(f:FuncId)(a:List V)(h:Heap)(r:V):Prop:= ∃args',FrzL h a args'/\PCon Y f args' (· =r)
def impP(Y:YP)(ro b:Bool)(σ:St)(g:FuncId)(a:List V)(c:List TypeId)(K:Ef->Prop):Prop:=
 match b with
 |true=>Zfk Y ro c λv=> ∃h,(Con Y g a σ.h λd k=>d=v/\k=h)/\K (.hp h v)
 |false=>Con Y g a σ.h λv h=>Zfk Y ro c λu=>v=u/\K (.hp h u)
def ZE0(Y:YP)(b:Bool)(σ:St)(g:FuncId)(a:List V)(c:List TypeId)(K:Ef->Prop):Prop:=
 match Y.mode g,Xp a with
 |1,true|2,true|3,true=>Zfk Y true c λr=>PCon Y g a (· =r)/\K (.q (.val r))
 |2,false=>Zfk Y true c λr=>FCon Y g a σ.h r/\T (Zi7 r) (K (.q (.val r)))
 |3,false=>Zfk Y true c λr=>RCon Y g a σ.h r/\T (Zi7 r) (K (.q (.val r)))
 |4,_=>impP Y true b σ g a c K
 |7,_=>Zfk Y true c λr=>FCon Y g a σ.h r/\T (Zi7 r) (K (.q (.val r)))
 |5,true=>(match b with
   |true=>Zfk Y false c λv=> ∃x:YObj,(Con Y g a σ.h λd k=>d=v/\k=σ.h.push x)/\K (.al σ.h.nx x v)
   |false=>impP Y false false σ g a c K)\/Zfk Y true c λr=>PCon Y g a (· =r)/\K (.q (.val r))
 |_,_=>impP Y false b σ g a c K
def cvP(Y:YP)(h:Heap)(t:TypeId)(a:Option (Nat×Nat)):Prop:=
 ∃(b:Nat) (d:List V) (wr:Bool) (c:TI),a=some (b,0)/\h.get b=some (.arr d wr)/\h.tagOf b=some t/\Y.ty t=some c/\c.size≠0/\c.size<=d.length
def ZJb(h:Heap)(a b:Option (Nat×Nat)):Prop:= ∃p:Nat×Nat,a=some p/\b=some p/\(h.get p.1).isSome=true
def strH(Y:YP)(h:Heap)(d:TypeId)(a:Option (Nat×Nat))(n:Int):Option (Heap×List UInt8):=
 if n=0 then some (h,[]) else
 match a with
 |some (c,0)=>match h.get c,h.tagOf c with
  |some (.arr b _),some t=>match Y.kd t with
   |some (.int .u8)=>if Ze3 Y d t=true/\n=b.length/\b.length<=most then(Qz b).map λl=>(h.set c (some (.arr b false)),l)else none
   |_=>none
  |_,_=>none
 |_=>none
def ptrP(Y:YP)(σ:St)(c:BinOp)(t:TypeId)(a b:Option (Nat×Nat))(K:Ef->Prop):Prop:=
 match Y.kd t with
 |some (.ptr e)=>(Y.ty e).isSome=true/\match c,b with
  | .eql,none=>K (.q (.val (.b a.isNone)))
  | .neq,none=>K (.q (.val (.b !a.isNone)))
  | .eql,b=>ZJb σ.h a b/\K (.hp σ.h (.b true))
  | .neq,b=>ZJb σ.h a b/\K (.hp σ.h (.b false))
  |_,_=>False
 |_=>False
/-! ### Maps; clear and copy -/
def Zjd(Y:YP)(h:Heap)(d b:TypeId)(r:Option Nat)(k:V):Option (V×Bool):=
 match Y.kd d,Zbl h r with
 |some c,some a=>if QE Y d&&ZY c k a&&(Y.ty b).isSome then
   match XV c k a with
   |some v=>some (v,true)
   |none=>some (Znu Y b,false)
  else none
 |_,_=>none
def lenM(h:Heap)(r:Option Nat):Option Nat:=(Zbl h r).map List.length
def updM(Y:YP)(h:Heap)(c:TypeId)(r:Option Nat)(k v:V):Option Heap:=
 match r with
 |none=>none
 |some r=>match Y.kd c,h.get r with
  |some b,some (.map a)=>if QE Y c&&ZY b k a then some (h.set r (some (.map (Xu b k v a))))else none
  |_,_=>none
def Zvg(Y:YP)(h:Heap)(e:TypeId)(x:V):Option Heap:=
 match x with
 | .sl none _ _ _=>some h
 | .sl (some (f,b)) a _ k=>match Y.ty e with
  |some c=>if a=0 then some h else
   if k=c.size then match h.get f with
   |some (.arr d true)=>if b+a*c.size<=d.length then some (h.set f (some (.arr (splice d b (List.replicate a c.zero).flatten) true)))else none
   |_=>none
   else none
  |none=>none
 |_=>none
def Zlk(Y:YP)(h:Heap)(e:TypeId)(d x:V):Option (Heap×Nat):=
 match d with
 | .sl (some (i,c)) a _ k=>match Y.ty e with
  |some f=>match QS ⟨[],[],h⟩ f.size x with
   |some (n,g)=>if k=f.size/\f.size≠0/\Zp g=true then
     match h.get i with
     |some (.arr b true)=>if c+(g.take (min n a*f.size)).length<=b.length then
       some (h.set i (some (.arr (splice b c (g.take (min n a*f.size))) true)),min n a)else none
     |_=>none
    else none
   |none=>none
  |none=>none
 |_=>none
theorem ZAd{o:Oper}{t g f:TypeId}{m k:Operand}{ok:Bool}{r}{v:V}{b:Bool}(d:o.op= .lookup t m k ok)(j:Y.kd t=some (.map g f))(l:ev σ.env m= .mp r)(h:Zjd Y σ.h g f r (ev σ.env k)=some (v,b)):
  mapH Y σ o=some (σ.h,if ok then .tup [v, .b b]else v):=by
 unfold Zjd at h;split at h;rename_i p n c a;split at h;rename_i i;simp only[mapH,d,j,l,c,a];rw[uF i];split at h;rename_i q e;simp only[uB,uL]at h;obtain⟨rfl,rfl⟩:=h;simp only[e];rename_i e;simp only[uB,uL]at h;obtain⟨rfl,rfl⟩:=h;simp only[e];cases h;cases h
theorem Zvh{o:Oper}{t i j:TypeId}{m k x:Operand}{r}{c:Heap}(a:o.op= .mapUpdate t m k x\/o.op= .insert t m k x)(f:Y.kd t=some (.map i j))(g:ev σ.env m= .mp r)
  (h:updM Y σ.h i r (ev σ.env k) (ev σ.env x)=some c):mapH Y σ o=some (c, .undef):=by
 unfold updM at h;split at h;cases h;split at h;rename_i n l b e;split at h;rename_i d;simp only[uB]at h;subst h;rcases a with a|a;simp only[mapH,a,f,g,b,e];rw[uF d];simp only[mapH,a,f,g,b,e];rw[uF d];cases h;cases h
theorem Zvi{o:Oper}{a:Array Operand}{b:Array TypeId}{t e:TypeId}{x:Operand}{j:Heap}(c:o.op= .call ⟨.builtin .clear,a,b⟩)(l:a.toList= [x])(m:b.toList= [t])(n:Y.kd t=some (.slice e))
  (h:Zvg Y σ.h e (ev σ.env x)=some j):mapH Y σ o=some (j, .tup []):=by
 unfold Zvg at h;split at h;rename_i i;simp only[uB]at h;subst h;simp only[mapH,c,l,m,n,i];rename_i w u s q k i;split at h;rename_i y g;simp only[mapH,c,l,m,n,i,g];split at h;rename_i d;simp only[uB]at h;subst h;rw[uF d];rename_i d;rw[uE d];split at h;rename_i f;rw[uF f];split at h;rename_i v r;split at h;rename_i p;simp only[uB]at h;subst h;simp only[r];rw[uF p];cases h;cases h;cases h;cases h;cases h
theorem ZAe{o:Oper}{a:Array Operand}{b:Array TypeId}{t e:TypeId}{c:List TypeId}{d x:Operand}{l:Heap}{n:Nat}(g:o.op= .call ⟨.builtin .copy,a,b⟩)(r:a.toList= [d,x])(s:b.toList=t::c)(B:Y.kd t=some (.slice e))
  (h:Zlk Y σ.h e (ev σ.env d) (ev σ.env x)=some (l,n)):mapH Y σ o=some (l, .i .i64 (n:Int)):=by
 have f: ∀k v,QS σ k v=QS ⟨[],[],σ.h⟩ k v:=λk v=>rfl;unfold Zlk at h;split at h;rename_i F D C q k y;split at h;rename_i G j;split at h;rename_i m E z;simp only[mapH,g,r,s,B,y,j,f,z];split at h;rename_i w;rw[uF w];split at h;rename_i p A;split at h;rename_i u;simp only[uB,uL]at h;obtain⟨rfl,rfl⟩:=h;simp only[A];rw[uF u];cases h;cases h;cases h;cases h;cases h;cases h
def locD(a:Nat->Bool)(o:Oper):Bool:=match o.dst with|some d=>a d|none=>false
def hrl(Y:YP)(a:Nat->Bool)(o:Oper):Bool:=match o.op with| .load t _=>Y.hr t||locD a o|_=>false
def efP(Y:YP)(u:Nat->Bool)(w:Bool)(σ:St)(o:Oper)(K:Ef->Prop):Prop:=
 match o.op with
 | .alloc t=>match Y.ty t,o.dst with
  |some F,some d=>match u d with
   |true=>K (.box F.zero)
   |false=>K (.hp (σ.h.pushT (Y.tag t) (.arr F.zero true)) (.p (some (σ.h.nx,0))))
  |_,_=>False
 | .box t x=>match Y.ty t,o.dst with
  |some F,some d=>T (decide ((ev σ.env x).cells.length=F.size)&&Zp (ev σ.env x).cells) (match u d with
   |true=>K (.box (ev σ.env x).cells)
   |false=>K (.hp (σ.h.push (.arr (ev σ.env x).cells true)) (.p (some (σ.h.nx,0)))))
  |_,_=>False
 | .store t a x=>match Y.ty t,addr σ a with
  |some F,some (.lb s A)=>match σ.env.getD s .undef with
   | .lb B=>T (decide ((ev σ.env x).cells.length=F.size)&&Zp (ev σ.env x).cells&&decide (A+(ev σ.env x).cells.length<=B.length)) (K (.st s (splice B A (ev σ.env x).cells)))
   |_=>False
  |some F,some (.hp C A)=>T (decide ((ev σ.env x).cells.length=F.size)&&Zp (ev σ.env x).cells) (∃h,Zi σ.h C A (ev σ.env x).cells=some h/\K (.hp h .undef))
  |_,_=>False
 | .buildSlice t n H=>match Y.kd t with
  |some (.slice E)=>match Y.ty E with
   |some z=>T (!(decide (z.size=0)||decide (n*z.size>2 ^ 20))) (match Wb (ev σ.env) (λj=>some (j*z.size,z.size)) H.toList (List.replicate n z.zero).flatten with
    |some B=>match !locD u o&&Xp B with
     |true=>K (.q (.val (.ts B n (some n))))
     |false=>K (.hp (σ.h.push (.arr B true)) (.sl (some (σ.h.nx,0)) n (some n) z.size))
    |none=>False)
   |none=>False
  |_=>False
 | .makeSlice t l c=>match Y.kd t,ev σ.env l,ev σ.env c with
  |some (.slice E), .i _ l, .i _ c=>match Y.ty E with
   |some z=>if z.size=0 then False else(0<=l/\l<=c/\c<=most/\c*z.bytes<=most)/\
     match w with
     |true=>K (.nw σ.h.nx (.arr (List.replicate c.toNat z.zero).flatten true) (.sl (some (σ.h.nx,0)) l.toNat (some c.toNat) z.size))
     |false=>K (.hp (σ.h.push (.arr (List.replicate c.toNat z.zero).flatten true)) (.sl (some (σ.h.nx,0)) l.toNat (some c.toNat) z.size))
   |none=>False
  |_,_,_=>False
 | .convert s d x=>match Y.kd s,Y.kd d with
  |some .str,some (.slice E)=>match ev σ.env x,Y.kd E with
   | .s l,some (.int .u8)=>K (.hp (σ.h.push (.arr (l.map λc=> .i .u8 c.toNat) true)) (.sl (some (σ.h.nx,0)) l.length none 1))
   |_,_=>False
  |some (.ptr t),_=>match isU Y d,ev σ.env x with
   |true, .p a=>cvP Y σ.h t a/\K (.hp σ.h (.p a))
   |_,_=>qP Y (hrl Y u o) σ o λq=>K (.q q)
  |_,some (.ptr t)=>match isU Y s,ev σ.env x with
   |true, .p a=>cvP Y σ.h t a/\K (.hp σ.h (.p a))
   |_,_=>qP Y (hrl Y u o) σ o λq=>K (.q q)
  |_,_=>qP Y (hrl Y u o) σ o λq=>K (.q q)
 | .call {callee:= .builtin .append,args,argTypes} =>
  match args.toList,argTypes.toList with
  | [s,x],[st,O]=>match ev σ.env s with
   | .ts D G c0=>(∃(a:Option (Nat×Nat)) (l:Nat) (c:Option Nat) (k:Nat) (h:Heap),Zk Y σ.h st O (.ts D G c0) (ev σ.env x)=some (.sl a l c k,h)/\K (.hp h (.sl a l c k)))\/
     (Zk Y σ.h st O (.ts D G c0) (ev σ.env x)=some (.ts D G c0,σ.h)/\K (.hp σ.h (.ts D G c0)))
   | .sl W G c0 X=>match ZJa (ev σ.env x) with
    |true=> ∃(C o l:Nat) (c:Option Nat) (k:Nat) (h:Heap),Zk Y σ.h st O (.sl W G c0 X) (ev σ.env x)=some (.sl (some (C,o)) l c k,h)/\K (.hp h (.sl (some (C,o)) l c k))
    |false=> ∃(a:Option (Nat×Nat)) (l:Nat) (c:Option Nat) (k:Nat) (h:Heap),Zk Y σ.h st O (.sl W G c0 X) (ev σ.env x)=some (.sl a l c k,h)/\K (.hp h (.sl a l c k))
   |_=>False
  |_,_=>False
 | .call {callee:= .value f,args, ..} =>
  match ev σ.env f with
  | .fn (.func g) a c=>match Y.extOf g with
   |some _=>match exoQ Y σ o with
    |some v=>K (.q (.val v))
    |none=>False
   |none=>match Y.P.funcs[g]? with
    |some Z=>ZE0 Y w σ g (a++args.toList.map (ev σ.env)++c) Z.resultTypes.toList K
    |none=>False
  | .yl C=>match w with
   |true=> ∃(b:Bool) (h:Heap),(RdCon Y C (args.toList.map (ev σ.env)) σ.h λv' k=>v'= .b b/\k=h)/\K (.hp h (.b b))
   |false=>RdCon Y C (args.toList.map (ev σ.env)) σ.h λv h=> ∃b:Bool,v= .b b/\K (.hp h (.b b))
  |_=>False
 | .call {callee:= .builtin .unsafeSliceData,args, ..} =>match args.toList with
  | [x]=>match ev σ.env x with
   | .sl a l _ _=>(l=0->a=none)/\K (.q (.val (.p a)))
   |_=>False
  |_=>False
 | .binOp op t x y _=>match nilT Y σ o,w with
  |some (n,N),false=>(n=0->K (.q (.val (.b !N))))/\K (.q (.val (.b N)))
  |_,_=>match ev σ.env x,ev σ.env y with
   | .p a, .p b=>ptrP Y σ op t a b K
   |_,_=>qP Y (hrl Y u o) σ o λq=>K (.q q)
 | .call {callee:= .builtin .unsafeString,args,argTypes} =>match args.toList,argTypes.toList with
  | [x,n],[pt,_]=>match ev σ.env x,ev σ.env n with
   | .p a, .i .i64 n=> ∃(s:List UInt8) (h:Heap),strH Y σ.h pt a n=some (h,s)/\K (.hp h (.s s))
   |_,_=>False
  |_,_=>False
 | .makeMap _ none=>match w with
  |true=>K (.nw σ.h.nx (.map []) (.mp (some σ.h.nx)))
  |false=>K (.hp (σ.h.push (.map [])) (.mp (some σ.h.nx)))
 | .lookup t m k ok=>match Y.kd t,ev σ.env m with
  |some (.map L E), .mp r=>ExR Y false E λv=> ∃b:Bool,Zjd Y σ.h L E r (ev σ.env k)=some (v,b)/\K (.q (.val (match ok with|true=> .tup [v, .b b]|false=>v)))
  |_,_=>False
 | .mapUpdate t m k x=>match Y.kd t,ev σ.env m with
  |some (.map L _), .mp r=> ∃h:Heap,updM Y σ.h L r (ev σ.env k) (ev σ.env x)=some h/\K (.hp h .undef)
  |_,_=>False
 | .insert t m k x=>match Y.kd t,ev σ.env m with
  |some (.map L _), .mp r=> ∃h:Heap,updM Y σ.h L r (ev σ.env k) (ev σ.env x)=some h/\K (.hp h .undef)
  |_,_=>False
 | .call {callee:= .builtin .clear,args,argTypes} =>match args.toList,argTypes.toList with
  | [x],[t]=>match Y.kd t with
   |some (.slice e)=> ∃h:Heap,Zvg Y σ.h e (ev σ.env x)=some h/\K (.hp h (.tup []))
   |_=>False
  |_,_=>False
 | .call {callee:= .builtin .copy,args,argTypes} =>match args.toList,argTypes.toList with
  | [d,x],t::_=>match Y.kd t with
   |some (.slice e)=> ∃(h:Heap) (n:Nat),Zlk Y σ.h e (ev σ.env d) (ev σ.env x)=some (h,n)/\K (.hp h (.i .i64 (n:Int)))
   |_=>False
  |_,_=>False
 | .call {callee:= .builtin .len,args,argTypes} =>match args.toList,argTypes.toList with
  | [x],[t]=>match Y.kd t,ev σ.env x with
   |some (.map _ _), .mp r=> ∃n:Nat,lenM σ.h r=some n/\K (.q (.val (.i .i64 (n:Int))))
   |_,_=>qP Y (hrl Y u o) σ o λq=>K (.q q)
  |_,_=>qP Y (hrl Y u o) σ o λq=>K (.q q)
 | .slice t x none none none=>match Y.kd t with
  |some (.arr n e)=>match Y.ty e with
   |some z=>match ev σ.env x with
    | .tp B=>K (.q (.val (.ts B n (some n))))
    | .p (some (C,A))=>(z.size≠0/\ ∃B wr,σ.h.get C=some (.arr B wr)/\A+n*z.size<=B.length)/\K (.hp σ.h (.sl (some (C,A)) n (some n) z.size))
    |_=>False
   |none=>False
  |_=>qP Y (hrl Y u o) σ o λq=>K (.q q)
 |_=>qP Y (hrl Y u o) σ o λq=>K (.q q)
def EP(Y:YP)(i:Nat->Bool)(c:Bool)(σ:St)(o:Oper)(K:Ef->Prop):Prop:=
 (∃e,StepE Y i σ o e/\K e)\/(c=false/\ ∃f d,Qo Y i σ o=some (.call f d)/\Con Y f d σ.h λv h=>K (.hp h v))\/
  (c=false/\ ∃n g,nilT Y σ o=some (n,g)/\(n=0->K (.q (.val (.b !g))))/\K (.q (.val (.b g))))\/
  (c=false/\ ∃l k a j,o.op= .call ⟨.value k,a,j⟩/\ev σ.env k= .yl l/\RdCon Y l (a.toList.map (ev σ.env)) σ.h λv h=>K (.hp h v))
theorem EP.of_QP{b}{a:Bool}{o}{K:Ef->Prop}(h:QP Y σ o λq=>K (.q q)):EP Y b a σ o K:=by
 obtain⟨q,c,d⟩:=h;exact .inl ⟨.q q, .quiet q c,d⟩
theorem ZAf{j}{b:Bool}{o:Oper}{g}{a}{s:List TypeId}{K:Ef->Prop}(k:Qo Y j σ o=some (.call g a))(h:ZE0 Y b σ g a s K):EP Y j b σ o K:=by
 have pure:Xp a=true->(Zfk Y true s λr=>PCon Y g a (· =r)/\K (.q (.val r)))->EP Y j b σ o K:=λc n=>by
  obtain⟨r,d,e⟩:=Zog n;exact .inl ⟨_, .pcall g a a r k (Zc5 _ c) (.inl ⟨Vl c,rfl⟩) d,e⟩
 have m: ∀ro,impP Y ro b σ g a s K->EP Y j b σ o K:=λro n=>by
  unfold impP at n
  cases b with
  |true=>
   obtain⟨v,t,d,e⟩:=Zog n;exact .inl ⟨_, .icall g a t v k d,e⟩
  |false=>
   refine .inr (.inl ⟨rfl,g,a,k,Con.mono n λv t w=> ?_⟩);obtain⟨u,rfl,y⟩:=Zog w;exact y
 unfold ZE0 at h;split at h;rename_i c;exact pure c h;rename_i c;exact pure c h;rename_i c;exact pure c h;obtain⟨r,⟨args',d,e⟩,f⟩:=Zog h;rw[Zbt]at f;exact .inl ⟨_, .pcall g a args' r k d (.inr f.1) e,f.2⟩;rename_i A c;obtain⟨r,⟨d,e,l,p⟩,f⟩:=Zog h;rw[Zbt]at f;exact .inl ⟨_, .icallR g a σ.h.lo d .empty r r k c e l p (λi o z=>by simp[Wg]at z) (Zzw f.1 _),f.2⟩;exact m _ h;obtain⟨r,⟨args',d,e⟩,f⟩:=Zog h;rw[Zbt]at f;exact .inl ⟨_, .pcall g a args' r k d (.inr f.1) e,f.2⟩
 .rename_i c;rcases h with h|h
  .cases b with
   |true=>
    obtain⟨v,x,d,e⟩:=Zog h;exact .inl ⟨_, .icallA g a x v k d,e⟩
   |false=>exact m _ h
  .exact pure c h
 .exact m _ h
theorem ZCz{a7}{H:Bool}{o}{K:Ef->Prop}(h:efP Y a7 H σ o K):EP Y a7 H σ o K:=by
 unfold efP at h;split at h;rename_i t j;split at h;rename_i Z d F hd;split at h;rename_i N;exact .inl ⟨_, .alloc t Z d j F hd N,h⟩;rename_i N;exact .inl ⟨_, .heap _ _ (by simp[Vb,j,F,hd,N]),h⟩;exact h.elim
 .rename_i t x j;split at h
  .rename_i Z d F hd;rw[Zbt]at h;simp only[uH,vL]at h;obtain⟨L,h⟩:=h;split at h;rename_i N;exact .inl ⟨_, .boxl t x Z d j F hd N L.1 L.2,h⟩
   .rename_i N;refine .inl ⟨_, .heap _ _ ?_,h⟩;simp only[Vb,j,F,hd,N];rw[uF L]
    rfl
  .exact h.elim
 .rename_i t a x j;split at h;rename_i Z s a3 F ha;split at h;rename_i X a9;rw[Zbt]at h;simp only[uH,vL]at h;obtain⟨L,h⟩:=h;exact .inl ⟨_, .stl t a x Z s a3 X j F ha a9 L.1.1 L.1.2 L.2,h⟩;exact h.elim;rename_i Z id a3 F ha;rw[Zbt]at h;simp only[uH,vL]at h;obtain⟨L,W,q,w⟩:=h;refine .inl ⟨_, .heap _ _ ?_,w⟩;unfold Zi at q;simp only[Vb,j,F,ha];rw[uF L];split at q;rename_i X hg;split at q;rename_i hb;simp only[uB]at q;subst q;simp only[hg];rw[uF hb];cases q;cases q;exact h.elim
 .rename_i t n a4 j;split at h;rename_i et u;split at h;rename_i te A;rw[Zbt]at h;obtain⟨L,h⟩:=h;have a6: ¬(te.size=0\/n*te.size>2 ^ 20):=su L;split at h;rename_i X hf;split at h;rename_i O;rw[uH]at O;exact .inl ⟨_, .bs t n a4 et te X j u A a6 hf (Vl O.2),h⟩;refine .inl ⟨_, .heap _ _ ?_,h⟩;simp only[Vb,j,u,A,hf];rw[uE a6];exact h.elim;exact h.elim;exact h.elim
 .rename_i t xl xc j;split at h
  .rename_i et k1 l k2 c u N L;split at h
   .rename_i te A;split at h;exact h.elim;rename_i hs;obtain⟨⟨b1,b2,b3,b4⟩,h⟩:=h
    cases H with
    |true=>
     refine .inl ⟨_, .nw _ (λi=> .sl (some (i,0)) l.toNat (some c.toNat) te.size) ?_,h⟩;simp only[newO,j,u,N,L,A];rw[uF ⟨hs,b1,b2,b3,b4⟩]
    |false=>
     refine .inl ⟨_, .heap _ _ ?_,h⟩;simp only[Vb,j,u,N,L,A];rw[uF ⟨hs,b1,b2,b3,b4⟩]
   .exact h.elim
  .exact h.elim
 .rename_i sr ds x j;split at h;rename_i et a2 a1;split at h;rename_i l D b0;refine .inl ⟨_, .heap _ _ ?_,h⟩;obtain⟨te,A,a5⟩:=XH b0;simp only[Vb,j,a2,a1,D,A,a5];exact h.elim;rename_i t a2;split at h;rename_i a hu D;obtain⟨⟨id,X,wr,Z,rfl,q,w,C,E,h5⟩,h⟩:=h;refine .inl ⟨_, .exh _ _ ?_,h⟩;simp only[exoH,j,D,q,w,C];rw[uF ⟨E,h5,by simp[Ze3,a2,hu]⟩];exact .of_QP (Zlj h);rename_i t a1 _;split at h;rename_i a hu D;obtain⟨⟨id,X,wr,Z,rfl,q,w,C,E,h5⟩,h⟩:=h;refine .inl ⟨_, .exh _ _ ?_,h⟩;simp only[exoH,j,D,q,w,C];rw[uF ⟨E,h5,by simp[Ze3,a1,hu]⟩];exact .of_QP (Zlj h);exact .of_QP (Zlj h)
 .rename_i B G j;split at h;rename_i s x st xt q w;split at h;rename_i P;rcases h with ⟨_,_,_,_,W,C,E⟩|⟨C,E⟩;refine .inl ⟨_, .heap _ _ ?_,E⟩;simp only[Vb,j,q,w,VO,P,C];refine .inl ⟨_, .heap _ _ ?_,E⟩;simp only[Vb,j,q,w,VO,P,C];rename_i P;split at h;obtain⟨_,_,_,_,_,W,C,E⟩:=h;refine .inl ⟨_, .heap _ _ ?_,E⟩;simp only[Vb,j,q,w,VO,P,C];obtain⟨_,_,_,_,W,C,E⟩:=h;refine .inl ⟨_, .heap _ _ ?_,E⟩;simp only[Vb,j,q,w,VO,P,C];exact h.elim;exact h.elim
 .rename_i f B G j;split at h;rename_i g a c hf;split at h;split at h;rename_i v hv;exact .inl ⟨_, .exq v hv,h⟩;exact h.elim;split at h;exact ZAf (Zfd j hf) h;exact h.elim
  .rename_i id hf
   cases H with
   |true=>
    obtain⟨b,W,q,w⟩:=h;exact .inl ⟨_, .round id W (.b b) f B G j hf q,w⟩
   |false=>exact .inr (.inr (.inr ⟨rfl,id,f,B,G,j,hf,h.mono λv k ⟨b,hv,u⟩=>by subst hv;exact u⟩))
  .exact h.elim
 .rename_i B G j;split at h
  .rename_i x a0;split at h
   .rename_i a l q1 q2 D;obtain⟨h0,h⟩:=h;refine .inl ⟨_, .exq _ ?_,h⟩;simp only[exoQ,j,a0,D]
    cases a with
    |none=>rfl
    |some p=>
     have: ¬l=0:=λe=>by have:=h0 e;cases this
     simp[this]
   .exact h.elim
  .exact h.elim
 .rename_i op t x y z j;split at h;rename_i n b5 hn;exact .inr (.inr (.inl ⟨rfl,n,b5,hn,h⟩))
  .split at h
   .rename_i a b D hy;unfold ptrP at h;split at h
    .rename_i e u;obtain⟨A,h⟩:=h;split at h
     .refine .inl ⟨_, .quiet (.val (.b a.isNone)) ?_,h⟩;cases a<;>simp[opQ,j,D,hy,binY,u,eqV]
     .refine .inl ⟨_, .quiet (.val (.b !a.isNone)) ?_,h⟩;cases a<;>simp[opQ,j,D,hy,binY,u,eqV]
     .obtain⟨⟨p,rfl,rfl,N⟩,h⟩:=h;refine .inl ⟨_, .exh _ _ ?_,h⟩;simp only[exoH,j,D,hy,u];rw[uF ⟨trivial,N,A⟩]
     .obtain⟨⟨p,rfl,rfl,N⟩,h⟩:=h;refine .inl ⟨_, .exh _ _ ?_,h⟩;simp only[exoH,j,D,hy,u];rw[uF ⟨trivial,N,A⟩]
     .exact h.elim
    .exact h.elim
   .exact .of_QP (Zlj h)
 .rename_i B G j;split at h
  .rename_i x n pt it a0 a8;split at h
   .rename_i a m D hn;obtain⟨s,W,q,w⟩:=h;refine .inl ⟨_, .exh _ _ ?_,w⟩;simp only[exoH,j,a0,a8,D,hn];unfold strH at q;split at q;rename_i h0;simp only[uB,uL]at q;obtain⟨rfl,rfl⟩:=q;rw[uF h0]
    .rename_i h0;rw[uE h0];split at q
     .rename_i id;split at q
      .rename_i X wr t hg ht;split at q
       .rename_i u;split at q
        .rename_i L;simp only[uG,uL]at q;obtain⟨l,N,rfl,rfl⟩:=q;simp only[hg,ht,u];rw[uF L,N]
         rfl
        .cases q
       .cases q
      .cases q
     .cases q
   .exact h.elim
  .exact h.elim
 .rename_i t j
  cases H with
  |true=>exact .inl ⟨_, .nw (.map []) (λi=> .mp (some i)) (by simp only[newO,j]),h⟩
  |false=>exact .inl ⟨_, .nwp (.map []) (λi=> .mp (some i)) (by simp only[newO,j]),h⟩
 .rename_i t m k ok j;split at h
  .rename_i kt et r u hm;obtain⟨v,b,q,w⟩:=exR h;refine .inl ⟨_, .lkq _ (by simp only[Zg2,j];rw[ZAd j u hm q];rfl),?_⟩;cases ok<;>exact w
  .exact h.elim
 .rename_i t m k x j;split at h;rename_i kt et r u hm;obtain⟨W,q,w⟩:=h;exact .inl ⟨_, .mph _ _ (Zvh (.inl j) u hm q),w⟩;exact h.elim
 .rename_i t m k x j;split at h;rename_i kt et r u hm;obtain⟨W,q,w⟩:=h;exact .inl ⟨_, .mph _ _ (Zvh (.inr j) u hm q),w⟩;exact h.elim
 .rename_i B G j;split at h;rename_i x t q w;split at h;rename_i e u;obtain⟨W,C,E⟩:=h;exact .inl ⟨_, .mph _ _ (Zvi j q w u C),E⟩;exact h.elim;exact h.elim
 .rename_i B G j;split at h;rename_i d x t b6 q w;split at h;rename_i e u;obtain⟨W,n,C,E⟩:=h;exact .inl ⟨_, .mph _ _ (ZAe j q w u C),E⟩;exact h.elim;exact h.elim
 .rename_i B G j;split at h
  .rename_i x t q w;split at h
   .rename_i kt et r u D;obtain⟨n,C,E⟩:=h;refine .inl ⟨_, .quiet (.val (.i .i64 (n:Int))) ?_,E⟩;unfold lenM Zbl at C;simp only[opQ,j,q,w,u,D]
    cases r with
    |none=>simp at C;subst C;rfl
    |some r=>
     simp only at C ⊢;split at C;rename_i es hg;simp at C;subst C;simp[hg];simp at C
   .exact .of_QP (Zlj h)
  .exact .of_QP (Zlj h)
 .rename_i t x j;split at h;rename_i n e u;split at h;rename_i te A;split at h;rename_i X D;exact .inl ⟨_, .exq _ (by simp only[exoQ,j,u,D,A]),h⟩;rename_i id a3 D;obtain⟨⟨q,X,wr,w,C⟩,E⟩:=h;refine .inl ⟨_, .exh _ _ ?_,E⟩;simp only[exoH,j,u,D,A,w];rw[uF ⟨q,C⟩];exact h.elim;exact h.elim;exact .of_QP (Zlj h)
 .exact .of_QP (Zlj h)
def guP(c:Array Oper)(σ:St)(o:Oper)(k:St->Bool->Prop):Prop:=
 match o.guard with
 |none=>k σ true
 |some (j,a)=>match (c[j]?).bind (·.dst) with
  |some d=>match σ.env.getD d .undef with
   | .b x=>Br x λx=>k {σ with env:=σ.env.set d (.b x)} (x==a)
   | .tup []=>k σ false
   |_=>False
  |none=>False
theorem Zqd{a:List V}{d:Nat}{v:V}(h:a.getD d .undef=v)(e:v≠ .undef):a.set d v=a:=by
 apply vA;intro i;rw[Qd];split
 .rename_i c;subst c;simp only[List.getD]at h
  cases b:a[d]? with
  |none=>rw[b]at h;simp at h;exact absurd h.symm e
  |some x=>
   rw[b]at h;simp at h;subst h;have:=(List.getElem?_eq_some_iff.1 b).1;simp[this]
 .rfl
theorem ZC0{a:Array Oper}{o:Oper}{k:St->Bool->Prop}(h:guP a σ o k): ∃b,JG a σ.env o=some b/\k σ b:=by
 unfold guP at h;unfold JG;split at h;rename_i c;exact⟨true,by simp[c],h⟩;rename_i j i c;split at h;rename_i d g;split at h;rename_i x f;rw[Zvd,Zqd f (λe=>nomatch e)]at h;exact⟨_,by simp only[c,g,f],h⟩;rename_i f;exact⟨false,by simp only[c,g,f],h⟩;exact h.elim;exact h.elim
def opsP(Y:YP)(loc:Nat->Bool)(a:Bool)(ops:Array Oper):List Oper->St->List Foot->(St->List Foot->Prop)->Prop
 | [],σ,c,K=>K σ c
 |o::r,σ,c,K=>guP ops σ o λσ b=>match b with
  |true=>efP Y loc a σ o λe=>T (Zfg σ o e) (opsP Y loc a ops r (e.appL o.dst σ) (match a with|true=>Zao σ o e::c|false=>c) K)
  |false=>opsP Y loc a ops r (Ef.skip.app o.dst σ) (match a with|true=>Zao σ o .skip::c|false=>c) K
theorem Zfl{d}{f:Array Oper} : ∀(l:List Oper) (σ:St) (g:List Foot) (K:St->List Foot->Prop),opsP Y d true f l σ g K-> ∃(x:List (Ef×Foot)) (a:St),Lex Y d f l σ x a/\K a ((x.map (·.2)).reverse++g)
 | [],σ,g,K,h=>⟨[],σ, .nil _,h⟩
 |o::r,σ,g,K,h=>by
  simp only[opsP]at h;obtain⟨b,m,h⟩:=ZC0 h
  cases b with
  |false=>
   obtain⟨x,a,i,j⟩:=Zfl r _ _ _ h;exact⟨(.skip,Zao σ o .skip)::x,a, .cons _ _ _ _ _ _ (.inl ⟨m,rfl⟩) rfl i,su j⟩
  |true=>
   rcases ZCz h with ⟨e,n,k⟩|⟨c,_⟩|⟨c,_⟩|⟨c,_⟩;rw[Zbt,n.appL]at k;obtain⟨x,a,i,j⟩:=Zfl r _ _ _ k.2;exact⟨(e,Zao σ o e)::x,a, .cons _ _ _ _ _ _ (.inr ⟨m,n⟩) k.1 i,su j⟩;cases c;cases c;cases c
theorem Jp{ro:Option Nat}(D:YOK Y){loc:Nat->Bool}{ops:Array Oper}{K:St->List Foot->Prop}{Q:Exit->Act->World->Prop}{W0:Vw}{own0:Nat->Prop}{w0:World}
  (H: ∀σ q W a w,K σ q->Rel W σ a w->Stp W0 own0 w0 W (mine W σ a) w->Q .normal a w):
  ∀(l:List Oper) (k:Nat) (σ:St) (q:List Foot) (W:Vw) (a:Act) (w:World),(∀j,l[j]? =ops[k+j]?)->opsP Y loc false ops l σ q K->Rel W σ a w->Stp W0 own0 w0 W (mine W σ a) w->
   wpOpsIn (FrR ro) 0 Y.P ops Q (List.range' k l.length) a w
 | [],k,σ,q,W,a,w,_,h,m,F=>H σ q W a w h m F
 |o::r,k,σ,q,W,a,w,hl,h,m,F=>by
  have h0:ops[k]? =some o:=su ((hl 0).symm);have p: ∀j,r[j]? =ops[k+1+j]? :=λj=>by have:=hl (j+1);simpa[uX,Nat.add_comm 1 j]using this
  simp only[List.length_cons,List.range'_succ,wpOpsIn,h0];simp only[opsP]at h;obtain⟨b,hg,h⟩:=ZC0 h
  cases b with
  |false=>
   rw[uE (by rw[Zbn m hg];simp)];have G:VR W (.tup []) Go.undef:= .tup [] [] .nil;refine⟨λ_ _=>trivial,?_⟩;exact Jp D H r (k+1) _ q W _ w p h (m.putV G o.dst) (F.weaken λb X=>Xq G o.dst X)
  |true=>
   rw[uF (Zbn m hg)];rcases ZCz h with ⟨e,g,t⟩|⟨_,f,a2,g,hc⟩|⟨_,n,a4,hn,N,Z⟩|⟨_,id,fo,d,a3,a1,hf,hc⟩;rw[Zbt,g.appL]at t;refine Zp6 D m g ?_ ?_ λC O E z A=>Jp D H r (k+1) _ q C O E p t.2 z (F.trans A);intro s f he y hy L;have x:=t.1;simp only[Zfg,he,L]at x;have:=uP.1 x y hy;simp at this;intro cs he y hy L;have x:=t.1;simp only[Zfg,he,L]at x;have:=uP.1 x y hy;simp at this;obtain⟨us,hv,a0⟩:=Jf m g;refine VK (λc L=>by simp[Qo,opQ,L]at g) ?_;unfold Oper.wp;rw[a0,Ql D hc.body];simp only[Oper.upon];refine(hc.tr W w us m.heap hv).mono ?_;rintro e E ⟨v,h',C,u,t,rfl,hh,B,i⟩;rw[Zbt]at t;have h1:=m.call i hh;exact Jp D H r (k+1) _ q C _ E p t.2 (h1.putV B o.dst) (F.trans ((i.frame m).weaken λb X=>Xq B o.dst X));refine VK (λc L=>by simp[nilT,L]at hn) ?_;rcases ZEq D m hn with g|⟨h0,g⟩;rw[Zbt]at Z;exact XI g λC O E z A=>Jp D H r (k+1) _ q C O E p Z.2 z (F.trans A);have N:=Zbt.1 (N h0);exact XI g λC O E z A=>Jp D H r (k+1) _ q C O E p N.2 z (F.trans A);refine Zp5 m a1 hf hc λv h' C u E t hh B i=> ?_;have t:=Zbt.1 t;have h1:=m.call i hh;exact Jp D H r (k+1) _ q C _ E p t.2 (h1.putV B o.dst) (F.trans ((i.frame m).weaken λb X=>Xq B o.dst X))
theorem Zoh{ro:Option Nat}(j:YOK Y){c}{n:Nat}{b:Array Oper}{Q:Out->St->Prop}{K:St->List Foot->Prop}(h:opsP Y c false b b.toList {σ with refs:= []} [] K)(i: ∀σ' d,K σ' d->Q .normal {σ' with refs:= []}):
  TriG ro Y (.region n b false) σ Q:=by
 intro W a w W0 own0 w0 l m;refine wpIn_region ?_;have:=Jp (ro:=ro) (ops:=b) (loc:=c) j (Q:=ZEn Q W0 own0 w0) (W0:=W0) (own0:=own0) (w0:=w0) (K:=K) (λσ' d e o p k f g=>⟨.normal,_,e,trivial,i σ' d k,f.noRefs,g⟩) b.toList 0 _ [] W a w sm h l.noRefs m;rw[List.range_eq_range'];simpa using this
theorem Zvj{ro:Option Nat}(g:YOK Y){c}{i:Nat}{a:Array Oper}{Q:Out->St->Prop}{K:St->Prop}(h:opsP Y c true a a.toList {σ with refs:= []} [] λσ' d=>T (chk a d.reverse) (K σ'))(f: ∀σ',K σ'->Q .normal {σ' with refs:= []}):
  TriG ro Y (.region i a true) σ Q:=by
 obtain⟨x,j,e,b⟩:=Zfl _ _ _ _ h;rw[Zbt]at b;exact ZAc g e (su b.1) (f _ b.2)
def fixB(σ:St)(x:Operand)(b:Bool):St:=match x with
 | .tmp t=> {σ with env:=σ.env.set t (.b b)}
 |_=>σ
theorem Zvk{x:Operand}{b:Bool}(h:ev σ.env x= .b b):fixB σ x b=σ:=by
 unfold fixB;split
 .rename_i t;have:σ.env.getD t .undef= .b b:=by
   simp only[ev,V.plain]at h;split at h;cases h;cases h;exact h
  rw[Zqd this (λe=>nomatch e)]
 .rfl
def TriLG(ro:Option Nat)(Y:YP):List Code->St->(Out->St->Prop)->Prop
 | [],σ,Q=>Q .normal σ
 |c::r,σ,Q=>TriG ro Y c σ λo σ'=>match o with
  | .normal=>TriLG ro Y r σ' Q
  | .exit i=>Q (.exit i) σ'
  | .ret=>Q .ret σ'
abbrev TriL(Y:YP)(l:List Code)(σ:St)(Q:Out->St->Prop):Prop:=TriLG none Y l σ Q
theorem TriLG.mono{ro} : ∀ {l:List Code} {σ:St} {Q b:Out->St->Prop},TriLG ro Y l σ Q->(∀o σ',Q o σ'->b o σ')->TriLG ro Y l σ b
 | [],_,_,_,h,a=>a _ _ h
 |c::r,σ,Q,b,h,a=>TriG.mono h λo σ' d=>by
  cases o with
  |normal=>exact TriLG.mono (l:=r) d a
  |exit i=>exact a _ _ d
  |ret=>exact a _ _ d
theorem TriL.mono{l}{σ}{Q a:Out->St->Prop}(h:TriL Y l σ Q)(b: ∀o σ',Q o σ'->a o σ'):TriL Y l σ a:=TriLG.mono h b
structure Rest(Y:YP)(l:List Code)(σ:St)(K:Out->St->Prop):Prop where
 tri: ∀ro,TriLG ro Y l σ K
def Zc(Y:YP)(loc:Nat->Bool):Nat->List Code->St->(Out->St->Prop)->Prop
 |0,l,σ,K=>Rest Y l σ K
 |_+1,[],σ,K=>K .normal σ
 |n+1,c::r,σ,K=>
  match c with
  | .skip=>Zc Y loc n r σ K
  | .label _=>Zc Y loc n r σ K
  | .exit e=>K (.exit e) σ
  | .ret=>K .ret σ
  | .region _ d false=>opsP Y loc false d d.toList {σ with refs:= []} [] λσ' _=>Zc Y loc n r {σ' with refs:= []} K
  | .region _ d true=>opsP Y loc true d d.toList {σ with refs:= []} [] λσ' f=>T (chk d f.reverse) (Zc Y loc n r {σ' with refs:= []} K)
  | .seq a b=>Zc Y loc n (a::b::r) σ K
  | .cond x a b=>match ev σ.env x with
   | .b t=>Br t λt=>Zc Y loc n ((match t with|true=>a|false=>b)::r) (fixB σ x t) K
   |_=>False
  | .block e (.loop a)=>Rest Y (.block e (.loop a)::r) σ K
  | .block e a=>Zc Y loc n [a] σ λo σ'=>match o with
   | .normal=>Zc Y loc n r σ' K
   | .exit j=>if j=e then Zc Y loc n r σ' K else K (.exit j) σ'
   | .ret=>K .ret σ'
  | .scope a=>Zc Y loc n (a::r) σ K
  |c=>Rest Y (c::r) σ K
theorem XC{ro}{c}{r:List Code}{K:Out->St->Prop} (h:TriG ro Y c σ λo σ'=>match o with
  | .normal=>TriLG ro Y r σ' K
  | .exit i=>K (.exit i) σ'
  | .ret=>K .ret σ'):TriLG ro Y (c::r) σ K:=h
theorem QB{ro}{b:Nat}{c}{r:List Code}{K:Out->St->Prop} (h:TriG ro Y c σ λo σ'=>match o with
  | .normal=>TriLG ro Y r σ' K
  | .exit j=>if j=b then TriLG ro Y r σ' K else K (.exit j) σ'
  | .ret=>K .ret σ'):TriLG ro Y (.block b c::r) σ K:=by
 refine XC (Zuu (h.mono ?_));intro o σ' a
 cases o with
 |normal=>exact a
 |ret=>exact a
 |exit j=>
  simp only[Zn4];simp only at a;by_cases d:j=b;rw[uF d]at a ⊢;exact a;rw[uE d]at a ⊢;exact a
theorem Zll{ro}(f:YOK Y){loc} : ∀(n:Nat) (l:List Code) (σ:St) (K:Out->St->Prop),Zc Y loc n l σ K->TriLG ro Y l σ K
 |0,_,_,_,h=>h.tri ro
 |n+1,[],σ,K,h=>h
 |n+1,c::r,σ,K,h=>by
  have d:=Zll (ro:=ro) f (loc:=loc) n;unfold Zc at h;split at h;exact XC (Zzu (d _ _ _ h));exact XC (Zus (d _ _ _ h));exact XC (Zzv h);exact XC (ZEo h);exact XC (Zoh f h λσ' p h=>d _ _ _ h);exact XC (Zvj f h λσ' h=>d _ _ _ h)
  .refine XC (Zut ?_);have e:=d _ _ _ h;refine TriG.mono e ?_;intro o σ' b
   cases o with
   |normal=>exact b
   |exit i=>exact b
   |ret=>exact b
  .split at h
   .rename_i t k;rw[Zvd,Zvk k]at h;refine XC (Zi4 k ?_);cases t<;>exact d _ _ _ h
   .exact h.elim
  .exact h.tri ro
  .rename_i m a _;refine QB ?_;have e:=d _ _ _ h;refine TriG.mono e ?_;intro o σ' b
   cases o with
   |normal=>exact d _ _ _ b
   |ret=>exact b
   |exit j=>
    simp only at b ⊢;by_cases g:j=m;rw[uF g]at b ⊢;exact d _ _ _ b;rw[uE g]at b ⊢;exact b
  .exact XC (Zkz (d _ _ _ h))
  .exact h.tri ro
theorem Zbu(b:YOK Y){a}(n:Nat)(l)(σ)(K)(h:Zc Y a n l σ K):TriL Y l σ K:=Zll b n l σ K h
end
end Go.Y
