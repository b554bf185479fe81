/- A part of the proof. -/
import Derived.Test.YteennilbmmlikaaGreatDoorYAny3
namespace Go.Y
set_option maxRecDepth 1000000
set_option maxHeartbeats 0
section
variable {Y:YP} {σ σ':St}
def Br(x:Bool)(p:Bool->Prop):Prop:=match x with|true=>p true|false=>p false
theorem Zue{x:Bool}{p:Bool->Prop} :Br x p↔p x:=by cases x<;>exact Iff.rfl
def If(x:Bool)(a b:Prop):Prop:=match x with|true=>a|false=>b
theorem Zf{x:Bool}{a b:Prop}(h:x=true->a)(g:x=false->b):If x a b:=by cases x;exact g rfl;exact h rfl
def SlO(a:Option (Nat×Nat))(n:Prop)(p:Nat->Nat->Prop):Prop:=match a with
 |none=>n
 |some (c,off)=>p c off
def Zb(h:Heap)(c off n:Nat):Option (List V):=
 match h.get c with
 |some (.arr a _)=>Zr n (a.drop off)
 |_=>none
def Zi(h:Heap)(id off:Nat)(new:List V):Option Heap:=
 match h.get id with
 |some (.arr cs true)=>if off+new.length<=cs.length then some (h.set id (some (.arr (splice cs off new) true)))else none
 |_=>none
def Zk(Y:YP)(h:Heap)(st a:TypeId)(s x:V):Option (V×Heap):=Xe Y ⟨[],[],h⟩ st a s x
def ZH3:V->Bool
 | .i _ _=>true
 |_=>false
theorem VL{st a:TypeId}{s x:V} :Xe Y σ st a s x=Zk Y σ.h st a s x:=rfl
def Zuf(Y:YP):Nat->TypeId->List Kd
 |0,_=> []
 |n+1,t=>match Y.kd t with
  |some (.struct a)=>a.flatMap λf=>Zuf Y n f.2
  |some (.arr len e)=>(List.replicate len (Zuf Y n e)).flatten
  |some k=> [k]
  |none=> []
def ExK1(ro:Bool)(k:Kd)(p:V->Prop):Prop:=
 match k with
 | .int k=> ∃n:Int,p (.i k n)
 | .bool=> ∃b:Bool,p (.b b)
 | .str=> ∃s:List UInt8,p (.s s)
 | .ptr _=>match ro with
  |true=> ∃d:List V,p (.tp d)
  |false=> ∃a:Option (Nat×Nat),p (.p a)
 | .slice _=>match ro with
  |true=> ∃(d:List V) (l:Nat) (c:Option Nat),p (.ts d l c)
  |false=> ∃(a:Option (Nat×Nat)) (l:Nat) (c:Option Nat) (k:Nat),p (.sl a l c k)
 | .map _ _=> ∃r:Option Nat,p (.mp r)
 | .iface=>p .nilifc\/ ∃(t:TypeId) (v:V),p (.ifc t v)
 |_=> ∃v:V,p v
theorem exK1{ro:Bool}{k:Kd}{p:V->Prop}(h:ExK1 ro k p): ∃v,p v:=by
 unfold ExK1 at h;split at h
 .obtain⟨n,h⟩:=h;exact⟨_,h⟩
 .obtain⟨n,h⟩:=h;exact⟨_,h⟩
 .obtain⟨n,h⟩:=h;exact⟨_,h⟩
 .split at h
  .obtain⟨n,h⟩:=h;exact⟨_,h⟩
  .obtain⟨n,h⟩:=h;exact⟨_,h⟩
 .split at h
  .obtain⟨_,_,_,h⟩:=h;exact⟨_,h⟩
  .obtain⟨_,_,_,_,h⟩:=h;exact⟨_,h⟩
 .obtain⟨n,h⟩:=h;exact⟨_,h⟩
 .rcases h with h|⟨t,v,h⟩
  .exact⟨_,h⟩
  .exact⟨_,h⟩
 .exact h
def ExK(ro:Bool):List Kd->(List V->Prop)->Prop
 | [],p=>p []
 |k::r,p=>ExK1 ro k λv=>ExK ro r λl=>p (v::l)
theorem exK{ro:Bool}{a:List Kd} : ∀ {p:List V->Prop},ExK ro a p-> ∃r,p r:=by
 induction a with
 |nil=>intro p h;exact⟨[],h⟩
 |cons k r c=>
  intro p h;obtain⟨x,h⟩:=exK1 h;obtain⟨l,h⟩:=c h;exact⟨_,h⟩
def ExL(ro:Bool)(a:List Kd)(p:List V->Prop):Prop:=
 match Nat.blt 64 a.length with
 |true=> ∃c:List V,p c
 |false=>ExK ro a p
theorem exL{ro:Bool}{a:List Kd}{p:List V->Prop}(h:ExL ro a p): ∃r,p r:=by
 unfold ExL at h;split at h
 .exact h
 .exact exK h
def ExR(Y:YP)(ro:Bool)(t:TypeId)(p:V->Prop):Prop:=
 match Y.kd t with
 |some k=>match k.agg with
  |true=>ExL ro (Zuf Y 8 t) λr=>p (.agg r)
  |false=>ExK1 ro k p
 |none=> ∃v:V,p v
theorem exR{ro:Bool}{t:TypeId}{p:V->Prop}(h:ExR Y ro t p): ∃v,p v:=by
 unfold ExR at h;split at h
 .split at h
  .obtain⟨r,h⟩:=exL h;exact⟨_,h⟩
  .exact exK1 h
 .exact h
def ExRs(Y:YP)(ro:Bool):List TypeId->(List V->Prop)->Prop
 | [],p=>p []
 |t::r,p=>ExR Y ro t λv=>ExRs Y ro r λl=>p (v::l)
theorem exRs{ro:Bool}{ts:List TypeId} : ∀ {p:List V->Prop},ExRs Y ro ts p-> ∃r,p r:=by
 induction ts with
 |nil=>intro p h;exact⟨[],h⟩
 |cons t r a=>
  intro p h;obtain⟨x,h⟩:=exR h;obtain⟨l,h⟩:=a h;exact⟨_,h⟩
def Ze6(Y:YP)(ro:Bool)(ts:List TypeId)(p:V->Prop):Prop:=
 match ts with
 | [t]=>ExR Y ro t p
 |ts=>ExRs Y ro ts λl=>p (.tup l)
theorem Zno{ro:Bool}{ts:List TypeId}{p:V->Prop}(h:Ze6 Y ro ts p): ∃v,p v:=by
 unfold Ze6 at h;split at h
 .exact exR h
 .obtain⟨l,h⟩:=exRs h;exact⟨_,h⟩
def bndP(y d:Nat)(o:Option V)(K:Nat->Prop):Prop:=
 match o with
 |none=>K d
 |some (.i _ n)=>(0<=n/\n<=y)/\K n.toNat
 |_=>False
theorem WC{y d:Nat}{o:Option V}{K:Nat->Prop}(h:bndP y d o K): ∃n,bnd y d o=some n/\K n:=by
 unfold bndP at h;split at h
 .exact⟨d,rfl,h⟩
 .exact⟨_,by simp only[bnd];rw[uF h.1],h.2⟩
 .exact h.elim
def qPd(Y:YP)(σ:St)(o:Oper)(K:Q->Prop):Prop:=
 match opQ Y σ o with
 |some q=>K q
 |none=>False
def binP(Y:YP)(σ:St)(o:Oper)(d:BinOp)(a b:V)(K:Q->Prop):Prop:=
 match d,a,b with
 | .add, .s l, .s m=>l.length+m.length<=2 ^ 60/\K (.val (.s (l++m)))
 | .quo, .i k m, .i c n=>if k=c then n≠0/\K (.val (.i k (k.wrap (m.tdiv n))))else False
 | .rem, .i k m, .i c n=>if k=c then n≠0/\K (.val (.i k (m.tmod n)))else False
 | .shl, .i k m, .i _ n=>0<=n/\K (.val (.i k (k.wrap (m*2 ^ (min n.toNat k.bits)))))
 | .shr, .i k m, .i _ n=>0<=n/\K (.val (.i k (m.fdiv (2 ^ (min n.toNat k.bits)))))
 |_,_,_=>qPd Y σ o K
def bigB(Y:YP)(t:TypeId):Bool:=match Y.ty t with
 |some a=>Nat.blt 64 a.size
 |none=>false
def Zug(Y:YP)(t:TypeId)(off size:Nat)(new:List V):Option (List V):=match Y.ty t with
 |some a=>if new.length=size/\off+new.length<=a.zero.length/\Zp new then some (splice a.zero off new)else none
 |none=>none
def qP(Y:YP)(ro:Bool)(σ:St)(o:Oper)(K:Q->Prop):Prop:=
 match o.op with
 | .load t a=>match Y.ty t,addr σ a with
  |some _,some (.lb _ _)=>qPd Y σ o K
  |some A,some (.hp w off)=>ExL ro (Zuf Y 8 t) λr=>Zb σ.h w off A.size=some r/\match Jj A.kd.agg r with
   |some v=>K (.val v)
   |none=>False
  |some A,some (.ro g)=>ExL true (Zuf Y 8 t) λr=>Zr A.size g=some r/\match Jj A.kd.agg r with
   |some v=>K (.val v)
   |none=>False
  |_,_=>False
 | .indexAddr t x C=>match Y.kd t,ev σ.env C with
  |some (.slice D), .i _ i=>match Y.ty D,ev σ.env x with
   |some d, .sl a len _ k=>if d.size=0 then False else SlO a False λw off=>(0<=i/\i<len)/\k=d.size/\K (.val (.p (some (w,off+i.toNat*d.size))))
   |some d, .ts g len _=>if d.size=0 then False else(0<=i/\i<len)/\K (.val (.tp (g.drop (i.toNat*d.size))))
   |_,_=>False
  |some (.arr n D), .i _ i=>match Y.ty D,addr σ x with
   |some d,some a=>if d.size=0 then False else(0<=i/\i<n)/\K (a.shift (i.toNat*d.size)).q
   |_,_=>False
  |_,_=>False
 | .pick c a b=>match ev σ.env c with
  | .b x=>Br x λx=>K (.val (if x then ev σ.env a else ev σ.env b))
  |_=>False
 | .slice t x z u B=>match ev σ.env x with
  | .s l=>match Y.kd t,B with
   |some .str,none=>bndP l.length l.length (u.map (ev σ.env)) λb=>bndP b 0 (z.map (ev σ.env)) λa=>K (.val (.s ((l.drop a).take (b-a))))
   |_,_=>False
  | .ts g n c=>match Y.kd t,B with
   |some (.slice e),none=>match Y.ty e with
    |some d=>bndP n n (u.map (ev σ.env)) λb=>bndP b 0 (z.map (ev σ.env)) λa=>K (.val (.ts ((g.drop (a*d.size)).take ((b-a)*d.size)) (b-a) (c.map (· - a))))
    |none=>False
   |some (.slice e),some _=>match Y.ty e,u with
    |some d,some _=>bndP n 0 (B.map (ev σ.env)) λm=>bndP m 0 (u.map (ev σ.env)) λb=>bndP b 0 (z.map (ev σ.env)) λa=>K (.val (.ts ((g.drop (a*d.size)).take ((b-a)*d.size)) (b-a) (some (m-a))))
    |_,_=>False
   |_,_=>False
  | .sl a len c k=>SlO a (∃(H:Option (Nat×Nat)) (n':Nat) (G:Option Nat) (F:Nat),Zbd Y t (.sl none len c k) (z.map (ev σ.env)) (u.map (ev σ.env)) (B.map (ev σ.env))=some (.sl H n' G F)/\K (.val (.sl H n' G F)))
   λw off=>match Y.kd t,B with
   |some (.slice e),none=>match Y.ty e with
    |some d=>k=d.size/\bndP (c.getD len) len (u.map (ev σ.env)) λb=>bndP b 0 (z.map (ev σ.env)) λa=>K (.val (.sl (some (w,off+a*k)) (b-a) (c.map (· - a)) k))
    |none=>False
   |_,_=>False
  |_=>False
 | .index t x C=>match Y.kd t,ev σ.env x,ev σ.env C with
  |some .str, .s l, .i _ i=> ∃c:UInt8,(0<=i/\l[i.toNat]? =some c)/\K (.val (.i .u8 c.toNat))
  |_,_,_=>qPd Y σ o K
 | .binOp L _ x y _=>binP Y σ o L (ev σ.env x) (ev σ.env y) K
 | .build t j=>(match bigB Y t,j.toList with
  |true,[p]=>(match Y.kd t with
   |some (.struct E)=>(match E.all (λf=>(Y.ty f.2).isSome),Zj4 Y E p.1 with
    |true,some (off,size)=> ∃g:List V,Zug Y t off size (ev σ.env p.2).cells=some g/\K (.val (.agg g))
    |_,_=>False)
   |_=>qPd Y σ o K)
  |_,_=>qPd Y σ o K)
 | .convert _ _ x=>match ev σ.env x with
  | .i _ _=>qPd Y σ o K
  | .s _=>qPd Y σ o K
  |_=> ∃l,opQ Y σ o=some (.val (.s l))/\K (.val (.s l))
 |_=>qPd Y σ o K
def QP(Y:YP)(σ:St)(o:Oper)(K:Q->Prop):Prop:= ∃q,opQ Y σ o=some q/\K q
theorem Zdn{o}{K:Q->Prop}(h:qPd Y σ o K):QP Y σ o K:=by
 unfold qPd at h;split at h
 .rename_i q a;exact⟨q,a,h⟩
 .exact h.elim
theorem Zkx{ro:Bool}{o}{K:Q->Prop}(h:qP Y ro σ o K):QP Y σ o K:=by
 unfold qP at h;split at h
 .rename_i t a d;split at h
  .exact Zdn h
  .rename_i Z P off f g;obtain⟨r,H,B⟩:=exL h;split at B
   .rename_i v X;refine⟨_,?_,B⟩;have O:Xu σ Z.size (.hp P off)=some r:=H;simp[opQ,d,f,g,O,X]
   .exact B.elim
  .rename_i Z cs f g;obtain⟨r,H,B⟩:=exL h;split at B
   .rename_i v X;refine⟨_,?_,B⟩;simp[opQ,d,f,g,H,X,Xu]
   .exact B.elim
  .exact h.elim
 .rename_i t x ix d;split at h
  .rename_i et k i u G;split at h
   .rename_i F a len c N j A;split at h
    .exact h.elim
    rename_i E
    cases a with
    |none=>exact h.elim
    |some p=>
    obtain⟨P,off⟩:=p;obtain⟨D,rfl,L⟩:=h;refine⟨_,?_,L⟩;simp[opQ,d,Zbe,u,G,j,A,D,E,Ad.q]
   .rename_i F cs len c j A;split at h
    .exact h.elim
    rename_i E;obtain⟨D,L⟩:=h;refine⟨_,?_,L⟩;simp[opQ,d,Zbe,u,G,j,A,D,E,Ad.q]
   .exact h.elim
  .rename_i n et k i u G;split at h
   .rename_i F a j ha;split at h
    .exact h.elim
    rename_i E;obtain⟨D,L⟩:=h;refine⟨_,?_,L⟩;simp[opQ,d,Zbe,u,G,j,ha,D,E]
   .exact h.elim
  .exact h.elim
 .rename_i c a b d;split at h
  .rename_i x A;rw[Zue]at h;exact⟨_,by simp[opQ,d,A],h⟩
  .exact h.elim
 .rename_i t x lo G mx d;split at h
  .rename_i l A;split at h
   .rename_i u;obtain⟨b,f,h⟩:=WC h;obtain⟨a,g,h⟩:=WC h;refine⟨_,?_,h⟩;simp only[opQ,d,A,Zbd,u,Option.map_none,QY,f,g]
    rfl
   .exact h.elim
  .rename_i cs n c A;split at h
   .rename_i e u;split at h
    .rename_i F j;obtain⟨b,f,h⟩:=WC h;obtain⟨a,g,h⟩:=WC h;refine⟨_,?_,h⟩;simp only[opQ,d,A,Zbd,u,j,Option.map_none,QY,f,g]
     rfl
    .exact h.elim
   .rename_i e m0 u;split at h
    .rename_i F a2 j;obtain⟨m,h0,h⟩:=WC h;obtain⟨b,f,h⟩:=WC h;obtain⟨a,g,h⟩:=WC h;refine⟨_,?_,h⟩;simp only[uw]at h0 f;simp only[opQ,d,A,Zbd,u,j,uw,QY,h0,f,g,Option.isNone_some,uI,vF]
    .exact h.elim
   .exact h.elim
  .rename_i a len c k A
   cases a with
   |none=>
    obtain⟨_,_,_,_,f,g⟩:=h;rw[<-A]at f;exact⟨_,by simp[opQ,d,f],g⟩
   |some p=>
   obtain⟨P,off⟩:=p;simp only[SlO]at h;split at h
   .rename_i e u;split at h
    .rename_i F j;obtain⟨rfl,h⟩:=h;obtain⟨b,f,h⟩:=WC h;obtain⟨a,g,h⟩:=WC h;refine⟨_,?_,h⟩;simp only[opQ,d,A,Zbd,u,j,Option.map_none,QY,f,g,vG]
     rfl
    .exact h.elim
   .exact h.elim
  .exact h.elim
 .rename_i t x ix d;split at h
  .rename_i l k i f g H;obtain⟨c,⟨B,h5⟩,h6⟩:=h;exact⟨_,by simp[opQ,d,f,g,H,B,h5],h6⟩
  .exact Zdn h
 .rename_i op t x y z d;unfold binP at h;split at h
  .rename_i l m f g;refine⟨_,?_,h.2⟩;have:=h.1;simp[opQ,d,binY,f,g,Zo9];omega
  .rename_i k m N n f g;split at h
   .rename_i u;subst u;refine⟨_,?_,h.2⟩;simp[opQ,d,binY,f,g,Zj3,h.1]
   .exact h.elim
  .rename_i k m N n f g;split at h
   .rename_i u;subst u;refine⟨_,?_,h.2⟩;simp[opQ,d,binY,f,g,Zj3,h.1]
   .exact h.elim
  .rename_i k m N n f g;have hn: ¬n<0:=by have:=h.1;omega
   exact⟨_,by simp[opQ,d,binY,f,g,hn],h.2⟩
  .rename_i k m N n f g;have hn: ¬n<0:=by have:=h.1;omega
   exact⟨_,by simp[opQ,d,binY,f,g,hn],h.2⟩
  .exact Zdn h
 .rename_i t a1 d;split at h
  .rename_i p D hp;split at h
   .rename_i fs u;split at h
    .rename_i off size a0 W;obtain⟨cs,f,g⟩:=h;refine⟨_,?_,g⟩;unfold Zug at f;have w:=u;unfold YP.kd at w
     cases C:Y.ty t with
     |none=>rw[C]at w;cases w
     |some Z=>
      rw[C]at f w;simp only[uw,uB]at w;simp only[]at f;simp only[opQ,d,C,w,a0,vG,hp,Wa,W];split at f
      .rename_i O;rw[uF O];cases f;rfl
      .cases f
    .exact h.elim
   .exact Zdn h
  .exact Zdn h
 .split at h
  .exact Zdn h
  .exact Zdn h
  .obtain⟨l,f,g⟩:=h;exact⟨_,f,g⟩
 .exact Zdn h
def T(x:Bool)(p:Prop):Prop:=match x with|true=>p|false=>False
theorem Zbo{x:Bool}{p:Prop} :T x p↔x=true/\p:=by cases x<;>simp[T]
def RCon(Y:YP)(f:FuncId)(a:List V)(h:Heap)(r:V):Prop:= ∃c,(Con Y f a h λv k=>v=r/\k=c)/\(∀i,i<h.nx->c.get i=h.get i)/\ ∀p,p∈h.tg->p∈c.tg
def FCon(Y:YP)(f:FuncId)(a:List V)(h:Heap)(r:V):Prop:= ∃args',FrzL h a args'/\PCon Y f args' (· =r)
def impP(Y:YP)(ro c:Bool)(σ:St)(g:FuncId)(a:List V)(ts:List TypeId)(K:Ef->Prop):Prop:=
 match c with
 |true=>Ze6 Y ro ts λv=> ∃h,(Con Y g a σ.h λd k=>d=v/\k=h)/\K (.hp h v)
 |false=>Con Y g a σ.h λv h=>Ze6 Y ro ts λu=>v=u/\K (.hp h u)
def ZDw(Y:YP)(c:Bool)(σ:St)(g:FuncId)(a:List V)(ts:List TypeId)(K:Ef->Prop):Prop:=
 match Y.mode g,Xo a with
 |1,true|2,true|3,true=>Ze6 Y true ts λr=>PCon Y g a (· =r)/\K (.q (.val r))
 |2,false=>Ze6 Y true ts λr=>FCon Y g a σ.h r/\T (Zit r) (K (.q (.val r)))
 |3,false=>Ze6 Y true ts λr=>RCon Y g a σ.h r/\T (Zit r) (K (.q (.val r)))
 |4,_=>impP Y true c σ g a ts K
 |7,_=>Ze6 Y true ts λr=>FCon Y g a σ.h r/\T (Zit r) (K (.q (.val r)))
 |5,true=>(match c with
   |true=>Ze6 Y false ts λv=> ∃x:YObj,(Con Y g a σ.h λd k=>d=v/\k=σ.h.push x)/\K (.al σ.h.nx x v)
   |false=>impP Y false false σ g a ts K)\/Ze6 Y true ts λr=>PCon Y g a (· =r)/\K (.q (.val r))
 |_,_=>impP Y false c σ g a ts K
def cvP(Y:YP)(h:Heap)(t:TypeId)(a:Option (Nat×Nat)):Prop:=
 ∃(d:Nat) (e:List V) (wr:Bool) (c:TI),a=some (d,0)/\h.get d=some (.arr e wr)/\h.tagOf d=some t/\Y.ty t=some c/\c.size≠0/\c.size<=e.length
def ZH4(h:Heap)(a b:Option (Nat×Nat)):Prop:= ∃p:Nat×Nat,a=some p/\b=some p/\(h.get p.1).isSome=true
def strH(Y:YP)(h:Heap)(e:TypeId)(a:Option (Nat×Nat))(n:Int):Option (Heap×List UInt8):=
 if n=0 then some (h,[]) else
 match a with
 |some (d,0)=>match h.get d,h.tagOf d with
  |some (.arr c _),some t=>match Y.kd t with
   |some (.int .u8)=>if Zep Y e t=true/\n=c.length/\c.length<=most then(QA c).map λl=>(h.set d (some (.arr c false)),l)else none
   |_=>none
  |_,_=>none
 |_=>none
def ptrP(Y:YP)(σ:St)(c:BinOp)(t:TypeId)(a b:Option (Nat×Nat))(K:Ef->Prop):Prop:=
 match Y.kd t with
 |some (.ptr e)=>(Y.ty e).isSome=true/\match c,b with
  | .eql,none=>K (.q (.val (.b a.isNone)))
  | .neq,none=>K (.q (.val (.b !a.isNone)))
  | .eql,b=>ZH4 σ.h a b/\K (.hp σ.h (.b true))
  | .neq,b=>ZH4 σ.h a b/\K (.hp σ.h (.b false))
  |_,_=>False
 |_=>False
/-! ### Maps; clear and copy -/
def Ziz(Y:YP)(h:Heap)(d c:TypeId)(r:Option Nat)(k:V):Option (V×Bool):=
 match Y.kd d,Zbg h r with
 |some a,some e=>if QF Y d&&Xa a k e&&(Y.ty c).isSome then
   match XT a k e with
   |some v=>some (v,true)
   |none=>some (Zm2 Y c,false)
  else none
 |_,_=>none
def lenM(h:Heap)(r:Option Nat):Option Nat:=(Zbg h r).map List.length
def updM(Y:YP)(h:Heap)(c:TypeId)(r:Option Nat)(k v:V):Option Heap:=
 match r with
 |none=>none
 |some r=>match Y.kd c,h.get r with
  |some a,some (.map d)=>if QF Y c&&Xa a k d then some (h.set r (some (.map (Xv a k v d))))else none
  |_,_=>none
def Zuh(Y:YP)(h:Heap)(e:TypeId)(x:V):Option Heap:=
 match x with
 | .sl none _ _ _=>some h
 | .sl (some (d,off)) len _ k=>match Y.ty e with
  |some a=>if len=0 then some h else
   if k=a.size then match h.get d with
   |some (.arr c true)=>if off+len*a.size<=c.length then some (h.set d (some (.arr (splice c off (List.replicate len a.zero).flatten) true)))else none
   |_=>none
   else none
  |none=>none
 |_=>none
def Zky(Y:YP)(h:Heap)(e:TypeId)(d x:V):Option (Heap×Nat):=
 match d with
 | .sl (some (g,off)) len _ k=>match Y.ty e with
  |some c=>match QT ⟨[],[],h⟩ c.size x with
   |some (n,f)=>if k=c.size/\c.size≠0/\Zp f=true then
     match h.get g with
     |some (.arr a true)=>if off+(f.take (min n len*c.size)).length<=a.length then
       some (h.set g (some (.arr (splice a off (f.take (min n len*c.size))) true)),min n len)else none
     |_=>none
    else none
   |none=>none
  |none=>none
 |_=>none
theorem Zy6{o:Oper}{t f g:TypeId}{m k:Operand}{ok:Bool}{r}{v:V}{b:Bool}(d:o.op= .lookup t m k ok)(l:Y.kd t=some (.map f g))(n:ev σ.env m= .mp r)(h:Ziz Y σ.h f g r (ev σ.env k)=some (v,b)):
  mapH Y σ o=some (σ.h,if ok then .tup [v, .b b]else v):=by
 unfold Ziz at h;split at h
 .rename_i u x c a;split at h
  .rename_i j;simp only[mapH,d,l,n,c,a];rw[uF j];split at h
   .rename_i w e;simp only[uB,uL]at h;obtain⟨rfl,rfl⟩:=h;simp only[e]
   .rename_i e;simp only[uB,uL]at h;obtain⟨rfl,rfl⟩:=h;simp only[e]
  .cases h
 .cases h
theorem Zui{o:Oper}{t e n:TypeId}{m k x:Operand}{r}{d:Heap}(a:o.op= .mapUpdate t m k x\/o.op= .insert t m k x)(j:Y.kd t=some (.map e n))(l:ev σ.env m= .mp r)
  (h:updM Y σ.h e r (ev σ.env k) (ev σ.env x)=some d):mapH Y σ o=some (d, .undef):=by
 unfold updM at h;split at h
 .cases h
 .split at h
  .rename_i u v c f;split at h
   .rename_i g;simp only[uB]at h;subst h;rcases a with a|a
    .simp only[mapH,a,j,l,c,f];rw[uF g]
    .simp only[mapH,a,j,l,c,f];rw[uF g]
   .cases h
  .cases h
theorem Zuj{o:Oper}{a:Array Operand}{c:Array TypeId}{t e:TypeId}{x:Operand}{m:Heap}(d:o.op= .call ⟨.builtin .clear,a,c⟩)(r:a.toList= [x])(u:c.toList= [t])(n:Y.kd t=some (.slice e))
  (h:Zuh Y σ.h e (ev σ.env x)=some m):mapH Y σ o=some (m, .tup []):=by
 unfold Zuh at h;split at h
 .rename_i g;simp only[uB]at h;subst h;simp only[mapH,d,r,u,n,g]
 .rename_i z off len q k g;split at h
  .rename_i y j;simp only[mapH,d,r,u,n,g,j];split at h
   .rename_i l;simp only[uB]at h;subst h;rw[uF l]
   .rename_i l;rw[uE l];split at h
    .rename_i f;rw[uF f];split at h
     .rename_i A v;split at h
      .rename_i w;simp only[uB]at h;subst h;simp only[v];rw[uF w]
      .cases h
     .cases h
    .cases h
  .cases h
 .cases h
theorem Zy7{o:Oper}{a:Array Operand}{c:Array TypeId}{t e:TypeId}{f:List TypeId}{d x:Operand}{r:Heap}{n:Nat}(j:o.op= .call ⟨.builtin .copy,a,c⟩)(D:a.toList= [d,x])(u:c.toList=t::f)(C:Y.kd t=some (.slice e))
  (h:Zky Y σ.h e (ev σ.env d) (ev σ.env x)=some (r,n)):mapH Y σ o=some (r, .i .i64 (n:Int)):=by
 have l: ∀k v,QT σ k v=QT ⟨[],[],σ.h⟩ k v:=λk v=>rfl;unfold Zky at h;split at h
 .rename_i G off len q k w;split at h
  .rename_i F g;split at h
   .rename_i m H A;simp only[mapH,j,D,u,C,w,g,l,A];split at h
    .rename_i y;rw[uF y];split at h
     .rename_i B z;split at h
      .rename_i E;simp only[uB,uL]at h;obtain⟨rfl,rfl⟩:=h;simp only[z];rw[uF E]
      .cases h
     .cases h
    .cases h
   .cases h
  .cases h
 .cases h
def locD(loc:Nat->Bool)(o:Oper):Bool:=match o.dst with|some d=>loc d|none=>false
def hrl(Y:YP)(loc:Nat->Bool)(o:Oper):Bool:=match o.op with| .load t _=>Y.hr t||locD loc o|_=>false
def efP(Y:YP)(loc:Nat->Bool)(w:Bool)(σ:St)(o:Oper)(K:Ef->Prop):Prop:=
 match o.op with
 | .alloc t=>match Y.ty t,o.dst with
  |some C,some d=>match loc d with
   |true=>K (.box C.zero)
   |false=>K (.hp (σ.h.pushT (Y.tag t) (.arr C.zero true)) (.p (some (σ.h.nx,0))))
  |_,_=>False
 | .box t x=>match Y.ty t,o.dst with
  |some C,some d=>T (decide ((ev σ.env x).cells.length=C.size)&&Zp (ev σ.env x).cells) (match loc d with
   |true=>K (.box (ev σ.env x).cells)
   |false=>K (.hp (σ.h.push (.arr (ev σ.env x).cells true)) (.p (some (σ.h.nx,0)))))
  |_,_=>False
 | .store t a x=>match Y.ty t,addr σ a with
  |some C,some (.lb s off)=>match σ.env.getD s .undef with
   | .lb z=>T (decide ((ev σ.env x).cells.length=C.size)&&Zp (ev σ.env x).cells&&decide (off+(ev σ.env x).cells.length<=z.length)) (K (.st s (splice z off (ev σ.env x).cells)))
   |_=>False
  |some C,some (.hp A off)=>T (decide ((ev σ.env x).cells.length=C.size)&&Zp (ev σ.env x).cells) (∃h,Zi σ.h A off (ev σ.env x).cells=some h/\K (.hp h .undef))
  |_,_=>False
 | .buildSlice t n F=>match Y.kd t with
  |some (.slice D)=>match Y.ty D with
   |some u=>T (!(decide (u.size=0)||decide (n*u.size>2 ^ 20))) (match Wa (ev σ.env) (λj=>some (j*u.size,u.size)) F.toList (List.replicate n u.zero).flatten with
    |some z=>match !locD loc o&&Xo z with
     |true=>K (.q (.val (.ts z n (some n))))
     |false=>K (.hp (σ.h.push (.arr z true)) (.sl (some (σ.h.nx,0)) n (some n) u.size))
    |none=>False)
   |none=>False
  |_=>False
 | .makeSlice t l c=>match Y.kd t,ev σ.env l,ev σ.env c with
  |some (.slice D), .i _ l, .i _ c=>match Y.ty D with
   |some u=>if u.size=0 then False else(0<=l/\l<=c/\c<=most/\c*u.bytes<=most)/\
     match w with
     |true=>K (.nw σ.h.nx (.arr (List.replicate c.toNat u.zero).flatten true) (.sl (some (σ.h.nx,0)) l.toNat (some c.toNat) u.size))
     |false=>K (.hp (σ.h.push (.arr (List.replicate c.toNat u.zero).flatten true)) (.sl (some (σ.h.nx,0)) l.toNat (some c.toNat) u.size))
   |none=>False
  |_,_,_=>False
 | .convert s d x=>match Y.kd s,Y.kd d with
  |some .str,some (.slice D)=>match ev σ.env x,Y.kd D with
   | .s l,some (.int .u8)=>K (.hp (σ.h.push (.arr (l.map λc=> .i .u8 c.toNat) true)) (.sl (some (σ.h.nx,0)) l.length none 1))
   |_,_=>False
  |some (.ptr t),_=>match isU Y d,ev σ.env x with
   |true, .p a=>cvP Y σ.h t a/\K (.hp σ.h (.p a))
   |_,_=>qP Y (hrl Y loc o) σ o λq=>K (.q q)
  |_,some (.ptr t)=>match isU Y s,ev σ.env x with
   |true, .p a=>cvP Y σ.h t a/\K (.hp σ.h (.p a))
   |_,_=>qP Y (hrl Y loc o) σ o λq=>K (.q q)
  |_,_=>qP Y (hrl Y loc o) σ o λq=>K (.q q)
 | .call {callee:= .builtin .append,args,argTypes} =>
  match args.toList,argTypes.toList with
  | [s,x],[st,L]=>match ev σ.env s with
   | .ts B E c0=>(∃(a:Option (Nat×Nat)) (l:Nat) (c:Option Nat) (k:Nat) (h:Heap),Zk Y σ.h st L (.ts B E c0) (ev σ.env x)=some (.sl a l c k,h)/\K (.hp h (.sl a l c k)))\/
     (Zk Y σ.h st L (.ts B E c0) (ev σ.env x)=some (.ts B E c0,σ.h)/\K (.hp σ.h (.ts B E c0)))
   | .sl N E c0 O=>match ZH3 (ev σ.env x) with
    |true=> ∃(A o l:Nat) (c:Option Nat) (k:Nat) (h:Heap),Zk Y σ.h st L (.sl N E c0 O) (ev σ.env x)=some (.sl (some (A,o)) l c k,h)/\K (.hp h (.sl (some (A,o)) l c k))
    |false=> ∃(a:Option (Nat×Nat)) (l:Nat) (c:Option Nat) (k:Nat) (h:Heap),Zk Y σ.h st L (.sl N E c0 O) (ev σ.env x)=some (.sl a l c k,h)/\K (.hp h (.sl a l c k))
   |_=>False
  |_,_=>False
 | .call {callee:= .value f,args, ..} =>
  match ev σ.env f with
  | .fn (.func g) a c=>match Y.extOf g with
   |some _=>match exoQ Y σ o with
    |some v=>K (.q (.val v))
    |none=>False
   |none=>match Y.P.funcs[g]? with
    |some fn=>ZDw Y w σ g (a++args.toList.map (ev σ.env)++c) fn.resultTypes.toList K
    |none=>False
  | .yl A=>match w with
   |true=> ∃(b:Bool) (h:Heap),(RdCon Y A (args.toList.map (ev σ.env)) σ.h λW k=>W= .b b/\k=h)/\K (.hp h (.b b))
   |false=>RdCon Y A (args.toList.map (ev σ.env)) σ.h λv h=> ∃b:Bool,v= .b b/\K (.hp h (.b b))
  |_=>False
 | .call {callee:= .builtin .unsafeSliceData,args, ..} =>match args.toList with
  | [x]=>match ev σ.env x with
   | .sl a l _ _=>(l=0->a=none)/\K (.q (.val (.p a)))
   |_=>False
  |_=>False
 | .binOp X t x y _=>match nilT Y σ o,w with
  |some (n,G),false=>(n=0->K (.q (.val (.b !G))))/\K (.q (.val (.b G)))
  |_,_=>match ev σ.env x,ev σ.env y with
   | .p a, .p b=>ptrP Y σ X t a b K
   |_,_=>qP Y (hrl Y loc o) σ o λq=>K (.q q)
 | .call {callee:= .builtin .unsafeString,args,argTypes} =>match args.toList,argTypes.toList with
  | [x,n],[Z,_]=>match ev σ.env x,ev σ.env n with
   | .p a, .i .i64 n=> ∃(s:List UInt8) (h:Heap),strH Y σ.h Z a n=some (h,s)/\K (.hp h (.s s))
   |_,_=>False
  |_,_=>False
 | .makeMap _ none=>match w with
  |true=>K (.nw σ.h.nx (.map []) (.mp (some σ.h.nx)))
  |false=>K (.hp (σ.h.push (.map [])) (.mp (some σ.h.nx)))
 | .lookup t m k ok=>match Y.kd t,ev σ.env m with
  |some (.map H D), .mp r=>ExR Y false D λv=> ∃b:Bool,Ziz Y σ.h H D r (ev σ.env k)=some (v,b)/\K (.q (.val (match ok with|true=> .tup [v, .b b]|false=>v)))
  |_,_=>False
 | .mapUpdate t m k x=>match Y.kd t,ev σ.env m with
  |some (.map H _), .mp r=> ∃h:Heap,updM Y σ.h H r (ev σ.env k) (ev σ.env x)=some h/\K (.hp h .undef)
  |_,_=>False
 | .insert t m k x=>match Y.kd t,ev σ.env m with
  |some (.map H _), .mp r=> ∃h:Heap,updM Y σ.h H r (ev σ.env k) (ev σ.env x)=some h/\K (.hp h .undef)
  |_,_=>False
 | .call {callee:= .builtin .clear,args,argTypes} =>match args.toList,argTypes.toList with
  | [x],[t]=>match Y.kd t with
   |some (.slice e)=> ∃h:Heap,Zuh Y σ.h e (ev σ.env x)=some h/\K (.hp h (.tup []))
   |_=>False
  |_,_=>False
 | .call {callee:= .builtin .copy,args,argTypes} =>match args.toList,argTypes.toList with
  | [d,x],t::_=>match Y.kd t with
   |some (.slice e)=> ∃(h:Heap) (n:Nat),Zky Y σ.h e (ev σ.env d) (ev σ.env x)=some (h,n)/\K (.hp h (.i .i64 (n:Int)))
   |_=>False
  |_,_=>False
 | .call {callee:= .builtin .len,args,argTypes} =>match args.toList,argTypes.toList with
  | [x],[t]=>match Y.kd t,ev σ.env x with
   |some (.map _ _), .mp r=> ∃n:Nat,lenM σ.h r=some n/\K (.q (.val (.i .i64 (n:Int))))
   |_,_=>qP Y (hrl Y loc o) σ o λq=>K (.q q)
  |_,_=>qP Y (hrl Y loc o) σ o λq=>K (.q q)
 | .slice t x none none none=>match Y.kd t with
  |some (.arr n e)=>match Y.ty e with
   |some u=>match ev σ.env x with
    | .tp z=>K (.q (.val (.ts z n (some n))))
    | .p (some (A,off))=>(u.size≠0/\ ∃z wr,σ.h.get A=some (.arr z wr)/\off+n*u.size<=z.length)/\K (.hp σ.h (.sl (some (A,off)) n (some n) u.size))
    |_=>False
   |none=>False
  |_=>qP Y (hrl Y loc o) σ o λq=>K (.q q)
 |_=>qP Y (hrl Y loc o) σ o λq=>K (.q q)
def EP(Y:YP)(loc:Nat->Bool)(a:Bool)(σ:St)(o:Oper)(K:Ef->Prop):Prop:=
 (∃e,StepE Y loc σ o e/\K e)\/(a=false/\ ∃f c,Qp Y loc σ o=some (.call f c)/\Con Y f c σ.h λv h=>K (.hp h v))\/
  (a=false/\ ∃n d,nilT Y σ o=some (n,d)/\(n=0->K (.q (.val (.b !d))))/\K (.q (.val (.b d))))\/
  (a=false/\ ∃j l k g,o.op= .call ⟨.value l,k,g⟩/\ev σ.env l= .yl j/\RdCon Y j (k.toList.map (ev σ.env)) σ.h λv h=>K (.hp h v))
theorem EP.of_QP{loc:Nat->Bool}{a:Bool}{o}{K:Ef->Prop}(h:QP Y σ o λq=>K (.q q)):EP Y loc a σ o K:=by
 obtain⟨q,c,d⟩:=h;exact .inl ⟨.q q, .quiet q c,d⟩
theorem Zy8{loc:Nat->Bool}{c:Bool}{o:Oper}{g:FuncId}{a}{ts:List TypeId}{K:Ef->Prop}(k:Qp Y loc σ o=some (.call g a))(h:ZDw Y c σ g a ts K):EP Y loc c σ o K:=by
 have pure:Xo a=true->(Ze6 Y true ts λr=>PCon Y g a (· =r)/\K (.q (.val r)))->EP Y loc c σ o K:=λd n=>by
  obtain⟨r,f,j⟩:=Zno n;exact .inl ⟨_, .pcall g a a r k (Zcx _ d) (.inl ⟨Vh d,rfl⟩) f,j⟩
 have m: ∀ro,impP Y ro c σ g a ts K->EP Y loc c σ o K:=λro n=>by
  unfold impP at n
  cases c with
  |true=>
   obtain⟨v,w,f,j⟩:=Zno n;exact .inl ⟨_, .icall g a w v k f,j⟩
  |false=>
   refine .inr (.inl ⟨rfl,g,a,k,Con.mono n λv w z=> ?_⟩);obtain⟨u,rfl,y⟩:=Zno z;exact y
 unfold ZDw at h;split at h
 .rename_i d;exact pure d h
 .rename_i d;exact pure d h
 .rename_i d;exact pure d h
 .obtain⟨r,⟨args',f,j⟩,e⟩:=Zno h;rw[Zbo]at e;exact .inl ⟨_, .pcall g a args' r k f (.inr e.1) j,e.2⟩
 .rename_i B d;obtain⟨r,⟨f,j,l,t⟩,e⟩:=Zno h;rw[Zbo]at e;exact .inl ⟨_, .icallR g a σ.h.lo f .empty r r k d j l t (λi o A=>by simp[Wf]at A) (Zyp e.1 _),e.2⟩
 .exact m _ h
 .obtain⟨r,⟨args',f,j⟩,e⟩:=Zno h;rw[Zbo]at e;exact .inl ⟨_, .pcall g a args' r k f (.inr e.1) j,e.2⟩
 .rename_i d;rcases h with h|h
  .cases c with
   |true=>
    obtain⟨v,x,f,j⟩:=Zno h;exact .inl ⟨_, .icallA g a x v k f,j⟩
   |false=>exact m _ h
  .exact pure d h
 .exact m _ h
theorem ZBs{loc:Nat->Bool}{H:Bool}{o}{K:Ef->Prop}(h:efP Y loc H σ o K):EP Y loc H σ o K:=by
 unfold efP at h;split at h
 .rename_i t j;split at h
  .rename_i ti d F hd;split at h
   .rename_i N;exact .inl ⟨_, .alloc t ti d j F hd N,h⟩
   .rename_i N;exact .inl ⟨_, .heap _ _ (by simp[WW,j,F,hd,N]),h⟩
  .exact h.elim
 .rename_i t x j;split at h
  .rename_i ti d F hd;rw[Zbo]at h;simp only[uH,vJ]at h;obtain⟨O,h⟩:=h;split at h
   .rename_i N;exact .inl ⟨_, .boxl t x ti d j F hd N O.1 O.2,h⟩
   .rename_i N;refine .inl ⟨_, .heap _ _ ?_,h⟩;simp only[WW,j,F,hd,N];rw[uF O]
    rfl
  .exact h.elim
 .rename_i t a x j;split at h
  .rename_i ti s off F ha;split at h
   .rename_i Z a9;rw[Zbo]at h;simp only[uH,vJ]at h;obtain⟨O,h⟩:=h;exact .inl ⟨_, .stl t a x ti s off Z j F ha a9 O.1.1 O.1.2 O.2,h⟩
   .exact h.elim
  .rename_i ti id off F ha;rw[Zbo]at h;simp only[uH,vJ]at h;obtain⟨O,X,u,A⟩:=h;refine .inl ⟨_, .heap _ _ ?_,A⟩;unfold Zi at u;simp only[WW,j,F,ha];rw[uF O];split at u
   .rename_i Z hg;split at u
    .rename_i hb;simp only[uB]at u;subst u;simp only[hg];rw[uF hb]
    .cases u
   .cases u
  .exact h.elim
 .rename_i t n a1 j;split at h
  .rename_i et w;split at h
   .rename_i te B;rw[Zbo]at h;obtain⟨O,h⟩:=h;have a5: ¬(te.size=0\/n*te.size>2 ^ 20):=by simpa using O
    split at h
    .rename_i Z hf;split at h
     .rename_i P;rw[uH]at P;exact .inl ⟨_, .bs t n a1 et te Z j w B a5 hf (Vh P.2),h⟩
     .refine .inl ⟨_, .heap _ _ ?_,h⟩;simp only[WW,j,w,B,hf];rw[uE a5]
    .exact h.elim
   .exact h.elim
  .exact h.elim
 .rename_i t xl xc j;split at h
  .rename_i et k1 l k2 c w N O;split at h
   .rename_i te B;split at h
    .exact h.elim
    rename_i hs;obtain⟨⟨b1,b2,b3,b4⟩,h⟩:=h
    cases H with
    |true=>
     refine .inl ⟨_, .nw _ (λi=> .sl (some (i,0)) l.toNat (some c.toNat) te.size) ?_,h⟩;simp only[newO,j,w,N,O,B];rw[uF ⟨hs,b1,b2,b3,b4⟩]
    |false=>
     refine .inl ⟨_, .heap _ _ ?_,h⟩;simp only[WW,j,w,N,O,B];rw[uF ⟨hs,b1,b2,b3,b4⟩]
   .exact h.elim
  .exact h.elim
 .rename_i sr ds x j;split at h
  .rename_i et a2 a3;split at h
   .rename_i l E a8;refine .inl ⟨_, .heap _ _ ?_,h⟩;obtain⟨te,B,a4⟩:=XG a8;simp only[WW,j,a2,a3,E,B,a4]
   .exact h.elim
  .rename_i t a2;split at h
   .rename_i a hu E;obtain⟨⟨id,Z,wr,ti,rfl,u,A,D,G,h5⟩,h⟩:=h;refine .inl ⟨_, .exh _ _ ?_,h⟩;simp only[exoH,j,E,u,A,D];rw[uF ⟨G,h5,by simp[Zep,a2,hu]⟩]
   .exact .of_QP (Zkx h)
  .rename_i t a3 _;split at h
   .rename_i a hu E;obtain⟨⟨id,Z,wr,ti,rfl,u,A,D,G,h5⟩,h⟩:=h;refine .inl ⟨_, .exh _ _ ?_,h⟩;simp only[exoH,j,E,u,A,D];rw[uF ⟨G,h5,by simp[Zep,a3,hu]⟩]
   .exact .of_QP (Zkx h)
  .exact .of_QP (Zkx h)
 .rename_i C L j;split at h
  .rename_i s x st xt u A;split at h
   .rename_i W;rcases h with ⟨_,_,_,_,X,D,G⟩|⟨D,G⟩
    .refine .inl ⟨_, .heap _ _ ?_,G⟩;simp only[WW,j,u,A,VL,W,D]
    .refine .inl ⟨_, .heap _ _ ?_,G⟩;simp only[WW,j,u,A,VL,W,D]
   .rename_i W;split at h
    .obtain⟨_,_,_,_,_,X,D,G⟩:=h;refine .inl ⟨_, .heap _ _ ?_,G⟩;simp only[WW,j,u,A,VL,W,D]
    .obtain⟨_,_,_,_,X,D,G⟩:=h;refine .inl ⟨_, .heap _ _ ?_,G⟩;simp only[WW,j,u,A,VL,W,D]
   .exact h.elim
  .exact h.elim
 .rename_i f C L j;split at h
  .rename_i g a c hf;split at h
   .split at h
    .rename_i v hv;exact .inl ⟨_, .exq v hv,h⟩
    .exact h.elim
   .split at h
    .exact Zy8 (Zez j hf) h
    .exact h.elim
  .rename_i id hf
   cases H with
   |true=>
    obtain⟨b,X,u,A⟩:=h;exact .inl ⟨_, .round id X (.b b) f C L j hf u,A⟩
   |false=>exact .inr (.inr (.inr ⟨rfl,id,f,C,L,j,hf,h.mono λv k ⟨b,hv,w⟩=>by subst hv;exact w⟩))
  .exact h.elim
 .rename_i C L j;split at h
  .rename_i x a0;split at h
   .rename_i a l q1 q2 E;obtain⟨h0,h⟩:=h;refine .inl ⟨_, .exq _ ?_,h⟩;simp only[exoQ,j,a0,E]
    cases a with
    |none=>rfl
    |some p=>
     have: ¬l=0:=λe=>by have:=h0 e;cases this
     simp[this]
   .exact h.elim
  .exact h.elim
 .rename_i op t x y z j;split at h
  .rename_i n a6 hn;exact .inr (.inr (.inl ⟨rfl,n,a6,hn,h⟩))
  .split at h
   .rename_i a b E hy;unfold ptrP at h;split at h
    .rename_i e w;obtain⟨B,h⟩:=h;split at h
     .refine .inl ⟨_, .quiet (.val (.b a.isNone)) ?_,h⟩;cases a<;>simp[opQ,j,E,hy,binY,w,eqV]
     .refine .inl ⟨_, .quiet (.val (.b !a.isNone)) ?_,h⟩;cases a<;>simp[opQ,j,E,hy,binY,w,eqV]
     .obtain⟨⟨p,rfl,rfl,N⟩,h⟩:=h;refine .inl ⟨_, .exh _ _ ?_,h⟩;simp only[exoH,j,E,hy,w];rw[uF ⟨trivial,N,B⟩]
     .obtain⟨⟨p,rfl,rfl,N⟩,h⟩:=h;refine .inl ⟨_, .exh _ _ ?_,h⟩;simp only[exoH,j,E,hy,w];rw[uF ⟨trivial,N,B⟩]
     .exact h.elim
    .exact h.elim
   .exact .of_QP (Zkx h)
 .rename_i C L j;split at h
  .rename_i x n pt it a0 a7;split at h
   .rename_i a m E hn;obtain⟨s,X,u,A⟩:=h;refine .inl ⟨_, .exh _ _ ?_,A⟩;simp only[exoH,j,a0,a7,E,hn];unfold strH at u;split at u
    .rename_i h0;simp only[uB,uL]at u;obtain⟨rfl,rfl⟩:=u;rw[uF h0]
    .rename_i h0;rw[uE h0];split at u
     .rename_i id;split at u
      .rename_i Z wr t hg ht;split at u
       .rename_i w;split at u
        .rename_i O;simp only[uG,uL]at u;obtain⟨l,N,rfl,rfl⟩:=u;simp only[hg,ht,w];rw[uF O,N]
         rfl
        .cases u
       .cases u
      .cases u
     .cases u
   .exact h.elim
  .exact h.elim
 .rename_i t j
  cases H with
  |true=>exact .inl ⟨_, .nw (.map []) (λi=> .mp (some i)) (by simp only[newO,j]),h⟩
  |false=>exact .inl ⟨_, .nwp (.map []) (λi=> .mp (some i)) (by simp only[newO,j]),h⟩
 .rename_i t m k ok j;split at h
  .rename_i kt et r w hm;obtain⟨v,b,u,A⟩:=exR h;refine .inl ⟨_, .lkq _ (by simp only[Zgr,j];rw[Zy6 j w hm u];rfl),?_⟩;cases ok<;>exact A
  .exact h.elim
 .rename_i t m k x j;split at h
  .rename_i kt et r w hm;obtain⟨X,u,A⟩:=h;exact .inl ⟨_, .mph _ _ (Zui (.inl j) w hm u),A⟩
  .exact h.elim
 .rename_i t m k x j;split at h
  .rename_i kt et r w hm;obtain⟨X,u,A⟩:=h;exact .inl ⟨_, .mph _ _ (Zui (.inr j) w hm u),A⟩
  .exact h.elim
 .rename_i C L j;split at h
  .rename_i x t u A;split at h
   .rename_i e w;obtain⟨X,D,G⟩:=h;exact .inl ⟨_, .mph _ _ (Zuj j u A w D),G⟩
   .exact h.elim
  .exact h.elim
 .rename_i C L j;split at h
  .rename_i d x t b0 u A;split at h
   .rename_i e w;obtain⟨X,n,D,G⟩:=h;exact .inl ⟨_, .mph _ _ (Zy7 j u A w D),G⟩
   .exact h.elim
  .exact h.elim
 .rename_i C L j;split at h
  .rename_i x t u A;split at h
   .rename_i kt et r w E;obtain⟨n,D,G⟩:=h;refine .inl ⟨_, .quiet (.val (.i .i64 (n:Int))) ?_,G⟩;unfold lenM Zbg at D;simp only[opQ,j,u,A,w,E]
    cases r with
    |none=>simp at D;subst D;rfl
    |some r=>
     simp only at D ⊢;split at D
     .rename_i es hg;simp at D;subst D;simp[hg]
     .simp at D
   .exact .of_QP (Zkx h)
  .exact .of_QP (Zkx h)
 .rename_i t x j;split at h
  .rename_i n e w;split at h
   .rename_i te B;split at h
    .rename_i Z E;exact .inl ⟨_, .exq _ (by simp only[exoQ,j,w,E,B]),h⟩
    .rename_i id off E;obtain⟨⟨u,Z,wr,A,D⟩,G⟩:=h;refine .inl ⟨_, .exh _ _ ?_,G⟩;simp only[exoH,j,w,E,B,A];rw[uF ⟨u,D⟩]
    .exact h.elim
   .exact h.elim
  .exact .of_QP (Zkx h)
 .exact .of_QP (Zkx h)
def guP(c:Array Oper)(σ:St)(o:Oper)(k:St->Bool->Prop):Prop:=
 match o.guard with
 |none=>k σ true
 |some (j,a)=>match (c[j]?).bind (·.dst) with
  |some d=>match σ.env.getD d .undef with
   | .b x=>Br x λx=>k {σ with env:=σ.env.set d (.b x)} (x==a)
   | .tup []=>k σ false
   |_=>False
  |none=>False
theorem Zps{a:List V}{d:Nat}{v:V}(h:a.getD d .undef=v)(f:v≠ .undef):a.set d v=a:=by
 apply vA;intro i;rw[Qc];split
 .rename_i e;subst e;simp only[List.getD]at h
  cases c:a[d]? with
  |none=>rw[c]at h;simp at h;exact absurd h.symm f
  |some x=>
   rw[c]at h;simp at h;subst h;have:=(List.getElem?_eq_some_iff.1 c).1;simp[this]
 .rfl
theorem ZBt{a:Array Oper}{o:Oper}{k:St->Bool->Prop}(h:guP a σ o k): ∃b,JG a σ.env o=some b/\k σ b:=by
 unfold guP at h;unfold JG;split at h
 .rename_i f;exact⟨true,by simp[f],h⟩
 .rename_i j g f;split at h
  .rename_i d l;split at h
   .rename_i x c;rw[Zue,Zps c (λe=>nomatch e)]at h;exact⟨_,by simp only[f,l,c],h⟩
   .rename_i c;exact⟨false,by simp only[f,l,c],h⟩
   .exact h.elim
  .exact h.elim
def opsP(Y:YP)(loc:Nat->Bool)(a:Bool)(ops:Array Oper):List Oper->St->List Foot->(St->List Foot->Prop)->Prop
 | [],σ,c,K=>K σ c
 |o::r,σ,c,K=>guP ops σ o λσ b=>match b with
  |true=>efP Y loc a σ o λe=>T (Ze2 σ o e) (opsP Y loc a ops r (e.appL o.dst σ) (match a with|true=>Zaj σ o e::c|false=>c) K)
  |false=>opsP Y loc a ops r (Ef.skip.app o.dst σ) (match a with|true=>Zaj σ o .skip::c|false=>c) K
theorem Ze7{loc:Nat->Bool}{d:Array Oper} : ∀(l:List Oper) (σ:St) (f:List Foot) (K:St->List Foot->Prop),opsP Y loc true d l σ f K-> ∃(x:List (Ef×Foot)) (a:St),Lex Y loc d l σ x a/\K a ((x.map (·.2)).reverse++f)
 | [],σ,f,K,h=>⟨[],σ, .nil _,h⟩
 |o::r,σ,f,K,h=>by
  simp only[opsP]at h;obtain⟨b,n,h⟩:=ZBt h
  cases b with
  |false=>
   obtain⟨x,a,j,k⟩:=Ze7 r _ _ _ h;exact⟨(.skip,Zaj σ o .skip)::x,a, .cons _ _ _ _ _ _ (.inl ⟨n,rfl⟩) rfl j,by simpa using k⟩
  |true=>
   rcases ZBs h with ⟨e,m,g⟩|⟨c,_⟩|⟨c,_⟩|⟨c,_⟩
   .rw[Zbo,m.appL]at g;obtain⟨x,a,j,k⟩:=Ze7 r _ _ _ g.2;exact⟨(e,Zaj σ o e)::x,a, .cons _ _ _ _ _ _ (.inr ⟨n,m⟩) g.1 j,by simpa using k⟩
   .cases c
   .cases c
   .cases c
theorem Jr{ro:Option Nat}(E:YOK Y){loc:Nat->Bool}{ops:Array Oper}{K:St->List Foot->Prop}{Q:Exit->Act->World->Prop}{W0:Vw}{own0:Nat->Prop}{w0:World}
  (N: ∀σ t W a w,K σ t->Rel W σ a w->Stp W0 own0 w0 W (mine W σ a) w->Q .normal a w):
  ∀(l:List Oper) (k:Nat) (σ:St) (t:List Foot) (W:Vw) (a:Act) (w:World),(∀j,l[j]? =ops[k+j]?)->opsP Y loc false ops l σ t K->Rel W σ a w->Stp W0 own0 w0 W (mine W σ a) w->
   wpOpsIn (FrR ro) 0 Y.P ops Q (List.range' k l.length) a w
 | [],k,σ,t,W,a,w,_,h,hr,G=>N σ t W a w h hr G
 |o::r,k,σ,t,W,a,w,hl,h,hr,G=>by
  have h0:ops[k]? =some o:=by simpa using (hl 0).symm
  have m: ∀j,r[j]? =ops[k+1+j]? :=λj=>by have:=hl (j+1);simpa[uX,Nat.add_comm 1 j]using this
  simp only[List.length_cons,List.range'_succ,wpOpsIn,h0];simp only[opsP]at h;obtain⟨b,hg,h⟩:=ZBt h
  cases b with
  |false=>
   rw[uE (by rw[Zbi hr hg];simp)];have H:VR W (.tup []) Go.undef:= .tup [] [] .nil;refine⟨λ_ _=>trivial,?_⟩;exact Jr E N r (k+1) _ t W _ w m h (hr.putV H o.dst) (G.weaken λb Z=>Xq H o.dst Z)
  |true=>
   rw[uF (Zbi hr hg)];rcases ZBs h with ⟨e,d,C⟩|⟨_,f,a2,d,hc⟩|⟨_,n,a3,hn,O,X⟩|⟨_,id,fo,aa,a4,a1,hf,hc⟩
   .rw[Zbo,d.appL]at C;refine Zpl E hr d ?_ ?_ λF a' D B A=>Jr E N r (k+1) _ t F a' D m C.2 B (G.trans A)
    .intro s f he y hy L;have z:=C.1;simp only[Ze2,he,L]at z;have:=uP.1 z y hy;simp at this
    .intro cs he y hy L;have z:=C.1;simp only[Ze2,he,L]at z;have:=uP.1 z y hy;simp at this
   .obtain⟨us,hv,a0⟩:=Jg hr d;refine VH (λc L=>by simp[Qp,opQ,L]at d) ?_;unfold Oper.wp;rw[a0,Qm E hc.body];simp only[Oper.upon];refine(hc.tr W w us hr.heap hv).mono ?_;rintro e D ⟨v,h',F,u,C,rfl,hh,x,g⟩;rw[Zbo]at C;have h1:=hr.call g hh;exact Jr E N r (k+1) _ t F _ D m C.2 (h1.putV x o.dst) (G.trans ((g.frame hr).weaken λb Z=>Xq x o.dst Z))
   .refine VH (λc L=>by simp[nilT,L]at hn) ?_;rcases ZDm E hr hn with d|⟨h0,d⟩
    .rw[Zbo]at X;exact XH d λF a' D B A=>Jr E N r (k+1) _ t F a' D m X.2 B (G.trans A)
    .have O:=Zbo.1 (O h0);exact XH d λF a' D B A=>Jr E N r (k+1) _ t F a' D m O.2 B (G.trans A)
   .refine Zpk hr a1 hf hc λv h' F u D C hh x g=> ?_;have C:=Zbo.1 C;have h1:=hr.call g hh;exact Jr E N r (k+1) _ t F _ D m C.2 (h1.putV x o.dst) (G.trans ((g.frame hr).weaken λb Z=>Xq x o.dst Z))
theorem Znp{ro:Option Nat}(m:YOK Y){loc:Nat->Bool}{j:Nat}{c:Array Oper}{Q:Out->St->Prop}{K:St->List Foot->Prop}(h:opsP Y loc false c c.toList {σ with refs:= []} [] K)(k: ∀σ' d,K σ' d->Q .normal {σ' with refs:= []}):
  TriG ro Y (.region j c false) σ Q:=by
 intro W a w W0 own0 w0 hr e;refine wpIn_region ?_;have:=Jr (ro:=ro) (ops:=c) (loc:=loc) m (Q:=ZDj Q W0 own0 w0) (W0:=W0) (own0:=own0) (w0:=w0) (K:=K) (λσ' d g r o l n f=>⟨.normal,_,g,trivial,k σ' d l,n.noRefs,f⟩) c.toList 0 _ [] W a w sm h hr.noRefs e;rw[List.range_eq_range'];simpa using this
theorem Zuk{ro:Option Nat}(f:YOK Y){loc:Nat->Bool}{j:Nat}{a:Array Oper}{Q:Out->St->Prop}{K:St->Prop}(h:opsP Y loc true a a.toList {σ with refs:= []} [] λσ' e=>T (chk a e.reverse) (K σ'))(d: ∀σ',K σ'->Q .normal {σ' with refs:= []}):
  TriG ro Y (.region j a true) σ Q:=by
 obtain⟨x,k,g,c⟩:=Ze7 _ _ _ _ h;rw[Zbo]at c;exact Zy5 f g (by simpa using c.1) (d _ c.2)
def fixB(σ:St)(x:Operand)(b:Bool):St:=match x with
 | .tmp t=> {σ with env:=σ.env.set t (.b b)}
 |_=>σ
theorem Zul{x:Operand}{b:Bool}(h:ev σ.env x= .b b):fixB σ x b=σ:=by
 unfold fixB;split
 .rename_i t;have:σ.env.getD t .undef= .b b:=by
   simp only[ev,V.plain]at h;split at h
   .cases h
   .cases h
   .exact h
  rw[Zps this (λe=>nomatch e)]
 .rfl
def TriLG(ro:Option Nat)(Y:YP):List Code->St->(Out->St->Prop)->Prop
 | [],σ,Q=>Q .normal σ
 |c::r,σ,Q=>TriG ro Y c σ λo σ'=>match o with
  | .normal=>TriLG ro Y r σ' Q
  | .exit i=>Q (.exit i) σ'
  | .ret=>Q .ret σ'
abbrev TriL(Y:YP)(l:List Code)(σ:St)(Q:Out->St->Prop):Prop:=TriLG none Y l σ Q
theorem TriLG.mono{ro} : ∀ {l:List Code} {σ:St} {Q d:Out->St->Prop},TriLG ro Y l σ Q->(∀o σ',Q o σ'->d o σ')->TriLG ro Y l σ d
 | [],_,_,_,h,a=>a _ _ h
 |c::r,σ,Q,d,h,a=>TriG.mono h λo σ' e=>by
  cases o with
  |normal=>exact TriLG.mono (l:=r) e a
  |exit i=>exact a _ _ e
  |ret=>exact a _ _ e
theorem TriL.mono{l}{σ}{Q a:Out->St->Prop}(h:TriL Y l σ Q)(c: ∀o σ',Q o σ'->a o σ'):TriL Y l σ a:=TriLG.mono h c
structure Rest(Y:YP)(l:List Code)(σ:St)(K:Out->St->Prop):Prop where
 tri: ∀ro,TriLG ro Y l σ K
def Zc(Y:YP)(loc:Nat->Bool):Nat->List Code->St->(Out->St->Prop)->Prop
 |0,l,σ,K=>Rest Y l σ K
 |_+1,[],σ,K=>K .normal σ
 |n+1,c::r,σ,K=>
  match c with
  | .skip=>Zc Y loc n r σ K
  | .label _=>Zc Y loc n r σ K
  | .exit e=>K (.exit e) σ
  | .ret=>K .ret σ
  | .region _ d false=>opsP Y loc false d d.toList {σ with refs:= []} [] λσ' _=>Zc Y loc n r {σ' with refs:= []} K
  | .region _ d true=>opsP Y loc true d d.toList {σ with refs:= []} [] λσ' f=>T (chk d f.reverse) (Zc Y loc n r {σ' with refs:= []} K)
  | .seq a b=>Zc Y loc n (a::b::r) σ K
  | .cond x a b=>match ev σ.env x with
   | .b t=>Br t λt=>Zc Y loc n ((match t with|true=>a|false=>b)::r) (fixB σ x t) K
   |_=>False
  | .block e (.loop a)=>Rest Y (.block e (.loop a)::r) σ K
  | .block e a=>Zc Y loc n [a] σ λo σ'=>match o with
   | .normal=>Zc Y loc n r σ' K
   | .exit j=>if j=e then Zc Y loc n r σ' K else K (.exit j) σ'
   | .ret=>K .ret σ'
  | .scope a=>Zc Y loc n (a::r) σ K
  |c=>Rest Y (c::r) σ K
theorem XB{ro}{c:Code}{r:List Code}{K:Out->St->Prop} (h:TriG ro Y c σ λo σ'=>match o with
  | .normal=>TriLG ro Y r σ' K
  | .exit i=>K (.exit i) σ'
  | .ret=>K .ret σ'):TriLG ro Y (c::r) σ K:=h
theorem QC{ro}{d:Nat}{c:Code}{r:List Code}{K:Out->St->Prop} (h:TriG ro Y c σ λo σ'=>match o with
  | .normal=>TriLG ro Y r σ' K
  | .exit j=>if j=d then TriLG ro Y r σ' K else K (.exit j) σ'
  | .ret=>K .ret σ'):TriLG ro Y (.block d c::r) σ K:=by
 refine XB (Ztv (h.mono ?_));intro o σ' a
 cases o with
 |normal=>exact a
 |ret=>exact a
 |exit j=>
  simp only[Znc];simp only at a;by_cases e:j=d
  .rw[uF e]at a ⊢;exact a
  .rw[uE e]at a ⊢;exact a
theorem Zkz{ro}(f:YOK Y){loc:Nat->Bool} : ∀(n:Nat) (l:List Code) (σ:St) (K:Out->St->Prop),Zc Y loc n l σ K->TriLG ro Y l σ K
 |0,_,_,_,h=>h.tri ro
 |n+1,[],σ,K,h=>h
 |n+1,c::r,σ,K,h=>by
  have e:=Zkz (ro:=ro) f (loc:=loc) n;unfold Zc at h;split at h
  .exact XB (Zyn (e _ _ _ h))
  .exact XB (Ztt (e _ _ _ h))
  .exact XB (Zyo h)
  .exact XB (ZDk h)
  .exact XB (Znp f h λσ' v h=>e _ _ _ h)
  .exact XB (Zuk f h λσ' h=>e _ _ _ h)
  .refine XB (Ztu ?_);have g:=e _ _ _ h;refine TriG.mono g ?_;intro o σ' d
   cases o with
   |normal=>exact d
   |exit i=>exact d
   |ret=>exact d
  .split at h
   .rename_i t k;rw[Zue,Zul k]at h;refine XB (Ziq k ?_);cases t<;>exact e _ _ _ h
   .exact h.elim
  .exact h.tri ro
  .rename_i u a _;refine QC ?_;have g:=e _ _ _ h;refine TriG.mono g ?_;intro o σ' d
   cases o with
   |normal=>exact e _ _ _ d
   |ret=>exact d
   |exit j=>
    simp only at d ⊢;by_cases m:j=u
    .rw[uF m]at d ⊢;exact e _ _ _ d
    .rw[uE m]at d ⊢;exact d
  .exact XB (Zkd (e _ _ _ h))
  .exact h.tri ro
theorem Zbp(a:YOK Y){loc:Nat->Bool}(n:Nat)(l)(σ)(K)(h:Zc Y loc n l σ K):TriL Y l σ K:=Zkz a n l σ K h
end
end Go.Y
