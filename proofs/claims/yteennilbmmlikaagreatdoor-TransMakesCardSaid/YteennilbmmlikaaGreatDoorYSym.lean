/- A part of the proof. -/
import Derived.Test.YteennilbmmlikaaGreatDoorYAny3
namespace Go.Y
set_option maxRecDepth 1000000
set_option maxHeartbeats 0
section
variable {Y:YP} {σ σ':St}

def Br(x:Bool)(p:Bool->Prop):Prop:=match x with|true=>p true|false=>p false
theorem Zqe{x:Bool}{p:Bool->Prop} :Br x p↔p x:=by cases x<;>exact Iff.rfl
def If(x:Bool)(a b:Prop):Prop:=match x with|true=>a|false=>b
theorem Zg{x:Bool}{a b:Prop}(h:x=true->a)(g:x=false->b):If x a b:=by cases x;exact g rfl;exact h rfl

def SlO(a:Option (Nat×Nat))(n:Prop)(p:Nat->Nat->Prop):Prop:=match a with
 |none=>n
 |some (id,off)=>p id off

def Zb(h:Heap)(id off n:Nat):Option (List V):=
 match h.get id with
 |some (.arr cs _)=>Zo n (cs.drop off)
 |_=>none

def Zj(h:Heap)(id off:Nat)(new:List V):Option Heap:=
 match h.get id with
 |some (.arr cs true)=>if off+new.length<=cs.length then some (h.set id (some (.arr (splice cs off new) true)))else none
 |_=>none

def Zf(Y:YP)(h:Heap)(st xt:TypeId)(s x:V):Option (V×Heap):=ZR Y ⟨[],[],h⟩ st xt s x
def ZB7:V->Bool
 | .i _ _=>true
 |_=>false
theorem WT{st xt:TypeId}{s x:V} :ZR Y σ st xt s x=Zf Y σ.h st xt s x:=rfl

def Zqf(Y:YP):Nat->TypeId->List Kd
 |0,_=> []
 |n+1,t=>match Y.kd t with
  |some (.struct fs)=>fs.flatMap fun f=>Zqf Y n f.2
  |some (.arr len e)=>(List.replicate len (Zqf Y n e)).flatten
  |some k=> [k]
  |none=> []

def ExK1(ro:Bool)(k:Kd)(p:V->Prop):Prop:=
 match k with
 | .int k=> ∃n:Int,p (.i k n)
 | .bool=> ∃b:Bool,p (.b b)
 | .str=> ∃s:List UInt8,p (.s s)
 | .ptr _=>match ro with
  |true=> ∃cs:List V,p (.tp cs)
  |false=> ∃a:Option (Nat×Nat),p (.p a)
 | .slice _=>match ro with
  |true=> ∃(cs:List V) (l:Nat) (c:Option Nat),p (.ts cs l c)
  |false=> ∃(a:Option (Nat×Nat)) (l:Nat) (c:Option Nat) (k:Nat),p (.sl a l c k)
 | .map _ _=> ∃r:Option Nat,p (.mp r)
 | .iface=>p .nilifc∨ ∃(t:TypeId) (v:V),p (.ifc t v)
 |_=> ∃v:V,p v

theorem exK1{ro:Bool}{k:Kd}{p:V->Prop}(h:ExK1 ro k p): ∃v,p v:=by
 unfold ExK1 at h
 split at h
 ·obtain⟨n,h⟩:=h;exact⟨_,h⟩
 ·obtain⟨n,h⟩:=h;exact⟨_,h⟩
 ·obtain⟨n,h⟩:=h;exact⟨_,h⟩
 ·split at h
  ·obtain⟨n,h⟩:=h;exact⟨_,h⟩
  ·obtain⟨n,h⟩:=h;exact⟨_,h⟩
 ·split at h
  ·obtain⟨_,_,_,h⟩:=h;exact⟨_,h⟩
  ·obtain⟨_,_,_,_,h⟩:=h;exact⟨_,h⟩
 ·obtain⟨n,h⟩:=h;exact⟨_,h⟩
 ·rcases h with h|⟨t,v,h⟩
  ·exact⟨_,h⟩
  ·exact⟨_,h⟩
 ·exact h

def ExK(ro:Bool):List Kd->(List V->Prop)->Prop
 | [],p=>p []
 |k::r,p=>ExK1 ro k fun v=>ExK ro r fun l=>p (v::l)

theorem exK{ro:Bool}{ks:List Kd} : ∀ {p:List V->Prop},ExK ro ks p-> ∃r,p r:=by
 induction ks with
 |nil=>intro p h;exact⟨[],h⟩
 |cons k r ih=>
  intro p h
  obtain⟨x,h⟩:=exK1 h
  obtain⟨l,h⟩:=ih h
  exact⟨_,h⟩

def ExL(ro:Bool)(ks:List Kd)(p:List V->Prop):Prop:=
 match Nat.blt 64 ks.length with
 |true=> ∃cs:List V,p cs
 |false=>ExK ro ks p
theorem exL{ro:Bool}{ks:List Kd}{p:List V->Prop}(h:ExL ro ks p): ∃r,p r:=by
 unfold ExL at h
 split at h
 ·exact h
 ·exact exK h

def ExR(Y:YP)(ro:Bool)(t:TypeId)(p:V->Prop):Prop:=
 match Y.kd t with
 |some k=>match k.agg with
  |true=>ExL ro (Zqf Y 8 t) fun r=>p (.agg r)
  |false=>ExK1 ro k p
 |none=> ∃v:V,p v

theorem exR{ro:Bool}{t:TypeId}{p:V->Prop}(h:ExR Y ro t p): ∃v,p v:=by
 unfold ExR at h
 split at h
 ·split at h
  ·obtain⟨r,h⟩:=exL h;exact⟨_,h⟩
  ·exact exK1 h
 ·exact h

def ExRs(Y:YP)(ro:Bool):List TypeId->(List V->Prop)->Prop
 | [],p=>p []
 |t::r,p=>ExR Y ro t fun v=>ExRs Y ro r fun l=>p (v::l)

theorem exRs{ro:Bool}{ts:List TypeId} : ∀ {p:List V->Prop},ExRs Y ro ts p-> ∃r,p r:=by
 induction ts with
 |nil=>intro p h;exact⟨[],h⟩
 |cons t r ih=>
  intro p h
  obtain⟨x,h⟩:=exR h
  obtain⟨l,h⟩:=ih h
  exact⟨_,h⟩

def Zde(Y:YP)(ro:Bool)(ts:List TypeId)(p:V->Prop):Prop:=
 match ts with
 | [t]=>ExR Y ro t p
 |ts=>ExRs Y ro ts fun l=>p (.tup l)

theorem Zko{ro:Bool}{ts:List TypeId}{p:V->Prop}(h:Zde Y ro ts p): ∃v,p v:=by
 unfold Zde at h
 split at h
 ·exact exR h
 ·obtain⟨l,h⟩:=exRs h;exact⟨_,h⟩

def bndP(y d:Nat)(o:Option V)(K:Nat->Prop):Prop:=
 match o with
 |none=>K d
 |some (.i _ n)=>(0<=n∧n<=y)∧K n.toNat
 |_=>False
theorem JV{y d:Nat}{o:Option V}{K:Nat->Prop}(h:bndP y d o K): ∃n,bnd y d o=some n∧K n:=by
 unfold bndP at h
 split at h
 ·exact⟨d,rfl,h⟩
 ·exact⟨_,by simp only[bnd];rw[if_pos h.1],h.2⟩
 ·exact h.elim

def qPd(Y:YP)(σ:St)(o:Oper)(K:Q->Prop):Prop:=
 match opQ Y σ o with
 |some q=>K q
 |none=>False

def binP(Y:YP)(σ:St)(o:Oper)(op:BinOp)(a b:V)(K:Q->Prop):Prop:=
 match op,a,b with
 | .add, .s l, .s m=>l.length+m.length<=2 ^ 60∧K (.val (.s (l++m)))
 | .quo, .i k m, .i k' n=>if k=k' then n≠0∧K (.val (.i k (k.wrap (m.tdiv n))))else False
 | .rem, .i k m, .i k' n=>if k=k' then n≠0∧K (.val (.i k (m.tmod n)))else False
 | .shl, .i k m, .i _ n=>0<=n∧K (.val (.i k (k.wrap (m*2 ^ (min n.toNat k.bits)))))
 | .shr, .i k m, .i _ n=>0<=n∧K (.val (.i k (m.fdiv (2 ^ (min n.toNat k.bits)))))
 |_,_,_=>qPd Y σ o K

def bigB(Y:YP)(t:TypeId):Bool:=match Y.ty t with
 |some ti=>Nat.blt 64 ti.size
 |none=>false
def Zqg(Y:YP)(t:TypeId)(off size:Nat)(new:List V):Option (List V):=match Y.ty t with
 |some ti=>if new.length=size∧off+new.length<=ti.zero.length∧Zk new then some (splice ti.zero off new)else none
 |none=>none

def qP(Y:YP)(ro:Bool)(σ:St)(o:Oper)(K:Q->Prop):Prop:=
 match o.op with
 | .load t a=>match Y.ty t,addr σ a with
  |some _,some (.lb _ _)=>qPd Y σ o K
  |some ti,some (.hp id off)=>ExL ro (Zqf Y 8 t) fun r=>Zb σ.h id off ti.size=some r∧match QK ti.kd.agg r with
   |some v=>K (.val v)
   |none=>False
  |some ti,some (.ro cs)=>ExL true (Zqf Y 8 t) fun r=>Zo ti.size cs=some r∧match QK ti.kd.agg r with
   |some v=>K (.val v)
   |none=>False
  |_,_=>False
 | .indexAddr t x ix=>match Y.kd t,ev σ.env ix with
  |some (.slice et), .i _ i=>match Y.ty et,ev σ.env x with
   |some te, .sl a len _ k=>if te.size=0 then False else SlO a False fun id off=>(0<=i∧i<len)∧k=te.size∧K (.val (.p (some (id,off+i.toNat*te.size))))
   |some te, .ts cs len _=>if te.size=0 then False else(0<=i∧i<len)∧K (.val (.tp (cs.drop (i.toNat*te.size))))
   |_,_=>False
  |some (.arr n et), .i _ i=>match Y.ty et,addr σ x with
   |some te,some a=>if te.size=0 then False else(0<=i∧i<n)∧K (a.shift (i.toNat*te.size)).q
   |_,_=>False
  |_,_=>False
 | .pick c a b=>match ev σ.env c with
  | .b x=>Br x fun x=>K (.val (if x then ev σ.env a else ev σ.env b))
  |_=>False
 | .slice t x lo hi mx=>match ev σ.env x with
  | .s l=>match Y.kd t,mx with
   |some .str,none=>bndP l.length l.length (hi.map (ev σ.env)) fun b=>bndP b 0 (lo.map (ev σ.env)) fun a=>K (.val (.s ((l.drop a).take (b-a))))
   |_,_=>False
  | .ts cs n c=>match Y.kd t,mx with
   |some (.slice e),none=>match Y.ty e with
    |some te=>bndP n n (hi.map (ev σ.env)) fun b=>bndP b 0 (lo.map (ev σ.env)) fun a=>K (.val (.ts ((cs.drop (a*te.size)).take ((b-a)*te.size)) (b-a) (c.map (· - a))))
    |none=>False
   |some (.slice e),some _=>match Y.ty e,hi with
    |some te,some _=>bndP n 0 (mx.map (ev σ.env)) fun m=>bndP m 0 (hi.map (ev σ.env)) fun b=>bndP b 0 (lo.map (ev σ.env)) fun a=>K (.val (.ts ((cs.drop (a*te.size)).take ((b-a)*te.size)) (b-a) (some (m-a))))
    |_,_=>False
   |_,_=>False
  | .sl a len c k=>SlO a (∃(a':Option (Nat×Nat)) (n':Nat) (c':Option Nat) (k':Nat),VN Y t (.sl none len c k) (lo.map (ev σ.env)) (hi.map (ev σ.env)) (mx.map (ev σ.env))=some (.sl a' n' c' k')∧K (.val (.sl a' n' c' k')))
   fun id off=>match Y.kd t,mx with
   |some (.slice e),none=>match Y.ty e with
    |some te=>k=te.size∧bndP (c.getD len) len (hi.map (ev σ.env)) fun b=>bndP b 0 (lo.map (ev σ.env)) fun a=>K (.val (.sl (some (id,off+a*k)) (b-a) (c.map (· - a)) k))
    |none=>False
   |_,_=>False
  |_=>False
 | .index t x ix=>match Y.kd t,ev σ.env x,ev σ.env ix with
  |some .str, .s l, .i _ i=> ∃c:UInt8,(0<=i∧l[i.toNat]? =some c)∧K (.val (.i .u8 c.toNat))
  |_,_,_=>qPd Y σ o K
 | .binOp op _ x y _=>binP Y σ o op (ev σ.env x) (ev σ.env y) K
 | .build t parts=>(match bigB Y t,parts.toList with
  |true,[p]=>(match Y.kd t with
   |some (.struct fs)=>(match fs.all (fun f=>(Y.ty f.2).isSome),Zhn Y fs p.1 with
    |true,some (off,size)=> ∃cs:List V,Zqg Y t off size (ev σ.env p.2).cells=some cs∧K (.val (.agg cs))
    |_,_=>False)
   |_=>qPd Y σ o K)
  |_,_=>qPd Y σ o K)
 | .convert _ _ x=>match ev σ.env x with
  | .i _ _=>qPd Y σ o K
  | .s _=>qPd Y σ o K
  |_=> ∃l,opQ Y σ o=some (.val (.s l))∧K (.val (.s l))
 |_=>qPd Y σ o K

def QP(Y:YP)(σ:St)(o:Oper)(K:Q->Prop):Prop:= ∃q,opQ Y σ o=some q∧K q

theorem Zb3{o:Oper}{K:Q->Prop}(h:qPd Y σ o K):QP Y σ o K:=by
 unfold qPd at h
 split at h
 ·rename_i q hq;exact⟨q,hq,h⟩
 ·exact h.elim

theorem Zig{ro:Bool}{o:Oper}{K:Q->Prop}(h:qP Y ro σ o K):QP Y σ o K:=by
 unfold qP at h
 split at h
 ·rename_i t a hop
  split at h
  ·exact Zb3 h
  ·rename_i ti id off h1 h2
   obtain⟨r,h3,h4⟩:=exL h
   split at h4
   ·rename_i v hv
    refine⟨_,?_,h4⟩
    have hc:Xg σ ti.size (.hp id off)=some r:=h3
    simp[opQ,hop,h1,h2,hc,hv]
   ·exact h4.elim
  ·rename_i ti cs h1 h2
   obtain⟨r,h3,h4⟩:=exL h
   split at h4
   ·rename_i v hv
    refine⟨_,?_,h4⟩
    simp[opQ,hop,h1,h2,h3,hv,Xg]
   ·exact h4.elim
  ·exact h.elim
 ·rename_i t x ix hop
  split at h
  ·rename_i et k i hk hi
   split at h
   ·rename_i te a len c k' hte hx
    split at h
    ·exact h.elim
    rename_i hs
    cases a with
    |none=>exact h.elim
    |some p=>
    obtain⟨id,off⟩:=p
    obtain⟨hb,rfl,hK⟩:=h
    refine⟨_,?_,hK⟩
    simp[opQ,hop,VO,hk,hi,hte,hx,hb,hs,Ad.q]
   ·rename_i te cs len c hte hx
    split at h
    ·exact h.elim
    rename_i hs
    obtain⟨hb,hK⟩:=h
    refine⟨_,?_,hK⟩
    simp[opQ,hop,VO,hk,hi,hte,hx,hb,hs,Ad.q]
   ·exact h.elim
  ·rename_i n et k i hk hi
   split at h
   ·rename_i te a hte ha
    split at h
    ·exact h.elim
    rename_i hs
    obtain⟨hb,hK⟩:=h
    refine⟨_,?_,hK⟩
    simp[opQ,hop,VO,hk,hi,hte,ha,hb,hs]
   ·exact h.elim
  ·exact h.elim
 ·rename_i c a b hop
  split at h
  ·rename_i x hx
   rw[Zqe]at h
   exact⟨_,by simp[opQ,hop,hx],h⟩
  ·exact h.elim
 ·rename_i t x lo hi mx hop
  split at h
  ·rename_i l hx
   split at h
   ·rename_i hk
    obtain⟨b,h1,h⟩:=JV h
    obtain⟨a,h2,h⟩:=JV h
    refine⟨_,?_,h⟩
    simp only[opQ,hop,hx,VN,hk,Option.map_none,Qz,h1,h2]
    rfl
   ·exact h.elim
  ·rename_i cs n c hx
   split at h
   ·rename_i e hk
    split at h
    ·rename_i te hte
     obtain⟨b,h1,h⟩:=JV h
     obtain⟨a,h2,h⟩:=JV h
     refine⟨_,?_,h⟩
     simp only[opQ,hop,hx,VN,hk,hte,Option.map_none,Qz,h1,h2]
     rfl
    ·exact h.elim
   ·rename_i e m0 hk
    split at h
    ·rename_i te hi0 hte
     obtain⟨m,h0,h⟩:=JV h
     obtain⟨b,h1,h⟩:=JV h
     obtain⟨a,h2,h⟩:=JV h
     refine⟨_,?_,h⟩
     simp only[Option.map_some]at h0 h1
     simp only[opQ,hop,hx,VN,hk,hte,Option.map_some,Qz,h0,h1,h2,Option.isNone_some,Bool.false_eq_true,if_false]
    ·exact h.elim
   ·exact h.elim
  ·rename_i a len c k hx
   cases a with
   |none=>
    obtain⟨_,_,_,_,h1,h2⟩:=h
    rw[<-hx]at h1
    exact⟨_,by simp[opQ,hop,h1],h2⟩
   |some p=>
   obtain⟨id,off⟩:=p
   simp only[SlO]at h
   split at h
   ·rename_i e hk
    split at h
    ·rename_i te hte
     obtain⟨rfl,h⟩:=h
     obtain⟨b,h1,h⟩:=JV h
     obtain⟨a,h2,h⟩:=JV h
     refine⟨_,?_,h⟩
     simp only[opQ,hop,hx,VN,hk,hte,Option.map_none,Qz,h1,h2,if_true]
     rfl
    ·exact h.elim
   ·exact h.elim
  ·exact h.elim
 ·rename_i t x ix hop
  split at h
  ·rename_i l k i h1 h2 h3
   obtain⟨c,⟨h4,h5⟩,h6⟩:=h
   exact⟨_,by simp[opQ,hop,h1,h2,h3,h4,h5],h6⟩
  ·exact Zb3 h
 ·rename_i op t x y z hop
  unfold binP at h
  split at h
  ·rename_i l m h1 h2
   refine⟨_,?_,h.2⟩
   have:=h.1
   simp[opQ,hop,binY,h1,h2,Zlt]
   omega
  ·rename_i k m k' n h1 h2
   split at h
   ·rename_i hk
    subst hk
    refine⟨_,?_,h.2⟩
    simp[opQ,hop,binY,h1,h2,Zhm,h.1]
   ·exact h.elim
  ·rename_i k m k' n h1 h2
   split at h
   ·rename_i hk
    subst hk
    refine⟨_,?_,h.2⟩
    simp[opQ,hop,binY,h1,h2,Zhm,h.1]
   ·exact h.elim
  ·rename_i k m k' n h1 h2
   have hn: ¬n<0:=by have:=h.1;omega
   exact⟨_,by simp[opQ,hop,binY,h1,h2,hn],h.2⟩
  ·rename_i k m k' n h1 h2
   have hn: ¬n<0:=by have:=h.1;omega
   exact⟨_,by simp[opQ,hop,binY,h1,h2,hn],h.2⟩
  ·exact Zb3 h
 ·rename_i t parts hop
  split at h
  ·rename_i p hb hp
   split at h
   ·rename_i fs hk
    split at h
    ·rename_i off size hfs hpl
     obtain⟨cs,h1,h2⟩:=h
     refine⟨_,?_,h2⟩
     unfold Zqg at h1
     have hk2:=hk
     unfold YP.kd at hk2
     cases hty:Y.ty t with
     |none=>rw[hty]at hk2;cases hk2
     |some ti=>
      rw[hty]at h1 hk2
      simp only[Option.map_some,Option.some.injEq]at hk2
      simp only[]at h1
      simp only[opQ,hop,hty,hk2,hfs,if_true,hp,Ju,hpl]
      split at h1
      ·rename_i hc
       rw[if_pos hc]
       cases h1;rfl
      ·cases h1
    ·exact h.elim
   ·exact Zb3 h
  ·exact Zb3 h
 ·split at h
  ·exact Zb3 h
  ·exact Zb3 h
  ·obtain⟨l,h1,h2⟩:=h
   exact⟨_,h1,h2⟩
 ·exact Zb3 h

def T(x:Bool)(p:Prop):Prop:=match x with|true=>p|false=>False
theorem Zab{x:Bool}{p:Prop} :T x p↔x=true∧p:=by cases x<;>simp[T]

def RCon(Y:YP)(f:FuncId)(args:List V)(h:Heap)(r:V):Prop:= ∃h1,(Con Y f args h fun v k=>v=r∧k=h1)∧(∀i,i<h.nx->h1.get i=h.get i)∧ ∀p,p∈h.tg->p∈h1.tg
def FCon(Y:YP)(f:FuncId)(args:List V)(h:Heap)(r:V):Prop:= ∃args',FrzL h args args'∧PCon Y f args' (· =r)

def impP(Y:YP)(ro draw:Bool)(σ:St)(g:FuncId)(args:List V)(ts:List TypeId)(K:Ef->Prop):Prop:=
 match draw with
 |true=>Zde Y ro ts fun v=> ∃h,(Con Y g args σ.h fun v' k=>v'=v∧k=h)∧K (.hp h v)
 |false=>Con Y g args σ.h fun v h=>Zde Y ro ts fun u=>v=u∧K (.hp h u)

def Zyh(Y:YP)(draw:Bool)(σ:St)(g:FuncId)(args:List V)(ts:List TypeId)(K:Ef->Prop):Prop:=
 match Y.mode g,Xc args with
 |1,true|2,true|3,true=>Zde Y true ts fun r=>PCon Y g args (· =r)∧K (.q (.val r))
 |2,false=>Zde Y true ts fun r=>FCon Y g args σ.h r∧T (Zgf r) (K (.q (.val r)))
 |3,false=>Zde Y true ts fun r=>RCon Y g args σ.h r∧T (Zgf r) (K (.q (.val r)))
 |4,_=>impP Y true draw σ g args ts K
 |7,_=>Zde Y true ts fun r=>FCon Y g args σ.h r∧T (Zgf r) (K (.q (.val r)))
 |5,true=>(match draw with
   |true=>Zde Y false ts fun v=> ∃x:YObj,(Con Y g args σ.h fun v' k=>v'=v∧k=σ.h.push x)∧K (.al σ.h.nx x v)
   |false=>impP Y false false σ g args ts K)∨Zde Y true ts fun r=>PCon Y g args (· =r)∧K (.q (.val r))
 |_,_=>impP Y false draw σ g args ts K

def cvP(Y:YP)(h:Heap)(t:TypeId)(a:Option (Nat×Nat)):Prop:=
 ∃(id:Nat) (cs:List V) (wr:Bool) (ti:TI),a=some (id,0)∧h.get id=some (.arr cs wr)∧h.tagOf id=some t∧Y.ty t=some ti∧ti.size≠0∧ti.size<=cs.length
def ZB8(h:Heap)(a b:Option (Nat×Nat)):Prop:= ∃p:Nat×Nat,a=some p∧b=some p∧(h.get p.1).isSome=true
def strH(Y:YP)(h:Heap)(pt:TypeId)(a:Option (Nat×Nat))(n:Int):Option (Heap×List UInt8):=
 if n=0 then some (h,[]) else
 match a with
 |some (id,0)=>match h.get id,h.tagOf id with
  |some (.arr cs _),some t=>match Y.kd t with
   |some (.int .u8)=>if Zcw Y pt t=true∧n=cs.length∧cs.length<=most then(Qi cs).map fun l=>(h.set id (some (.arr cs false)),l)else none
   |_=>none
  |_,_=>none
 |_=>none

def ptrP(Y:YP)(σ:St)(op:BinOp)(t:TypeId)(a b:Option (Nat×Nat))(K:Ef->Prop):Prop:=
 match Y.kd t with
 |some (.ptr e)=>(Y.ty e).isSome=true∧match op,b with
  | .eql,none=>K (.q (.val (.b a.isNone)))
  | .neq,none=>K (.q (.val (.b !a.isNone)))
  | .eql,b=>ZB8 σ.h a b∧K (.hp σ.h (.b true))
  | .neq,b=>ZB8 σ.h a b∧K (.hp σ.h (.b false))
  |_,_=>False
 |_=>False

/-! ### Maps; clear and copy -/
def Zgl(Y:YP)(h:Heap)(kt et:TypeId)(r:Option Nat)(k:V):Option (V×Bool):=
 match Y.kd kt,VS h r with
 |some kk,some es=>if Qm Y kt&&ZP kk k es&&(Y.ty et).isSome then
   match XF kk k es with
   |some v=>some (v,true)
   |none=>some (Zj2 Y et,false)
  else none
 |_,_=>none
def lenM(h:Heap)(r:Option Nat):Option Nat:=(VS h r).map List.length
def updM(Y:YP)(h:Heap)(kt:TypeId)(r:Option Nat)(k v:V):Option Heap:=
 match r with
 |none=>none
 |some r=>match Y.kd kt,h.get r with
  |some kk,some (.map es)=>if Qm Y kt&&ZP kk k es then some (h.set r (some (.map (Xh kk k v es))))else none
  |_,_=>none
def Zqh(Y:YP)(h:Heap)(e:TypeId)(x:V):Option Heap:=
 match x with
 | .sl none _ _ _=>some h
 | .sl (some (id,off)) len _ k=>match Y.ty e with
  |some te=>if len=0 then some h else
   if k=te.size then match h.get id with
   |some (.arr cs true)=>if off+len*te.size<=cs.length then some (h.set id (some (.arr (splice cs off (List.replicate len te.zero).flatten) true)))else none
   |_=>none
   else none
  |none=>none
 |_=>none
def Zyi(Y:YP)(h:Heap)(e:TypeId)(d x:V):Option (Heap×Nat):=
 match d with
 | .sl (some (id,off)) len _ k=>match Y.ty e with
  |some te=>match QL ⟨[],[],h⟩ te.size x with
   |some (n,cs)=>if k=te.size∧te.size≠0∧Zk cs=true then
     match h.get id with
     |some (.arr cs0 true)=>if off+(cs.take (min n len*te.size)).length<=cs0.length then
       some (h.set id (some (.arr (splice cs0 off (cs.take (min n len*te.size))) true)),min n len)else none
     |_=>none
    else none
   |none=>none
  |none=>none
 |_=>none

theorem Zua{o:Oper}{t kt et:TypeId}{m k:Operand}{ok:Bool}{r:Option Nat}{v:V}{b:Bool}(hop:o.op= .lookup t m k ok)(hk:Y.kd t=some (.map kt et))(hm:ev σ.env m= .mp r)(h:Zgl Y σ.h kt et r (ev σ.env k)=some (v,b)):
  mapH Y σ o=some (σ.h,if ok then .tup [v, .b b]else v):=by
 unfold Zgl at h
 split at h
 ·rename_i kk es hkk hes
  split at h
  ·rename_i hc
   simp only[mapH,hop,hk,hm,hkk,hes]
   rw[if_pos hc]
   split at h
   ·rename_i v' hv
    simp only[Option.some.injEq,Prod.mk.injEq]at h
    obtain⟨rfl,rfl⟩:=h
    simp only[hv]
   ·rename_i hv
    simp only[Option.some.injEq,Prod.mk.injEq]at h
    obtain⟨rfl,rfl⟩:=h
    simp only[hv]
  ·cases h
 ·cases h

theorem Zqi{o:Oper}{t kt et:TypeId}{m k x:Operand}{r:Option Nat}{h':Heap}(hop:o.op= .mapUpdate t m k x∨o.op= .insert t m k x)(hk:Y.kd t=some (.map kt et))(hm:ev σ.env m= .mp r)
  (h:updM Y σ.h kt r (ev σ.env k) (ev σ.env x)=some h'):mapH Y σ o=some (h', .undef):=by
 unfold updM at h
 split at h
 ·cases h
 ·split at h
  ·rename_i kk es hkk hg
   split at h
   ·rename_i hc
    simp only[Option.some.injEq]at h
    subst h
    rcases hop with hop|hop
    ·simp only[mapH,hop,hk,hm,hkk,hg];rw[if_pos hc]
    ·simp only[mapH,hop,hk,hm,hkk,hg];rw[if_pos hc]
   ·cases h
  ·cases h

theorem Zqj{o:Oper}{args:Array Operand}{ats:Array TypeId}{t e:TypeId}{x:Operand}{h':Heap}(hop:o.op= .call ⟨.builtin .clear,args,ats⟩)(h1:args.toList= [x])(h2:ats.toList= [t])(hk:Y.kd t=some (.slice e))
  (h:Zqh Y σ.h e (ev σ.env x)=some h'):mapH Y σ o=some (h', .tup []):=by
 unfold Zqh at h
 split at h
 ·rename_i hx
  simp only[Option.some.injEq]at h
  subst h
  simp only[mapH,hop,h1,h2,hk,hx]
 ·rename_i id off len q k hx
  split at h
  ·rename_i te hte
   simp only[mapH,hop,h1,h2,hk,hx,hte]
   split at h
   ·rename_i h0
    simp only[Option.some.injEq]at h
    subst h
    rw[if_pos h0]
   ·rename_i h0
    rw[if_neg h0]
    split at h
    ·rename_i hkk
     rw[if_pos hkk]
     split at h
     ·rename_i cs hg
      split at h
      ·rename_i hb
       simp only[Option.some.injEq]at h
       subst h
       simp only[hg]
       rw[if_pos hb]
      ·cases h
     ·cases h
    ·cases h
  ·cases h
 ·cases h

theorem Zub{o:Oper}{args:Array Operand}{ats:Array TypeId}{t e:TypeId}{rest:List TypeId}{d x:Operand}{h':Heap}{n:Nat}(hop:o.op= .call ⟨.builtin .copy,args,ats⟩)(h1:args.toList= [d,x])(h2:ats.toList=t::rest)(hk:Y.kd t=some (.slice e))
  (h:Zyi Y σ.h e (ev σ.env d) (ev σ.env x)=some (h',n)):mapH Y σ o=some (h', .i .i64 (n:Int)):=by
 have hel: ∀k v,QL σ k v=QL ⟨[],[],σ.h⟩ k v:=fun k v=>rfl
 unfold Zyi at h
 split at h
 ·rename_i id off len q k hd
  split at h
  ·rename_i te hte
   split at h
   ·rename_i m cs he
    simp only[mapH,hop,h1,h2,hk,hd,hte,hel,he]
    split at h
    ·rename_i hc
     rw[if_pos hc]
     split at h
     ·rename_i cs0 hg
      split at h
      ·rename_i hb
       simp only[Option.some.injEq,Prod.mk.injEq]at h
       obtain⟨rfl,rfl⟩:=h
       simp only[hg]
       rw[if_pos hb]
      ·cases h
     ·cases h
    ·cases h
   ·cases h
  ·cases h
 ·cases h

def locD(loc:Nat->Bool)(o:Oper):Bool:=match o.dst with|some d=>loc d|none=>false
def hrl(Y:YP)(loc:Nat->Bool)(o:Oper):Bool:=match o.op with| .load t _=>Y.hr t||locD loc o|_=>false

def efP(Y:YP)(loc:Nat->Bool)(draw:Bool)(σ:St)(o:Oper)(K:Ef->Prop):Prop:=
 match o.op with
 | .alloc t=>match Y.ty t,o.dst with
  |some ti,some d=>match loc d with
   |true=>K (.box ti.zero)
   |false=>K (.hp (σ.h.pushT (Y.tag t) (.arr ti.zero true)) (.p (some (σ.h.nx,0))))
  |_,_=>False
 | .box t x=>match Y.ty t,o.dst with
  |some ti,some d=>T (decide ((ev σ.env x).cells.length=ti.size)&&Zk (ev σ.env x).cells) (match loc d with
   |true=>K (.box (ev σ.env x).cells)
   |false=>K (.hp (σ.h.push (.arr (ev σ.env x).cells true)) (.p (some (σ.h.nx,0)))))
  |_,_=>False
 | .store t a x=>match Y.ty t,addr σ a with
  |some ti,some (.lb s off)=>match σ.env.getD s .undef with
   | .lb cs=>T (decide ((ev σ.env x).cells.length=ti.size)&&Zk (ev σ.env x).cells&&decide (off+(ev σ.env x).cells.length<=cs.length)) (K (.st s (splice cs off (ev σ.env x).cells)))
   |_=>False
  |some ti,some (.hp id off)=>T (decide ((ev σ.env x).cells.length=ti.size)&&Zk (ev σ.env x).cells) (∃h,Zj σ.h id off (ev σ.env x).cells=some h∧K (.hp h .undef))
  |_,_=>False
 | .buildSlice t n parts=>match Y.kd t with
  |some (.slice et)=>match Y.ty et with
   |some te=>T (!(decide (te.size=0)||decide (n*te.size>2 ^ 20))) (match Ju (ev σ.env) (fun j=>some (j*te.size,te.size)) parts.toList (List.replicate n te.zero).flatten with
    |some cs=>match !locD loc o&&Xc cs with
     |true=>K (.q (.val (.ts cs n (some n))))
     |false=>K (.hp (σ.h.push (.arr cs true)) (.sl (some (σ.h.nx,0)) n (some n) te.size))
    |none=>False)
   |none=>False
  |_=>False
 | .makeSlice t l c=>match Y.kd t,ev σ.env l,ev σ.env c with
  |some (.slice et), .i _ l, .i _ c=>match Y.ty et with
   |some te=>if te.size=0 then False else(0<=l∧l<=c∧c<=most∧c*te.bytes<=most)∧
     match draw with
     |true=>K (.nw σ.h.nx (.arr (List.replicate c.toNat te.zero).flatten true) (.sl (some (σ.h.nx,0)) l.toNat (some c.toNat) te.size))
     |false=>K (.hp (σ.h.push (.arr (List.replicate c.toNat te.zero).flatten true)) (.sl (some (σ.h.nx,0)) l.toNat (some c.toNat) te.size))
   |none=>False
  |_,_,_=>False
 | .convert s d x=>match Y.kd s,Y.kd d with
  |some .str,some (.slice et)=>match ev σ.env x,Y.kd et with
   | .s l,some (.int .u8)=>K (.hp (σ.h.push (.arr (l.map fun c=> .i .u8 c.toNat) true)) (.sl (some (σ.h.nx,0)) l.length none 1))
   |_,_=>False
  |some (.ptr t),_=>match isU Y d,ev σ.env x with
   |true, .p a=>cvP Y σ.h t a∧K (.hp σ.h (.p a))
   |_,_=>qP Y (hrl Y loc o) σ o fun q=>K (.q q)
  |_,some (.ptr t)=>match isU Y s,ev σ.env x with
   |true, .p a=>cvP Y σ.h t a∧K (.hp σ.h (.p a))
   |_,_=>qP Y (hrl Y loc o) σ o fun q=>K (.q q)
  |_,_=>qP Y (hrl Y loc o) σ o fun q=>K (.q q)
 | .call {callee:= .builtin .append,args,argTypes} =>
  match args.toList,argTypes.toList with
  | [s,x],[st,xt]=>match ev σ.env s with
   | .ts cs0 l0 c0=>(∃(a:Option (Nat×Nat)) (l:Nat) (c:Option Nat) (k:Nat) (h:Heap),Zf Y σ.h st xt (.ts cs0 l0 c0) (ev σ.env x)=some (.sl a l c k,h)∧K (.hp h (.sl a l c k)))∨
     (Zf Y σ.h st xt (.ts cs0 l0 c0) (ev σ.env x)=some (.ts cs0 l0 c0,σ.h)∧K (.hp σ.h (.ts cs0 l0 c0)))
   | .sl a0 l0 c0 k0=>match ZB7 (ev σ.env x) with
    |true=> ∃(id o l:Nat) (c:Option Nat) (k:Nat) (h:Heap),Zf Y σ.h st xt (.sl a0 l0 c0 k0) (ev σ.env x)=some (.sl (some (id,o)) l c k,h)∧K (.hp h (.sl (some (id,o)) l c k))
    |false=> ∃(a:Option (Nat×Nat)) (l:Nat) (c:Option Nat) (k:Nat) (h:Heap),Zf Y σ.h st xt (.sl a0 l0 c0 k0) (ev σ.env x)=some (.sl a l c k,h)∧K (.hp h (.sl a l c k))
   |_=>False
  |_,_=>False
 | .call {callee:= .value f,args, ..} =>
  match ev σ.env f with
  | .fn (.func g) a c=>match Y.extOf g with
   |some _=>match exoQ Y σ o with
    |some v=>K (.q (.val v))
    |none=>False
   |none=>match Y.P.funcs[g]? with
    |some fn=>Zyh Y draw σ g (a++args.toList.map (ev σ.env)++c) fn.resultTypes.toList K
    |none=>False
  | .yl id=>match draw with
   |true=> ∃(b:Bool) (h:Heap),(RdCon Y id (args.toList.map (ev σ.env)) σ.h fun v' k=>v'= .b b∧k=h)∧K (.hp h (.b b))
   |false=>RdCon Y id (args.toList.map (ev σ.env)) σ.h fun v h=> ∃b:Bool,v= .b b∧K (.hp h (.b b))
  |_=>False
 | .call {callee:= .builtin .unsafeSliceData,args, ..} =>match args.toList with
  | [x]=>match ev σ.env x with
   | .sl a l _ _=>(l=0->a=none)∧K (.q (.val (.p a)))
   |_=>False
  |_=>False
 | .binOp op t x y _=>match nilT Y σ o,draw with
  |some (n,neg),false=>(n=0->K (.q (.val (.b !neg))))∧K (.q (.val (.b neg)))
  |_,_=>match ev σ.env x,ev σ.env y with
   | .p a, .p b=>ptrP Y σ op t a b K
   |_,_=>qP Y (hrl Y loc o) σ o fun q=>K (.q q)
 | .call {callee:= .builtin .unsafeString,args,argTypes} =>match args.toList,argTypes.toList with
  | [x,n],[pt,_]=>match ev σ.env x,ev σ.env n with
   | .p a, .i .i64 n=> ∃(s:List UInt8) (h:Heap),strH Y σ.h pt a n=some (h,s)∧K (.hp h (.s s))
   |_,_=>False
  |_,_=>False
 | .makeMap _ none=>match draw with
  |true=>K (.nw σ.h.nx (.map []) (.mp (some σ.h.nx)))
  |false=>K (.hp (σ.h.push (.map [])) (.mp (some σ.h.nx)))
 | .lookup t m k ok=>match Y.kd t,ev σ.env m with
  |some (.map kt et), .mp r=>ExR Y false et fun v=> ∃b:Bool,Zgl Y σ.h kt et r (ev σ.env k)=some (v,b)∧K (.q (.val (match ok with|true=> .tup [v, .b b]|false=>v)))
  |_,_=>False
 | .mapUpdate t m k x=>match Y.kd t,ev σ.env m with
  |some (.map kt _), .mp r=> ∃h:Heap,updM Y σ.h kt r (ev σ.env k) (ev σ.env x)=some h∧K (.hp h .undef)
  |_,_=>False
 | .insert t m k x=>match Y.kd t,ev σ.env m with
  |some (.map kt _), .mp r=> ∃h:Heap,updM Y σ.h kt r (ev σ.env k) (ev σ.env x)=some h∧K (.hp h .undef)
  |_,_=>False
 | .call {callee:= .builtin .clear,args,argTypes} =>match args.toList,argTypes.toList with
  | [x],[t]=>match Y.kd t with
   |some (.slice e)=> ∃h:Heap,Zqh Y σ.h e (ev σ.env x)=some h∧K (.hp h (.tup []))
   |_=>False
  |_,_=>False
 | .call {callee:= .builtin .copy,args,argTypes} =>match args.toList,argTypes.toList with
  | [d,x],t::_=>match Y.kd t with
   |some (.slice e)=> ∃(h:Heap) (n:Nat),Zyi Y σ.h e (ev σ.env d) (ev σ.env x)=some (h,n)∧K (.hp h (.i .i64 (n:Int)))
   |_=>False
  |_,_=>False
 | .call {callee:= .builtin .len,args,argTypes} =>match args.toList,argTypes.toList with
  | [x],[t]=>match Y.kd t,ev σ.env x with
   |some (.map _ _), .mp r=> ∃n:Nat,lenM σ.h r=some n∧K (.q (.val (.i .i64 (n:Int))))
   |_,_=>qP Y (hrl Y loc o) σ o fun q=>K (.q q)
  |_,_=>qP Y (hrl Y loc o) σ o fun q=>K (.q q)
 | .slice t x none none none=>match Y.kd t with
  |some (.arr n e)=>match Y.ty e with
   |some te=>match ev σ.env x with
    | .tp cs=>K (.q (.val (.ts cs n (some n))))
    | .p (some (id,off))=>(te.size≠0∧ ∃cs wr,σ.h.get id=some (.arr cs wr)∧off+n*te.size<=cs.length)∧K (.hp σ.h (.sl (some (id,off)) n (some n) te.size))
    |_=>False
   |none=>False
  |_=>qP Y (hrl Y loc o) σ o fun q=>K (.q q)
 |_=>qP Y (hrl Y loc o) σ o fun q=>K (.q q)

def EP(Y:YP)(loc:Nat->Bool)(draw:Bool)(σ:St)(o:Oper)(K:Ef->Prop):Prop:=
 (∃e,StepE Y loc σ o e∧K e)∨(draw=false∧ ∃f args,XZ Y loc σ o=some (.call f args)∧Con Y f args σ.h fun v h=>K (.hp h v))∨
  (draw=false∧ ∃n neg,nilT Y σ o=some (n,neg)∧(n=0->K (.q (.val (.b !neg))))∧K (.q (.val (.b neg))))∨
  (draw=false∧ ∃id fo as ats,o.op= .call ⟨.value fo,as,ats⟩∧ev σ.env fo= .yl id∧RdCon Y id (as.toList.map (ev σ.env)) σ.h fun v h=>K (.hp h v))

theorem EP.of_QP{loc:Nat->Bool}{draw:Bool}{o:Oper}{K:Ef->Prop}(h:QP Y σ o fun q=>K (.q q)):EP Y loc draw σ o K:=by
 obtain⟨q,h1,h2⟩:=h
 exact .inl ⟨.q q, .quiet q h1,h2⟩

theorem Zuc{loc:Nat->Bool}{draw:Bool}{o:Oper}{g:FuncId}{args:List V}{ts:List TypeId}{K:Ef->Prop}(hs:XZ Y loc σ o=some (.call g args))(h:Zyh Y draw σ g args ts K):EP Y loc draw σ o K:=by
 have pure:Xc args=true->(Zde Y true ts fun r=>PCon Y g args (· =r)∧K (.q (.val r)))->EP Y loc draw σ o K:=fun hc hx=>by
  obtain⟨r,h1,h2⟩:=Zko hx
  exact .inl ⟨_, .pcall g args args r hs (Zbg _ hc) (.inl ⟨Wu hc,rfl⟩) h1,h2⟩
 have imp: ∀ro,impP Y ro draw σ g args ts K->EP Y loc draw σ o K:=fun ro hx=>by
  unfold impP at hx
  cases draw with
  |true=>
   obtain⟨v,h',h1,h2⟩:=Zko hx
   exact .inl ⟨_, .icall g args h' v hs h1,h2⟩
  |false=>
   refine .inr (.inl ⟨rfl,g,args,hs,Con.mono hx fun v h' hh=> ?_⟩)
   obtain⟨u,rfl,hk⟩:=Zko hh
   exact hk
 unfold Zyh at h
 split at h
 ·rename_i hc;exact pure hc h
 ·rename_i hc;exact pure hc h
 ·rename_i hc;exact pure hc h
 ·obtain⟨r,⟨args',h1,h2⟩,h3⟩:=Zko h
  rw[Zab]at h3
  exact .inl ⟨_, .pcall g args args' r hs h1 (.inr h3.1) h2,h3.2⟩
 ·rename_i hm hc
  obtain⟨r,⟨h1,h2,hsame,htg⟩,h3⟩:=Zko h
  rw[Zab]at h3
  exact .inl ⟨_, .icallR g args σ.h.lo h1 .empty r r hs hc h2 hsame htg (fun i o ho=>by simp[Jz]at ho) (Ztt h3.1 _),h3.2⟩
 ·exact imp _ h
 ·obtain⟨r,⟨args',h1,h2⟩,h3⟩:=Zko h
  rw[Zab]at h3
  exact .inl ⟨_, .pcall g args args' r hs h1 (.inr h3.1) h2,h3.2⟩
 ·rename_i hc
  rcases h with h|h
  ·cases draw with
   |true=>
    obtain⟨v,x,h1,h2⟩:=Zko h
    exact .inl ⟨_, .icallA g args x v hs h1,h2⟩
   |false=>exact imp _ h
  ·exact pure hc h
 ·exact imp _ h

theorem Zwk{loc:Nat->Bool}{draw:Bool}{o:Oper}{K:Ef->Prop}(h:efP Y loc draw σ o K):EP Y loc draw σ o K:=by
 unfold efP at h
 split at h
 ·rename_i t hop
  split at h
  ·rename_i ti d hti hd
   split at h
   ·rename_i hl;exact .inl ⟨_, .alloc t ti d hop hti hd hl,h⟩
   ·rename_i hl;exact .inl ⟨_, .heap _ _ (by simp[Wm,hop,hti,hd,hl]),h⟩
  ·exact h.elim
 ·rename_i t x hop
  split at h
  ·rename_i ti d hti hd
   rw[Zab]at h
   simp only[Bool.and_eq_true,decide_eq_true_eq]at h
   obtain⟨hc,h⟩:=h
   split at h
   ·rename_i hl;exact .inl ⟨_, .boxl t x ti d hop hti hd hl hc.1 hc.2,h⟩
   ·rename_i hl
    refine .inl ⟨_, .heap _ _ ?_,h⟩
    simp only[Wm,hop,hti,hd,hl]
    rw[if_pos hc]
    rfl
  ·exact h.elim
 ·rename_i t a x hop
  split at h
  ·rename_i ti s off hti ha
   split at h
   ·rename_i cs hcs
    rw[Zab]at h
    simp only[Bool.and_eq_true,decide_eq_true_eq]at h
    obtain⟨hc,h⟩:=h
    exact .inl ⟨_, .stl t a x ti s off cs hop hti ha hcs hc.1.1 hc.1.2 hc.2,h⟩
   ·exact h.elim
  ·rename_i ti id off hti ha
   rw[Zab]at h
   simp only[Bool.and_eq_true,decide_eq_true_eq]at h
   obtain⟨hc,h',h1,h2⟩:=h
   refine .inl ⟨_, .heap _ _ ?_,h2⟩
   unfold Zj at h1
   simp only[Wm,hop,hti,ha]
   rw[if_pos hc]
   split at h1
   ·rename_i cs hg
    split at h1
    ·rename_i hb
     simp only[Option.some.injEq]at h1
     subst h1
     simp only[hg]
     rw[if_pos hb]
    ·cases h1
   ·cases h1
  ·exact h.elim
 ·rename_i t n parts hop
  split at h
  ·rename_i et hk
   split at h
   ·rename_i te hte
    rw[Zab]at h
    obtain⟨hc,h⟩:=h
    have hsz: ¬(te.size=0∨n*te.size>2 ^ 20):=by simpa using hc
    split at h
    ·rename_i cs hf
     split at h
     ·rename_i hcold
      rw[Bool.and_eq_true]at hcold
      exact .inl ⟨_, .bs t n parts et te cs hop hk hte hsz hf (Wu hcold.2),h⟩
     ·refine .inl ⟨_, .heap _ _ ?_,h⟩
      simp only[Wm,hop,hk,hte,hf]
      rw[if_neg hsz]
    ·exact h.elim
   ·exact h.elim
  ·exact h.elim
 ·rename_i t xl xc hop
  split at h
  ·rename_i et k1 l k2 c hk hl hc
   split at h
   ·rename_i te hte
    split at h
    ·exact h.elim
    rename_i hs
    obtain⟨⟨b1,b2,b3,b4⟩,h⟩:=h
    cases draw with
    |true=>
     refine .inl ⟨_, .nw _ (fun i=> .sl (some (i,0)) l.toNat (some c.toNat) te.size) ?_,h⟩
     simp only[newO,hop,hk,hl,hc,hte]
     rw[if_pos ⟨hs,b1,b2,b3,b4⟩]
    |false=>
     refine .inl ⟨_, .heap _ _ ?_,h⟩
     simp only[Wm,hop,hk,hl,hc,hte]
     rw[if_pos ⟨hs,b1,b2,b3,b4⟩]
   ·exact h.elim
  ·exact h.elim
 ·rename_i sr ds x hop
  split at h
  ·rename_i et hks hkd
   split at h
   ·rename_i l hx hke
    refine .inl ⟨_, .heap _ _ ?_,h⟩
    obtain⟨te,hte,hke'⟩:=Xx hke
    simp only[Wm,hop,hks,hkd,hx,hte,hke']
   ·exact h.elim
  ·rename_i t hks
   split at h
   ·rename_i a hu hx
    obtain⟨⟨id,cs,wr,ti,rfl,h1,h2,h3,h4,h5⟩,h⟩:=h
    refine .inl ⟨_, .exh _ _ ?_,h⟩
    simp only[exoH,hop,hx,h1,h2,h3]
    rw[if_pos ⟨h4,h5,by simp[Zcw,hks,hu]⟩]
   ·exact .of_QP (Zig h)
  ·rename_i t hkd _
   split at h
   ·rename_i a hu hx
    obtain⟨⟨id,cs,wr,ti,rfl,h1,h2,h3,h4,h5⟩,h⟩:=h
    refine .inl ⟨_, .exh _ _ ?_,h⟩
    simp only[exoH,hop,hx,h1,h2,h3]
    rw[if_pos ⟨h4,h5,by simp[Zcw,hkd,hu]⟩]
   ·exact .of_QP (Zig h)
  ·exact .of_QP (Zig h)
 ·rename_i args ats hop
  split at h
  ·rename_i s x st xt h1 h2
   split at h
   ·rename_i hsv
    rcases h with ⟨_,_,_,_,h',h3,h4⟩|⟨h3,h4⟩
    ·refine .inl ⟨_, .heap _ _ ?_,h4⟩
     simp only[Wm,hop,h1,h2,WT,hsv,h3]
    ·refine .inl ⟨_, .heap _ _ ?_,h4⟩
     simp only[Wm,hop,h1,h2,WT,hsv,h3]
   ·rename_i hsv
    split at h
    ·obtain⟨_,_,_,_,_,h',h3,h4⟩:=h
     refine .inl ⟨_, .heap _ _ ?_,h4⟩
     simp only[Wm,hop,h1,h2,WT,hsv,h3]
    ·obtain⟨_,_,_,_,h',h3,h4⟩:=h
     refine .inl ⟨_, .heap _ _ ?_,h4⟩
     simp only[Wm,hop,h1,h2,WT,hsv,h3]
   ·exact h.elim
  ·exact h.elim
 ·rename_i f args ats hop
  split at h
  ·rename_i g a c hf
   split at h
   ·split at h
    ·rename_i v hv;exact .inl ⟨_, .exq v hv,h⟩
    ·exact h.elim
   ·split at h
    ·exact Zuc (Zc7 hop hf) h
    ·exact h.elim
  ·rename_i id hf
   cases draw with
   |true=>
    obtain⟨b,h',h1,h2⟩:=h
    exact .inl ⟨_, .round id h' (.b b) f args ats hop hf h1,h2⟩
   |false=>exact .inr (.inr (.inr ⟨rfl,id,f,args,ats,hop,hf,h.mono fun v k ⟨b,hv,hk⟩=>by subst hv;exact hk⟩))
  ·exact h.elim
 ·rename_i args ats hop
  split at h
  ·rename_i x har
   split at h
   ·rename_i a l q1 q2 hx
    obtain⟨h0,h⟩:=h
    refine .inl ⟨_, .exq _ ?_,h⟩
    simp only[exoQ,hop,har,hx]
    cases a with
    |none=>rfl
    |some p=>
     have: ¬l=0:=fun e=>by have:=h0 e;cases this
     simp[this]
   ·exact h.elim
  ·exact h.elim
 ·rename_i op t x y z hop
  split at h
  ·rename_i n neg hn
   exact .inr (.inr (.inl ⟨rfl,n,neg,hn,h⟩))
  ·split at h
   ·rename_i a b hx hy
    unfold ptrP at h
    split at h
    ·rename_i e hk
     obtain⟨hte,h⟩:=h
     split at h
     ·refine .inl ⟨_, .quiet (.val (.b a.isNone)) ?_,h⟩
      cases a<;>simp[opQ,hop,hx,hy,binY,hk,eqV]
     ·refine .inl ⟨_, .quiet (.val (.b !a.isNone)) ?_,h⟩
      cases a<;>simp[opQ,hop,hx,hy,binY,hk,eqV]
     ·obtain⟨⟨p,rfl,rfl,hl⟩,h⟩:=h
      refine .inl ⟨_, .exh _ _ ?_,h⟩
      simp only[exoH,hop,hx,hy,hk]
      rw[if_pos ⟨trivial,hl,hte⟩]
     ·obtain⟨⟨p,rfl,rfl,hl⟩,h⟩:=h
      refine .inl ⟨_, .exh _ _ ?_,h⟩
      simp only[exoH,hop,hx,hy,hk]
      rw[if_pos ⟨trivial,hl,hte⟩]
     ·exact h.elim
    ·exact h.elim
   ·exact .of_QP (Zig h)
 ·rename_i args ats hop
  split at h
  ·rename_i x n pt it har hat
   split at h
   ·rename_i a m hx hn
    obtain⟨s,h',h1,h2⟩:=h
    refine .inl ⟨_, .exh _ _ ?_,h2⟩
    simp only[exoH,hop,har,hat,hx,hn]
    unfold strH at h1
    split at h1
    ·rename_i h0
     simp only[Option.some.injEq,Prod.mk.injEq]at h1
     obtain⟨rfl,rfl⟩:=h1
     rw[if_pos h0]
    ·rename_i h0
     rw[if_neg h0]
     split at h1
     ·rename_i id
      split at h1
      ·rename_i cs wr t hg ht
       split at h1
       ·rename_i hk
        split at h1
        ·rename_i hc
         simp only[Option.map_eq_some_iff,Prod.mk.injEq]at h1
         obtain⟨l,hl,rfl,rfl⟩:=h1
         simp only[hg,ht,hk]
         rw[if_pos hc,hl]
         rfl
        ·cases h1
       ·cases h1
      ·cases h1
     ·cases h1
   ·exact h.elim
  ·exact h.elim
 ·rename_i t hop
  cases draw with
  |true=>exact .inl ⟨_, .nw (.map []) (fun i=> .mp (some i)) (by simp only[newO,hop]),h⟩
  |false=>exact .inl ⟨_, .nwp (.map []) (fun i=> .mp (some i)) (by simp only[newO,hop]),h⟩
 ·rename_i t m k ok hop
  split at h
  ·rename_i kt et r hk hm
   obtain⟨v,b,h1,h2⟩:=exR h
   refine .inl ⟨_, .lkq _ (by simp only[Zel,hop];rw[Zua hop hk hm h1];rfl),?_⟩
   cases ok<;>exact h2
  ·exact h.elim
 ·rename_i t m k x hop
  split at h
  ·rename_i kt et r hk hm
   obtain⟨h',h1,h2⟩:=h
   exact .inl ⟨_, .mph _ _ (Zqi (.inl hop) hk hm h1),h2⟩
  ·exact h.elim
 ·rename_i t m k x hop
  split at h
  ·rename_i kt et r hk hm
   obtain⟨h',h1,h2⟩:=h
   exact .inl ⟨_, .mph _ _ (Zqi (.inr hop) hk hm h1),h2⟩
  ·exact h.elim
 ·rename_i args ats hop
  split at h
  ·rename_i x t h1 h2
   split at h
   ·rename_i e hk
    obtain⟨h',h3,h4⟩:=h
    exact .inl ⟨_, .mph _ _ (Zqj hop h1 h2 hk h3),h4⟩
   ·exact h.elim
  ·exact h.elim
 ·rename_i args ats hop
  split at h
  ·rename_i d x t rest h1 h2
   split at h
   ·rename_i e hk
    obtain⟨h',n,h3,h4⟩:=h
    exact .inl ⟨_, .mph _ _ (Zub hop h1 h2 hk h3),h4⟩
   ·exact h.elim
  ·exact h.elim
 ·rename_i args ats hop
  split at h
  ·rename_i x t h1 h2
   split at h
   ·rename_i kt et r hk hx
    obtain⟨n,h3,h4⟩:=h
    refine .inl ⟨_, .quiet (.val (.i .i64 (n:Int))) ?_,h4⟩
    unfold lenM VS at h3
    simp only[opQ,hop,h1,h2,hk,hx]
    cases r with
    |none=>simp at h3;subst h3;rfl
    |some r=>
     simp only at h3 ⊢
     split at h3
     ·rename_i es hg;simp at h3;subst h3;simp[hg]
     ·simp at h3
   ·exact .of_QP (Zig h)
  ·exact .of_QP (Zig h)
 ·rename_i t x hop
  split at h
  ·rename_i n e hk
   split at h
   ·rename_i te hte
    split at h
    ·rename_i cs hx
     exact .inl ⟨_, .exq _ (by simp only[exoQ,hop,hk,hx,hte]),h⟩
    ·rename_i id off hx
     obtain⟨⟨h1,cs,wr,h2,h3⟩,h4⟩:=h
     refine .inl ⟨_, .exh _ _ ?_,h4⟩
     simp only[exoH,hop,hk,hx,hte,h2]
     rw[if_pos ⟨h1,h3⟩]
    ·exact h.elim
   ·exact h.elim
  ·exact .of_QP (Zig h)
 ·exact .of_QP (Zig h)

def guP(ops:Array Oper)(σ:St)(o:Oper)(k:St->Bool->Prop):Prop:=
 match o.guard with
 |none=>k σ true
 |some (j,want)=>match (ops[j]?).bind (·.dst) with
  |some d=>match σ.env.getD d .undef with
   | .b x=>Br x fun x=>k {σ with env:=σ.env.set d (.b x)} (x==want)
   | .tup []=>k σ false
   |_=>False
  |none=>False

theorem Zmc{env:List V}{d:Nat}{v:V}(h:env.getD d .undef=v)(hv:v≠ .undef):env.set d v=env:=by
 apply List.ext_getElem?
 intro i
 rw[XN]
 split
 ·rename_i he;subst he
  simp only[List.getD]at h
  cases hg:env[d]? with
  |none=>rw[hg]at h;simp at h;exact absurd h.symm hv
  |some x=>
   rw[hg]at h;simp at h;subst h
   have:=(List.getElem?_eq_some_iff.1 hg).1
   simp[this]
 ·rfl

theorem Zwl{ops:Array Oper}{o:Oper}{k:St->Bool->Prop}(h:guP ops σ o k): ∃b,Jf ops σ.env o=some b∧k σ b:=by
 unfold guP at h
 unfold Jf
 split at h
 ·rename_i hg;exact⟨true,by simp[hg],h⟩
 ·rename_i j want hg
  split at h
  ·rename_i d hd
   split at h
   ·rename_i x hx
    rw[Zqe,Zmc hx (fun e=>nomatch e)]at h
    exact⟨_,by simp only[hg,hd,hx],h⟩
   ·rename_i hx;exact⟨false,by simp only[hg,hd,hx],h⟩
   ·exact h.elim
  ·exact h.elim

def opsP(Y:YP)(loc:Nat->Bool)(draw:Bool)(ops:Array Oper):List Oper->St->List Foot->(St->List Foot->Prop)->Prop
 | [],σ,fs,K=>K σ fs
 |o::r,σ,fs,K=>guP ops σ o fun σ b=>match b with
  |true=>efP Y loc draw σ o fun e=>T (Zda σ o e) (opsP Y loc draw ops r (e.appL o.dst σ) (match draw with|true=>Vk σ o e::fs|false=>fs) K)
  |false=>opsP Y loc draw ops r (Ef.skip.app o.dst σ) (match draw with|true=>Vk σ o .skip::fs|false=>fs) K

theorem Zdf{loc:Nat->Bool}{ops:Array Oper} : ∀(l:List Oper) (σ:St) (fs:List Foot) (K:St->List Foot->Prop),opsP Y loc true ops l σ fs K-> ∃(x:List (Ef×Foot)) (τ:St),Lex Y loc ops l σ x τ∧K τ ((x.map (·.2)).reverse++fs)
 | [],σ,fs,K,h=>⟨[],σ, .nil _,h⟩
 |o::r,σ,fs,K,h=>by
  simp only[opsP]at h
  obtain⟨b,hg,h⟩:=Zwl h
  cases b with
  |false=>
   obtain⟨x,τ,h1,h2⟩:=Zdf r _ _ _ h
   exact⟨(.skip,Vk σ o .skip)::x,τ, .cons _ _ _ _ _ _ (.inl ⟨hg,rfl⟩) rfl h1,by simpa using h2⟩
  |true=>
   rcases Zwk h with ⟨e,hs,hk⟩|⟨hd,_⟩|⟨hd,_⟩|⟨hd,_⟩
   ·rw[Zab,hs.appL]at hk
    obtain⟨x,τ,h1,h2⟩:=Zdf r _ _ _ hk.2
    exact⟨(e,Vk σ o e)::x,τ, .cons _ _ _ _ _ _ (.inr ⟨hg,hs⟩) hk.1 h1,by simpa using h2⟩
   ·cases hd
   ·cases hd
   ·cases hd

theorem QX{ro:Option Nat}(hY:YOK Y){loc:Nat->Bool}{ops:Array Oper}{K:St->List Foot->Prop}{Q:Exit->Act->World->Prop}{W0:Vw}{own0:Nat->Prop}{w0:World}
  (hQ: ∀σ fs W a w,K σ fs->Rel W σ a w->Stp W0 own0 w0 W (mine W σ a) w->Q .normal a w):
  ∀(l:List Oper) (k:Nat) (σ:St) (fs:List Foot) (W:Vw) (a:Act) (w:World),(∀j,l[j]? =ops[k+j]?)->opsP Y loc false ops l σ fs K->Rel W σ a w->Stp W0 own0 w0 W (mine W σ a) w->
   wpOpsIn (FrR ro) 0 Y.P ops Q (List.range' k l.length) a w
 | [],k,σ,fs,W,a,w,_,h,hr,hs=>hQ σ fs W a w h hr hs
 |o::r,k,σ,fs,W,a,w,hl,h,hr,hs=>by
  have h0:ops[k]? =some o:=by simpa using (hl 0).symm
  have hl': ∀j,r[j]? =ops[k+1+j]? :=fun j=>by have:=hl (j+1);simpa[Nat.add_assoc,Nat.add_comm 1 j]using this
  simp only[List.length_cons,List.range'_succ,wpOpsIn,h0]
  simp only[opsP]at h
  obtain⟨b,hg,h⟩:=Zwl h
  cases b with
  |false=>
   rw[if_neg (by rw[VU hr hg];simp)]
   have htup:VR W (.tup []) Go.undef:= .tup [] [] .nil
   refine⟨fun _ _=>trivial,?_⟩
   exact QX hY hQ r (k+1) _ fs W _ w hl' h (hr.putV htup o.dst) (hs.weaken fun b hb=>Xd htup o.dst hb)
  |true=>
   rw[if_pos (VU hr hg)]
   rcases Zwk h with ⟨e,hst,hk⟩|⟨_,f,args,hst,hc⟩|⟨_,n,neg,hn,hk1,hk2⟩|⟨_,id,fo,as,ats,hop,hf,hc⟩
   ·rw[Zab,hst.appL]at hk
    refine Zl5 hY hr hst ?_ ?_ fun W' a' w' hr' hs'=>QX hY hQ r (k+1) _ fs W' a' w' hl' hk.2 hr' (hs.trans hs')
    ·intro s f he y hy hd
     have hkk:=hk.1
     simp only[Zda,he,hd]at hkk
     have:=List.all_eq_true.1 hkk y hy
     simp at this
    ·intro cs he y hy hd
     have hkk:=hk.1
     simp only[Zda,he,hd]at hkk
     have:=List.all_eq_true.1 hkk y hy
     simp at this
   ·obtain⟨us,hv,hrun⟩:=QG hr hst
    refine WP (fun c hd=>by simp[XZ,opQ,hd]at hst) ?_
    unfold Oper.wp
    rw[hrun,XW hY hc.body]
    simp only[Oper.upon]
    refine(hc.tr W w us hr.heap hv).mono ?_
    rintro e w' ⟨v,h',W',u,hk,rfl,hh,hvu,hstp⟩
    rw[Zab]at hk
    have h1:=hr.call hstp hh
    exact QX hY hQ r (k+1) _ fs W' _ w' hl' hk.2 (h1.putV hvu o.dst) (hs.trans ((hstp.frame hr).weaken fun b hb=>Xd hvu o.dst hb))
   ·refine WP (fun c hd=>by simp[nilT,hd]at hn) ?_
    rcases Zx7 hY hr hn with hst|⟨h0,hst⟩
    ·rw[Zab]at hk2
     exact Xy hst fun W' a' w' hr' hs'=>QX hY hQ r (k+1) _ fs W' a' w' hl' hk2.2 hr' (hs.trans hs')
    ·have hk1:=Zab.1 (hk1 h0)
     exact Xy hst fun W' a' w' hr' hs'=>QX hY hQ r (k+1) _ fs W' a' w' hl' hk1.2 hr' (hs.trans hs')
   ·refine Zl4 hr hop hf hc fun v h' W' u w' hk hh hvu hstp=> ?_
    have hk:=Zab.1 hk
    have h1:=hr.call hstp hh
    exact QX hY hQ r (k+1) _ fs W' _ w' hl' hk.2 (h1.putV hvu o.dst) (hs.trans ((hstp.frame hr).weaken fun b hb=>Xd hvu o.dst hb))

theorem Zkp{ro:Option Nat}(hY:YOK Y){loc:Nat->Bool}{id:Nat}{ops:Array Oper}{Q:Out->St->Prop}{K:St->List Foot->Prop}(h:opsP Y loc false ops ops.toList {σ with refs:= []} [] K)(hK: ∀σ' fs,K σ' fs->Q .normal {σ' with refs:= []}):
  TriG ro Y (.region id ops false) σ Q:=by
 intro W a w W0 own0 w0 hr hs
 refine wpIn_region ?_
 have:=QX (ro:=ro) (ops:=ops) (loc:=loc) hY (Q:=Zx4 Q W0 own0 w0) (W0:=W0) (own0:=own0) (w0:=w0) (K:=K) (fun σ' fs W' a' w' hk h1 h2=>⟨.normal,_,W',trivial,hK σ' fs hk,h1.noRefs,h2⟩) ops.toList 0 _ [] W a w (by simp) h hr.noRefs hs
 rw[List.range_eq_range']
 simpa using this

theorem Zqk{ro:Option Nat}(hY:YOK Y){loc:Nat->Bool}{id:Nat}{ops:Array Oper}{Q:Out->St->Prop}{K:St->Prop}(h:opsP Y loc true ops ops.toList {σ with refs:= []} [] fun σ' fs=>T (chk ops fs.reverse) (K σ'))(hK: ∀σ',K σ'->Q .normal {σ' with refs:= []}):
  TriG ro Y (.region id ops true) σ Q:=by
 obtain⟨x,τ,h1,h2⟩:=Zdf _ _ _ _ h
 rw[Zab]at h2
 exact Zt9 hY h1 (by simpa using h2.1) (hK _ h2.2)

def fixB(σ:St)(x:Operand)(b:Bool):St:=match x with
 | .tmp t=> {σ with env:=σ.env.set t (.b b)}
 |_=>σ

theorem Zql{x:Operand}{b:Bool}(h:ev σ.env x= .b b):fixB σ x b=σ:=by
 unfold fixB
 split
 ·rename_i t
  have:σ.env.getD t .undef= .b b:=by
   simp only[ev,V.plain]at h
   split at h
   ·cases h
   ·cases h
   ·exact h
  rw[Zmc this (fun e=>nomatch e)]
 ·rfl

def TriLG(ro:Option Nat)(Y:YP):List Code->St->(Out->St->Prop)->Prop
 | [],σ,Q=>Q .normal σ
 |c::r,σ,Q=>TriG ro Y c σ fun o σ'=>match o with
  | .normal=>TriLG ro Y r σ' Q
  | .exit i=>Q (.exit i) σ'
  | .ret=>Q .ret σ'
abbrev TriL(Y:YP)(l:List Code)(σ:St)(Q:Out->St->Prop):Prop:=TriLG none Y l σ Q

theorem TriLG.mono{ro:Option Nat} : ∀ {l:List Code} {σ:St} {Q Q':Out->St->Prop},TriLG ro Y l σ Q->(∀o σ',Q o σ'->Q' o σ')->TriLG ro Y l σ Q'
 | [],_,_,_,h,hq=>hq _ _ h
 |c::r,σ,Q,Q',h,hq=>TriG.mono h fun o σ' ho=>by
  cases o with
  |normal=>exact TriLG.mono (l:=r) ho hq
  |exit i=>exact hq _ _ ho
  |ret=>exact hq _ _ ho
theorem TriL.mono{l:List Code}{σ:St}{Q Q':Out->St->Prop}(h:TriL Y l σ Q)(hq: ∀o σ',Q o σ'->Q' o σ'):TriL Y l σ Q':=TriLG.mono h hq

structure Rest(Y:YP)(l:List Code)(σ:St)(K:Out->St->Prop):Prop where
 tri: ∀ro,TriLG ro Y l σ K

def Zc(Y:YP)(loc:Nat->Bool):Nat->List Code->St->(Out->St->Prop)->Prop
 |0,l,σ,K=>Rest Y l σ K
 |_+1,[],σ,K=>K .normal σ
 |n+1,c::r,σ,K=>
  match c with
  | .skip=>Zc Y loc n r σ K
  | .label _=>Zc Y loc n r σ K
  | .exit id=>K (.exit id) σ
  | .ret=>K .ret σ
  | .region _ ops false=>opsP Y loc false ops ops.toList {σ with refs:= []} [] fun σ' _=>Zc Y loc n r {σ' with refs:= []} K
  | .region _ ops true=>opsP Y loc true ops ops.toList {σ with refs:= []} [] fun σ' fs=>T (chk ops fs.reverse) (Zc Y loc n r {σ' with refs:= []} K)
  | .seq a b=>Zc Y loc n (a::b::r) σ K
  | .cond x a b=>match ev σ.env x with
   | .b t=>Br t fun t=>Zc Y loc n ((match t with|true=>a|false=>b)::r) (fixB σ x t) K
   |_=>False
  | .block id (.loop a)=>Rest Y (.block id (.loop a)::r) σ K
  | .block id a=>Zc Y loc n [a] σ fun o σ'=>match o with
   | .normal=>Zc Y loc n r σ' K
   | .exit j=>if j=id then Zc Y loc n r σ' K else K (.exit j) σ'
   | .ret=>K .ret σ'
  | .scope a=>Zc Y loc n (a::r) σ K
  |c=>Rest Y (c::r) σ K

theorem Xq{ro:Option Nat}{c:Code}{r:List Code}{K:Out->St->Prop} (h:TriG ro Y c σ fun o σ'=>match o with
  | .normal=>TriLG ro Y r σ' K
  | .exit i=>K (.exit i) σ'
  | .ret=>K .ret σ'):TriLG ro Y (c::r) σ K:=h

theorem QH{ro:Option Nat}{id:Nat}{c:Code}{r:List Code}{K:Out->St->Prop} (h:TriG ro Y c σ fun o σ'=>match o with
  | .normal=>TriLG ro Y r σ' K
  | .exit j=>if j=id then TriLG ro Y r σ' K else K (.exit j) σ'
  | .ret=>K .ret σ'):TriLG ro Y (.block id c::r) σ K:=by
 refine Xq (Zpv (h.mono ?_))
 intro o σ' ho
 cases o with
 |normal=>exact ho
 |ret=>exact ho
 |exit j=>
  simp only[Zkc]
  simp only at ho
  by_cases hj:j=id
  ·rw[if_pos hj]at ho ⊢;exact ho
  ·rw[if_neg hj]at ho ⊢;exact ho

theorem Zih{ro:Option Nat}(hY:YOK Y){loc:Nat->Bool} : ∀(n:Nat) (l:List Code) (σ:St) (K:Out->St->Prop),Zc Y loc n l σ K->TriLG ro Y l σ K
 |0,_,_,_,h=>h.tri ro
 |n+1,[],σ,K,h=>h
 |n+1,c::r,σ,K,h=>by
  have ih:=Zih (ro:=ro) hY (loc:=loc) n
  unfold Zc at h
  split at h
  ·exact Xq (Ztr (ih _ _ _ h))
  ·exact Xq (Zpt (ih _ _ _ h))
  ·exact Xq (Zts h)
  ·exact Xq (Zx5 h)
  ·exact Xq (Zkp hY h fun σ' fs h=>ih _ _ _ h)
  ·exact Xq (Zqk hY h fun σ' h=>ih _ _ _ h)
  ·refine Xq (Zpu ?_)
   have h1:=ih _ _ _ h
   refine TriG.mono h1 ?_
   intro o σ' ho
   cases o with
   |normal=>exact ho
   |exit i=>exact ho
   |ret=>exact ho
  ·split at h
   ·rename_i t ht
    rw[Zqe,Zql ht]at h
    refine Xq (Zgc ht ?_)
    cases t<;>exact ih _ _ _ h
   ·exact h.elim
  ·exact h.tri ro
  ·rename_i id a _
   refine QH ?_
   have h1:=ih _ _ _ h
   refine TriG.mono h1 ?_
   intro o σ' ho
   cases o with
   |normal=>exact ih _ _ _ ho
   |ret=>exact ho
   |exit j=>
    simp only at ho ⊢
    by_cases hj:j=id
    ·rw[if_pos hj]at ho ⊢;exact ih _ _ _ ho
    ·rw[if_neg hj]at ho ⊢;exact ho
  ·exact Xq (Zhw (ih _ _ _ h))
  ·exact h.tri ro
theorem Zac(hY:YOK Y){loc:Nat->Bool}(n:Nat)(l:List Code)(σ:St)(K:Out->St->Prop)(h:Zc Y loc n l σ K):TriL Y l σ K:=Zih hY n l σ K h
end
end Go.Y
