/- A part of the proof. -/
import Derived.Test.YteennilbmmlikaaGreatDoorYEff
namespace Go.Y
set_option maxRecDepth 1000000
set_option maxHeartbeats 0
structure Foot where
 t:List Nat
 r:List Nat
 w:List Nat
 hr:Bool
 hw:Bool
 ro:List Nat
 al:Option Nat
 nw:Option Nat
 deriving Inhabited

def Ef.isHp:Ef->Bool| .hp _ _=>true| .al _ _ _=>true|_=>false
def Ef.alI:Ef->Option Nat| .al i _ _=>some i|_=>none
def Ef.nwI:Ef->Option Nat| .nw i _ _=>some i|_=>none
def Ef.stS:Ef->List Nat| .st s _=> [s]|_=> []
def Ef.refS:Ef->List Nat| .q (.ref s _)=> [s]|_=> []

def Vk(σ:St)(o:Oper)(e:Ef):Foot:=
 {t:=(Zh9 o).filterMap (Zyc σ)++e.refS,r:=boxR σ o++e.stS,w:=e.stS,hr:=Zp6 σ o||e.isHp,hw:=e.isHp,ro:=objR σ o,al:=e.alI,nw:=e.nwI}

def hit(d:Option Tmp)(l:List Nat):Bool:=match d with|some d=>l.contains d|none=>false
def Zt1(l m:List Nat):Bool:=l.any fun x=>m.contains x

def Zkk(fi fj:Foot):Bool:=fi.hw&&match fi.al with
 |some i=>fj.ro.contains i
 |none=> !fj.ro.isEmpty
def news(fi fj:Foot):Bool:=match fi.nw with
 |some i=>fj.hr||fj.ro.contains i
 |none=>false
def XU(ops:Array Oper)(oi oj:Oper)(fi fj:Foot):Bool:=
 !oi.apart ops oj||hit oi.dst (fj.t++fj.r)||hit oj.dst (fi.t++fi.r)||Zt1 fi.w fj.r||Zt1 fj.w fi.r||(fi.hw&&fj.hr)||(fj.hw&&fi.hr)||(Zkk fi fj||Zkk fj fi||news fi fj||news fj fi)

def Ze4(masks:List Nat)(o:Oper):Nat:=
 o.after.toList.foldl (fun m e=>if Region.binds .any e then m|||(1<<<e.on)|||masks.getD e.on 0 else m) 0

def Jn:List Nat->List Oper->List Nat
 |ms,[]=>ms
 |ms,o::r=>Jn (ms++ [Ze4 ms o]) r

def chk1(ops:Array Oper)(oj:Oper)(fj:Foot)(m:Nat):Nat->List Oper->List Foot->Bool
 |i,o::r,f::l=>(!XU ops o oj f fj||m.testBit i)&&chk1 ops oj fj m (i+1) r l
 |_,_,_=>true

def Zc9(ops:Array Oper)(all:List Oper)(fs:List Foot)(ms:List Nat):Nat->List Oper->List Foot->Bool
 |j,o::r,f::l=>chk1 ops o f (ms.getD j 0) 0 (all.take j) (fs.take j)&&(o.after.toList.all fun e=> !Region.binds .any e||decide (e.on<j))&&Zc9 ops all fs ms (j+1) r l
 |_,_,_=>true

def chk(ops:Array Oper)(fs:List Foot):Bool:=Zc9 ops ops.toList fs (Jn [] ops.toList) 0 ops.toList fs

section
variable {Y:YP} {loc:Nat->Bool} {ops:Array Oper}

def Zt2(Y:YP)(loc:Nat->Bool)(ops:Array Oper)(σ:St)(o:Oper)(e:Ef):Prop:=
 (Jf ops σ.env o=some false∧e= .skip)∨(Jf ops σ.env o=some true∧StepE Y loc σ o e)

def Zda(σ:St)(o:Oper)(e:Ef):Bool:=match e,o.dst with
 | .q (.ref _ _),some d=>σ.refs.all fun x=>x.1 !=d
 | .box _,some d=>σ.refs.all fun x=>x.2.1 !=d
 |_,_=>true

inductive Lex (Y:YP) (loc:Nat->Bool) (ops:Array Oper):List Oper->St->List (Ef×Foot)->St->Prop
 |nil (σ:St):Lex Y loc ops [] σ [] σ
 |cons (o:Oper) (r:List Oper) (σ:St) (e:Ef) (l:List (Ef×Foot)) (τ:St) (h:Zt2 Y loc ops σ o e) (hk:Zda σ o e=true) (hl:Lex Y loc ops r (e.app o.dst σ) l τ):
   Lex Y loc ops (o::r) σ ((e,Vk σ o e)::l) τ

def sst(S:Nat->Bool):Nat->List Oper->List (Ef×Foot)->St->St
 |k,o::r,x::l,σ=>sst S (k+1) r l (if S k then x.1.app o.dst σ else σ)
 |_,_,_,σ=>σ

/-! ### What an effect Zkk -/
theorem VX(l:List V)(i j:Nat)(v:V):(l.set i v).getD j .undef=if i=j∧i<l.length then v else l.getD j .undef:=by
 simp only[List.getD_eq_getElem?_getD,List.getElem?_set]
 by_cases h:i=j
 ·subst h
  by_cases hl:i<l.length
  ·simp[hl]
  ·simp[hl]
 ·simp[h]

theorem Zl7(σ:St)(d:Option Tmp)(v:V):(putV σ d v).env=match d with|some d=>σ.env.set d v|none=>σ.env:=by cases d<;>rfl
theorem Zqa(σ:St)(d:Option Tmp)(v:V):(putV σ d v).h=σ.h:=by cases d<;>rfl
theorem Zdb(σ:St)(d:Option Tmp)(v:V):(putV σ d v).refs=σ.refs:=by cases d<;>rfl
theorem Zyd(σ:St)(s:Nat)(cs:List V):(Zb9 σ s cs).h=σ.h:=by unfold Zb9;split<;>rfl
theorem Zn3(σ:St)(s:Nat)(cs:List V):(Zb9 σ s cs).refs=σ.refs:=by unfold Zb9;split<;>rfl
theorem Zid(σ:St)(s:Nat)(cs:List V):(Zb9 σ s cs).env.length=σ.env.length:=by unfold Zb9;split<;>simp

theorem WQ(σ:St)(d:Option Tmp)(v:V):(putV σ d v).env.length=σ.env.length:=by cases d<;>simp[putV]
theorem Zbh(d:Option Tmp)(e:Ef)(σ:St):(e.app d σ).env.length=σ.env.length:=by
 unfold Ef.app
 split
 ·exact WQ ..
 ·exact WQ ..
 ·cases d<;>simp
 ·cases d<;>simp
 ·rw[WQ,Zid]
 ·exact WQ ..
 ·exact WQ ..
 ·exact WQ ..

def Zn4(v:V)(cs:List V):V:=match v with| .lb _=> .lb cs|v=>v

theorem JC(σ:St)(s:Nat)(cs:List V)(t:Nat):(Zb9 σ s cs).env.getD t .undef=if s=t then Zn4 (σ.env.getD t .undef) cs else σ.env.getD t .undef:=by
 unfold Zb9
 by_cases h:s=t
 ·subst h
  simp only[if_true]
  split
  ·rename_i cs' hcs
   rw[VX]
   have:s<σ.env.length:=by
    rcases Nat.lt_or_ge s σ.env.length with h|h
    ·exact h
    ·simp[List.getD,List.getElem?_eq_none h]at hcs
   rw[if_pos ⟨rfl,this⟩,hcs]
   rfl
  ·rename_i hn
   unfold Zn4
   split
   ·rename_i cs' hcs;exact absurd hcs (hn cs')
   ·rfl
 ·rw[if_neg h]
  split
  ·rw[VX,if_neg (fun hh=>h hh.1)]
  ·rfl

def Ef.val(e:Ef):Option V:=match e with
 | .skip=>some (.tup [])
 | .q (.val v)=>some v
 | .q (.ref _ _)=>some .rf
 | .box cs=>some (.lb cs)
 | .st _ _=>some .undef
 | .hp _ v=>some v
 | .al _ _ v=>some v
 | .nw _ _ v=>some v

theorem Zbi(d:Option Tmp)(e:Ef)(σ:St)(t:Nat):(e.app d σ).env.getD t .undef=
  if d=some t∧t<σ.env.length then e.val.getD .undef else match e with
   | .st s cs=>(Zb9 σ s cs).env.getD t .undef
   |_=>σ.env.getD t .undef:=by
 have key: ∀(τ:St) (v:V),(putV τ d v).env.getD t .undef=if d=some t∧t<τ.env.length then v else τ.env.getD t .undef:=by
  intro τ v
  cases d with
  |none=>simp[putV]
  |some d=>
   simp only[putV,VX,Option.some.injEq]
   by_cases h:d=t
   ·subst h;simp
   ·simp[h]
 unfold Ef.app
 cases e with
 |skip=>simp only[key];rfl
 |q q=>
  cases q with
  |val v=>simp only[key];rfl
  |ref s o=>
   cases d with
   |none=>simp
   |some d=>
    simp only[VX,Option.some.injEq]
    by_cases h:d=t
    ·subst h;simp[Ef.val]
    ·simp[h]
 |box cs=>
  cases d with
  |none=>simp
  |some d=>
   simp only[VX,Option.some.injEq]
   by_cases h:d=t
   ·subst h;simp[Ef.val]
   ·simp[h]
 |st s cs=>simp only[key,Zid];rfl
 |hp h v=>simp only[key];rfl
 |al i o v=>simp only[key];rfl
 |nw i o v=>simp only[key];rfl

theorem VY(d:Option Tmp)(e:Ef)(σ:St):(e.app d σ).h=match e with| .hp h _=>h| .al i o _=>σ.h.putAt i o| .nw i o _=>σ.h.putM i o|_=>σ.h:=by
 unfold Ef.app
 cases e with
 |q q=>cases q<;>cases d<;>rfl
 |box cs=>cases d<;>rfl
 |st s cs=>simp only[Zqa,Zyd]
 |_=>simp only[Zqa]

theorem WR(d:Option Tmp)(e:Ef)(σ:St):(e.app d σ).refs=match e,d with| .q (.ref s o),some d=>(d,s,o)::σ.refs|_,_=>σ.refs:=by
 unfold Ef.app
 cases e with
 |q q=>cases q<;>cases d<;>rfl
 |box cs=>cases d<;>rfl
 |st s cs=>simp only[Zdb,Zn3]
 |_=>simp only[Zdb]

structure Keeps(R:St->St->Prop)(touch:Oper->Ef×Foot->Prop):Prop where
 both: ∀(σ σ':St) (o:Oper) (x:Ef×Foot),R σ σ'->R (x.1.app o.dst σ) (x.1.app o.dst σ')
 left: ∀(σ σ':St) (o:Oper) (x:Ef×Foot),R σ σ'-> ¬touch o x->R (x.1.app o.dst σ) σ'

theorem Qd{R:St->St->Prop}{touch:Oper->Ef×Foot->Prop}(hR:Keeps R touch)(hs: ∀σ σ',R σ σ'->R σ' σ){S S':Nat->Bool} :
  ∀(k:Nat) (os:List Oper) (l:List (Ef×Foot)) (σ σ':St),R σ σ'->(∀(j:Nat) (o:Oper) (x:Ef×Foot),os[j]? =some o->l[j]? =some x->touch o x->S (k+j)=S' (k+j))->R (sst S k os l σ) (sst S' k os l σ')
 |k,[],l,σ,σ',h,_=>by cases l<;>simpa[sst]using h
 |k,o::r,[],σ,σ',h,_=>by simpa[sst]using h
 |k,o::r,x::l,σ,σ',h,ht=>by
  simp only[sst]
  refine Qd hR hs (k+1) r l _ _ ?_ fun j o' x' h1 h2 h3=>by
   have:=ht (j+1) o' x' (by simpa using h1) (by simpa using h2) h3
   simpa[Nat.add_assoc,Nat.add_comm 1 j]using this
  by_cases htc:touch o x
  ·have:=ht 0 o x rfl rfl htc
   rw[Nat.add_zero]at this
   rw[this]
   split
   ·exact hR.both _ _ _ _ h
   ·exact h
  ·cases h1:S k<;>cases h2:S' k
   ·simpa using h
   ·simpa using hs _ _ (hR.left _ _ o x (hs _ _ h) htc)
   ·simpa using hR.left _ _ o x h htc
   ·simpa using hR.both _ _ o x h

def SL(σ σ':St):Prop:=σ.env.length=σ'.env.length

def R1(t:Nat)(σ σ':St):Prop:=SL σ σ'∧AgT σ σ' t
def R3(s:Nat)(σ σ':St):Prop:=SL σ σ'∧σ.env.getD s .undef=σ'.env.getD s .undef
def R4(σ σ':St):Prop:=σ.h=σ'.h
def R5(k:Nat)(σ σ':St):Prop:=σ.h.get k=σ'.h.get k

def Zwi(t:Nat)(o:Oper)(_:Ef×Foot):Prop:=o.dst=some t
def Zwj(s:Nat)(o:Oper)(x:Ef×Foot):Prop:=o.dst=some s∨s∈x.1.stS
def Zie(_:Oper)(x:Ef×Foot):Prop:=x.1.isHp=true∨x.1.nwI.isSome=true
def Zl8(k:Nat)(_:Oper)(x:Ef×Foot):Prop:=(x.1.isHp=true∧ ∀i,x.1.alI=some i->i=k)∨x.1.nwI=some k

theorem Agr.symm{v v':V}(h:Agr v v'):Agr v' v:=by
 rcases h with rfl|⟨a,b,h1,h2⟩
 ·exact .inl rfl
 ·exact .inr ⟨b,a,h2,h1⟩

theorem Agr.box{v v':V}(h:Agr v v')(cs:List V):Agr (Zn4 v cs) (Zn4 v' cs):=by
 rcases h with rfl|⟨a,b,h1,h2⟩
 ·exact .inl rfl
 ·subst h1 h2;exact .inl rfl

theorem Zye(v:V)(cs:List V):Agr (Zn4 v cs) v:=by
 unfold Zn4
 split
 ·exact .inr ⟨_,_,rfl,rfl⟩
 ·exact .inl rfl

theorem Agr.trans{a b c:V}(h:Agr a b)(g:Agr b c):Agr a c:=by
 rcases h with rfl|⟨x,y,h1,h2⟩
 ·exact g
 ·rcases g with rfl|⟨x',y',h3,h4⟩
  ·exact .inr ⟨x,y,h1,h2⟩
  ·exact .inr ⟨x,y',h1,h4⟩

theorem R1.keeps(t:Nat):Keeps (R1 t) (Zwi t) where
 both σ σ' o x h:=by
  obtain⟨h0,h1,h2⟩:=h
  refine⟨by unfold SL at*;rw[Zbh,Zbh];exact h0,?_,?_⟩
  ·rw[Zbi,Zbi]
   unfold SL at h0
   rw[h0]
   split
   ·exact .refl _
   ·split
    ·rw[JC,JC]
     split
     ·exact h1.box _
     ·exact h1
    ·exact h1
  ·rw[WR,WR]
   split
   ·simp only[QJ]
    split
    ·rfl
    ·exact h2
   ·exact h2
 left σ σ' o x h ht:=by
  obtain⟨h0,h1,h2⟩:=h
  refine⟨by unfold SL at*;rw[Zbh];exact h0,?_,?_⟩
  ·rw[Zbi,if_neg (fun hh=>ht hh.1)]
   split
   ·rw[JC]
    split
    ·exact(Zye _ _).trans h1
    ·exact h1
   ·exact h1
  ·rw[WR]
   split
   ·rename_i d _ hd
    simp only[QJ]
    rw[if_neg (fun he=>ht (by unfold Zwi;rw[hd,he]))]
    exact h2
   ·exact h2

theorem R3.keeps(s:Nat):Keeps (R3 s) (Zwj s) where
 both σ σ' o x h:=by
  obtain⟨h0,h1⟩:=h
  refine⟨by unfold SL at*;rw[Zbh,Zbh];exact h0,?_⟩
  rw[Zbi,Zbi]
  unfold SL at h0
  rw[h0]
  split
  ·rfl
  ·split
   ·rw[JC,JC,h1]
   ·exact h1
 left σ σ' o x h ht:=by
  obtain⟨h0,h1⟩:=h
  refine⟨by unfold SL at*;rw[Zbh];exact h0,?_⟩
  rw[Zbi,if_neg (fun hh=>ht (.inl hh.1))]
  split
  ·rename_i s' cs he
   rw[JC,if_neg]
   ·exact h1
   ·intro hs;subst hs;exact ht (.inr (by rw[he];simp[Ef.stS]))
  ·exact h1

theorem R4.keeps:Keeps R4 Zie where
 both σ σ' o x h:=by
  unfold R4 at*
  rw[VY,VY]
  split
  ·rfl
  ·rw[h]
  ·rw[h]
  ·exact h
 left σ σ' o x h ht:=by
  unfold R4 at*
  rw[VY]
  split
  ·rename_i he;exact absurd (by unfold Zie;rw[he];exact .inl rfl) ht
  ·rename_i he;exact absurd (by unfold Zie;rw[he];exact .inl rfl) ht
  ·rename_i he;exact absurd (by unfold Zie;rw[he];exact .inr rfl) ht
  ·exact h

theorem Zdc(h:Heap)(i:Nat)(o:YObj)(k:Nat):(h.putAt i o).get k=if k=i then some o else h.get k:=by
 have:=Heap.get_push {h with nx:=i} o k
 exact this
theorem R5.keeps(k:Nat):Keeps (R5 k) (Zl8 k) where
 both σ σ' o x h:=by
  unfold R5 at*
  rw[VY,VY]
  split
  ·rfl
  ·rw[Zdc,Zdc,h]
  ·rw[Heap.putM_get,Heap.putM_get,h]
  ·exact h
 left σ σ' o x h ht:=by
  unfold R5 at*
  rw[VY]
  split
  ·rename_i he;exact absurd (by unfold Zl8;rw[he];exact .inl ⟨rfl,fun i hi=>by cases hi⟩) ht
  ·rename_i i o' v he
   rw[Zdc,if_neg]
   ·exact h
   ·intro hk;subst hk;exact ht (by unfold Zl8;rw[he];exact .inl ⟨rfl,fun i hi=>by cases hi;rfl⟩)
  ·rename_i i o' v he
   rw[Heap.putM_get,if_neg]
   ·exact h
   ·intro hk;subst hk;exact ht (by unfold Zl8;rw[he];exact .inr rfl)
  ·exact h

theorem R1.symm{t:Nat}(σ σ':St)(h:R1 t σ σ'):R1 t σ' σ:=⟨h.1.symm,h.2.env.symm,h.2.ref.symm⟩
theorem R3.symm{s:Nat}(σ σ':St)(h:R3 s σ σ'):R3 s σ' σ:=⟨h.1.symm,h.2.symm⟩
theorem R4.symm(σ σ':St)(h:R4 σ σ'):R4 σ' σ:=Eq.symm h
theorem R5.symm{k:Nat}(σ σ':St)(h:R5 k σ σ'):R5 k σ' σ:=Eq.symm h

theorem R1.refl(t:Nat)(σ:St):R1 t σ σ:=⟨rfl, .refl _,rfl⟩
theorem R3.refl(s:Nat)(σ:St):R3 s σ σ:=⟨rfl,rfl⟩

/-! ### The text's order -/
theorem Lex.at: ∀ {os:List Oper} {σ τ:St} {l:List (Ef×Foot)},Lex Y loc ops os σ l τ-> ∀(k i:Nat) (o:Oper),os[i]? =some o->
  ∃x:Ef×Foot,l[i]? =some x∧Zt2 Y loc ops (sst (fun _=>true) k (os.take i) (l.take i) σ) o x.1∧x.2=Vk (sst (fun _=>true) k (os.take i) (l.take i) σ) o x.1∧Zda (sst (fun _=>true) k (os.take i) (l.take i) σ) o x.1=true
 |_,_,_,_, .nil _,k,i,o,h=>by simp at h
 |_,_,_,_, .cons o' r σ e l τ hw hk hl,k,0,o,h=>by
  simp at h;subst h
  exact⟨(e,Vk σ o' e),rfl,by simpa[sst]using hw,by simp[sst],by simpa[sst]using hk⟩
 |_,_,_,_, .cons o' r σ e l τ hw hk hl,k,i+1,o,h=>by
  obtain⟨x,h1,h2⟩:=hl.at (k+1) i o (by simpa using h)
  refine⟨x,by simpa using h1,?_⟩
  simpa[sst]using h2

theorem Lex.length: ∀ {os:List Oper} {σ τ:St} {l:List (Ef×Foot)},Lex Y loc ops os σ l τ->l.length=os.length
 |_,_,_,_, .nil _=>rfl
 |_,_,_,_, .cons _ _ _ _ _ _ _ _ hl=>by simp[hl.length]

theorem Lex.sst: ∀ {os:List Oper} {σ τ:St} {l:List (Ef×Foot)},Lex Y loc ops os σ l τ-> ∀(k:Nat) (S:Nat->Bool),(∀j,j<os.length->S (k+j)=true)->Go.Y.sst S k os l σ=τ
 |_,_,_,_, .nil _,k,S,_=>rfl
 |_,_,_,_, .cons o r σ e l τ _ _ hl,k,S,h=>by
  simp only[Go.Y.sst]
  have h0:=h 0 (by simp)
  rw[Nat.add_zero]at h0
  rw[if_pos h0]
  exact hl.sst (k+1) S fun j hj=>by
   have:=h (j+1) (by simpa using hj)
   simpa[Nat.add_assoc,Nat.add_comm 1 j]using this

theorem Wv(S:Nat->Bool): ∀(i k:Nat) (os:List Oper) (l:List (Ef×Foot)) (σ:St) (o:Oper) (x:Ef×Foot),os[i]? =some o->l[i]? =some x->
  sst S k os l σ=sst S (k+i+1) (os.drop (i+1)) (l.drop (i+1)) (if S (k+i)then x.1.app o.dst (sst S k (os.take i) (l.take i) σ)else sst S k (os.take i) (l.take i) σ)
 |0,k,o'::r,x'::l,σ,o,x,h1,h2=>by
  simp at h1 h2;subst h1 h2
  simp[sst]
 |i+1,k,o'::r,x'::l,σ,o,x,h1,h2=>by
  simp only[sst,List.take_succ_cons,List.drop_succ_cons]
  rw[Wv S i (k+1) r l _ o x (by simpa using h1) (by simpa using h2)]
  have e1:k+1+i=k+(i+1):=by omega
  rw[e1]
 |_,_,[],_,_,_,_,h1,_=>by simp at h1
 |_,_,_::_,[],_,_,_,_,h2=>by simp at h2
end
section
variable {Y:YP} {loc:Nat->Bool} {ops:Array Oper}

/-! ### Who waits for whom -/
theorem Ze5(masks:List Nat)(i:Nat): ∀(es:List Edge) (m:Nat),(es.foldl (fun m e=>if Region.binds .any e then m|||(1<<<e.on)|||masks.getD e.on 0 else m) m).testBit i=true->
  m.testBit i=true∨ ∃e∈es,Region.binds .any e=true∧(e.on=i∨(masks.getD e.on 0).testBit i=true)
 | [],m,h=> .inl h
 |e::es,m,h=>by
  simp only[List.foldl_cons]at h
  rcases Ze5 masks i es _ h with h1|⟨e',h1,h2⟩
  ·split at h1
   ·rename_i hb
    simp only[Nat.testBit_or,Bool.or_eq_true]at h1
    rcases h1 with (h1|h1)|h1
    ·exact .inl h1
    ·refine .inr ⟨e,by simp,hb, .inl ?_⟩
     rw[Nat.one_shiftLeft,Nat.testBit_two_pow]at h1
     simpa using h1
    ·exact .inr ⟨e,by simp,hb, .inr h1⟩
   ·exact .inl h1
  ·exact .inr ⟨e',by simp[h1],h2⟩

theorem Zkl{masks:List Nat}{o:Oper}{i:Nat}(h:(Ze4 masks o).testBit i=true): ∃e∈o.after,Region.binds .any e=true∧(e.on=i∨(masks.getD e.on 0).testBit i=true):=by
 rcases Ze5 masks i _ _ h with h1|⟨e,h1,h2⟩
 ·simp at h1
 ·exact⟨e,by simpa using h1,h2⟩

theorem Zdd: ∀(os:List Oper) (ms:List Nat),(Jn ms os).take ms.length=ms
 | [],ms=>by simp[Jn]
 |o::r,ms=>by
  have:=Zdd r (ms++ [Ze4 ms o])
  simp only[Jn]
  have h2:=congrArg (List.take ms.length) this
  rw[List.take_take,List.length_append,Nat.min_eq_left (by simp),List.take_left']at h2
  ·exact h2
  ·rfl

theorem Ze6: ∀(os:List Oper) (ms:List Nat) (j:Nat) (o:Oper),os[j]? =some o->(Jn ms os).getD (ms.length+j) 0=Ze4 ((Jn ms os).take (ms.length+j)) o
 | [],ms,j,o,h=>by simp at h
 |o'::r,ms,0,o,h=>by
  simp at h;subst h
  simp only[Jn,Nat.add_zero]
  have h1:=Zdd r (ms++ [Ze4 ms o'])
  have h2:=congrArg (List.take ms.length) h1
  rw[List.take_take,List.length_append,Nat.min_eq_left (by simp),List.take_left' rfl]at h2
  rw[h2]
  have h3:=congrArg (fun l=>l[ms.length]?) h1
  simp only[List.length_append,List.length_cons,List.length_nil,Nat.zero_add]at h3
  rw[List.getElem?_take]at h3
  simp at h3
  rw[List.getD_eq_getElem?_getD,h3]
  rfl
 |o'::r,ms,j+1,o,h=>by
  have:=Ze6 r (ms++ [Ze4 ms o']) j o (by simpa using h)
  simp only[List.length_append,List.length_cons,List.length_nil,Nat.zero_add]at this
  simp only[Jn]
  have e:ms.length+(j+1)=ms.length+1+j:=by omega
  rw[e]
  exact this

theorem Zbj{all:List Oper}{fs:List Foot}{ms:List Nat} : ∀(os:List Oper) (l:List Foot) (j:Nat),Zc9 ops all fs ms j os l=true-> ∀(i:Nat) (o:Oper) (f:Foot),os[i]? =some o->l[i]? =some f->
  chk1 ops o f (ms.getD (j+i) 0) 0 (all.take (j+i)) (fs.take (j+i))=true∧ ∀e∈o.after,Region.binds .any e=true->e.on<j+i
 | [],_,_,_,i,_,_,h1,_=>by simp at h1
 |_::_,[],_,_,i,_,_,_,h2=>by simp at h2
 |o'::r,f'::l,j,h,0,o,f,h1,h2=>by
  simp only[Zc9,Bool.and_eq_true]at h
  simp at h1 h2;subst h1 h2
  refine⟨h.1.1,fun e he hb=> ?_⟩
  have:=List.all_eq_true.1 h.1.2 e (by simpa using he)
  rw[hb]at this
  simpa using this
 |o'::r,f'::l,j,h,i+1,o,f,h1,h2=>by
  simp only[Zc9,Bool.and_eq_true]at h
  have:=Zbj r l (j+1) h.2 i o f (by simpa using h1) (by simpa using h2)
  have e:j+(i+1)=j+1+i:=by omega
  rw[e];exact this

theorem Zqb{oj:Oper}{fj:Foot}{m:Nat} : ∀(os:List Oper) (l:List Foot) (k:Nat),chk1 ops oj fj m k os l=true-> ∀(i:Nat) (o:Oper) (f:Foot),os[i]? =some o->l[i]? =some f->
  XU ops o oj f fj=true->m.testBit (k+i)=true
 | [],_,_,_,i,_,_,h1,_,_=>by simp at h1
 |_::_,[],_,_,i,_,_,_,h2,_=>by simp at h2
 |o'::r,f'::l,k,h,0,o,f,h1,h2,hc=>by
  simp only[chk1,Bool.and_eq_true]at h
  simp at h1 h2;subst h1 h2
  have:=h.1
  rw[hc]at this
  simpa using this
 |o'::r,f'::l,k,h,i+1,o,f,h1,h2,hc=>by
  simp only[chk1,Bool.and_eq_true]at h
  have:=Zqb r l (k+1) h.2 i o f (by simpa using h1) (by simpa using h2) hc
  have e:k+(i+1)=k+1+i:=by omega
  rw[e];exact this

def VZ(ops:Array Oper)(S:Nat->Bool):Prop:= ∀(j:Nat) (o:Oper),ops[j]? =some o->S j=true-> ∀e∈o.after,Region.binds .any e=true->S e.on=true

structure Ord(ops:Array Oper)(l:List (Ef×Foot)):Prop where
 cl: ∀(S:Nat->Bool),VZ ops S-> ∀(i j:Nat) (oi oj:Oper) (xi xj:Ef×Foot),i<j->ops[i]? =some oi->ops[j]? =some oj->l[i]? =some xi->l[j]? =some xj->XU ops oi oj xi.2 xj.2=true->S j=true->S i=true
 cr: ∀(S:Nat->Bool),VZ ops S-> ∀(i j:Nat) (oi oj:Oper) (xi xj:Ef×Foot),i<j->ops[i]? =some oi->ops[j]? =some oj->l[i]? =some xi->l[j]? =some xj->XU ops oi oj xi.2 xj.2=true->(∀e∈oj.after,Region.binds .any e=true->S e.on=true)->S i=true
 lt: ∀(j:Nat) (o:Oper),ops[j]? =some o-> ∀e∈o.after,Region.binds .any e=true->e.on<j

theorem ZB4{l:List (Ef×Foot)}(hl:l.length=ops.size)(h:chk ops (l.map (·.2))=true):Ord ops l:=by
 unfold chk at h
 have hat: ∀(j:Nat) (o:Oper),ops[j]? =some o-> ∃x,l[j]? =some x:=by
  intro j o ho
  have:j<l.length:=by
   rw[hl];exact(Array.getElem?_eq_some_iff.1 ho).1
  exact⟨l[j],by simp[this]⟩
 have hlt: ∀(j:Nat) (o:Oper),ops[j]? =some o-> ∀e∈o.after,Region.binds .any e=true->e.on<j:=by
  intro j o ho e he hb
  obtain⟨x,hx⟩:=hat j o ho
  have:=(Zbj _ _ 0 h j o x.2 (by simpa using ho) (by simp[hx])).2 e he hb
  simpa using this
 have hmask: ∀(S:Nat->Bool),VZ ops S-> ∀(j:Nat) (o:Oper) (i:Nat),ops[j]? =some o->(∀e∈o.after,Region.binds .any e=true->S e.on=true)->((Jn [] ops.toList).getD j 0).testBit i=true->S i=true:=by
  intro S hS j
  induction j using Nat.strongRecOn with
  |_ j ih=>
   intro o i ho hSj hb
   have h1:=Ze6 ops.toList [] j o (by simpa using ho)
   simp only[List.length_nil,Nat.zero_add]at h1
   rw[h1]at hb
   obtain⟨e,he,heb,h2⟩:=Zkl hb
   have h3:=hSj e he heb
   have h4:=hlt j o ho e he heb
   rcases h2 with rfl|h2
   ·exact h3
   ·rw[List.getD_eq_getElem?_getD,List.getElem?_take,if_pos h4,<-List.getD_eq_getElem?_getD]at h2
    have hj:j<ops.size:=(Array.getElem?_eq_some_iff.1 ho).1
    have h5:ops[e.on]? =some ops[e.on]:=by simp
    exact ih e.on h4 _ i h5 (hS e.on _ h5 h3) h2
 have hcr: ∀(S:Nat->Bool),VZ ops S-> ∀(i j:Nat) (oi oj:Oper) (xi xj:Ef×Foot),i<j->ops[i]? =some oi->ops[j]? =some oj->l[i]? =some xi->l[j]? =some xj->XU ops oi oj xi.2 xj.2=true->(∀e∈oj.after,Region.binds .any e=true->S e.on=true)->S i=true:=by
  intro S hS i j oi oj xi xj hij hoi hoj hxi hxj hc hSj
  have h1:=(Zbj _ _ 0 h j oj xj.2 (by simpa using hoj) (by simp[hxj])).1
  have h2:=Zqb _ _ 0 h1 i oi xi.2 (by rw[Nat.zero_add,List.getElem?_take,if_pos hij];simpa using hoi) (by rw[Nat.zero_add,List.getElem?_take,if_pos hij];simp[hxi]) hc
  simp only[Nat.zero_add]at h2
  exact hmask S hS j oj i hoj hSj h2
 exact⟨fun S hS i j oi oj xi xj hij hoi hoj hxi hxj hc hSj=>hcr S hS i j oi oj xi xj hij hoi hoj hxi hxj hc (hS j oj hoj hSj),hcr,hlt⟩

theorem Qs: ∀(k:Nat) (os:List Oper) (l:List (Ef×Foot)) (σ:St) (S:Nat->Bool),(∀j,S (k+j)=false)->sst S k os l σ=σ
 |_,[],l,_,_,_=>by cases l<;>rfl
 |_,_::_,[],_,_,_=>rfl
 |k,o::r,x::l,σ,S,h=>by
  simp only[sst]
  have h0:=h 0
  rw[Nat.add_zero]at h0
  rw[if_neg (by simp[h0])]
  exact Qs (k+1) r l σ S fun j=>by have:=h (j+1);simpa[Nat.add_assoc,Nat.add_comm 1 j]using this

theorem JD: ∀(k:Nat) (os:List Oper) (l:List (Ef×Foot)) (σ:St) (S S':Nat->Bool),(∀j,j<os.length->S (k+j)=S' (k+j))->sst S k os l σ=sst S' k os l σ
 |_,[],l,_,_,_,_=>by cases l<;>rfl
 |_,_::_,[],_,_,_,_=>rfl
 |k,o::r,x::l,σ,S,S',h=>by
  simp only[sst]
  have h0:=h 0 (by simp)
  rw[Nat.add_zero]at h0
  rw[h0]
  exact JD (k+1) r l _ S S' fun j hj=>by have:=h (j+1) (by simpa using hj);simpa[Nat.add_assoc,Nat.add_comm 1 j]using this

theorem Zaa: ∀(k:Nat) (os:List Oper) (l:List (Ef×Foot)) (σ:St) (S:Nat->Bool) (x:Nat×Nat×Nat),x∈(sst S k os l σ).refs↔
  x∈σ.refs∨ ∃(j:Nat) (o:Oper) (y:Ef×Foot),os[j]? =some o∧l[j]? =some y∧S (k+j)=true∧o.dst=some x.1∧y.1= .q (.ref x.2.1 x.2.2)
 |_,[],l,σ,_,x=>by cases l<;>simp[sst]
 |_,_::_,[],σ,_,x=>by simp[sst]
 |k,o::r,y::l,σ,S,x=>by
  simp only[sst]
  rw[Zaa (k+1) r l _ S x]
  have hh:x∈(if S k then y.1.app o.dst σ else σ).refs↔x∈σ.refs∨(S k=true∧o.dst=some x.1∧y.1= .q (.ref x.2.1 x.2.2)):=by
   cases hS:S k with
   |false=>simp
   |true=>
    simp only[if_true,true_and]
    rw[WR]
    obtain⟨x1,x2,x3⟩:=x
    split
    ·rename_i s off d h1 h2
     simp only[List.mem_cons,Prod.mk.injEq,h1,h2,Option.some.injEq,Ef.q.injEq,Q.ref.injEq]
     constructor
     ·rintro(⟨rfl,rfl,rfl⟩|h)
      ·exact .inr ⟨rfl,rfl,rfl⟩
      ·exact .inl h
     ·rintro(h|⟨rfl,rfl,rfl⟩)
      ·exact .inr h
      ·exact .inl ⟨rfl,rfl,rfl⟩
    ·rename_i hn
     constructor
     ·exact .inl
     ·rintro(h|⟨h1,h2⟩)
      ·exact h
      ·exact(hn _ _ _ h2 h1).elim
  rw[hh]
  constructor
  ·rintro((h|⟨h1,h2⟩)|⟨j,o',y',h1,h2,h3,h4⟩)
   ·exact .inl h
   ·exact .inr ⟨0,o,y,rfl,rfl,by simpa using h1,h2⟩
   ·exact .inr ⟨j+1,o',y',by simpa using h1,by simpa using h2,by rw[<-h3];congr 1;omega,h4⟩
  ·rintro(h|⟨j,o',y',h1,h2,h3,h4⟩)
   ·exact .inl (.inl h)
   ·cases j with
    |zero=>simp at h1 h2;subst h1 h2;exact .inl (.inr ⟨by simpa using h3,h4⟩)
    |succ j=>exact .inr ⟨j,o',y',by simpa using h1,by simpa using h2,by rw[<-h3];congr 1;omega,h4⟩

theorem Rel.ext{W:Vw}{σ σ':St}{a:Act}{w:World}(h:Rel W σ a w)(he:σ'.env=σ.env)(hh:σ'.h=σ.h)(hr: ∀x,x∈σ'.refs->x∈σ.refs):Rel W σ' a w:=by
 obtain⟨e,r,hp⟩:=σ
 obtain⟨e',r',hp'⟩:=σ'
 simp only at he hh hr
 subst he hh
 exact⟨h.heap,h.size,h.env,h.box,fun d s o hm=>h.refs d s o (hr _ hm),h.defers⟩

theorem Zyf{l m:List V}(hl:l.length=m.length)(h: ∀t,l.getD t .undef=m.getD t .undef):l=m:=by
 apply List.ext_getElem hl
 intro i h1 h2
 have:=h i
 simp only[List.getD_eq_getElem?_getD,List.getElem?_eq_getElem h1,List.getElem?_eq_getElem h2]at this
 simpa using this

theorem Zif{env env':List V}{o:Oper}{j:Nat}{want:Bool}(hg:o.guard=some (j,want)){d:Nat}(hd:(ops[j]?).bind (·.dst)=some d)(h:Agr (env.getD d .undef) (env'.getD d .undef)):Jf ops env' o=Jf ops env o:=by
 simp only[Jf,hg,hd]
 rcases h with h|⟨a,b,h1,h2⟩
 ·rw[h]
 ·rw[h1,h2]

theorem Zqc{o:Oper}{t:Nat}(h:t∈Zh9 o):t∈o.looksAt ops:=List.mem_append_left _ h
theorem Zkm{o:Oper}{j:Nat}{want:Bool}(hg:o.guard=some (j,want)){d:Nat}(hd:(ops[j]?).bind (·.dst)=some d):d∈o.looksAt ops:=by
 unfold Oper.looksAt
 rw[hg]
 exact List.mem_append_right _ (by simp[hd])

theorem Zbk{oi oj:Oper}{fi fj:Foot}{d:Nat}(hd:oi.dst=some d)(h:d∈oj.looksAt ops∨oj.dst=some d∨d∈fj.t∨d∈fj.r):XU ops oi oj fi fj=true:=by
 unfold XU
 simp only[Bool.or_eq_true]
 rcases h with h|h|h|h
 ·refine .inl (.inl (.inl (.inl (.inl (.inl (.inl ?_))))));simp[Oper.apart,hd,h]
 ·refine .inl (.inl (.inl (.inl (.inl (.inl (.inl ?_))))));simp[Oper.apart,hd,h]
 ·refine .inl (.inl (.inl (.inl (.inl (.inl (.inr ?_))))));simp[hit,hd,h]
 ·refine .inl (.inl (.inl (.inl (.inl (.inl (.inr ?_))))));simp[hit,hd,h]

theorem Zkn{oi oj:Oper}{fi fj:Foot}{d:Nat}(hd:oj.dst=some d)(h:d∈oi.looksAt ops∨oi.dst=some d∨d∈fi.t∨d∈fi.r):XU ops oi oj fi fj=true:=by
 unfold XU
 simp only[Bool.or_eq_true]
 rcases h with h|h|h|h
 ·refine .inl (.inl (.inl (.inl (.inl (.inl (.inl ?_))))));simp[Oper.apart,hd,h]
 ·refine .inl (.inl (.inl (.inl (.inl (.inl (.inl ?_))))));simp[Oper.apart,hd,h]
 ·refine .inl (.inl (.inl (.inl (.inl (.inr ?_)))));simp[hit,hd,h]
 ·refine .inl (.inl (.inl (.inl (.inl (.inr ?_)))));simp[hit,hd,h]

theorem Zl9{oi oj:Oper}{fi fj:Foot}{s:Nat}(h1:s∈fi.w)(h2:s∈fj.r):XU ops oi oj fi fj=true:=by
 unfold XU
 simp only[Bool.or_eq_true]
 refine .inl (.inl (.inl (.inl (.inr ?_))))
 simp only[Zt1,List.any_eq_true]
 exact⟨s,h1,by simpa using h2⟩

theorem Zt3{oi oj:Oper}{fi fj:Foot}{s:Nat}(h1:s∈fj.w)(h2:s∈fi.r):XU ops oi oj fi fj=true:=by
 unfold XU
 simp only[Bool.or_eq_true]
 refine .inl (.inl (.inl (.inr ?_)))
 simp only[Zt1,List.any_eq_true]
 exact⟨s,h1,by simpa using h2⟩

theorem Zgi{oi oj:Oper}{fi fj:Foot}(h1:fi.hw=true)(h2:fj.hr=true):XU ops oi oj fi fj=true:=by
 unfold XU;simp[h1,h2]
theorem Zma{fi fj:Foot}{k:Nat}(h1:fi.hw=true)(h2: ∀i,fi.al=some i->i=k)(h3:k∈fj.ro):Zkk fi fj=true:=by
 unfold Zkk
 rw[h1]
 split
 ·rename_i i hi
  rw[h2 i hi];simpa using h3
 ·cases hr:fj.ro with
  |nil=>rw[hr]at h3;cases h3
  |cons a l=>rfl
theorem Zt4{oi oj:Oper}{fi fj:Foot}{k:Nat}(h1:fi.hw=true)(h2: ∀i,fi.al=some i->i=k)(h3:k∈fj.ro):XU ops oi oj fi fj=true:=by
 unfold XU;simp[Zma h1 h2 h3]
theorem Zt5{oi oj:Oper}{fi fj:Foot}{k:Nat}(h1:fj.hw=true)(h2: ∀i,fj.al=some i->i=k)(h3:k∈fi.ro):XU ops oi oj fi fj=true:=by
 unfold XU;simp[Zma h1 h2 h3]
theorem JU{oi oj:Oper}{fi fj:Foot}{k:Nat}(h1:fi.nw=some k)(h2:fj.hr=true∨k∈fj.ro):XU ops oi oj fi fj=true:=by
 unfold XU
 have:news fi fj=true:=by
  unfold news;rw[h1]
  simp only[Bool.or_eq_true]
  exact h2.imp id fun h=>by simpa using h
 simp[this]
theorem WS{oi oj:Oper}{fi fj:Foot}{k:Nat}(h1:fj.nw=some k)(h2:fi.hr=true∨k∈fi.ro):XU ops oi oj fi fj=true:=by
 unfold XU
 have:news fj fi=true:=by
  unfold news;rw[h1]
  simp only[Bool.or_eq_true]
  exact h2.imp id fun h=>by simpa using h
 simp[this]
theorem Zt6{oi oj:Oper}{fi fj:Foot}(h1:fj.hw=true)(h2:fi.hr=true):XU ops oi oj fi fj=true:=by
 unfold XU;simp[h1,h2]
end
end Go.Y
