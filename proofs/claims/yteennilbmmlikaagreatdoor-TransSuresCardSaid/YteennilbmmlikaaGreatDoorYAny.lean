/- A part of the proof. -/
import Derived.Test.YteennilbmmlikaaGreatDoorYEff
namespace Go.Y
set_option maxRecDepth 1000000
set_option maxHeartbeats 0
structure Foot where
 t:List Nat
 r:List Nat
 w:List Nat
 hr:Bool
 hw:Bool
 ro:List Nat
 al:Option Nat
 nw:Option Nat
 deriving Inhabited
def Ef.isHp:Ef->Bool| .hp _ _=>true| .al _ _ _=>true|_=>false
def Ef.alI:Ef->Option Nat| .al i _ _=>some i|_=>none
def Ef.nwI:Ef->Option Nat| .nw i _ _=>some i|_=>none
def Ef.stS:Ef->List Nat| .st s _=> [s]|_=> []
def Ef.refS:Ef->List Nat| .q (.ref s _)=> [s]|_=> []
def Zao(a:St)(o:Oper)(e:Ef):Foot:=
 {t:=(Zlc o).filterMap (ZEv a)++e.refS,r:=boxR a o++e.stS,w:=e.stS,hr:=Zu5 a o||e.isHp,hw:=e.isHp,ro:=objR a o,al:=e.alI,nw:=e.nwI}
def hit(d:Option Tmp)(l:List Nat):Bool:=match d with|some d=>l.contains d|none=>false
def Zz4(l m:List Nat):Bool:=l.any λx=>m.contains x
def Zoc(a b:Foot):Bool:=a.hw&&match a.al with
 |some i=>b.ro.contains i
 |none=> !b.ro.isEmpty
def news(b a:Foot):Bool:=match b.nw with
 |some i=>a.hr||a.ro.contains i
 |none=>false
def Qj(ops:Array Oper)(c d:Oper)(a b:Foot):Bool:=
 !c.apart ops d||hit c.dst (b.t++b.r)||hit d.dst (a.t++a.r)||Zz4 a.w b.r||Zz4 b.w a.r||(a.hw&&b.hr)||(b.hw&&a.hr)||(Zoc a b||Zoc b a||news a b||news b a)
def Zhj(a:List Nat)(o:Oper):Nat:=
 o.after.toList.foldl (λm e=>if Region.binds .any e then m|||(1<<<e.on)|||a.getD e.on 0 else m) 0
def JT:List Nat->List Oper->List Nat
 |a,[]=>a
 |a,o::r=>JT (a++ [Zhj a o]) r
def chk1(ops:Array Oper)(b:Oper)(a:Foot)(m:Nat):Nat->List Oper->List Foot->Bool
 |i,o::r,f::l=>(!Qj ops o b f a||m.testBit i)&&chk1 ops b a m (i+1) r l
 |_,_,_=>true
def Zff(ops:Array Oper)(a:List Oper)(b:List Foot)(c:List Nat):Nat->List Oper->List Foot->Bool
 |j,o::r,f::l=>chk1 ops o f (c.getD j 0) 0 (a.take j) (b.take j)&&(o.after.toList.all λe=> !Region.binds .any e||decide (e.on<j))&&Zff ops a b c (j+1) r l
 |_,_,_=>true
def chk(ops:Array Oper)(a:List Foot):Bool:=Zff ops ops.toList a (JT [] ops.toList) 0 ops.toList a
section
variable {Y:YP} {loc:Nat->Bool} {ops:Array Oper}
def Zz5(Y:YP)(loc:Nat->Bool)(ops:Array Oper)(a:St)(o:Oper)(e:Ef):Prop:=
 (JG ops a.env o=some false/\e= .skip)\/(JG ops a.env o=some true/\StepE Y loc a o e)
def Zfg(a:St)(o:Oper)(e:Ef):Bool:=match e,o.dst with
 | .q (.ref _ _),some d=>a.refs.all λx=>x.1 !=d
 | .box _,some d=>a.refs.all λx=>x.2.1 !=d
 |_,_=>true
inductive Lex (Y:YP) (loc:Nat->Bool) (ops:Array Oper):List Oper->St->List (Ef×Foot)->St->Prop
 |nil (σ:St):Lex Y loc ops [] σ [] σ
 |cons (o:Oper) (r:List Oper) (σ:St) (e:Ef) (l:List (Ef×Foot)) (τ:St) (h:Zz5 Y loc ops σ o e) (hk:Zfg σ o e=true) (hl:Lex Y loc ops r (e.app o.dst σ) l τ):
   Lex Y loc ops (o::r) σ ((e,Zao σ o e)::l) τ
def sst(S:Nat->Bool):Nat->List Oper->List (Ef×Foot)->St->St
 |k,o::r,x::l,a=>sst S (k+1) r l (if S k then x.1.app o.dst a else a)
 |_,_,_,a=>a
/-! ### What an effect Zoc -/
theorem Zbp(l:List V)(i j:Nat)(v):(l.set i v).getD j .undef=if i=j/\i<l.length then v else l.getD j .undef:=by
 simp only[List.getD_eq_getElem?_getD,vK];by_cases h:i=j;subst h;by_cases a:i<l.length;simp[a];simp[a];simp[h]
theorem Zp8(a:St)(d:Option Tmp)(v):(putV a d v).env=match d with|some d=>a.env.set d v|none=>a.env:=by cases d<;>rfl
theorem Zu9(a:St)(d:Option Tmp)(v):(putV a d v).h=a.h:=by cases d<;>rfl
theorem Zfh(a:St)(d:Option Tmp)(v):(putV a d v).refs=a.refs:=by cases d<;>rfl
theorem ZEw(a:St)(s:Nat)(b):(Zd3 a s b).h=a.h:=by unfold Zd3;split<;>rfl
theorem Zsr(a:St)(s:Nat)(b):(Zd3 a s b).refs=a.refs:=by unfold Zd3;split<;>rfl
theorem Zlg(a:St)(s:Nat)(b):(Zd3 a s b).env.length=a.env.length:=by unfold Zd3;split<;>simp
theorem VL(a:St)(d:Option Tmp)(v):(putV a d v).env.length=a.env.length:=by cases d<;>simp[putV]
theorem Zc6(d:Option Tmp)(e:Ef)(a:St):(e.app d a).env.length=a.env.length:=by
 unfold Ef.app;split;exact VL ..;exact VL ..
 .cases d<;>simp
 .cases d<;>simp
 .rw[VL,Zlg]
 .exact VL ..
 .exact VL ..
 .exact VL ..
def Zss(v:V)(a:List V):V:=match v with| .lb _=> .lb a|v=>v
theorem Wj(c:St)(s:Nat)(d)(t:Nat):(Zd3 c s d).env.getD t .undef=if s=t then Zss (c.env.getD t .undef) d else c.env.getD t .undef:=by
 unfold Zd3;by_cases h:s=t
 .subst h;simp only[vG];split
  .rename_i b a;rw[Zbp];have:s<c.env.length:=by
    rcases Nat.lt_or_ge s c.env.length with h|h;exact h;simp[List.getD,List.getElem?_eq_none h]at a
   rw[uF ⟨rfl,this⟩,a]
   rfl
  .rename_i f;unfold Zss;split;rename_i b a;exact absurd a (f b);rfl
 .rw[uE h];split;rw[Zbp,uE (λe=>h e.1)];rfl
def Ef.val(e:Ef):Option V:=match e with
 | .skip=>some (.tup [])
 | .q (.val v)=>some v
 | .q (.ref _ _)=>some .rf
 | .box a=>some (.lb a)
 | .st _ _=>some .undef
 | .hp _ v=>some v
 | .al _ _ v=>some v
 | .nw _ _ v=>some v
theorem Zc7(d:Option Tmp)(e:Ef)(b)(t:Nat):(e.app d b).env.getD t .undef=
  if d=some t/\t<b.env.length then e.val.getD .undef else match e with
   | .st s f=>(Zd3 b s f).env.getD t .undef
   |_=>b.env.getD t .undef:=by
 have a: ∀(c:St) (v:V),(putV c d v).env.getD t .undef=if d=some t/\t<c.env.length then v else c.env.getD t .undef:=by
  intro c v
  cases d with
  |none=>simp[putV]
  |some d=>
   simp only[putV,Zbp,uB];by_cases h:d=t;subst h;simp;simp[h]
 unfold Ef.app
 cases e with
 |skip=>simp only[a];rfl
 |q q=>
  cases q with
  |val v=>simp only[a];rfl
  |ref s o=>
   cases d with
   |none=>simp
   |some d=>
    simp only[Zbp,uB];by_cases h:d=t;subst h;simp[Ef.val];simp[h]
 |box f=>
  cases d with
  |none=>simp
  |some d=>
   simp only[Zbp,uB];by_cases h:d=t;subst h;simp[Ef.val];simp[h]
 |st s f=>simp only[a,Zlg];rfl
 |hp h v=>simp only[a];rfl
 |al i o v=>simp only[a];rfl
 |nw i o v=>simp only[a];rfl
theorem Zbq(d:Option Tmp)(e:Ef)(a:St):(e.app d a).h=match e with| .hp h _=>h| .al i o _=>a.h.putAt i o| .nw i o _=>a.h.putM i o|_=>a.h:=by
 unfold Ef.app
 cases e with
 |q q=>cases q<;>cases d<;>rfl
 |box b=>cases d<;>rfl
 |st s b=>simp only[Zu9,ZEw]
 |_=>simp only[Zu9]
theorem VM(d:Option Tmp)(e:Ef)(a:St):(e.app d a).refs=match e,d with| .q (.ref s o),some d=>(d,s,o)::a.refs|_,_=>a.refs:=by
 unfold Ef.app
 cases e with
 |q q=>cases q<;>cases d<;>rfl
 |box b=>cases d<;>rfl
 |st s b=>simp only[Zfh,Zsr]
 |_=>simp only[Zfh]
structure Keeps(R:St->St->Prop)(touch:Oper->Ef×Foot->Prop):Prop where
 both: ∀(σ σ':St) (o:Oper) (x:Ef×Foot),R σ σ'->R (x.1.app o.dst σ) (x.1.app o.dst σ')
 left: ∀(σ σ':St) (o:Oper) (x:Ef×Foot),R σ σ'-> ¬touch o x->R (x.1.app o.dst σ) σ'
theorem Qt{R:St->St->Prop}{b:Oper->Ef×Foot->Prop}(e:Keeps R b)(f: ∀c a,R c a->R a c){S S':Nat->Bool} :
  ∀(k:Nat) (os:List Oper) (l:List (Ef×Foot)) (c a:St),R c a->(∀(j:Nat) (o:Oper) (x:Ef×Foot),os[j]? =some o->l[j]? =some x->b o x->S (k+j)=S' (k+j))->R (sst S k os l c) (sst S' k os l a)
 |k,[],l,c,a,h,_=>by cases l<;>simpa[sst]using h
 |k,o::r,[],c,a,h,_=>by simpa[sst]using h
 |k,o::r,x::l,c,a,h,m=>by
  simp only[sst];refine Qt e f (k+1) r l _ _ ?_ λj p q g i n=>by
   have:=m (j+1) p q (su g) (su i) n;simpa[uX,Nat.add_comm 1 j]using this
  by_cases d:b o x;have:=m 0 o x rfl rfl d;rw[Nat.add_zero]at this;rw[this];split;exact e.both _ _ _ _ h;exact h
  .cases g:S k<;>cases i:S' k
   .simpa using h
   .simpa using f _ _ (e.left _ _ o x (f _ _ h) d)
   .simpa using e.left _ _ o x h d
   .simpa using e.both _ _ o x h
def SL(b a:St):Prop:=b.env.length=a.env.length
def R1(t:Nat)(b a:St):Prop:=SL b a/\AgT b a t
def R3(s:Nat)(b a:St):Prop:=SL b a/\b.env.getD s .undef=a.env.getD s .undef
def R4(b a:St):Prop:=b.h=a.h
def R5(k:Nat)(b a:St):Prop:=b.h.get k=a.h.get k
def ZCx(t:Nat)(o:Oper)(_:Ef×Foot):Prop:=o.dst=some t
def ZCy(s:Nat)(o:Oper)(x:Ef×Foot):Prop:=o.dst=some s\/s∈x.1.stS
def Zlh(_:Oper)(x:Ef×Foot):Prop:=x.1.isHp=true\/x.1.nwI.isSome=true
def Zp9(k:Nat)(_:Oper)(x:Ef×Foot):Prop:=(x.1.isHp=true/\ ∀i,x.1.alI=some i->i=k)\/x.1.nwI=some k
theorem Agr.symm{v c}(h:Agr v c):Agr c v:=by
 rcases h with rfl|⟨a,b,d,e⟩;exact .inl rfl;exact .inr ⟨b,a,e,d⟩
theorem Agr.box{v v'}(h:Agr v v')(c):Agr (Zss v c) (Zss v' c):=by
 rcases h with rfl|⟨a,b,d,e⟩;exact .inl rfl;subst d e;exact .inl rfl
theorem ZEx(v)(a):Agr (Zss v a) v:=by
 unfold Zss;split;exact .inr ⟨_,_,rfl,rfl⟩;exact .inl rfl
theorem Agr.trans{a b c}(h:Agr a b)(g:Agr b c):Agr a c:=by
 rcases h with rfl|⟨x,y,d,e⟩;exact g;rcases g with rfl|⟨k,i,j,f⟩;exact .inr ⟨x,y,d,e⟩;exact .inr ⟨x,i,d,f⟩
theorem R1.keeps(t:Nat):Keeps (R1 t) (ZCx t) where
 both σ σ' o x h:=by
  obtain⟨b,a,c⟩:=h;refine⟨by unfold SL at*;rw[Zc6,Zc6];exact b,?_,?_⟩;rw[Zc7,Zc7];unfold SL at b;rw[b];split;exact .refl _;split;rw[Wj,Wj];split;exact a.box _;exact a;exact a;rw[VM,VM];split;simp only[Jg];split;rfl;exact c;exact c
 left σ σ' o x h ht:=by
  obtain⟨b,a,c⟩:=h;refine⟨by unfold SL at*;rw[Zc6];exact b,?_,?_⟩;rw[Zc7,uE (λg=>ht g.1)];split;rw[Wj];split;exact(ZEx _ _).trans a;exact a;exact a;rw[VM];split;rename_i d _ e;simp only[Jg];rw[uE (λf=>ht (by unfold ZCx;rw[e,f]))];exact c;exact c
theorem R3.keeps(s:Nat):Keeps (R3 s) (ZCy s) where
 both σ σ' o x h:=by
  obtain⟨a,b⟩:=h;refine⟨by unfold SL at*;rw[Zc6,Zc6];exact a,?_⟩;rw[Zc7,Zc7];unfold SL at a;rw[a];split;rfl;split;rw[Wj,Wj,b];exact b
 left σ σ' o x h ht:=by
  obtain⟨a,b⟩:=h;refine⟨by unfold SL at*;rw[Zc6];exact a,?_⟩;rw[Zc7,uE (λd=>ht (.inl d.1))];split;rename_i g f c;rw[Wj,uE];exact b;intro e;subst e;exact ht (.inr (by rw[c];simp[Ef.stS]));exact b
theorem R4.keeps:Keeps R4 Zlh where
 both σ σ' o x h:=by
  unfold R4 at*;rw[Zbq,Zbq];split;rfl;rw[h];rw[h];exact h
 left σ σ' o x h ht:=by
  unfold R4 at*;rw[Zbq];split;rename_i a;exact absurd (by unfold Zlh;rw[a];exact .inl rfl) ht;rename_i a;exact absurd (by unfold Zlh;rw[a];exact .inl rfl) ht;rename_i a;exact absurd (by unfold Zlh;rw[a];exact .inr rfl) ht;exact h
theorem Zfi(h:Heap)(i:Nat)(o:YObj)(k:Nat):(h.putAt i o).get k=if k=i then some o else h.get k:=by have:=Heap.get_push {h with nx:=i} o k;exact this
theorem R5.keeps(k:Nat):Keeps (R5 k) (Zp9 k) where
 both σ σ' o x h:=by
  unfold R5 at*;rw[Zbq,Zbq];split;rfl;rw[Zfi,Zfi,h];rw[Heap.putM_get,Heap.putM_get,h];exact h
 left σ σ' o x h ht:=by
  unfold R5 at*;rw[Zbq];split;rename_i a;exact absurd (by unfold Zp9;rw[a];exact .inl ⟨rfl,λi b=>by cases b⟩) ht;rename_i i d v a;rw[Zfi,uE];exact h;intro c;subst c;exact ht (by unfold Zp9;rw[a];exact .inl ⟨rfl,λi b=>by cases b;rfl⟩);rename_i i d v a;rw[Heap.putM_get,uE];exact h;intro c;subst c;exact ht (by unfold Zp9;rw[a];exact .inr rfl);exact h
theorem R1.symm{t:Nat}(σ a)(h:R1 t σ a):R1 t a σ:=⟨h.1.symm,h.2.env.symm,h.2.ref.symm⟩
theorem R3.symm{s:Nat}(σ a)(h:R3 s σ a):R3 s a σ:=⟨h.1.symm,h.2.symm⟩
theorem R4.symm(σ a)(h:R4 σ a):R4 a σ:=Eq.symm h
theorem R5.symm{k:Nat}(σ a)(h:R5 k σ a):R5 k a σ:=Eq.symm h
theorem R1.refl(t:Nat)(a):R1 t a a:=⟨rfl, .refl _,rfl⟩
theorem R3.refl(s:Nat)(a):R3 s a a:=⟨rfl,rfl⟩
/-! ### The text's order -/
theorem Lex.at: ∀ {os:List Oper} {σ a:St} {l:List (Ef×Foot)},Lex Y loc ops os σ l a-> ∀(k i:Nat) (o:Oper),os[i]? =some o->
  ∃x:Ef×Foot,l[i]? =some x/\Zz5 Y loc ops (sst (λ_=>true) k (os.take i) (l.take i) σ) o x.1/\x.2=Zao (sst (λ_=>true) k (os.take i) (l.take i) σ) o x.1/\Zfg (sst (λ_=>true) k (os.take i) (l.take i) σ) o x.1=true
 |_,_,_,_, .nil _,k,i,o,h=>by simp at h
 |_,_,_,_, .cons f r σ e l a d b c,k,0,o,h=>by
  simp at h;subst h;exact⟨(e,Zao σ f e),rfl,by simpa[sst]using d,by simp[sst],by simpa[sst]using b⟩
 |_,_,_,_, .cons f r σ e l a d b c,k,i+1,o,h=>by
  obtain⟨x,g,j⟩:=c.at (k+1) i o (su h);refine⟨x,su g,?_⟩;simpa[sst]using j
theorem Lex.length: ∀ {os:List Oper} {σ b:St} {l:List (Ef×Foot)},Lex Y loc ops os σ l b->l.length=os.length
 |_,_,_,_, .nil _=>rfl
 |_,_,_,_, .cons _ _ _ _ _ _ _ _ a=>by simp[a.length]
theorem Lex.sst: ∀ {os:List Oper} {a b:St} {l:List (Ef×Foot)},Lex Y loc ops os a l b-> ∀(k:Nat) (S:Nat->Bool),(∀j,j<os.length->S (k+j)=true)->Go.Y.sst S k os l a=b
 |_,_,_,_, .nil _,k,S,_=>rfl
 |_,_,_,_, .cons o r a e l b _ _ f,k,S,h=>by
  simp only[Go.Y.sst];have c:=h 0 sm;rw[Nat.add_zero]at c;rw[uF c];exact f.sst (k+1) S λj d=>by
   have:=h (j+1) (su d);simpa[uX,Nat.add_comm 1 j]using this
theorem Vm(S:Nat->Bool): ∀(i k:Nat) (os:List Oper) (l:List (Ef×Foot)) (c:St) (o:Oper) (x:Ef×Foot),os[i]? =some o->l[i]? =some x->
  sst S k os l c=sst S (k+i+1) (os.drop (i+1)) (l.drop (i+1)) (if S (k+i)then x.1.app o.dst (sst S k (os.take i) (l.take i) c)else sst S k (os.take i) (l.take i) c)
 |0,k,e::r,f::l,c,o,x,a,b=>by
  simp at a b;subst a b;simp[sst]
 |i+1,k,e::r,f::l,c,o,x,a,b=>by
  simp only[sst,List.take_succ_cons,List.drop_succ_cons];rw[Vm S i (k+1) r l _ o x (su a) (su b)];have d:k+1+i=k+(i+1):=om;rw[d]
 |_,_,[],_,_,_,_,a,_=>by simp at a
 |_,_,_::_,[],_,_,_,_,b=>by simp at b
end
section
variable {Y:YP} {loc:Nat->Bool} {ops:Array Oper}
/-! ### Who waits for whom -/
theorem Zhk(a:List Nat)(i:Nat): ∀(c:List Edge) (m:Nat),(c.foldl (λm e=>if Region.binds .any e then m|||(1<<<e.on)|||a.getD e.on 0 else m) m).testBit i=true->
  m.testBit i=true\/ ∃e∈c,Region.binds .any e=true/\(e.on=i\/(a.getD e.on 0).testBit i=true)
 | [],m,h=> .inl h
 |e::c,m,h=>by
  simp only[uR]at h;rcases Zhk a i c _ h with b|⟨e',b,f⟩;split at b;rename_i d;simp only[Nat.testBit_or,uS]at b;rcases b with (b|b)|b;exact .inl b;refine .inr ⟨e,sm,d, .inl ?_⟩;rw[Nat.one_shiftLeft,Nat.testBit_two_pow]at b;simpa using b;exact .inr ⟨e,sm,d, .inr b⟩;exact .inl b;exact .inr ⟨e',by simp[b],f⟩
theorem Zod{a:List Nat}{o:Oper}{i:Nat}(h:(Zhj a o).testBit i=true): ∃e∈o.after,Region.binds .any e=true/\(e.on=i\/(a.getD e.on 0).testBit i=true):=by
 rcases Zhk a i _ _ h with b|⟨e,b,c⟩;simp at b;exact⟨e,su b,c⟩
theorem Zfj: ∀(os:List Oper) (a:List Nat),(JT a os).take a.length=a
 | [],a=>by simp[JT]
 |o::r,a=>by
  have:=Zfj r (a++ [Zhj a o]);simp only[JT];have b:=congrArg (List.take a.length) this;rw[List.take_take,List.length_append,Nat.min_eq_left sm,List.take_left']at b;exact b;rfl
theorem Zhl: ∀(os:List Oper) (a:List Nat) (j:Nat) (o:Oper),os[j]? =some o->(JT a os).getD (a.length+j) 0=Zhj ((JT a os).take (a.length+j)) o
 | [],a,j,o,h=>by simp at h
 |c::r,a,0,o,h=>by
  simp at h;subst h;simp only[JT,Nat.add_zero];have d:=Zfj r (a++ [Zhj a c]);have f:=congrArg (List.take a.length) d;rw[List.take_take,List.length_append,Nat.min_eq_left sm,List.take_left' rfl]at f;rw[f];have b:=congrArg (λl=>l[a.length]?) d;simp only[List.length_append,List.length_cons,List.length_nil,uJ]at b;rw[List.getElem?_take]at b;simp at b;rw[List.getD_eq_getElem?_getD,b]
  rfl
 |c::r,a,j+1,o,h=>by
  have:=Zhl r (a++ [Zhj a c]) j o (su h);simp only[List.length_append,List.length_cons,List.length_nil,uJ]at this;simp only[JT];have e:a.length+(j+1)=a.length+1+j:=om;rw[e];exact this
theorem Zc8{c:List Oper}{d:List Foot}{g} : ∀(os:List Oper) (l:List Foot) (j:Nat),Zff ops c d g j os l=true-> ∀(i:Nat) (o:Oper) (f:Foot),os[i]? =some o->l[i]? =some f->
  chk1 ops o f (g.getD (j+i) 0) 0 (c.take (j+i)) (d.take (j+i))=true/\ ∀e∈o.after,Region.binds .any e=true->e.on<j+i
 | [],_,_,_,i,_,_,a,_=>by simp at a
 |_::_,[],_,_,i,_,_,_,b=>by simp at b
 |p::r,k::l,j,h,0,o,f,a,b=>by
  simp only[Zff,uH]at h;simp at a b;subst a b;refine⟨h.1.1,λe n m=> ?_⟩;have:=uP.1 h.1.2 e (su n);rw[m]at this;simpa using this
 |p::r,k::l,j,h,i+1,o,f,a,b=>by
  simp only[Zff,uH]at h;have:=Zc8 r l (j+1) h.2 i o f (su a) (su b);have e:j+(i+1)=j+1+i:=om;rw[e];exact this
theorem Zva{g}{d:Foot}{m:Nat} : ∀(os:List Oper) (l:List Foot) (k:Nat),chk1 ops g d m k os l=true-> ∀(i:Nat) (o:Oper) (f:Foot),os[i]? =some o->l[i]? =some f->
  Qj ops o g f d=true->m.testBit (k+i)=true
 | [],_,_,_,i,_,_,a,_,_=>by simp at a
 |_::_,[],_,_,i,_,_,_,b,_=>by simp at b
 |n::r,j::l,k,h,0,o,f,a,b,c=>by
  simp only[chk1,uH]at h;simp at a b;subst a b;have:=h.1;rw[c]at this;simpa using this
 |n::r,j::l,k,h,i+1,o,f,a,b,c=>by
  simp only[chk1,uH]at h;have:=Zva r l (k+1) h.2 i o f (su a) (su b) c;have e:k+(i+1)=k+1+i:=om;rw[e];exact this
def Zbr(ops:Array Oper)(S:Nat->Bool):Prop:= ∀(j:Nat) (o:Oper),ops[j]? =some o->S j=true-> ∀e∈o.after,Region.binds .any e=true->S e.on=true
structure Ord(ops:Array Oper)(l:List (Ef×Foot)):Prop where
 cl: ∀(S:Nat->Bool),Zbr ops S-> ∀(i j:Nat) (oi oj:Oper) (xi xj:Ef×Foot),i<j->ops[i]? =some oi->ops[j]? =some oj->l[i]? =some xi->l[j]? =some xj->Qj ops oi oj xi.2 xj.2=true->S j=true->S i=true
 cr: ∀(S:Nat->Bool),Zbr ops S-> ∀(i j:Nat) (oi oj:Oper) (xi xj:Ef×Foot),i<j->ops[i]? =some oi->ops[j]? =some oj->l[i]? =some xi->l[j]? =some xj->Qj ops oi oj xi.2 xj.2=true->(∀e∈oj.after,Region.binds .any e=true->S e.on=true)->S i=true
 lt: ∀(j:Nat) (o:Oper),ops[j]? =some o-> ∀e∈o.after,Region.binds .any e=true->e.on<j
theorem ZI7{l:List (Ef×Foot)}(G:l.length=ops.size)(h:chk ops (l.map (·.2))=true):Ord ops l:=by
 unfold chk at h;have B: ∀(j:Nat) (o:Oper),ops[j]? =some o-> ∃x,l[j]? =some x:=by
  intro j o f;have:j<l.length:=by
   rw[G];exact(Array.getElem?_eq_some_iff.1 f).1
  exact⟨l[j],by simp[this]⟩
 have w: ∀(j:Nat) (o:Oper),ops[j]? =some o-> ∀e∈o.after,Region.binds .any e=true->e.on<j:=by
  intro j o f e A z;obtain⟨x,H⟩:=B j o f;have:=(Zc8 _ _ 0 h j o x.2 (su f) (by simp[H])).2 e A z;simpa using this
 have k: ∀(S:Nat->Bool),Zbr ops S-> ∀(j:Nat) (o:Oper) (i:Nat),ops[j]? =some o->(∀e∈o.after,Region.binds .any e=true->S e.on=true)->((JT [] ops.toList).getD j 0).testBit i=true->S i=true:=by
  intro S q j
  induction j using Nat.strongRecOn with
  |_ j K=>
   intro o i f a z;have y:=Zhl ops.toList [] j o (su f);simp only[List.length_nil,uJ]at y;rw[y]at z;obtain⟨e,A,v,g⟩:=Zod z;have D:=a e A v;have E:=w j o f e A v;rcases g with rfl|g;exact D;rw[List.getD_eq_getElem?_getD,List.getElem?_take,uF E,<-List.getD_eq_getElem?_getD]at g;have L:j<ops.size:=(Array.getElem?_eq_some_iff.1 f).1;have F:ops[e.on]? =some ops[e.on]:=sm;exact K e.on E _ i F (q e.on _ F D) g
 have u: ∀(S:Nat->Bool),Zbr ops S-> ∀(i j:Nat) (r d:Oper) (s t:Ef×Foot),i<j->ops[i]? =some r->ops[j]? =some d->l[i]? =some s->l[j]? =some t->Qj ops r d s.2 t.2=true->(∀e∈d.after,Region.binds .any e=true->S e.on=true)->S i=true:=by
  intro S q i j r d s t c m b n p C a;have y:=(Zc8 _ _ 0 h j d t.2 (su b) (by simp[p])).1;have g:=Zva _ _ 0 y i r s.2 (by rw[uJ,List.getElem?_take,uF c];simpa using m) (by rw[uJ,List.getElem?_take,uF c];simp[n]) C;simp only[uJ]at g;exact k S q j d i b a g
 exact⟨λS q i j r d s t c m b n p C a=>u S q i j r d s t c m b n p C (q j d b a),u,w⟩
theorem QL: ∀(k:Nat) (os:List Oper) (l:List (Ef×Foot)) (a:St) (S:Nat->Bool),(∀j,S (k+j)=false)->sst S k os l a=a
 |_,[],l,_,_,_=>by cases l<;>rfl
 |_,_::_,[],_,_,_=>rfl
 |k,o::r,x::l,a,S,h=>by
  simp only[sst];have b:=h 0;rw[Nat.add_zero]at b;rw[uE (by simp[b])];exact QL (k+1) r l a S λj=>by have:=h (j+1);simpa[uX,Nat.add_comm 1 j]using this
theorem Wl: ∀(k:Nat) (os:List Oper) (l:List (Ef×Foot)) (a:St) (S S':Nat->Bool),(∀j,j<os.length->S (k+j)=S' (k+j))->sst S k os l a=sst S' k os l a
 |_,[],l,_,_,_,_=>by cases l<;>rfl
 |_,_::_,[],_,_,_,_=>rfl
 |k,o::r,x::l,a,S,S',h=>by
  simp only[sst];have b:=h 0 sm;rw[Nat.add_zero]at b;rw[b];exact Wl (k+1) r l _ S S' λj c=>by have:=h (j+1) (su c);simpa[uX,Nat.add_comm 1 j]using this
theorem Zbs: ∀(k:Nat) (os:List Oper) (l:List (Ef×Foot)) (c:St) (S:Nat->Bool) (x:Nat×Nat×Nat),x∈(sst S k os l c).refs↔
  x∈c.refs\/ ∃(j:Nat) (o:Oper) (y:Ef×Foot),os[j]? =some o/\l[j]? =some y/\S (k+j)=true/\o.dst=some x.1/\y.1= .q (.ref x.2.1 x.2.2)
 |_,[],l,c,_,x=>by cases l<;>simp[sst]
 |_,_::_,[],c,_,x=>by simp[sst]
 |k,o::r,y::l,c,S,x=>by
  simp only[sst];rw[Zbs (k+1) r l _ S x];have e:x∈(if S k then y.1.app o.dst c else c).refs↔x∈c.refs\/(S k=true/\o.dst=some x.1/\y.1= .q (.ref x.2.1 x.2.2)):=by
   cases i:S k with
   |false=>simp
   |true=>
    simp only[vG,true_and];rw[VM];obtain⟨m,n,p⟩:=x;split;rename_i s g d a b;simp only[List.mem_cons,uL,a,b,uB,Ef.q.injEq,Q.ref.injEq];constructor;rintro(⟨rfl,rfl,rfl⟩|h);exact .inr ⟨rfl,rfl,rfl⟩;exact .inl h;rintro(h|⟨rfl,rfl,rfl⟩);exact .inr h;exact .inl ⟨rfl,rfl,rfl⟩;rename_i f;constructor;exact .inl;rintro(h|⟨a,b⟩);exact h;exact(f _ _ _ b a).elim
  rw[e];constructor;rintro((h|⟨a,b⟩)|⟨j,o',y',a,b,h3,h4⟩);exact .inl h;exact .inr ⟨0,o,y,rfl,rfl,su a,b⟩;exact .inr ⟨j+1,o',y',su a,su b,by rw[<-h3];congr 1;omega,h4⟩
  .rintro(h|⟨j,o',y',a,b,h3,h4⟩);exact .inl (.inl h)
   .cases j with
    |zero=>simp at a b;subst a b;exact .inl (.inr ⟨su h3,h4⟩)
    |succ j=>exact .inr ⟨j,o',y',su a,su b,by rw[<-h3];congr 1;omega,h4⟩
theorem Rel.ext{W}{c b:St}{a:Act}{w}(h:Rel W c a w)(f:b.env=c.env)(g:b.h=c.h)(i: ∀x,x∈b.refs->x∈c.refs):Rel W b a w:=by
 obtain⟨e,r,l⟩:=c;obtain⟨e',m,k⟩:=b;simp only at f g i;subst f g;exact⟨h.heap,h.size,h.env,h.box,λd s o j=>h.refs d s o (i _ j),h.defers⟩
theorem ZEy{l m:List V}(c:l.length=m.length)(h: ∀t,l.getD t .undef=m.getD t .undef):l=m:=by
 apply List.ext_getElem c;intro i a b;have:=h i;simp only[List.getD_eq_getElem?_getD,List.getElem?_eq_getElem a,List.getElem?_eq_getElem b]at this;simpa using this
theorem Zli{e c:List V}{o:Oper}{j:Nat}{f:Bool}(l:o.guard=some (j,f)){d:Nat}(k:(ops[j]?).bind (·.dst)=some d)(h:Agr (e.getD d .undef) (c.getD d .undef)):JG ops c o=JG ops e o:=by
 simp only[JG,l,k];rcases h with h|⟨a,b,g,i⟩;rw[h];rw[g,i]
theorem Zvb{o:Oper}{t:Nat}(h:t∈Zlc o):t∈o.looksAt ops:=List.mem_append_left _ h
theorem Zoe{o:Oper}{j:Nat}{a:Bool}(c:o.guard=some (j,a)){d:Nat}(b:(ops[j]?).bind (·.dst)=some d):d∈o.looksAt ops:=by
 unfold Oper.looksAt;rw[c];exact List.mem_append_right _ (by simp[b])
theorem Zc9{e c:Oper}{f b:Foot}{d:Nat}(a:e.dst=some d)(h:d∈c.looksAt ops\/c.dst=some d\/d∈b.t\/d∈b.r):Qj ops e c f b=true:=by
 unfold Qj;simp only[uS];rcases h with h|h|h|h;refine .inl (.inl (.inl (.inl (.inl (.inl (.inl ?_))))));simp[Oper.apart,a,h];refine .inl (.inl (.inl (.inl (.inl (.inl (.inl ?_))))));simp[Oper.apart,a,h];refine .inl (.inl (.inl (.inl (.inl (.inl (.inr ?_))))));simp[hit,a,h];refine .inl (.inl (.inl (.inl (.inl (.inl (.inr ?_))))));simp[hit,a,h]
theorem Zof{c e:Oper}{b f:Foot}{d:Nat}(a:e.dst=some d)(h:d∈c.looksAt ops\/c.dst=some d\/d∈b.t\/d∈b.r):Qj ops c e b f=true:=by
 unfold Qj;simp only[uS];rcases h with h|h|h|h;refine .inl (.inl (.inl (.inl (.inl (.inl (.inl ?_))))));simp[Oper.apart,a,h];refine .inl (.inl (.inl (.inl (.inl (.inl (.inl ?_))))));simp[Oper.apart,a,h];refine .inl (.inl (.inl (.inl (.inl (.inr ?_)))));simp[hit,a,h];refine .inl (.inl (.inl (.inl (.inl (.inr ?_)))));simp[hit,a,h]
theorem Zqa{e f}{a b:Foot}{s:Nat}(c:s∈a.w)(d:s∈b.r):Qj ops e f a b=true:=by
 unfold Qj;simp only[uS];refine .inl (.inl (.inl (.inl (.inr ?_))));simp only[Zz4,List.any_eq_true];exact⟨s,c,su d⟩
theorem Zz6{e f}{a b:Foot}{s:Nat}(c:s∈b.w)(d:s∈a.r):Qj ops e f a b=true:=by
 unfold Qj;simp only[uS];refine .inl (.inl (.inl (.inr ?_)));simp only[Zz4,List.any_eq_true];exact⟨s,c,su d⟩
theorem Zja{e f}{a b:Foot}(c:a.hw=true)(d:b.hr=true):Qj ops e f a b=true:=by unfold Qj;simp[c,d]
theorem Zqb{b c:Foot}{k:Nat}(e:b.hw=true)(f: ∀i,b.al=some i->i=k)(d:k∈c.ro):Zoc b c=true:=by
 unfold Zoc;rw[e];split;rename_i i g;rw[f i g];simpa using d
 .cases h:c.ro with
  |nil=>rw[h]at d;cases d
  |cons a l=>rfl
theorem Zz7{f g}{a b:Foot}{k:Nat}(c:a.hw=true)(d: ∀i,a.al=some i->i=k)(e:k∈b.ro):Qj ops f g a b=true:=by unfold Qj;simp[Zqb c d e]
theorem Zz8{f g}{b a:Foot}{k:Nat}(c:a.hw=true)(d: ∀i,a.al=some i->i=k)(e:k∈b.ro):Qj ops f g b a=true:=by unfold Qj;simp[Zqb c d e]
theorem WE{e f}{b a:Foot}{k:Nat}(c:b.nw=some k)(d:a.hr=true\/k∈a.ro):Qj ops e f b a=true:=by
 unfold Qj;have:news b a=true:=by
  unfold news;rw[c];simp only[uS];exact d.imp id λh=>su h
 simp[this]
theorem VN{e f}{a b:Foot}{k:Nat}(c:b.nw=some k)(d:a.hr=true\/k∈a.ro):Qj ops e f a b=true:=by
 unfold Qj;have:news b a=true:=by
  unfold news;rw[c];simp only[uS];exact d.imp id λh=>su h
 simp[this]
theorem Zz9{e f}{a b:Foot}(c:b.hw=true)(d:a.hr=true):Qj ops e f a b=true:=by unfold Qj;simp[c,d]
end
end Go.Y
