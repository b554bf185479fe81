/- A part of the proof. -/
import Derived.Test.YteennilbmmlikaaGreatDoorYEff
namespace Go.Y
set_option maxRecDepth 1000000
set_option maxHeartbeats 0
structure Foot where
 t:List Nat
 r:List Nat
 w:List Nat
 hr:Bool
 hw:Bool
 ro:List Nat
 al:Option Nat
 nw:Option Nat
 deriving Inhabited
def Ef.isHp:Ef->Bool| .hp _ _=>true| .al _ _ _=>true|_=>false
def Ef.alI:Ef->Option Nat| .al i _ _=>some i|_=>none
def Ef.nwI:Ef->Option Nat| .nw i _ _=>some i|_=>none
def Ef.stS:Ef->List Nat| .st s _=> [s]|_=> []
def Ef.refS:Ef->List Nat| .q (.ref s _)=> [s]|_=> []
def Zaj(a:St)(o:Oper)(e:Ef):Foot:=
 {t:=(Zkq o).filterMap (ZDr a)++e.refS,r:=boxR a o++e.stS,w:=e.stS,hr:=Zt6 a o||e.isHp,hw:=e.isHp,ro:=objR a o,al:=e.alI,nw:=e.nwI}
def hit(d:Option Tmp)(l:List Nat):Bool:=match d with|some d=>l.contains d|none=>false
def Zyx(l m:List Nat):Bool:=l.any λx=>m.contains x
def Znk(c a:Foot):Bool:=c.hw&&match c.al with
 |some i=>a.ro.contains i
 |none=> !a.ro.isEmpty
def news(c a:Foot):Bool:=match c.nw with
 |some i=>a.hr||a.ro.contains i
 |none=>false
def Qj(ops:Array Oper)(e d:Oper)(c a:Foot):Bool:=
 !e.apart ops d||hit e.dst (a.t++a.r)||hit d.dst (c.t++c.r)||Zyx c.w a.r||Zyx a.w c.r||(c.hw&&a.hr)||(a.hw&&c.hr)||(Znk c a||Znk a c||news c a||news a c)
def Zha(a:List Nat)(o:Oper):Nat:=
 o.after.toList.foldl (λm e=>if Region.binds .any e then m|||(1<<<e.on)|||a.getD e.on 0 else m) 0
def JS:List Nat->List Oper->List Nat
 |a,[]=>a
 |a,o::r=>JS (a++ [Zha a o]) r
def chk1(ops:Array Oper)(c:Oper)(a:Foot)(m:Nat):Nat->List Oper->List Foot->Bool
 |i,o::r,f::l=>(!Qj ops o c f a||m.testBit i)&&chk1 ops c a m (i+1) r l
 |_,_,_=>true
def Ze1(ops:Array Oper)(all:List Oper)(c:List Foot)(a:List Nat):Nat->List Oper->List Foot->Bool
 |j,o::r,f::l=>chk1 ops o f (a.getD j 0) 0 (all.take j) (c.take j)&&(o.after.toList.all λe=> !Region.binds .any e||decide (e.on<j))&&Ze1 ops all c a (j+1) r l
 |_,_,_=>true
def chk(ops:Array Oper)(a:List Foot):Bool:=Ze1 ops ops.toList a (JS [] ops.toList) 0 ops.toList a
section
variable {Y:YP} {loc:Nat->Bool} {ops:Array Oper}
def Zyy(Y:YP)(loc:Nat->Bool)(ops:Array Oper)(a:St)(o:Oper)(e:Ef):Prop:=
 (JG ops a.env o=some false/\e= .skip)\/(JG ops a.env o=some true/\StepE Y loc a o e)
def Ze2(a:St)(o:Oper)(e:Ef):Bool:=match e,o.dst with
 | .q (.ref _ _),some d=>a.refs.all λx=>x.1 !=d
 | .box _,some d=>a.refs.all λx=>x.2.1 !=d
 |_,_=>true
inductive Lex (Y:YP) (loc:Nat->Bool) (ops:Array Oper):List Oper->St->List (Ef×Foot)->St->Prop
 |nil (σ:St):Lex Y loc ops [] σ [] σ
 |cons (o:Oper) (r:List Oper) (σ:St) (e:Ef) (l:List (Ef×Foot)) (τ:St) (h:Zyy Y loc ops σ o e) (hk:Ze2 σ o e=true) (hl:Lex Y loc ops r (e.app o.dst σ) l τ):
   Lex Y loc ops (o::r) σ ((e,Zaj σ o e)::l) τ
def sst(S:Nat->Bool):Nat->List Oper->List (Ef×Foot)->St->St
 |k,o::r,x::l,a=>sst S (k+1) r l (if S k then x.1.app o.dst a else a)
 |_,_,_,a=>a
/-! ### What an effect Znk -/
theorem Zbk(l:List V)(i j:Nat)(v):(l.set i v).getD j .undef=if i=j/\i<l.length then v else l.getD j .undef:=by
 simp only[List.getD_eq_getElem?_getD,List.getElem?_set];by_cases h:i=j
 .subst h;by_cases a:i<l.length
  .simp[a]
  .simp[a]
 .simp[h]
theorem Zpn(a:St)(d:Option Tmp)(v):(putV a d v).env=match d with|some d=>a.env.set d v|none=>a.env:=by cases d<;>rfl
theorem Zua(a:St)(d:Option Tmp)(v):(putV a d v).h=a.h:=by cases d<;>rfl
theorem Ze3(a:St)(d:Option Tmp)(v):(putV a d v).refs=a.refs:=by cases d<;>rfl
theorem ZDs(a:St)(s:Nat)(c):(Zdu a s c).h=a.h:=by unfold Zdu;split<;>rfl
theorem Zrs(a:St)(s:Nat)(c):(Zdu a s c).refs=a.refs:=by unfold Zdu;split<;>rfl
theorem Zku(a:St)(s:Nat)(c):(Zdu a s c).env.length=a.env.length:=by unfold Zdu;split<;>simp
theorem VI(a:St)(d:Option Tmp)(v):(putV a d v).env.length=a.env.length:=by cases d<;>simp[putV]
theorem Zcy(d:Option Tmp)(e:Ef)(a:St):(e.app d a).env.length=a.env.length:=by
 unfold Ef.app;split
 .exact VI ..
 .exact VI ..
 .cases d<;>simp
 .cases d<;>simp
 .rw[VI,Zku]
 .exact VI ..
 .exact VI ..
 .exact VI ..
def Zrt(v:V)(a:List V):V:=match v with| .lb _=> .lb a|v=>v
theorem Wi(c:St)(s:Nat)(e)(t:Nat):(Zdu c s e).env.getD t .undef=if s=t then Zrt (c.env.getD t .undef) e else c.env.getD t .undef:=by
 unfold Zdu;by_cases h:s=t
 .subst h;simp only[vG];split
  .rename_i d a;rw[Zbk];have:s<c.env.length:=by
    rcases Nat.lt_or_ge s c.env.length with h|h
    .exact h
    .simp[List.getD,List.getElem?_eq_none h]at a
   rw[uF ⟨rfl,this⟩,a]
   rfl
  .rename_i g;unfold Zrt;split
   .rename_i d a;exact absurd a (g d)
   .rfl
 .rw[uE h];split
  .rw[Zbk,uE (λf=>h f.1)]
  .rfl
def Ef.val(e:Ef):Option V:=match e with
 | .skip=>some (.tup [])
 | .q (.val v)=>some v
 | .q (.ref _ _)=>some .rf
 | .box a=>some (.lb a)
 | .st _ _=>some .undef
 | .hp _ v=>some v
 | .al _ _ v=>some v
 | .nw _ _ v=>some v
theorem Zcz(d:Option Tmp)(e:Ef)(c)(t:Nat):(e.app d c).env.getD t .undef=
  if d=some t/\t<c.env.length then e.val.getD .undef else match e with
   | .st s g=>(Zdu c s g).env.getD t .undef
   |_=>c.env.getD t .undef:=by
 have a: ∀(f:St) (v:V),(putV f d v).env.getD t .undef=if d=some t/\t<f.env.length then v else f.env.getD t .undef:=by
  intro f v
  cases d with
  |none=>simp[putV]
  |some d=>
   simp only[putV,Zbk,uB];by_cases h:d=t
   .subst h;simp
   .simp[h]
 unfold Ef.app
 cases e with
 |skip=>simp only[a];rfl
 |q q=>
  cases q with
  |val v=>simp only[a];rfl
  |ref s o=>
   cases d with
   |none=>simp
   |some d=>
    simp only[Zbk,uB];by_cases h:d=t
    .subst h;simp[Ef.val]
    .simp[h]
 |box g=>
  cases d with
  |none=>simp
  |some d=>
   simp only[Zbk,uB];by_cases h:d=t
   .subst h;simp[Ef.val]
   .simp[h]
 |st s g=>simp only[a,Zku];rfl
 |hp h v=>simp only[a];rfl
 |al i o v=>simp only[a];rfl
 |nw i o v=>simp only[a];rfl
theorem Zbl(d:Option Tmp)(e:Ef)(a:St):(e.app d a).h=match e with| .hp h _=>h| .al i o _=>a.h.putAt i o| .nw i o _=>a.h.putM i o|_=>a.h:=by
 unfold Ef.app
 cases e with
 |q q=>cases q<;>cases d<;>rfl
 |box c=>cases d<;>rfl
 |st s c=>simp only[Zua,ZDs]
 |_=>simp only[Zua]
theorem VJ(d:Option Tmp)(e:Ef)(a:St):(e.app d a).refs=match e,d with| .q (.ref s o),some d=>(d,s,o)::a.refs|_,_=>a.refs:=by
 unfold Ef.app
 cases e with
 |q q=>cases q<;>cases d<;>rfl
 |box c=>cases d<;>rfl
 |st s c=>simp only[Ze3,Zrs]
 |_=>simp only[Ze3]
structure Keeps(R:St->St->Prop)(touch:Oper->Ef×Foot->Prop):Prop where
 both: ∀(σ σ':St) (o:Oper) (x:Ef×Foot),R σ σ'->R (x.1.app o.dst σ) (x.1.app o.dst σ')
 left: ∀(σ σ':St) (o:Oper) (x:Ef×Foot),R σ σ'-> ¬touch o x->R (x.1.app o.dst σ) σ'
theorem Qu{R:St->St->Prop}{c:Oper->Ef×Foot->Prop}(f:Keeps R c)(g: ∀d a,R d a->R a d){S S':Nat->Bool} :
  ∀(k:Nat) (os:List Oper) (l:List (Ef×Foot)) (d a:St),R d a->(∀(j:Nat) (o:Oper) (x:Ef×Foot),os[j]? =some o->l[j]? =some x->c o x->S (k+j)=S' (k+j))->R (sst S k os l d) (sst S' k os l a)
 |k,[],l,d,a,h,_=>by cases l<;>simpa[sst]using h
 |k,o::r,[],d,a,h,_=>by simpa[sst]using h
 |k,o::r,x::l,d,a,h,m=>by
  simp only[sst];refine Qu f g (k+1) r l _ _ ?_ λj v w n t u=>by
   have:=m (j+1) v w (by simpa using n) (by simpa using t) u;simpa[uX,Nat.add_comm 1 j]using this
  by_cases e:c o x
  .have:=m 0 o x rfl rfl e;rw[Nat.add_zero]at this;rw[this];split
   .exact f.both _ _ _ _ h
   .exact h
  .cases n:S k<;>cases t:S' k
   .simpa using h
   .simpa using g _ _ (f.left _ _ o x (g _ _ h) e)
   .simpa using f.left _ _ o x h e
   .simpa using f.both _ _ o x h
def SL(c a:St):Prop:=c.env.length=a.env.length
def R1(t:Nat)(c a:St):Prop:=SL c a/\AgT c a t
def R3(s:Nat)(c a:St):Prop:=SL c a/\c.env.getD s .undef=a.env.getD s .undef
def R4(c a:St):Prop:=c.h=a.h
def R5(k:Nat)(c a:St):Prop:=c.h.get k=a.h.get k
def ZBq(t:Nat)(o:Oper)(_:Ef×Foot):Prop:=o.dst=some t
def ZBr(s:Nat)(o:Oper)(x:Ef×Foot):Prop:=o.dst=some s\/s∈x.1.stS
def Zkv(_:Oper)(x:Ef×Foot):Prop:=x.1.isHp=true\/x.1.nwI.isSome=true
def Zpo(k:Nat)(_:Oper)(x:Ef×Foot):Prop:=(x.1.isHp=true/\ ∀i,x.1.alI=some i->i=k)\/x.1.nwI=some k
theorem Agr.symm{v c}(h:Agr v c):Agr c v:=by
 rcases h with rfl|⟨a,b,d,e⟩
 .exact .inl rfl
 .exact .inr ⟨b,a,e,d⟩
theorem Agr.box{v v'}(h:Agr v v')(c):Agr (Zrt v c) (Zrt v' c):=by
 rcases h with rfl|⟨a,b,d,e⟩
 .exact .inl rfl
 .subst d e;exact .inl rfl
theorem ZDt(v)(a):Agr (Zrt v a) v:=by
 unfold Zrt;split
 .exact .inr ⟨_,_,rfl,rfl⟩
 .exact .inl rfl
theorem Agr.trans{a b c}(h:Agr a b)(g:Agr b c):Agr a c:=by
 rcases h with rfl|⟨x,y,d,j⟩
 .exact g
 .rcases g with rfl|⟨k,e,l,f⟩
  .exact .inr ⟨x,y,d,j⟩
  .exact .inr ⟨x,e,d,f⟩
theorem R1.keeps(t:Nat):Keeps (R1 t) (ZBq t) where
 both σ σ' o x h:=by
  obtain⟨c,a,e⟩:=h;refine⟨by unfold SL at*;rw[Zcy,Zcy];exact c,?_,?_⟩
  .rw[Zcz,Zcz];unfold SL at c;rw[c];split
   .exact .refl _
   .split
    .rw[Wi,Wi];split
     .exact a.box _
     .exact a
    .exact a
  .rw[VJ,VJ];split
   .simp only[Ji];split
    .rfl
    .exact e
   .exact e
 left σ σ' o x h ht:=by
  obtain⟨c,a,e⟩:=h;refine⟨by unfold SL at*;rw[Zcy];exact c,?_,?_⟩
  .rw[Zcz,uE (λj=>ht j.1)];split
   .rw[Wi];split
    .exact(ZDt _ _).trans a
    .exact a
   .exact a
  .rw[VJ];split
   .rename_i d _ g;simp only[Ji];rw[uE (λf=>ht (by unfold ZBq;rw[g,f]))];exact e
   .exact e
theorem R3.keeps(s:Nat):Keeps (R3 s) (ZBr s) where
 both σ σ' o x h:=by
  obtain⟨c,a⟩:=h;refine⟨by unfold SL at*;rw[Zcy,Zcy];exact c,?_⟩;rw[Zcz,Zcz];unfold SL at c;rw[c];split
  .rfl
  .split
   .rw[Wi,Wi,a]
   .exact a
 left σ σ' o x h ht:=by
  obtain⟨c,a⟩:=h;refine⟨by unfold SL at*;rw[Zcy];exact c,?_⟩;rw[Zcz,uE (λf=>ht (.inl f.1))];split
  .rename_i j g e;rw[Wi,uE]
   .exact a
   .intro d;subst d;exact ht (.inr (by rw[e];simp[Ef.stS]))
  .exact a
theorem R4.keeps:Keeps R4 Zkv where
 both σ σ' o x h:=by
  unfold R4 at*;rw[Zbl,Zbl];split
  .rfl
  .rw[h]
  .rw[h]
  .exact h
 left σ σ' o x h ht:=by
  unfold R4 at*;rw[Zbl];split
  .rename_i a;exact absurd (by unfold Zkv;rw[a];exact .inl rfl) ht
  .rename_i a;exact absurd (by unfold Zkv;rw[a];exact .inl rfl) ht
  .rename_i a;exact absurd (by unfold Zkv;rw[a];exact .inr rfl) ht
  .exact h
theorem Ze4(h:Heap)(i:Nat)(o:YObj)(k:Nat):(h.putAt i o).get k=if k=i then some o else h.get k:=by
 have:=Heap.get_push {h with nx:=i} o k;exact this
theorem R5.keeps(k:Nat):Keeps (R5 k) (Zpo k) where
 both σ σ' o x h:=by
  unfold R5 at*;rw[Zbl,Zbl];split
  .rfl
  .rw[Ze4,Ze4,h]
  .rw[Heap.putM_get,Heap.putM_get,h]
  .exact h
 left σ σ' o x h ht:=by
  unfold R5 at*;rw[Zbl];split
  .rename_i a;exact absurd (by unfold Zpo;rw[a];exact .inl ⟨rfl,λi d=>by cases d⟩) ht
  .rename_i i e v a;rw[Ze4,uE]
   .exact h
   .intro c;subst c;exact ht (by unfold Zpo;rw[a];exact .inl ⟨rfl,λi d=>by cases d;rfl⟩)
  .rename_i i e v a;rw[Heap.putM_get,uE]
   .exact h
   .intro c;subst c;exact ht (by unfold Zpo;rw[a];exact .inr rfl)
  .exact h
theorem R1.symm{t:Nat}(σ a)(h:R1 t σ a):R1 t a σ:=⟨h.1.symm,h.2.env.symm,h.2.ref.symm⟩
theorem R3.symm{s:Nat}(σ a)(h:R3 s σ a):R3 s a σ:=⟨h.1.symm,h.2.symm⟩
theorem R4.symm(σ a)(h:R4 σ a):R4 a σ:=Eq.symm h
theorem R5.symm{k:Nat}(σ a)(h:R5 k σ a):R5 k a σ:=Eq.symm h
theorem R1.refl(t:Nat)(a):R1 t a a:=⟨rfl, .refl _,rfl⟩
theorem R3.refl(s:Nat)(a):R3 s a a:=⟨rfl,rfl⟩
/-! ### The text's order -/
theorem Lex.at: ∀ {os:List Oper} {σ a:St} {l:List (Ef×Foot)},Lex Y loc ops os σ l a-> ∀(k i:Nat) (o:Oper),os[i]? =some o->
  ∃x:Ef×Foot,l[i]? =some x/\Zyy Y loc ops (sst (λ_=>true) k (os.take i) (l.take i) σ) o x.1/\x.2=Zaj (sst (λ_=>true) k (os.take i) (l.take i) σ) o x.1/\Ze2 (sst (λ_=>true) k (os.take i) (l.take i) σ) o x.1=true
 |_,_,_,_, .nil _,k,i,o,h=>by simp at h
 |_,_,_,_, .cons d r σ e l a c f g,k,0,o,h=>by
  simp at h;subst h;exact⟨(e,Zaj σ d e),rfl,by simpa[sst]using c,by simp[sst],by simpa[sst]using f⟩
 |_,_,_,_, .cons d r σ e l a c f g,k,i+1,o,h=>by
  obtain⟨x,j,m⟩:=g.at (k+1) i o (by simpa using h);refine⟨x,by simpa using j,?_⟩;simpa[sst]using m
theorem Lex.length: ∀ {os:List Oper} {σ c:St} {l:List (Ef×Foot)},Lex Y loc ops os σ l c->l.length=os.length
 |_,_,_,_, .nil _=>rfl
 |_,_,_,_, .cons _ _ _ _ _ _ _ _ a=>by simp[a.length]
theorem Lex.sst: ∀ {os:List Oper} {a c:St} {l:List (Ef×Foot)},Lex Y loc ops os a l c-> ∀(k:Nat) (S:Nat->Bool),(∀j,j<os.length->S (k+j)=true)->Go.Y.sst S k os l a=c
 |_,_,_,_, .nil _,k,S,_=>rfl
 |_,_,_,_, .cons o r a e l c _ _ g,k,S,h=>by
  simp only[Go.Y.sst];have d:=h 0 sm;rw[Nat.add_zero]at d;rw[uF d];exact g.sst (k+1) S λj f=>by
   have:=h (j+1) (by simpa using f);simpa[uX,Nat.add_comm 1 j]using this
theorem Vi(S:Nat->Bool): ∀(i k:Nat) (os:List Oper) (l:List (Ef×Foot)) (d:St) (o:Oper) (x:Ef×Foot),os[i]? =some o->l[i]? =some x->
  sst S k os l d=sst S (k+i+1) (os.drop (i+1)) (l.drop (i+1)) (if S (k+i)then x.1.app o.dst (sst S k (os.take i) (l.take i) d)else sst S k (os.take i) (l.take i) d)
 |0,k,e::r,f::l,d,o,x,a,c=>by
  simp at a c;subst a c;simp[sst]
 |i+1,k,e::r,f::l,d,o,x,a,c=>by
  simp only[sst,List.take_succ_cons,List.drop_succ_cons];rw[Vi S i (k+1) r l _ o x (by simpa using a) (by simpa using c)];have g:k+1+i=k+(i+1):=om;rw[g]
 |_,_,[],_,_,_,_,a,_=>by simp at a
 |_,_,_::_,[],_,_,_,_,c=>by simp at c
end
section
variable {Y:YP} {loc:Nat->Bool} {ops:Array Oper}
/-! ### Who waits for whom -/
theorem Zhb(a:List Nat)(i:Nat): ∀(d:List Edge) (m:Nat),(d.foldl (λm e=>if Region.binds .any e then m|||(1<<<e.on)|||a.getD e.on 0 else m) m).testBit i=true->
  m.testBit i=true\/ ∃e∈d,Region.binds .any e=true/\(e.on=i\/(a.getD e.on 0).testBit i=true)
 | [],m,h=> .inl h
 |e::d,m,h=>by
  simp only[uR]at h;rcases Zhb a i d _ h with c|⟨e',c,g⟩
  .split at c
   .rename_i f;simp only[Nat.testBit_or,uS]at c;rcases c with (c|c)|c
    .exact .inl c
    .refine .inr ⟨e,sm,f, .inl ?_⟩;rw[Nat.one_shiftLeft,Nat.testBit_two_pow]at c;simpa using c
    .exact .inr ⟨e,sm,f, .inr c⟩
   .exact .inl c
  .exact .inr ⟨e',by simp[c],g⟩
theorem Znl{a:List Nat}{o:Oper}{i:Nat}(h:(Zha a o).testBit i=true): ∃e∈o.after,Region.binds .any e=true/\(e.on=i\/(a.getD e.on 0).testBit i=true):=by
 rcases Zhb a i _ _ h with c|⟨e,c,d⟩
 .simp at c
 .exact⟨e,by simpa using c,d⟩
theorem Ze5: ∀(os:List Oper) (a:List Nat),(JS a os).take a.length=a
 | [],a=>by simp[JS]
 |o::r,a=>by
  have:=Ze5 r (a++ [Zha a o]);simp only[JS];have c:=congrArg (List.take a.length) this;rw[List.take_take,List.length_append,Nat.min_eq_left sm,List.take_left']at c
  .exact c
  .rfl
theorem Zhc: ∀(os:List Oper) (a:List Nat) (j:Nat) (o:Oper),os[j]? =some o->(JS a os).getD (a.length+j) 0=Zha ((JS a os).take (a.length+j)) o
 | [],a,j,o,h=>by simp at h
 |d::r,a,0,o,h=>by
  simp at h;subst h;simp only[JS,Nat.add_zero];have f:=Ze5 r (a++ [Zha a d]);have g:=congrArg (List.take a.length) f;rw[List.take_take,List.length_append,Nat.min_eq_left sm,List.take_left' rfl]at g;rw[g];have c:=congrArg (λl=>l[a.length]?) f;simp only[List.length_append,List.length_cons,List.length_nil,uJ]at c;rw[List.getElem?_take]at c;simp at c;rw[List.getD_eq_getElem?_getD,c]
  rfl
 |d::r,a,j+1,o,h=>by
  have:=Zhc r (a++ [Zha a d]) j o (by simpa using h);simp only[List.length_append,List.length_cons,List.length_nil,uJ]at this;simp only[JS];have e:a.length+(j+1)=a.length+1+j:=om;rw[e];exact this
theorem Zc0{all:List Oper}{d:List Foot}{g} : ∀(os:List Oper) (l:List Foot) (j:Nat),Ze1 ops all d g j os l=true-> ∀(i:Nat) (o:Oper) (f:Foot),os[i]? =some o->l[i]? =some f->
  chk1 ops o f (g.getD (j+i) 0) 0 (all.take (j+i)) (d.take (j+i))=true/\ ∀e∈o.after,Region.binds .any e=true->e.on<j+i
 | [],_,_,_,i,_,_,a,_=>by simp at a
 |_::_,[],_,_,i,_,_,_,c=>by simp at c
 |m::r,t::l,j,h,0,o,f,a,c=>by
  simp only[Ze1,uH]at h;simp at a c;subst a c;refine⟨h.1.1,λe k n=> ?_⟩;have:=uP.1 h.1.2 e (by simpa using k);rw[n]at this;simpa using this
 |m::r,t::l,j,h,i+1,o,f,a,c=>by
  simp only[Ze1,uH]at h;have:=Zc0 r l (j+1) h.2 i o f (by simpa using a) (by simpa using c);have e:j+(i+1)=j+1+i:=om;rw[e];exact this
theorem Zub{j}{g:Foot}{m:Nat} : ∀(os:List Oper) (l:List Foot) (k:Nat),chk1 ops j g m k os l=true-> ∀(i:Nat) (o:Oper) (f:Foot),os[i]? =some o->l[i]? =some f->
  Qj ops o j f g=true->m.testBit (k+i)=true
 | [],_,_,_,i,_,_,a,_,_=>by simp at a
 |_::_,[],_,_,i,_,_,_,c,_=>by simp at c
 |n::r,t::l,k,h,0,o,f,a,c,d=>by
  simp only[chk1,uH]at h;simp at a c;subst a c;have:=h.1;rw[d]at this;simpa using this
 |n::r,t::l,k,h,i+1,o,f,a,c,d=>by
  simp only[chk1,uH]at h;have:=Zub r l (k+1) h.2 i o f (by simpa using a) (by simpa using c) d;have e:k+(i+1)=k+1+i:=om;rw[e];exact this
def Zbm(ops:Array Oper)(S:Nat->Bool):Prop:= ∀(j:Nat) (o:Oper),ops[j]? =some o->S j=true-> ∀e∈o.after,Region.binds .any e=true->S e.on=true
structure Ord(ops:Array Oper)(l:List (Ef×Foot)):Prop where
 cl: ∀(S:Nat->Bool),Zbm ops S-> ∀(i j:Nat) (oi oj:Oper) (xi xj:Ef×Foot),i<j->ops[i]? =some oi->ops[j]? =some oj->l[i]? =some xi->l[j]? =some xj->Qj ops oi oj xi.2 xj.2=true->S j=true->S i=true
 cr: ∀(S:Nat->Bool),Zbm ops S-> ∀(i j:Nat) (oi oj:Oper) (xi xj:Ef×Foot),i<j->ops[i]? =some oi->ops[j]? =some oj->l[i]? =some xi->l[j]? =some xj->Qj ops oi oj xi.2 xj.2=true->(∀e∈oj.after,Region.binds .any e=true->S e.on=true)->S i=true
 lt: ∀(j:Nat) (o:Oper),ops[j]? =some o-> ∀e∈o.after,Region.binds .any e=true->e.on<j
theorem ZH0{l:List (Ef×Foot)}(O:l.length=ops.size)(h:chk ops (l.map (·.2))=true):Ord ops l:=by
 unfold chk at h;have G: ∀(j:Nat) (o:Oper),ops[j]? =some o-> ∃x,l[j]? =some x:=by
  intro j o g;have:j<l.length:=by
   rw[O];exact(Array.getElem?_eq_some_iff.1 g).1
  exact⟨l[j],by simp[this]⟩
 have B: ∀(j:Nat) (o:Oper),ops[j]? =some o-> ∀e∈o.after,Region.binds .any e=true->e.on<j:=by
  intro j o g e C D;obtain⟨x,N⟩:=G j o g;have:=(Zc0 _ _ 0 h j o x.2 (by simpa using g) (by simp[N])).2 e C D;simpa using this
 have k: ∀(S:Nat->Bool),Zbm ops S-> ∀(j:Nat) (o:Oper) (i:Nat),ops[j]? =some o->(∀e∈o.after,Region.binds .any e=true->S e.on=true)->((JS [] ops.toList).getD j 0).testBit i=true->S i=true:=by
  intro S y j
  induction j using Nat.strongRecOn with
  |_ j P=>
   intro o i g a D;have E:=Zhc ops.toList [] j o (by simpa using g);simp only[List.length_nil,uJ]at E;rw[E]at D;obtain⟨e,C,z,t⟩:=Znl D;have K:=a e C z;have L:=B j o g e C z;rcases t with rfl|t
   .exact K
   .rw[List.getD_eq_getElem?_getD,List.getElem?_take,uF L,<-List.getD_eq_getElem?_getD]at t;have W:j<ops.size:=(Array.getElem?_eq_some_iff.1 g).1;have H:ops[e.on]? =some ops[e.on]:=sm;exact P e.on L _ i H (y e.on _ H K) t
 have A: ∀(S:Nat->Bool),Zbm ops S-> ∀(i j:Nat) (u d:Oper) (v w:Ef×Foot),i<j->ops[i]? =some u->ops[j]? =some d->l[i]? =some v->l[j]? =some w->Qj ops u d v.2 w.2=true->(∀e∈d.after,Region.binds .any e=true->S e.on=true)->S i=true:=by
  intro S y i j u d v w f r c m n F a;have E:=(Zc0 _ _ 0 h j d w.2 (by simpa using c) (by simp[n])).1;have t:=Zub _ _ 0 E i u v.2 (by rw[uJ,List.getElem?_take,uF f];simpa using r) (by rw[uJ,List.getElem?_take,uF f];simp[m]) F;simp only[uJ]at t;exact k S y j d i c a t
 exact⟨λS y i j u d v w f r c m n F a=>A S y i j u d v w f r c m n F (y j d c a),A,B⟩
theorem QL: ∀(k:Nat) (os:List Oper) (l:List (Ef×Foot)) (a:St) (S:Nat->Bool),(∀j,S (k+j)=false)->sst S k os l a=a
 |_,[],l,_,_,_=>by cases l<;>rfl
 |_,_::_,[],_,_,_=>rfl
 |k,o::r,x::l,a,S,h=>by
  simp only[sst];have c:=h 0;rw[Nat.add_zero]at c;rw[uE (by simp[c])];exact QL (k+1) r l a S λj=>by have:=h (j+1);simpa[uX,Nat.add_comm 1 j]using this
theorem Wj: ∀(k:Nat) (os:List Oper) (l:List (Ef×Foot)) (a:St) (S S':Nat->Bool),(∀j,j<os.length->S (k+j)=S' (k+j))->sst S k os l a=sst S' k os l a
 |_,[],l,_,_,_,_=>by cases l<;>rfl
 |_,_::_,[],_,_,_,_=>rfl
 |k,o::r,x::l,a,S,S',h=>by
  simp only[sst];have c:=h 0 sm;rw[Nat.add_zero]at c;rw[c];exact Wj (k+1) r l _ S S' λj d=>by have:=h (j+1) (by simpa using d);simpa[uX,Nat.add_comm 1 j]using this
theorem Zbn: ∀(k:Nat) (os:List Oper) (l:List (Ef×Foot)) (e:St) (S:Nat->Bool) (x:Nat×Nat×Nat),x∈(sst S k os l e).refs↔
  x∈e.refs\/ ∃(j:Nat) (o:Oper) (y:Ef×Foot),os[j]? =some o/\l[j]? =some y/\S (k+j)=true/\o.dst=some x.1/\y.1= .q (.ref x.2.1 x.2.2)
 |_,[],l,e,_,x=>by cases l<;>simp[sst]
 |_,_::_,[],e,_,x=>by simp[sst]
 |k,o::r,y::l,e,S,x=>by
  simp only[sst];rw[Zbn (k+1) r l _ S x];have f:x∈(if S k then y.1.app o.dst e else e).refs↔x∈e.refs\/(S k=true/\o.dst=some x.1/\y.1= .q (.ref x.2.1 x.2.2)):=by
   cases t:S k with
   |false=>simp
   |true=>
    simp only[vG,true_and];rw[VJ];obtain⟨m,n,u⟩:=x;split
    .rename_i s off d a c;simp only[List.mem_cons,uL,a,c,uB,Ef.q.injEq,Q.ref.injEq];constructor
     .rintro(⟨rfl,rfl,rfl⟩|h)
      .exact .inr ⟨rfl,rfl,rfl⟩
      .exact .inl h
     .rintro(h|⟨rfl,rfl,rfl⟩)
      .exact .inr h
      .exact .inl ⟨rfl,rfl,rfl⟩
    .rename_i g;constructor
     .exact .inl
     .rintro(h|⟨a,c⟩)
      .exact h
      .exact(g _ _ _ c a).elim
  rw[f];constructor
  .rintro((h|⟨a,c⟩)|⟨j,o',y',a,c,h3,h4⟩)
   .exact .inl h
   .exact .inr ⟨0,o,y,rfl,rfl,by simpa using a,c⟩
   .exact .inr ⟨j+1,o',y',by simpa using a,by simpa using c,by rw[<-h3];congr 1;omega,h4⟩
  .rintro(h|⟨j,o',y',a,c,h3,h4⟩)
   .exact .inl (.inl h)
   .cases j with
    |zero=>simp at a c;subst a c;exact .inl (.inr ⟨by simpa using h3,h4⟩)
    |succ j=>exact .inr ⟨j,o',y',by simpa using a,by simpa using c,by rw[<-h3];congr 1;omega,h4⟩
theorem Rel.ext{W}{f c:St}{a:Act}{w}(h:Rel W f a w)(g:c.env=f.env)(j:c.h=f.h)(hr: ∀x,x∈c.refs->x∈f.refs):Rel W c a w:=by
 obtain⟨e,r,hp⟩:=f;obtain⟨e',m,k⟩:=c;simp only at g j hr;subst g j;exact⟨h.heap,h.size,h.env,h.box,λd s o l=>h.refs d s o (hr _ l),h.defers⟩
theorem ZDu{l m:List V}(c:l.length=m.length)(h: ∀t,l.getD t .undef=m.getD t .undef):l=m:=by
 apply List.ext_getElem c;intro i a d;have:=h i;simp only[List.getD_eq_getElem?_getD,List.getElem?_eq_getElem a,List.getElem?_eq_getElem d]at this;simpa using this
theorem Zkw{f c:List V}{o:Oper}{j:Nat}{e:Bool}(k:o.guard=some (j,e)){d:Nat}(g:(ops[j]?).bind (·.dst)=some d)(h:Agr (f.getD d .undef) (c.getD d .undef)):JG ops c o=JG ops f o:=by
 simp only[JG,k,g];rcases h with h|⟨a,b,l,m⟩
 .rw[h]
 .rw[l,m]
theorem Zuc{o:Oper}{t:Nat}(h:t∈Zkq o):t∈o.looksAt ops:=List.mem_append_left _ h
theorem Znm{o:Oper}{j:Nat}{a:Bool}(c:o.guard=some (j,a)){d:Nat}(e:(ops[j]?).bind (·.dst)=some d):d∈o.looksAt ops:=by
 unfold Oper.looksAt;rw[c];exact List.mem_append_right _ (by simp[e])
theorem Zc1{f e:Oper}{g c:Foot}{d:Nat}(a:f.dst=some d)(h:d∈e.looksAt ops\/e.dst=some d\/d∈c.t\/d∈c.r):Qj ops f e g c=true:=by
 unfold Qj;simp only[uS];rcases h with h|h|h|h
 .refine .inl (.inl (.inl (.inl (.inl (.inl (.inl ?_))))));simp[Oper.apart,a,h]
 .refine .inl (.inl (.inl (.inl (.inl (.inl (.inl ?_))))));simp[Oper.apart,a,h]
 .refine .inl (.inl (.inl (.inl (.inl (.inl (.inr ?_))))));simp[hit,a,h]
 .refine .inl (.inl (.inl (.inl (.inl (.inl (.inr ?_))))));simp[hit,a,h]
theorem Znn{c f:Oper}{e g:Foot}{d:Nat}(a:f.dst=some d)(h:d∈c.looksAt ops\/c.dst=some d\/d∈e.t\/d∈e.r):Qj ops c f e g=true:=by
 unfold Qj;simp only[uS];rcases h with h|h|h|h
 .refine .inl (.inl (.inl (.inl (.inl (.inl (.inl ?_))))));simp[Oper.apart,a,h]
 .refine .inl (.inl (.inl (.inl (.inl (.inl (.inl ?_))))));simp[Oper.apart,a,h]
 .refine .inl (.inl (.inl (.inl (.inl (.inr ?_)))));simp[hit,a,h]
 .refine .inl (.inl (.inl (.inl (.inl (.inr ?_)))));simp[hit,a,h]
theorem Zpp{g e}{c a:Foot}{s:Nat}(d:s∈c.w)(f:s∈a.r):Qj ops g e c a=true:=by
 unfold Qj;simp only[uS];refine .inl (.inl (.inl (.inl (.inr ?_))));simp only[Zyx,List.any_eq_true];exact⟨s,d,by simpa using f⟩
theorem Zyz{g e}{c a:Foot}{s:Nat}(d:s∈a.w)(f:s∈c.r):Qj ops g e c a=true:=by
 unfold Qj;simp only[uS];refine .inl (.inl (.inl (.inr ?_)));simp only[Zyx,List.any_eq_true];exact⟨s,d,by simpa using f⟩
theorem Ziw{g e}{c a:Foot}(d:c.hw=true)(f:a.hr=true):Qj ops g e c a=true:=by
 unfold Qj;simp[d,f]
theorem Zpq{d e:Foot}{k:Nat}(f:d.hw=true)(h: ∀i,d.al=some i->i=k)(c:k∈e.ro):Znk d e=true:=by
 unfold Znk;rw[f];split
 .rename_i i g;rw[h i g];simpa using c
 .cases hr:e.ro with
  |nil=>rw[hr]at c;cases c
  |cons a l=>rfl
theorem Zy0{d g}{a c:Foot}{k:Nat}(f:a.hw=true)(h: ∀i,a.al=some i->i=k)(e:k∈c.ro):Qj ops d g a c=true:=by
 unfold Qj;simp[Zpq f h e]
theorem Zy1{d g}{c a:Foot}{k:Nat}(f:a.hw=true)(h: ∀i,a.al=some i->i=k)(e:k∈c.ro):Qj ops d g c a=true:=by
 unfold Qj;simp[Zpq f h e]
theorem WB{g e}{c a:Foot}{k:Nat}(d:c.nw=some k)(f:a.hr=true\/k∈a.ro):Qj ops g e c a=true:=by
 unfold Qj;have:news c a=true:=by
  unfold news;rw[d];simp only[uS];exact f.imp id λh=>by simpa using h
 simp[this]
theorem VK{g e}{a c:Foot}{k:Nat}(d:c.nw=some k)(f:a.hr=true\/k∈a.ro):Qj ops g e a c=true:=by
 unfold Qj;have:news c a=true:=by
  unfold news;rw[d];simp only[uS];exact f.imp id λh=>by simpa using h
 simp[this]
theorem Zy2{g e}{c a:Foot}(d:a.hw=true)(f:c.hr=true):Qj ops g e c a=true:=by
 unfold Qj;simp[d,f]
end
end Go.Y
