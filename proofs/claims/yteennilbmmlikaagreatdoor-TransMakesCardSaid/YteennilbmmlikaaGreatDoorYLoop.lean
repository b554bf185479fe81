/- A part of the proof. -/
import Derived.Test.YteennilbmmlikaaGreatDoorYSym
import Derived.KernelRfl
import Derived.WalkKit
import Derived.ProofKit
import Derived.OpenShut
import Derived.ChangeOld
import Derived.Below
import Derived.Carry
import Derived.Deep.Slices
namespace Go.Y
set_option maxRecDepth 1000000
set_option maxHeartbeats 0
abbrev KT:=Out->Nat->List V->Heap->Prop
section
variable {Y:YP} {W:Vw} {σ:St} {a:Act} {w:World}

def lv(n:Nat)(σ:St):V:=σ.env.getD n .undef

def mk(n:Nat)(l:List (Nat×V)):List V:=l.foldl (fun e p=>e.set p.1 p.2) (List.replicate n .undef)

theorem Zqm: ∀(l:List (Nat×V)) (e:List V),(l.foldl (fun e p=>e.set p.1 p.2) e).length=e.length∧
  ∀t v,(l.foldl (fun e p=>e.set p.1 p.2) e)[t]? =some v->e[t]? =some v∨(t,v)∈l
 | [],e=>⟨rfl,fun _ _ h=> .inl h⟩
 |p::l,e=>by
  obtain⟨h1,h2⟩:=Zqm l (e.set p.1 p.2)
  refine⟨by simpa using h1,fun t v h=> ?_⟩
  rcases h2 t v h with h|h
  ·rw[XN]at h
   split at h
   ·rename_i he
    split at h
    ·simp at h;subst h;subst he;exact .inr (by simp)
    ·cases h
   ·exact .inl h
  ·exact .inr (List.mem_cons_of_mem _ h)

theorem Zii(n:Nat)(l:List (Nat×V)):(mk n l).length=n:=by simpa[mk]using (Zqm l (List.replicate n .undef)).1
theorem ZB9{n:Nat}{l:List (Nat×V)}{t:Nat}{v:V}(h:(mk n l)[t]? =some v):v= .undef∨(t,v)∈l:=by
 rcases(Zqm l (List.replicate n .undef)).2 t v h with h|h
 ·simp[List.getElem?_replicate]at h
  exact .inl h.2.symm
 ·exact .inr h

theorem Rel.fewer(h:Rel W σ a w){σ2:St}(hh:σ2.h=σ.h)(hl:σ2.env.length=σ.env.length)(hr:σ2.refs= [])(he: ∀(t:Nat) (v:V),σ2.env[t]? =some v->v=V.undef∨σ.env[t]? =some v):
  Rel W σ2 a w∧ ∀b,mine W σ2 a b->mine W σ a b:=by
 have hbox: ∀t b,QC σ2 a t b->QC σ a t b:=by
  rintro t b ⟨⟨cs,h1⟩,h2⟩
  rcases he t _ h1 with h3|h3
  ·cases h3
  ·exact⟨⟨cs,h3⟩,h2⟩
 refine⟨⟨hh▸h.heap,by rw[hl];exact h.size,fun t v ht=> ?_,fun t t' b h1 h2=>h.box t t' b (hbox _ _ h1) (hbox _ _ h2),fun _ _ _ hm=>by simp[hr]at hm,h.defers⟩,?_⟩
 ·rcases he t v ht with rfl|h3
  ·have hlt:t<a.tmps.size:=by
    rw[h.size,<-hl]
    exact(List.getElem?_eq_some_iff.1 ht).1
   exact⟨a.tmps[t],by simp[hlt], .undef _⟩
  ·exact h.env t v h3
 ·rintro b (h1|⟨t,h1⟩|h1)
  ·exact .inl h1
  ·exact .inr (.inl ⟨t,hbox _ _ h1⟩)
  ·exact .inr (.inr h1)

theorem Zud{n:Nat}{l:List (Nat×V)}{c:Code}{Q:Out->St->Prop}(hn:σ.env.length=n)(hl: ∀p∈l,lv p.1 σ=p.2)(h:Tri Y c ⟨mk n l,[],σ.h⟩ Q):Tri Y c σ Q:=by
 intro W a w W0 own0 w0 hr hs
 have hf:=hr.fewer (σ2:=⟨mk n l,[],σ.h⟩) rfl (by simp[Zii,hn]) rfl (fun t v ht=>by
  rcases ZB9 ht with rfl|hm
  ·exact .inl rfl
  ·have:=hl _ hm
   simp only[lv,List.getD]at this
   cases hg:σ.env[t]? with
   |none=>rw[hg]at this;exact .inl this.symm
   |some x=>rw[hg]at this;simp at this;rw[this];exact .inr rfl)
 exact h W a w W0 own0 w0 hf.1 (hs.weaken hf.2)

def VQ(slots:List Nat)(K:KT):Out->St->Prop:=fun o σ=>K o σ.env.length (slots.map fun i=>lv i σ) σ.h

theorem Zad{n:Nat}{slots:List Nat}{c:Code}{Q:Out->St->Prop}{vs:List V}{h:Heap}(hn:σ.env.length=n)(hv:slots.map (fun i=>lv i σ)=vs)(hh:σ.h=h)
  (ht:Tri Y c ⟨mk n (slots.zip vs),[],h⟩ Q):Tri Y c σ Q:=by
 subst hh hv
 refine Zud hn (fun p hp=> ?_) ht
 have key: ∀l:List Nat,l.zip (l.map fun i=>lv i σ)=l.map fun i=>(i,lv i σ):=by
  intro l
  induction l with
  |nil=>rfl
  |cons x l ih=>simp[ih]
 rw[key]at hp
 simp only[List.mem_map]at hp
 obtain⟨i,_,rfl⟩:=hp
 rfl

def AtV(slots:List Nat)(Q:Out->St->Prop)(o:Out)(len:Nat)(vs:List V)(h:Heap):Prop:=
 ∀τ:St,τ.env.length=len->(slots.map fun i=>lv i τ)=vs->τ.h=h->Q o τ

theorem Qt{n:Nat}{slots:List Nat}{cs:List Code}{Q:Out->St->Prop}{vs:List V}{h:Heap}(hc:cs≠ [])(hn:σ.env.length=n)(hv:slots.map (fun i=>lv i σ)=vs)(hh:σ.h=h)
  (ht:TriL Y cs ⟨mk n (slots.zip vs),[],h⟩ Q):TriL Y cs σ Q:=by
 match cs,hc,ht with
 |c::r,_,ht=>exact Zad hn hv hh ht

/-! ### Code, cut at its loops -/
def flat:Code->List Code
 | .seq a b=>flat a++flat b
 | .scope a=>flat a
 |c=> [c]

def Ww:Code->Bool
 | .seq a b=>Ww a||Ww b
 | .cond _ a b=>Ww a||Ww b
 | .block _ b=>Ww b
 | .scope b=>Ww b
 | .loop _=>true
 |_=>false

def pre:List Code->List Code
 | []=> []
 |c::r=>if Ww c then []else c::pre r
def post:List Code->List Code
 | []=> []
 |c::r=>if Ww c then c::r else post r

theorem Vz: ∀ {l m:List Code} {σ:St} {Q:Out->St->Prop},TriL Y l σ (fun o σ'=>match o with
  | .normal=>TriL Y m σ' Q
  | .exit i=>Q (.exit i) σ'
  | .ret=>Q .ret σ')->TriL Y (l++m) σ Q
 | [],_,_,_,h=>h
 |c::r,m,σ,Q,h=>by
  refine Tri.mono h ?_
  intro o σ' ho
  cases o with
  |normal=>exact Vz (l:=r) ho
  |exit i=>exact ho
  |ret=>exact ho

theorem XG: ∀ {c:Code} {r:List Code} {σ:St} {Q:Out->St->Prop},TriL Y (flat c++r) σ Q->TriL Y (c::r) σ Q
 | .seq a b,r,σ,Q,h=>by
  simp only[flat,List.append_assoc]at h
  have h1:=XG (c:=a) h
  refine Xq (Zpu (Tri.mono h1 ?_))
  intro o σ' ho
  cases o with
  |normal=>exact XG (c:=b) ho
  |exit i=>exact ho
  |ret=>exact ho
 | .scope a,r,σ,Q,h=>by
  simp only[flat]at h
  exact Xq (Zhw (XG (c:=a) h))
 | .skip,_,_,_,h| .region _ _ _,_,_,_,h| .cond _ _ _,_,_,_,h| .block _ _,_,_,_,h| .loop _,_,_,_,h| .rangeFunc _ _ _ _,_,_,_,h
 | .exit _,_,_,_,h| .label _,_,_,_,h| .goto _,_,_,_,h| .ret,_,_,_,h| .refuse _,_,_,_,h=>h

theorem Zmd: ∀l:List Code,pre l++post l=l
 | []=>rfl
 |c::r=>by
  simp only[pre,post]
  split
  ·rfl
  ·simp[Zmd r]

def PreV(Y:YP)(n:Nat)(slots:List Nat)(r:List Code)(Q:Out->St->Prop)(o:Out)(len:Nat)(vs:List V)(h:Heap):Prop:=
 match o with
 | .normal=>len=n∧TriL Y r ⟨mk n (slots.zip vs),[],h⟩ Q
 |o=>AtV slots Q o len vs h

theorem Zue(hY:YOK Y){loc:Nat->Bool}{fuel n:Nat}{slots:List Nat}{l:List Code}{Q:Out->St->Prop}(hc:post l≠ [])
  (h:Zc Y loc fuel (pre l) σ (VQ slots (PreV Y n slots (post l) Q))):TriL Y l σ Q:=by
 rw[<-Zmd l]
 refine Vz ((Zac hY _ _ _ _ h).mono ?_)
 intro o σ' ho
 cases o with
 |normal=>exact Qt hc ho.1 rfl rfl ho.2
 |exit i=>exact ho σ' rfl rfl rfl
 |ret=>exact ho σ' rfl rfl rfl

def Za(fn:Func):Code:=fn.body.getD .skip

theorem Zwm(hY:YOK Y){f:FuncId}{fn:Func}(hf:Y.P.funcs[f]? =some fn)(hb:fn.body.isSome=true){args:List V}{h:Heap}{Q:V->Heap->Prop}
  (ht:TriL Y (flat (Za fn)) ⟨args++List.replicate (fn.ntmps-args.length) .undef,[],h⟩ fun o σ=>(o= .normal∨o= .ret)∧ ∃v,Jg Y fn σ=some v∧Q v σ.h):Con Y f args h Q:=by
 obtain⟨body,hb⟩:=Option.isSome_iff_exists.1 hb
 have e:Za fn=body:=by simp[Za,hb]
 rw[e]at ht
 refine⟨⟨fn,body,hf,hb⟩,Zpw hY hf hb ?_⟩
 have h1:=XG (c:=body) (r:= []) (by simpa using ht)
 refine Tri.mono h1 ?_
 intro o σ' ho
 cases o<;>exact ho
end
abbrev I (n : Int) : V := .i .i64 n
abbrev U (n : Int) : V := .i .u64 n
abbrev J (cs : List V) (l : Nat) (c : Option Nat) : V := .ts cs l c
abbrev S (a : Option (Nat × Nat)) (l : Nat) (c : Option Nat) (k : Nat) : V := .sl a l c k
abbrev Rp (n : Nat) : List V := List.replicate n .undef
abbrev MZ (n : Nat) (s : List Nat) (l : List V) : List V := mk n (s.zip l)
abbrev CP (Y : YP) (f : Nat) (c : List Code) (e : List V) (h : Heap) (so : List Nat) (K : KT) : Prop := Zc Y (Y.loc f) 100 c ⟨e, [], h⟩ (VQ so K)
abbrev S0 : V := .sl none 0 (some 0) 0
abbrev Ud : V := .undef
abbrev R9 (a b c d e : Int) (l : List V) (n : Nat) (k : Option Nat) (f g h : Int) : List V := [I a, U b, U c, U d, U e, J l n k, I f, I g, I h]
abbrev R0 : List V := [I 0, U 0, U 0, U 0, U 0, S0, I 0, I 0, I 0]
theorem qa:type_of% @List.take_succ_eq_append_getElem:=@List.take_succ_eq_append_getElem
theorem qb:type_of% @List.getElem?_eq_some_iff:=@List.getElem?_eq_some_iff
theorem qc:type_of% @Heap.get_set:=@Heap.get_set
theorem qdq:type_of% @Int.toNat_natCast:=@Int.toNat_natCast
theorem qe:type_of% @List.getElem_mem:=@List.getElem_mem
theorem qf:type_of% @List.length_append:=@List.length_append
theorem qg:type_of% @List.eq_nil_of_length_eq_zero:=@List.eq_nil_of_length_eq_zero
theorem qh:type_of% @List.length_cons:=@List.length_cons
theorem qi:type_of% @List.append_nil:=@List.append_nil
theorem qj:type_of% @Heap.get_pushT:=@Heap.get_pushT
theorem qk:type_of% @Heap.get_push:=@Heap.get_push
theorem ql:type_of% @List.drop_zero:=@List.drop_zero
theorem qm:type_of% @List.take_length:=@List.take_length
theorem qnq:type_of% @Nat.le_refl:=@Nat.le_refl
theorem qo:type_of% @List.getElem?_eq_getElem:=@List.getElem?_eq_getElem
theorem qp:type_of% @List.length_nil:=@List.length_nil
theorem qq:type_of% @List.getElem?_eq_none:=@List.getElem?_eq_none
theorem qrq:type_of% @Bool.and_eq_true:=@Bool.and_eq_true
theorem qs:type_of% @List.cons_append:=@List.cons_append
theorem qt:type_of% @List.take_of_length_le:=@List.take_of_length_le
theorem qu:type_of% @List.mem_cons:=@List.mem_cons
theorem qv:type_of% @Nat.lt_of_lt_of_le:=@Nat.lt_of_lt_of_le
theorem qw:type_of% @List.getD_eq_getElem?_getD:=@List.getD_eq_getElem?_getD
theorem qx:type_of% @Nat.zero_le:=@Nat.zero_le
theorem qy:type_of% @List.nil_append:=@List.nil_append
theorem qz:type_of% @List.map_cons:=@List.map_cons
theorem qA:type_of% @List.mem_append:=@List.mem_append
def IsL(h:Heap)(k:Nat)(a:Option (Nat×Nat))(l:Nat)(c:Option Nat)(kk:Nat)(cs:List V):Prop:=
 l*k=cs.length∧((a=none∧l=0∧cs= [])∨ ∃id,a=some (id,0)∧c=none∧kk=k∧id<h.nx∧h.get id=some (.arr cs true))

def Fr(h:Heap)(a:Option (Nat×Nat))(h':Heap):Prop:=h.nx<=h'.nx∧ ∀j,j<h.nx->(∀o,a≠some (j,o))->h'.get j=h.get j

theorem Fr.refl(h:Heap)(a:Option (Nat×Nat)):Fr h a h:=⟨Nat.le_refl _,fun _ _ _=>rfl⟩

theorem Fr.push{h h':Heap}{a:Option (Nat×Nat)}{o:YObj}(f:Fr (h.push o) a h'):Fr h a h':=by
 refine⟨by have:=f.1;simp at this;omega,fun j hj ha=> ?_⟩
 rw[f.2 j (by simp;omega) ha,Heap.get_push,if_neg (by omega)]

theorem Fr.pushT{h h':Heap}{a:Option (Nat×Nat)}{t:Option TypeId}{o:YObj}(f:Fr (h.pushT t o) a h'):Fr h a h':=by
 refine⟨by have:=f.1;simp at this;omega,fun j hj ha=> ?_⟩
 rw[f.2 j (by simp;omega) ha,Heap.get_pushT,if_neg (by omega)]

theorem IsL.nil(h:Heap)(k:Nat)(c:Option Nat)(kk:Nat):IsL h k none 0 c kk []:=⟨by simp, .inl ⟨rfl,rfl,rfl⟩⟩

theorem Zdg(l:List V):Zo l.length l=some l:=by
 induction l with
 |nil=>rfl
 |cons v l ih=>simp[Zo,ih]

theorem ZA{l:List V}{n:Nat}(h:n=l.length):Zo n l=some l:=by subst h;exact Zdg l

theorem Zn7{Y:YP}{h:Heap}{k:Nat}{a:Option (Nat×Nat)}{l:Nat}{c:Option Nat}{kk:Nat}{cs new:List V}{st e:TypeId}{te:TI}{m:Nat}
  (hk:Y.kd st=some (.slice e)) (hte:Y.ty e=some te) (hs:te.size=k) (hk0:k≠0) (hl:IsL h k a l c kk cs) (hm:m≠0) (hn:m*k=new.length) (hc:Zk new=true)
  (hb:(l+m)*te.bytes<=most) (hb':l+m<=most):
  ∃a' l' c' k' h',Zf Y (h.push (.arr new true)) st st (.sl a l c kk) (.sl (some (h.nx,0)) m (some m) k)=some (.sl a' l' c' k',h')∧
   IsL h' k a' l' c' k' (cs++new)∧Fr h a h'∧l'=l+m∧ ∃j,a'=some (j,0)∧h.nx<=j:=by
 have hsrc:Xz Y ⟨[],[],h.push (.arr new true)⟩ te st (.sl (some (h.nx,0)) m (some m) k)=some (m,new):=by
  simp only[Xz,hk,QL,XE,hs,if_true,Xg,Heap.get_push,List.drop_zero]
  rw[ZA hn];rfl
 have hg: ¬((!Zk new||decide (te.size=0))=true):=by simp[hc,hs,hk0]
 rcases hl.2 with ⟨rfl,rfl,rfl⟩|⟨id,rfl,rfl,rfl,hid,hget⟩
 ·refine⟨some (h.nx+1,0),m,none,k,(h.push (.arr new true)).pushT (Y.tag e) (.arr new true),?_,⟨by simpa using hn, .inr ⟨h.nx+1,rfl,rfl,rfl,by simp,by simp[Heap.get_push]⟩⟩,?_,by simp,h.nx+1,rfl,by omega⟩
  ·simp only[Zf,ZR,hk,hte,hsrc,hg,if_false,hm]
   have h1:m*te.bytes<=most:=by simpa using hb
   have h2:m<=most:=by simpa using hb'
   simp[h1,h2,hs]
  ·exact((Fr.refl _ _).pushT).push
 ·have hlen:=hl.1
  refine⟨some (h.nx+1,0),l+m,none,kk,(((h.push (.arr new true)).set id none).pushT (if 0=0∧(h.push (.arr new true)).tagOf id=some e then some e else none) (.arr (cs++new) true)),?_,⟨by rw[Nat.add_mul,hlen,hn,List.length_append], .inr ⟨h.nx+1,rfl,rfl,rfl,by simp,by simp[Heap.get_push]⟩⟩,?_,rfl,h.nx+1,rfl,by omega⟩
  ·have hgt:(h.push (.arr new true)).get id=some (.arr cs true):=by rw[Heap.get_push,if_neg (by omega),hget]
   have hb1: ¬((l+m)*te.bytes>most∨l+m>most):=by omega
   have hne: ¬(0+(l+m)*kk<=cs.length):=by
    rw[<-hlen,Nat.add_mul]
    have:0<m*kk:=Nat.mul_pos (by omega) (by omega)
    omega
   have htk:Zo (l*kk) (cs.drop 0)=some cs:=by rw[List.drop_zero];exact ZA hlen
   simp only[Zf,ZR,hk,hte,hsrc,hg,if_false,hm,hs,ne_eq,not_true_eq_false,hb1,hgt,hne,Bool.true_or,if_true,htk]
   rw[if_neg (by simp[hc,hk0])]
   rfl
  ·refine⟨by simp;omega,fun j hj ha=> ?_⟩
   have hji:j≠id:=fun he=>by subst he;exact ha 0 rfl
   rw[Heap.get_pushT,if_neg (by simp;omega),Heap.get_set,if_neg hji,Heap.get_push,if_neg (by omega)]
theorem JW{n:Nat}{l:List V}(h:n<=l.length):Zo n l=some (l.take n):=by
 induction n generalizing l with
 |zero=>simp[Zo]
 |succ n ih=>
  cases l with
  |nil=>simp at h
  |cons v l=>simp only[Zo,List.take_succ_cons];rw[ih (by simpa using h)];rfl

def row{α:Type}(f:α->List V)(l:List α):List V:=(l.map f).flatten

theorem Xf{α:Type}{f:α->List V}{k:Nat}(hk: ∀x,(f x).length=k)(l:List α):(row f l).length=l.length*k:=by
 induction l with
 |nil=>simp[row]
 |cons x l ih=>
  have:row f (x::l)=f x++row f l:=by simp[row]
  rw[this,List.length_append,hk,ih,List.length_cons,Nat.add_mul];omega

theorem Zgm{α:Type}{f:α->List V}{k:Nat}(hk: ∀x,(f x).length=k): ∀(l:List α) (i:Nat),(row f l).drop (i*k)=row f (l.drop i)
 | [],i=>by simp[row]
 |x::l,0=>by simp
 |x::l,i+1=>by
  have h:row f (x::l)=f x++row f l:=by simp[row]
  rw[h,List.drop_succ_cons,<-Zgm hk l i,Nat.add_mul,Nat.one_mul,Nat.add_comm,<-List.drop_drop]
  congr 1
  rw[<-hk x];simp

theorem Xi{α:Type}{f:α->List V}{k:Nat}(hk: ∀x,(f x).length=k){l:List α}{i:Nat}(hi:i<l.length):Zo k ((row f l).drop (i*k))=some (f l[i]):=by
 rw[Zgm hk]
 have:l.drop i=l[i]::l.drop (i+1):=List.drop_eq_getElem_cons hi
 rw[this]
 have h2: ∀(x:α) (m:List α),row f (x::m)=f x++row f m:=fun x m=>by simp[row]
 rw[h2,JW (by simp[hk])]
 congr 1
 rw[<-hk l[i]];simp

theorem Xo{α:Type}{f:α->List V}(l m:List α):row f (l++m)=row f l++row f m:=by simp[row]
/-! ### What is handed back, by the slots that live on -/
def Zae:List (Nat×V)->Nat->Option V
 | [],_=>none
 |(s,v)::r,t=>if s=t then some v else Zae r t

def Zca(Y:YP)(l:List (Nat×V)):ResultVar->Option V
 | .tmp t=>match (Zae l t).map V.plain with
  |none|some .undef=>none
  |some v=>some v
 | .cell a t=>match Y.ty t,Zae l a with
  |some ti,some (.lb cs)=>(Zo ti.size cs).bind (QK ti.kd.agg)
  |_,_=>none

def Zcb(Y:YP)(l:List (Nat×V)):List ResultVar->Option (List V)
 | []=>some []
 |r::rs=>match Zca Y l r,Zcb Y l rs with
  |some v,some vs=>some (v::vs)
  |_,_=>none

def resV(Y:YP)(fn:Func)(l:List (Nat×V)):Option V:=
 match Zcb Y l fn.results.toList with
 |some [v]=>some v
 |some vs=>some (.tup vs)
 |none=>none

theorem Zgn{σ:St} : ∀ {slots:List Nat} {t:Nat} {v:V},Zae (slots.zip (slots.map fun i=>lv i σ)) t=some v->lv t σ=v
 | [],t,v,h=>by simp[Zae]at h
 |s::r,t,v,h=>by
  simp only[List.map_cons,List.zip_cons_cons,Zae]at h
  split at h
  ·rename_i he;subst he;simpa using h
  ·exact Zgn h

theorem Zuf{Y:YP}{σ:St}{slots:List Nat}{r:ResultVar}{v:V}(h:Zca Y (slots.zip (slots.map fun i=>lv i σ)) r=some v):Vr Y σ r=some v:=by
 cases r with
 |tmp t=>
  simp only[Zca]at h
  cases hl:Zae (slots.zip (slots.map fun i=>lv i σ)) t with
  |none=>rw[hl]at h;cases h
  |some x=>
   rw[hl]at h
   have hx:σ.env.getD t .undef=x:=Zgn hl
   simp only[Vr,ev,hx]
   simp only[Option.map_some]at h
   split at h
   ·cases h
   ·cases h
   ·rename_i w hw1 hw2
    simp only[Option.some.injEq]at hw2 h
    subst h hw2
    split
    ·rename_i h3;exact absurd (by rw[h3]) hw1
    ·rfl
 |cell a t=>
  simp only[Zca]at h
  split at h
  ·rename_i ti cs hti hl
   have hx:σ.env.getD a .undef= .lb cs:=Zgn hl
   simp only[Vr,hti,addr,hx]
   simp only[Xg,hx,List.drop_zero]
   exact h
  ·cases h

theorem Zgo{Y:YP}{σ:St}{slots:List Nat} : ∀ {rs:List ResultVar} {vs:List V},Zcb Y (slots.zip (slots.map fun i=>lv i σ)) rs=some vs->QB Y σ rs=some vs
 | [],vs,h=>by simpa[Zcb,QB]using h
 |r::rs,vs,h=>by
  simp only[Zcb]at h
  split at h
  ·rename_i v vs' h1 h2
   simp only[QB,Zuf h1,Zgo h2]
   exact h
  ·cases h

def Fin(Y:YP)(fn:Func)(slots:List Nat)(P:V->Heap->Prop)(o:Out)(_:Nat)(vs:List V)(h:Heap):Prop:=
 (o= .normal∨o= .ret)∧ ∃v,resV Y fn (slots.zip vs)=some v∧P v h

def FinS(Y:YP)(fn:Func)(P:V->Heap->Prop)(o:Out)(σ:St):Prop:=(o= .normal∨o= .ret)∧ ∃v,Jg Y fn σ=some v∧P v σ.h

theorem Zij{Y:YP}{fn:Func}{slots:List Nat}{P:V->Heap->Prop}{o:Out}{n:Nat}{vs:List V}{h:Heap}(f:Fin Y fn slots P o n vs h):AtV slots (FinS Y fn P) o n vs h:=by
 rintro τ _ rfl rfl
 obtain⟨h1,v,h2,h3⟩:=f
 refine⟨h1,v,?_,h3⟩
 unfold resV at h2
 unfold Jg
 split at h2
 ·rename_i x hx
  rw[Zgo hx];exact h2
 ·rename_i vs hne hx
  rw[Zgo hx]
  simp only[Option.some.injEq]at h2
  subst h2
  split
  ·rename_i y hy;simp only[Option.some.injEq]at hy;exact absurd hy (hne y)
  ·rename_i hy;simp only[Option.some.injEq]at hy;rw[hy]
  ·rename_i hy;cases hy
 ·cases h2

theorem ZE{Y:YP}(hY:YOK Y){f:FuncId}{fn:Func}{args:List V}(hc:Xc args=true){P:V->Prop}
  (ht:TriL Y (flat (Za fn)) ⟨args++List.replicate (fn.ntmps-args.length) .undef,[], .empty⟩ (FinS Y fn fun v h=> ∃r,Frz h v r∧P r)) (hf:Y.P.funcs[f]? =some fn:=by kernel_rfl) (hb:fn.body.isSome=true:=by kernel_rfl):PCon Y f args P:=by
 have c:=Zwm hY hf hb (Q:=fun v h=> ∃r,Frz h v r∧P r) ht
 exact⟨c.body,PTr.of (Wu hc) c.tr fun v h hq=>hq⟩

theorem Zv{Y:YP}{fn:Func}{slots:List Nat}{o:Out}{n:Nat}{vs:List V}{h:Heap}{v1 r1 R:V}(ho:o= .normal∨o= .ret)(hv:resV Y fn (slots.zip vs)=some v1)(h1:Frz h v1 r1)(hr:r1=R):
  Fin Y fn slots (fun v h=> ∃r,Frz h v r∧r=R) o n vs h:=⟨ho,_,hv,_,h1,hr⟩
theorem Zik{Y:YP}{fn:Func}{slots:List Nat}{o:Out}{n:Nat}{vs:List V}{h:Heap}{v1 v2 r1 r2 R:V}(ho:o= .normal∨o= .ret)(hv:resV Y fn (slots.zip vs)=some (.tup [v1,v2]))(h1:Frz h v1 r1)(h2:Frz h v2 r2)(hr: .tup [r1,r2]=R):
  Fin Y fn slots (fun v h=> ∃r,Frz h v r∧r=R) o n vs h:=⟨ho,_,hv,_, .tup _ _ (.cons _ _ _ _ h1 (.cons _ _ _ _ h2 .nil)),hr⟩
theorem fin1{Y:YP}{fn:Func}{slots:List Nat}{o:Out}{n:Nat}{vs:List V}{h:Heap}{v1 r1 R:V}(ho:o= .normal∨o= .ret)(hv:resV Y fn (slots.zip vs)=some v1)(h1:Frz h v1 r1)(hr:r1=R):
  AtV slots (FinS Y fn fun v h=> ∃r,Frz h v r∧r=R) o n vs h:=Zij ⟨ho,_,hv,_,h1,hr⟩
theorem fin2{Y:YP}{fn:Func}{slots:List Nat}{o:Out}{n:Nat}{vs:List V}{h:Heap}{v1 v2 r1 r2 R:V}(ho:o= .normal∨o= .ret)(hv:resV Y fn (slots.zip vs)=some (.tup [v1,v2]))(h1:Frz h v1 r1)(h2:Frz h v2 r2)(hr: .tup [r1,r2]=R):
  AtV slots (FinS Y fn fun v h=> ∃r,Frz h v r∧r=R) o n vs h:=Zij ⟨ho,_,hv,_, .tup _ _ (.cons _ _ _ _ h1 (.cons _ _ _ _ h2 .nil)),hr⟩
theorem fin3{Y:YP}{fn:Func}{slots:List Nat}{o:Out}{n:Nat}{vs:List V}{h:Heap}{v1 v2 v3 r1 r2 r3 R:V}(ho:o= .normal∨o= .ret)(hv:resV Y fn (slots.zip vs)=some (.tup [v1,v2,v3]))(h1:Frz h v1 r1)(h2:Frz h v2 r2)(h3:Frz h v3 r3)(hr: .tup [r1,r2,r3]=R):
  AtV slots (FinS Y fn fun v h=> ∃r,Frz h v r∧r=R) o n vs h:=Zij ⟨ho,_,hv,_, .tup _ _ (.cons _ _ _ _ h1 (.cons _ _ _ _ h2 (.cons _ _ _ _ h3 .nil))),hr⟩

theorem Wi{c:Prop} [Decidable c] {p q:Prop} (h:c->p) (g: ¬c->q):If (decide c) p q:=Zg (fun hc=>h (by simpa using hc)) (fun hc=>g (by simpa using hc))
theorem Ze7{t:Nat}{p q:Prop}(h:0<t->p)(g:t=0->q):If (ltI 0 (t:Int)) p q:=Zg (fun hc=>h (by simpa[ltI]using hc)) (fun hc=>g (by simp[ltI]at hc;omega))
theorem Zm{a b:Nat}{p q:Prop}(h:a<b->p)(g:b<=a->q):If (ltI (a:Int) (b:Int)) p q:=Zg (fun hc=>h (by simpa[ltI]using hc)) (fun hc=>g (by simp[ltI]at hc;omega))
theorem XC{a b:Int}{p q:Prop}(h:a<b->p)(g:b<=a->q):If (ltI a b) p q:=Zg (fun hc=>h (by simpa[ltI]using hc)) (fun hc=>g (by simpa[ltI]using hc))
theorem Wx{a b:Int}{p q:Prop}(h:a<=b->p)(g:b<a->q):If (leI a b) p q:=Zg (fun hc=>h (by simpa[leI]using hc)) (fun hc=>g (by simpa[leI]using hc))

/-! ### Code, cut -/
def Xa:List Code->Nat
 | .block id (.loop _)::_=>id
 |_=>0
def Zx:List Code->Code
 | .block _ (.loop b)::_=>b
 |_=> .skip
def Zme:List Code->Bool
 | .block _ (.loop _)::_::_=>true
 |_=>false

theorem Zil{l:List Code}(h:Zme l=true):l= .block (Xa l) (.loop (Zx l))::l.drop 1∧l.drop 1≠ []:=by
 unfold Zme at h
 split at h
 ·exact⟨rfl,by simp⟩
 ·cases h

theorem Xm{Y:YP}(hY:YOK Y){loc:Nat->Bool}(fuel:Nat){n:Nat}(slots:List Nat){σ:St}{l:List Code}{Q:Out->St->Prop}(hc:(post l).isEmpty=false)
  (h:Zc Y loc fuel (pre l) σ (VQ slots (PreV Y n slots (post l) Q))):TriL Y l σ Q:=
 Zue hY (fun e=>by rw[e]at hc;cases hc) h

theorem Zyj{slots:List Nat}{K:KT}{slots':List Nat}{o:Out}{n:Nat}{vs:List V}{h:Heap}
  (hk: ∀τ:St,τ.env.length=n->(slots'.map fun i=>lv i τ)=vs->τ.h=h->K o n (slots.map fun i=>lv i τ) h):AtV slots' (VQ slots K) o n vs h:=by
 intro τ h1 h2 h3
 have:=hk τ h1 h2 h3
 unfold VQ
 rw[h1,h3]
 exact this

def Wy:List Code->Nat
 | .block id _::_=>id
 |_=>0
def Xj:List Code->Code
 | .block _ b::_=>b
 |_=> .skip
def Zkq:List Code->Bool
 | .block _ _::_::_=>true
 |_=>false

theorem Zn8{l:List Code}(h:Zkq l=true):l= .block (Wy l) (Xj l)::l.drop 1∧l.drop 1≠ []:=by
 unfold Zkq at h
 split at h
 ·exact⟨rfl,by simp⟩
 ·cases h

def Zdh:List Code->Code
 | .cond _ a _::_=>a
 |_=> .skip
def Vc:List Code->Code
 | .cond _ _ b::_=>b
 |_=> .skip
def ZCa:List Code->Operand
 | .cond x _ _::_=>x
 |_=> .tmp 0
def Zwn:List Code->Bool
 | [.cond _ _ _]=>true
 |_=>false

theorem Xk{Y:YP}{σ:St}{l:List Code}{Q:Out->St->Prop}(hl:Zwn l=true){b:Bool}(hx:ev σ.env (ZCa l)= .b b)(h:TriL Y (flat (if b then Zdh l else Vc l)) σ Q):TriL Y l σ Q:=by
 unfold Zwn at hl
 split at hl
 ·rename_i x p q
  have h3:=XG (c:=if b then p else q) (r:= []) (by rw[List.append_nil];exact h)
  exact Xq (Zgc hx (Tri.mono h3 fun o σ' ho=>by cases o<;>exact ho))
 ·cases hl

theorem ZT{Y:YP}(hY:YOK Y){loc:Nat->Bool}(fuel:Nat)(slots:List Nat){σ:St}{l:List Code}{K:KT}(h:Zc Y loc fuel l σ (VQ slots K)):TriL Y l σ (VQ slots K):=Zac hY _ _ _ _ h

theorem ZB{Y:YP}(hY:YOK Y){loc:Nat->Bool}(fuel:Nat)(slots:List Nat){σ:St}{l:List Code}{fn:Func}{P:V->Heap->Prop}(h:Zc Y loc fuel l σ (VQ slots (Fin Y fn slots P))):TriL Y l σ (FinS Y fn P):=
 (Zac hY _ _ _ _ h).mono fun _ σ' ho=>Zij ho σ' rfl rfl rfl

theorem Zy{n:Nat}{l:List (Nat×V)} :(mk n l).length=n:=Zii n l

/-! ### Lists -/
abbrev lst{α:Type}(f:α->List V)(l:List α):V:= .ts (row f l) l.length none

theorem QY{α:Type}(f:α->List V)(h:Heap)(c:Option Nat)(k:Nat):Frz h (.sl none 0 c k) (lst f []):= .sln _ _ _ (fun x hx=>by cases hx)

theorem Zaf{Y:YP}{h:Heap}{k:Nat}{a:Option (Nat×Nat)}{l:Nat}{c:Option Nat}{kk:Nat}{cs new:List V}{st e:TypeId}{te:TI}{m:Nat}{cap:Option Nat}
  (hk:Y.kd st=some (.slice e)) (hte:Y.ty e=some te) (hs:te.size=k) (hk0:k≠0) (hl:IsL h k a l c kk cs) (hm:m≠0) (hn:Zo (m*k) new=some new) (hc:Zk new=true)
  (hb:(l+m)*te.bytes<=most) (hb':l+m<=most):
  ∃a' l' c' k' h',Zf Y h st st (.sl a l c kk) (.ts new m cap)=some (.sl a' l' c' k',h')∧IsL h' k a' l' c' k' (cs++new)∧Fr h a h'∧l'=l+m∧ ∃j,a'=some (j,0)∧h.nx<=j:=by
 have hnl:=Wt hn
 have hsrc:Xz Y ⟨[],[],h⟩ te st (.ts new m cap)=some (m,new):=by
  simp only[Xz,hk,QL,XE,hs,hn];rfl
 rcases hl.2 with ⟨rfl,rfl,rfl⟩|⟨id,rfl,rfl,rfl,hid,hget⟩
 ·refine⟨some (h.nx,0),m,none,k,h.pushT (Y.tag e) (.arr new true),?_,⟨by simp[hnl], .inr ⟨h.nx,rfl,rfl,rfl,by simp,by simp⟩⟩,(Fr.refl _ _).pushT,by simp,h.nx,rfl,Nat.le_refl _⟩
  have h1:m*te.bytes<=most:=by simpa using hb
  have h2:m<=most:=by simpa using hb'
  simp[Zf,ZR,hk,hte,hsrc,hc,hm,h1,h2,hs,hk0]
 ·have hlen:=hl.1
  refine⟨some (h.nx,0),l+m,none,kk,((h.set id none).pushT (if 0=0∧h.tagOf id=some e then some e else none) (.arr (cs++new) true)),?_,⟨by rw[Nat.add_mul,hlen,<-hnl,List.length_append], .inr ⟨h.nx,rfl,rfl,rfl,by simp,by simp[Heap.get_push]⟩⟩,?_,rfl,h.nx,rfl,Nat.le_refl _⟩
  ·have hb1: ¬((l+m)*te.bytes>most∨l+m>most):=by omega
   have hne: ¬(0+(l+m)*kk<=cs.length):=by
    rw[<-hlen,Nat.add_mul]
    have:0<m*kk:=Nat.mul_pos (by omega) (by omega)
    omega
   have htk:Zo (l*kk) (cs.drop 0)=some cs:=by rw[List.drop_zero];exact ZA hlen
   simp only[Zf,ZR,hk,hte,hsrc,if_false,hm,hs,ne_eq,not_true_eq_false,hb1,hget,hne,Bool.true_or,if_true,htk]
   rw[if_neg (by simp[hc,hk0])]
  ·refine⟨by simp,fun j hj ha=> ?_⟩
   have hji:j≠id:=fun he=>by subst he;exact ha 0 rfl
   rw[Heap.get_pushT,if_neg (by simp;omega),Heap.get_set,if_neg hji]
end Go.Y
namespace Go.Y
open Go.ChangeShapes Go.WideShapes Go.RowKit

def inW(w:World):Vw:= {mu:=fun _=>(0,0),sz:=fun _=>0,snap:=fun b=>w.heap[b]?,lv:=fun _=>False,kn:=fun _=>False}

theorem Zug(w:World):Le (inW w) (inW w).dead:=⟨fun _ h=>h,fun _ h=>h.elim,fun _ h=>h.elim,fun _ _ h=>h,fun _ h=>h.elim⟩

def ShpF(S:TypeId->List V->Prop):List TypeId->List V->Prop
 | [],vs=>vs= []
 |t::r,vs=> ∃a b,vs=a++b∧S t a∧ShpF S r b

def Shp(Y:YP):Nat->TypeId->List V->Prop
 |0,_,_=>False
 |n+1,t,vs=>match Y.kd t with
  |some .bool=> ∃b,vs= [.b b]
  |some (.int k)=> ∃i,vs= [.i k i]∧(Lit.int k i).wf=true
  |some .str=> ∃s,vs= [.s s]∧s.length<=maxLen
  |some (.slice e)=> ∃es:List (List V),vs= [.ts es.flatten es.length none]∧(∀x∈es,Shp Y n e x)∧es.length<=maxLen
  |some (.struct fs)=>ShpF (Shp Y n) (fs.map (·.2)) vs
  |some (.arr k e)=> ∃es:List (List V),vs=es.flatten∧es.length=k∧ ∀x∈es,Shp Y n e x
  |_=>False

def Zb4(Y:YP):Nat->List (Nat×TypeId)->Nat->Bool
 |off,[],total=>off==total
 |off,f::r,total=>match Y.ty f.2 with
  |some tf=>f.1==off&&Zb4 Y (off+tf.size) r total
  |none=>false

def Wz(Y:YP):Nat->TypeId->Bool
 |0,_=>true
 |n+1,t=>match Y.ty t with
  |some ti=>match ti.kd with
   | .bool| .int _| .str=>true
   | .slice e=>(match Y.ty e with|some te=>te.size !=0|none=>false)&&Wz Y n e
   | .struct fs=>Zb4 Y 0 fs ti.size&&fs.all fun f=>Wz Y n f.2
   | .arr k e=>(match Y.ty e with|some te=>ti.size==k*te.size|none=>false)&&Wz Y n e
   |_=>false
  |none=>false

section
variable {Y:YP} {w:World} {H:Type} {enc:TypeId×Value->H} {base:Nat} {spare:Nat->Bool} {held:Bool}

theorem JE(hY:YOK Y){t:TypeId}{ti:TI}(ht:Y.ty t=some ti):Y.P.cellsOf t=ti.size:=by
 obtain⟨i,d,z,h⟩:=hY.ty t ti ht
 simp[Program.cellsOf,h.info,h.size]

theorem Zkr{S:List V->Prop} : ∀(n:Nat) (f:Nat->List Value),(∀i,i<n-> ∃vs,VRs (inW w) vs (f i)∧S vs)-> ∃es:List (List V),es.length=n∧(∀x∈es,S x)∧VRs (inW w) es.flatten ((List.range n).flatMap f)
 |0,_,_=>⟨[],rfl,by simp, .nil⟩
 |n+1,f,h=>by
  obtain⟨es,h1,h2,h3⟩:=Zkr n f fun i hi=>h i (by omega)
  obtain⟨vs,h4,h5⟩:=h n (by omega)
  refine⟨es++ [vs],by simp[h1],fun x hx=> ?_,?_⟩
  ·rw[List.mem_append]at hx
   rcases hx with hx|hx
   ·exact h2 x hx
   ·simp at hx;subst hx;exact h5
  ·rw[List.flatten_append,List.range_succ,List.flatMap_append]
   refine h3.append ?_
   simpa using h4

theorem Zdi{f:Nat->List Value}{k:Nat}(hk: ∀i,(f i).length=k): ∀(n j:Nat) (u:Value),((List.range n).flatMap f)[j]? =some u-> ∃i r,i<n∧r<k∧j=i*k+r∧(f i)[r]? =some u
 |0,j,u,h=>by simp at h
 |n+1,j,u,h=>by
  rw[List.range_succ,List.flatMap_append]at h
  have hl: ∀n,((List.range n).flatMap f).length=n*k:=by
   intro n
   induction n with
   |zero=>simp
   |succ n ih=>rw[List.range_succ,List.flatMap_append,List.length_append,ih,Nat.add_mul];simp[hk]
  by_cases hj:j<n*k
  ·rw[List.getElem?_append_left (by rw[hl];exact hj)]at h
   obtain⟨i,r,h1,h2⟩:=Zdi hk n j u h
   exact⟨i,r,by omega,h2⟩
  ·rw[List.getElem?_append_right (by rw[hl];omega),hl]at h
   simp only[List.flatMap_cons,List.flatMap_nil,List.append_nil]at h
   have:j-n*k<k:=by
    have:=(List.getElem?_eq_some_iff.1 h).1
    rwa [hk]at this
   exact⟨n,j-n*k,by omega,this,by omega,h⟩

theorem Zbl(hY:YOK Y): ∀(fuel:Nat) (t:TypeId) (cs:List Value) (x:DataW H×List MemPlace),Wz Y fuel t=true->DataW.trod enc Y.P w base spare held fuel t cs=some x->
  ∃vs,VRs (inW w) vs cs∧Shp Y fuel t vs
 |0,_,_,_,_,h=>by simp[DataW.trod]at h
 |n+1,t,cs,x,hs,h=>by
  simp only[Wz]at hs
  split at hs
  ·rename_i ti hti
   obtain⟨inf,d,z,hT⟩:=hY.ty t ti hti
   have hkd:Y.kd t=some ti.kd:=by simp[YP.kd,hti]
   have hk:=hT.kd
   have hu:=hT.und
   simp only[Shp,hkd]
   cases hkk:ti.kd with
   |bool=>
    rw[hkk]at hk;cases hk
    obtain⟨b,rfl,_⟩:=DataW.trod_bool hu h
    exact⟨_, .cons _ _ _ _ (.b b) .nil,b,rfl⟩
   |int k=>
    rw[hkk]at hk;cases hk
    obtain⟨i,rfl,_,hw⟩:=DataW.trod_int hu h
    exact⟨_, .cons _ _ _ _ (.i k i) .nil,i,rfl,hw⟩
   |str=>
    rw[hkk]at hk;cases hk
    obtain⟨s,rfl,_,hl⟩:=DataW.trod_string hu h
    have e:(⟨s.data.toList.toArray⟩:ByteArray)=s:=by simp
    refine⟨[.s s.data.toList], .cons _ _ _ _ ?_ .nil,_,rfl,by simpa using hl⟩
    have:=VR.s (W:=inW w) s.data.toList
    rwa [e]at this
   |slice e=>
    rw[hkk]at hk hs;cases hk
    simp only[Bool.and_eq_true]at hs
    obtain⟨hs1,hs2⟩:=hs
    split at hs1
    ·rename_i te hte
     have hsz:te.size≠0:=by simpa using hs1
     have hce:=JE hY hte
     rcases DataW.trod_slice hu h with ⟨rfl,_⟩|⟨a,len,cap,QL,rest,m,hm,rfl,_,_,hl,hcap,hlen,hel,_⟩
     ·exact⟨_, .cons _ _ _ _ (.tsz none (fun _ h=>by cases h)) .nil,[],rfl,by simp,by simp⟩
     ·simp only[Nat.add_right_cancel_iff]at hm
      subst hm
      by_cases h0:len=0
      ·subst h0
       exact⟨_, .cons _ _ _ _ (.tsn 0 none a cap (Nat.zero_le _) (fun _ h=>by cases h)) .nil,[],rfl,by simp,by simp⟩
      ·have hcell: ∀i,i<len-> ∃cs' y,w.cells? base (a.add (i*te.size)) te.size=some cs'∧DataW.trod enc Y.P w base spare held n e cs'=some y:=by
        intro i hi
        have h1:=hel i hi
        rw[hce]at h1
        have h2:QL[i]? =some (QL[i]'(by omega)):=by simp
        rw[h2]at h1
        cases hc:w.cells? base (a.add (i*te.size)) te.size with
        |none=>rw[hc]at h1;simp at h1
        |some cs'=>rw[hc]at h1;exact⟨cs',_,rfl,h1⟩
       let f:Nat->List Value:=fun i=>(w.cells? base (a.add (i*te.size)) te.size).getD (List.replicate te.size default)
       have hf: ∀i,(f i).length=te.size:=by
        intro i
        simp only[f]
        cases hc:w.cells? base (a.add (i*te.size)) te.size with
        |none=>simp
        |some cs'=>simpa using (World.cells?_some hc).2.1
       obtain⟨es,g1,g2,g3⟩:=Zkr (w:=w) (S:=Shp Y n e) len f fun i hi=>by
        obtain⟨cs',y,h1,h2⟩:=hcell i hi
        obtain⟨vs,h3,h4⟩:=Zbl hY n e cs' y hs2 h2
        exact⟨vs,by simpa[f,h1]using h3,h4⟩
       have hat: ∀i r,i<len->r<te.size->w.cell? (a.add (i*te.size+r))=(f i)[r]? :=by
        intro i r hi hr
        obtain⟨cs',y,h1,h2⟩:=hcell i hi
        have h3:=(World.cells?_some h1).2.2 r hr
        simp only[f,h1,Option.getD_some]
        rw[<-h3]
        rw[Go.Deep.add_add]
       have hfst: ∃u,w.cell? a=some u:=by
        have h1:=hat 0 0 (by omega) (by omega)
        have h2:(f 0)[0]? =some ((f 0)[0]'(by rw[hf];omega)):=by simp
        rw[h2]at h1
        rw[show a.add (0*te.size+0)=a by simp[Addr.add_zero']]at h1
        exact⟨_,h1⟩
       obtain⟨u0,hu0⟩:=hfst
       have hspot:=World.cell?_spot hu0
       obtain⟨blk,off,sp⟩:=a
       simp only at hspot
       subst hspot
       obtain⟨c,et,fr,hb⟩: ∃c et fr,w.heap[blk]? =some (.cells c et fr):=by
        simp only[World.cell?]at hu0
        split at hu0
        ·exact⟨_,_,_,by assumption⟩
        ·cases hu0
       refine⟨_, .cons _ _ _ _ (.ts es.flatten len none cap blk off c et fr ((List.range len).flatMap f) hl (fun _ h=>by cases h) hb (fun j u hj=> ?_) (g3.mono (Zug w))) .nil,es,by rw[g1],g2,by omega⟩
       obtain⟨i,r,k1,k2,rfl,k3⟩:=Zdi hf len j u hj
       have:=hat i r k1 k2
       rw[k3,Jv,Zf8 hb]at this
       exact this
    ·cases hs1
   |struct fs=>
    rw[hkk]at hk hs
    obtain⟨l,rfl,hfs,_⟩:=hk
    simp only[Bool.and_eq_true,List.all_eq_true]at hs
    obtain⟨hs1,hs2⟩:=hs
    obtain⟨xs,m,hm,_,hlen,hxl,hf⟩:=DataW.trod_struct hu h
    simp only[Nat.add_right_cancel_iff]at hm
    subst hm
    rw[JE hY hti]at hlen
    have hf': ∀f∈fs,∀tf,Y.ty f.2=some tf-> ∃vs,VRs (inW w) vs ((cs.drop f.1).take tf.size)∧Shp Y n f.2 vs:=by
     intro f hfm tf htf
     rw[hfs]at hfm
     simp only[List.mem_map,Array.mem_toList_iff]at hfm
     obtain⟨fd,hfd,rfl⟩:=hfm
     obtain⟨i,hi,rfl⟩:=Array.mem_iff_getElem.1 hfd
     have h1:=hf i l[i] (by simp[hi])
     rw[JE hY htf]at h1
     have h2:xs[i]? =some (xs[i]'(by omega)):=by simp
     rw[h2]at h1
     exact Zbl hY n _ _ _ (hs2 (l[i].offset,l[i].type) (by rw[hfs];exact List.mem_map.2 ⟨l[i],by simp,rfl⟩)) h1
    have key: ∀(fs:List (Nat×TypeId)) (off:Nat),Zb4 Y off fs ti.size=true->off<=cs.length->(∀f∈fs,∀tf,Y.ty f.2=some tf-> ∃vs,VRs (inW w) vs ((cs.drop f.1).take tf.size)∧Shp Y n f.2 vs)->
      ∃vs,VRs (inW w) vs (cs.drop off)∧ShpF (Shp Y n) (fs.map (·.2)) vs:=by
     intro fs
     induction fs with
     |nil=>
      intro off ht _ _
      simp only[Zb4,beq_iff_eq]at ht
      refine⟨[],?_,rfl⟩
      rw[List.drop_of_length_le (by omega)];exact .nil
     |cons f r ih=>
      intro off ht ho hall
      simp only[Zb4]at ht
      split at ht
      ·rename_i tf htf
       simp only[Bool.and_eq_true,beq_iff_eq]at ht
       obtain⟨rfl,ht⟩:=ht
       have hle:f.1+tf.size<=cs.length:=by
        rw[hlen]
        clear ih hall
        have: ∀(r:List (Nat×TypeId)) (o:Nat),Zb4 Y o r ti.size=true->o<=ti.size:=by
         intro r
         induction r with
         |nil=>intro o h;simp only[Zb4,beq_iff_eq]at h;omega
         |cons g r ih=>
          intro o h
          simp only[Zb4]at h
          split at h
          ·simp only[Bool.and_eq_true,beq_iff_eq]at h
           have:=ih _ h.2;omega
          ·cases h
        exact this r _ ht
       have:=hall f (by simp) tf htf
       obtain⟨a,ha1,ha2⟩:=this
       obtain⟨b,hb1,hb2⟩:=ih (f.1+tf.size) ht hle fun g hg=>hall g (by simp[hg])
       refine⟨a++b,?_,a,b,rfl,ha2,hb2⟩
       have:=ha1.append hb1
       rwa [<-List.drop_drop,List.take_append_drop]at this
      ·cases ht
    obtain⟨vs,k1,k2⟩:=key fs 0 hs1 (Nat.zero_le _) hf'
    exact⟨vs,by simpa using k1,k2⟩
   |arr k e=>
    rw[hkk]at hk hs
    obtain⟨rfl,_⟩:=hk
    simp only[Bool.and_eq_true]at hs
    obtain⟨hs1,hs2⟩:=hs
    split at hs1
    ·rename_i te hte
     have hsz:ti.size=k*te.size:=by simpa using hs1
     obtain⟨xs,m,hm,_,hlen,hxl,hf⟩:=DataW.trod_array hu h
     simp only[Nat.add_right_cancel_iff]at hm
     subst hm
     rw[JE hY hti]at hlen
     rw[JE hY hte]at hf
     obtain⟨es,g1,g2,g3⟩:=Zkr (w:=w) (S:=Shp Y n e) k (fun i=>(cs.drop (i*te.size)).take te.size) fun i hi=>by
      have h1:=hf i hi
      have h2:xs[i]? =some (xs[i]'(by omega)):=by simp
      rw[h2]at h1
      exact Zbl hY n e _ _ hs2 h1
     refine⟨es.flatten,?_,es,rfl,g1,g2⟩
     have:(List.range k).flatMap (fun i=>(cs.drop (i*te.size)).take te.size)=cs:=by
      have aux: ∀m,m<=k->(List.range m).flatMap (fun i=>(cs.drop (i*te.size)).take te.size)=cs.take (m*te.size):=by
       intro m
       induction m with
       |zero=>intro _;simp
       |succ m ih=>
        intro hm
        rw[List.range_succ,List.flatMap_append,ih (by omega),Nat.add_mul,Nat.one_mul,List.take_add]
        simp
      rw[aux k (Nat.le_refl _),<-hsz,<-hlen,List.take_length]
     rwa [this]at g3
    ·cases hs1
   |ptr _=>rw[hkk]at hs;cases hs
   |map _ _=>rw[hkk]at hs;cases hs
   |func=>rw[hkk]at hs;cases hs
   |iface=>rw[hkk]at hs;cases hs
   |other=>rw[hkk]at hs;cases hs
  ·cases hs
end

theorem PCon.calls{Y:YP}{f:FuncId}{args:List V}{w:World}{us:List Value}(h:PCon Y f args (· = .b true))(hg:Tabbed (inW w))(hv:VRs (inW w) args us):
  Calls Y.P f us.toArray w fun e w'=>e= .returned (.bool true)∧Below w.heap.size w w':=by
 refine(h.tr (inW w) w us (fun _ _ h=>h) hg hv).mono ?_
 rintro e w' ⟨r,W',u,rfl,rfl,hr,_,_,_,hs,hk,_,st⟩
 cases hr
 exact⟨rfl,st.os,st.tape,st.output,hs,hk⟩

theorem Zks{Y:YP}{n:Nat}{t:TypeId}{k:IntKind}(hk:Y.kd t=some (.int k)){vs:List V}(h:Shp Y n t vs): ∃i,vs= [.i k i]∧(Lit.int k i).wf=true:=by
 cases n with
 |zero=>exact h.elim
 |succ n=>simpa[Shp,hk]using h
theorem Zyk{Y:YP}{n:Nat}{t:TypeId}(hk:Y.kd t=some .str){vs:List V}(h:Shp Y n t vs): ∃s,vs= [.s s]∧s.length<=maxLen:=by
 cases n with
 |zero=>exact h.elim
 |succ n=>simpa[Shp,hk]using h
theorem Zim{Y:YP}{n:Nat}{t e:TypeId}(hk:Y.kd t=some (.slice e)){vs:List V}(h:Shp Y n t vs):
  ∃(m:Nat) (es:List (List V)),n=m+1∧vs= [.ts es.flatten es.length none]∧(∀x∈es,Shp Y m e x)∧es.length<=maxLen:=by
 cases n with
 |zero=>exact h.elim
 |succ n=>obtain⟨es,h1,h2⟩:=(by simpa[Shp,hk]using h: ∃es:List (List V),vs= [.ts es.flatten es.length none]∧(∀x∈es,Shp Y n e x)∧es.length<=maxLen);exact⟨n,es,rfl,h1,h2⟩
theorem Zbm{Y:YP}{n:Nat}{t:TypeId}{fs:List (Nat×TypeId)}(hk:Y.kd t=some (.struct fs)){vs:List V}(h:Shp Y n t vs):
  ∃m:Nat,n=m+1∧ShpF (Shp Y m) (fs.map (·.2)) vs:=by
 cases n with
 |zero=>exact h.elim
 |succ n=>exact⟨n,rfl,by simpa[Shp,hk]using h⟩

theorem Zkt{α:Type}{f:α->List V} : ∀ {es:List (List V)},(∀x∈es,∃a,x=f a)-> ∃l:List α,es.map id=l.map f
 | [],_=>⟨[],rfl⟩
 |x::es,h=>by
  obtain⟨a,rfl⟩:=h x (by simp)
  obtain⟨l,hl⟩:=Zkt (f:=f) (es:=es) fun y hy=>h y (by simp[hy])
  exact⟨a::l,by simp at hl ⊢;exact hl⟩
end Go.Y
