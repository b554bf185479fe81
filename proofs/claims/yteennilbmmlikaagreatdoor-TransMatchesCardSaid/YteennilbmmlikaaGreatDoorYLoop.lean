/- A part of the proof. -/
import Derived.Test.YteennilbmmlikaaGreatDoorYSym
import Derived.KernelRfl
import Derived.WalkKit
import Derived.ProofKit
import Derived.OpenShut
import Derived.ChangeOld
import Derived.Below
import Derived.Carry
import Derived.Deep.Slices
namespace Go.Y
set_option maxRecDepth 1000000
set_option maxHeartbeats 0
abbrev KT:=Out->Nat->List V->Heap->Prop
section
variable {Y:YP} {W:Vw} {σ:St} {a:Act} {w:World}
def lv(n:Nat)(σ:St):V:=σ.env.getD n .undef
def mk(n:Nat)(l:List (Nat×V)):List V:=l.foldl (λe p=>e.set p.1 p.2) (List.replicate n .undef)
theorem Zum: ∀(l:List (Nat×V)) (e:List V),(l.foldl (λe p=>e.set p.1 p.2) e).length=e.length/\
  ∀t v,(l.foldl (λe p=>e.set p.1 p.2) e)[t]? =some v->e[t]? =some v\/(t,v)∈l
 | [],e=>⟨rfl,λ_ _ h=> .inl h⟩
 |p::l,e=>by
  obtain⟨d,f⟩:=Zum l (e.set p.1 p.2);refine⟨by simpa using d,λt v h=> ?_⟩;rcases f t v h with h|h
  .rw[Qc]at h;split at h
   .rename_i c;split at h
    .simp at h;subst h;subst c;exact .inr sm
    .cases h
   .exact .inl h
  .exact .inr (uv _ h)
theorem Zk0(n:Nat)(l:List (Nat×V)):(mk n l).length=n:=by simpa[mk]using (Zum l (List.replicate n .undef)).1
theorem ZH5{n:Nat}{l:List (Nat×V)}{t:Nat}{v:V}(h:(mk n l)[t]? =some v):v= .undef\/(t,v)∈l:=by
 rcases(Zum l (List.replicate n .undef)).2 t v h with h|h
 .simp[List.getElem?_replicate]at h;exact .inl h.2.symm
 .exact .inr h
theorem Rel.fewer(h:Rel W σ a w){σ2:St}(n:σ2.h=σ.h)(l:σ2.env.length=σ.env.length)(hr:σ2.refs= [])(k: ∀(t:Nat) (v:V),σ2.env[t]? =some v->v=V.undef\/σ.env[t]? =some v):
  Rel W σ2 a w/\ ∀b,mine W σ2 a b->mine W σ a b:=by
 have c: ∀t b,QJ σ2 a t b->QJ σ a t b:=by
  rintro t b ⟨⟨m,d⟩,g⟩;rcases k t _ d with e|e
  .cases e
  .exact⟨⟨m,e⟩,g⟩
 refine⟨⟨n▸h.heap,by rw[l];exact h.size,λt v j=> ?_,λt r b d g=>h.box t r b (c _ _ d) (c _ _ g),λ_ _ _ o=>by simp[hr]at o,h.defers⟩,?_⟩
 .rcases k t v j with rfl|e
  .have f:t<a.tmps.size:=by
    rw[h.size,<-l];exact(List.getElem?_eq_some_iff.1 j).1
   exact⟨a.tmps[t],by simp[f], .undef _⟩
  .exact h.env t v e
 .rintro b (d|⟨t,d⟩|d)
  .exact .inl d
  .exact .inr (.inl ⟨t,c _ _ d⟩)
  .exact .inr (.inr d)
theorem Zy9{n:Nat}{l:List (Nat×V)}{c:Code}{Q}(k:σ.env.length=n)(m: ∀p∈l,lv p.1 σ=p.2)(h:Tri Y c ⟨mk n l,[],σ.h⟩ Q):Tri Y c σ Q:=by
 intro W a w W0 own0 w0 hr f;have e:=hr.fewer (σ2:=⟨mk n l,[],σ.h⟩) rfl (by simp[Zk0,k]) rfl (λt v g=>by
  rcases ZH5 g with rfl|j
  .exact .inl rfl
  .have:=m _ j;simp only[lv,List.getD]at this
   cases d:σ.env[t]? with
   |none=>rw[d]at this;exact .inl this.symm
   |some x=>rw[d]at this;simp at this;rw[this];exact .inr rfl)
 exact h W a w W0 own0 w0 e.1 (f.weaken e.2)
def VQ(c:List Nat)(K:KT):Out->St->Prop:=λo σ=>K o σ.env.length (c.map λi=>lv i σ) σ.h
theorem Zbq{n:Nat}{d:List Nat}{c:Code}{Q:Out->St->Prop}{f:List V}{h:Heap}(m:σ.env.length=n)(o:d.map (λi=>lv i σ)=f)(k:σ.h=h)
  (g:Tri Y c ⟨mk n (d.zip f),[],h⟩ Q):Tri Y c σ Q:=by
 subst k o;refine Zy9 m (λp hp=> ?_) g;have e: ∀l:List Nat,l.zip (l.map λi=>lv i σ)=l.map λi=>(i,lv i σ):=by
  intro l
  induction l with
  |nil=>rfl
  |cons x l j=>simp[j]
 rw[e]at hp;simp only[uW]at hp;obtain⟨i,_,rfl⟩:=hp
 rfl
def AtV(c:List Nat)(Q:Out->St->Prop)(o:Out)(len:Nat)(e:List V)(h:Heap):Prop:=
 ∀d:St,d.env.length=len->(c.map λi=>lv i d)=e->d.h=h->Q o d
theorem QM{n:Nat}{d:List Nat}{e:List Code}{Q:Out->St->Prop}{g:List V}{h:Heap}(m:e≠ [])(l:σ.env.length=n)(j:d.map (λi=>lv i σ)=g)(k:σ.h=h)
  (f:TriL Y e ⟨mk n (d.zip g),[],h⟩ Q):TriL Y e σ Q:=by
 match e,m,f with
 |c::r,_,f=>exact Zbq l j k f
/-! ### Code, cut at its loops -/
def flat:Code->List Code
 | .seq a b=>flat a++flat b
 | .scope a=>flat a
 |c=> [c]
def Vj:Code->Bool
 | .seq a b=>Vj a||Vj b
 | .cond _ a b=>Vj a||Vj b
 | .block _ b=>Vj b
 | .scope b=>Vj b
 | .loop _=>true
 |_=>false
def pre:List Code->List Code
 | []=> []
 |c::r=>if Vj c then []else c::pre r
def post:List Code->List Code
 | []=> []
 |c::r=>if Vj c then c::r else post r
theorem Zav: ∀ {l m:List Code} {σ:St} {Q:Out->St->Prop},TriL Y l σ (λo d=>match o with
  | .normal=>TriL Y m d Q
  | .exit i=>Q (.exit i) d
  | .ret=>Q .ret d)->TriL Y (l++m) σ Q
 | [],_,_,_,h=>h
 |c::r,m,σ,Q,h=>by
  refine Tri.mono h ?_;intro o d e
  cases o with
  |normal=>exact Zav (l:=r) e
  |exit i=>exact e
  |ret=>exact e
theorem XP: ∀ {c:Code} {r:List Code} {σ:St} {Q:Out->St->Prop},TriL Y (flat c++r) σ Q->TriL Y (c::r) σ Q
 | .seq a b,r,σ,Q,h=>by
  simp only[flat,uU]at h;have f:=XP (c:=a) h;refine XB (Ztu (Tri.mono f ?_));intro o e d
  cases o with
  |normal=>exact XP (c:=b) d
  |exit i=>exact d
  |ret=>exact d
 | .scope a,r,σ,Q,h=>by
  simp only[flat]at h;exact XB (Zkd (XP (c:=a) h))
 | .skip,_,_,_,h| .region _ _ _,_,_,_,h| .cond _ _ _,_,_,_,h| .block _ _,_,_,_,h| .loop _,_,_,_,h| .rangeFunc _ _ _ _,_,_,_,h
 | .exit _,_,_,_,h| .label _,_,_,_,h| .goto _,_,_,_,h| .ret,_,_,_,h| .refuse _,_,_,_,h=>h
theorem Zpt: ∀l:List Code,pre l++post l=l
 | []=>rfl
 |c::r=>by
  simp only[pre,post];split
  .rfl
  .simp[Zpt r]
def PreV(Y:YP)(n:Nat)(c:List Nat)(r:List Code)(Q:Out->St->Prop)(o:Out)(len:Nat)(d:List V)(h:Heap):Prop:=
 match o with
 | .normal=>len=n/\TriL Y r ⟨mk n (c.zip d),[],h⟩ Q
 |o=>AtV c Q o len d h
theorem Zza(f:YOK Y){loc:Nat->Bool}{fuel n:Nat}{c:List Nat}{l:List Code}{Q:Out->St->Prop}(g:post l≠ [])
  (h:Zc Y loc fuel (pre l) σ (VQ c (PreV Y n c (post l) Q))):TriL Y l σ Q:=by
 rw[<-Zpt l];refine Zav ((Zbp f _ _ _ _ h).mono ?_);intro o d e
 cases o with
 |normal=>exact QM g e.1 rfl rfl e.2
 |exit i=>exact e d rfl rfl rfl
 |ret=>exact e d rfl rfl rfl
def Za(fn:Func):Code:=fn.body.getD .skip
theorem ZBu(m:YOK Y){f:FuncId}{fn:Func}(l:Y.P.funcs[f]? =some fn)(j:fn.body.isSome=true){g:List V}{h:Heap}{Q:V->Heap->Prop}
  (k:TriL Y (flat (Za fn)) ⟨g++List.replicate (fn.ntmps-g.length) .undef,[],h⟩ λo σ=>(o= .normal\/o= .ret)/\ ∃v,JI Y fn σ=some v/\Q v σ.h):Con Y f g h Q:=by
 obtain⟨d,j⟩:=Option.isSome_iff_exists.1 j;have e:Za fn=d:=by simp[Za,j]
 rw[e]at k;refine⟨⟨fn,d,l,j⟩,Ztw m l j ?_⟩;have n:=XP (c:=d) (r:= []) (by simpa using k);refine Tri.mono n ?_;intro o u t;cases o<;>exact t
end
abbrev I (n : Int) : V := .i .i64 n
abbrev U (n : Int) : V := .i .u64 n
abbrev J (d : List V) (l : Nat) (c : Option Nat) : V := .ts d l c
abbrev S (a : Option (Nat × Nat)) (l : Nat) (c : Option Nat) (k : Nat) : V := .sl a l c k
abbrev Rp (n : Nat) : List V := List.replicate n .undef
abbrev MZ (n : Nat) (s : List Nat) (l : List V) : List V := mk n (s.zip l)
abbrev CP (Y : YP) (f : Nat) (c : List Code) (e : List V) (h : Heap) (d : List Nat) (K : KT) : Prop := Zc Y (Y.loc f) 100 c ⟨e, [], h⟩ (VQ d K)
abbrev S0 : V := .sl none 0 (some 0) 0
abbrev Ud : V := .undef
abbrev R9 (a b c d e : Int) (l : List V) (n : Nat) (k : Option Nat) (f g h : Int) : List V := [I a, U b, U c, U d, U e, J l n k, I f, I g, I h]
abbrev R0 : List V := [I 0, U 0, U 0, U 0, U 0, S0, I 0, I 0, I 0]
theorem qa:type_of% @List.take_succ_eq_append_getElem:=@List.take_succ_eq_append_getElem
theorem qb:type_of% @List.getElem?_eq_some_iff:=@List.getElem?_eq_some_iff
theorem qc:type_of% @Heap.get_set:=@Heap.get_set
theorem qdq:type_of% @Int.toNat_natCast:=@Int.toNat_natCast
theorem qe:type_of% @List.getElem_mem:=@List.getElem_mem
theorem qf:type_of% @List.length_append:=@List.length_append
theorem qg:type_of% @List.eq_nil_of_length_eq_zero:=@List.eq_nil_of_length_eq_zero
theorem qh:type_of% @List.length_cons:=@List.length_cons
theorem qi:type_of% @List.append_nil:=@List.append_nil
theorem qj:type_of% @Heap.get_pushT:=@Heap.get_pushT
theorem qk:type_of% @Heap.get_push:=@Heap.get_push
theorem ql:type_of% @List.drop_zero:=@List.drop_zero
theorem qm:type_of% @List.take_length:=@List.take_length
theorem qnq:type_of% @Nat.le_refl:=@Nat.le_refl
theorem qo:type_of% @List.getElem?_eq_getElem:=@List.getElem?_eq_getElem
theorem qp:type_of% @List.length_nil:=@List.length_nil
theorem qq:type_of% @List.getElem?_eq_none:=@List.getElem?_eq_none
theorem qrq:type_of% @Bool.and_eq_true:=@Bool.and_eq_true
theorem qs:type_of% @List.cons_append:=@List.cons_append
theorem qt:type_of% @List.take_of_length_le:=@List.take_of_length_le
theorem qu:type_of% @List.mem_cons:=@List.mem_cons
theorem qv:type_of% @Nat.lt_of_lt_of_le:=@Nat.lt_of_lt_of_le
theorem qw:type_of% @List.getD_eq_getElem?_getD:=@List.getD_eq_getElem?_getD
theorem qx:type_of% @Nat.zero_le:=@Nat.zero_le
theorem qy:type_of% @List.nil_append:=@List.nil_append
theorem qz:type_of% @List.map_cons:=@List.map_cons
theorem qA:type_of% @List.mem_append:=@List.mem_append
theorem qB:type_of% @List.drop_of_length_le:=@List.drop_of_length_le
theorem qC:type_of% @List.length_map:=@List.length_map
theorem rr:Out.ret=.normal\/Out.ret=.ret:=.inr rfl
abbrev I20:List V:=[I 0,I 0,I 0,I 0,I 0,I 0,I 0,I 0,I 0,I 0,I 0,I 0,I 0,I 0,I 0,I 0,I 0,I 0,I 0,I 0]
abbrev wW(x:Int):Int:=IntKind.i64.wrap x
def IsL(h:Heap)(k:Nat)(a:Option (Nat×Nat))(l:Nat)(c:Option Nat)(f:Nat)(d:List V):Prop:=
 l*k=d.length/\((a=none/\l=0/\d= [])\/ ∃e,a=some (e,0)/\c=none/\f=k/\e<h.nx/\h.get e=some (.arr d true))
def Fr(h:Heap)(a:Option (Nat×Nat))(c:Heap):Prop:=h.nx<=c.nx/\ ∀j,j<h.nx->(∀o,a≠some (j,o))->c.get j=h.get j
theorem Fr.refl(h)(a:Option (Nat×Nat)):Fr h a h:=⟨Nat.le_refl _,λ_ _ _=>rfl⟩
theorem Fr.push{h c:Heap}{a:Option (Nat×Nat)}{o:YObj}(f:Fr (h.push o) a c):Fr h a c:=by
 refine⟨by have:=f.1;simp at this;omega,λj e d=> ?_⟩;rw[f.2 j (by simp;omega) d,Heap.get_push,uE om]
theorem Fr.pushT{h c:Heap}{a:Option (Nat×Nat)}{t:Option TypeId}{o:YObj}(f:Fr (h.pushT t o) a c):Fr h a c:=by
 refine⟨by have:=f.1;simp at this;omega,λj e d=> ?_⟩;rw[f.2 j (by simp;omega) d,Heap.get_pushT,uE om]
theorem IsL.nil(h)(k:Nat)(c)(a:Nat):IsL h k none 0 c a []:=⟨sm, .inl ⟨rfl,rfl,rfl⟩⟩
theorem Ze8(l:List V):Zr l.length l=some l:=by
 induction l with
 |nil=>rfl
 |cons v l a=>simp[Zr,a]
theorem ZD{l:List V}{n:Nat}(h:n=l.length):Zr n l=some l:=by subst h;exact Ze8 l
theorem Zrw{Y:YP}{h:Heap}{k:Nat}{a:Option (Nat×Nat)}{l:Nat}{c:Option Nat}{o:Nat}{n new:List V}{st e:TypeId}{g:TI}{m:Nat}
  (F:Y.kd st=some (.slice e)) (t:Y.ty e=some g) (v:g.size=k) (r:k≠0) (N:IsL h k a l c o n) (W:m≠0) (H:m*k=new.length) (K:Zp new=true)
  (Z:(l+m)*g.bytes<=most) (G:l+m<=most):
  ∃B A O L x,Zk Y (h.push (.arr new true)) st st (.sl a l c o) (.sl (some (h.nx,0)) m (some m) k)=some (.sl B A O L,x)/\
   IsL x k B A O L (n++new)/\Fr h a x/\A=l+m/\ ∃j,B=some (j,0)/\h.nx<=j:=by
 have f:XI Y ⟨[],[],h.push (.arr new true)⟩ g st (.sl (some (h.nx,0)) m (some m) k)=some (m,new):=by
  simp only[XI,F,QT,XQ,v,vG,Xu,Heap.get_push,List.drop_zero];rw[ZD H];rfl
 have P: ¬((!Zp new||decide (g.size=0))=true):=by simp[K,v,r]
 rcases N.2 with ⟨rfl,rfl,rfl⟩|⟨w,rfl,rfl,rfl,a0,u⟩
 .refine⟨some (h.nx+1,0),m,none,k,(h.push (.arr new true)).pushT (Y.tag e) (.arr new true),?_,⟨by simpa using H, .inr ⟨h.nx+1,rfl,rfl,rfl,sm,by simp[Heap.get_push]⟩⟩,?_,sm,h.nx+1,rfl,om⟩
  .simp only[Zk,Xe,F,t,f,P,vF,W];have h1:m*g.bytes<=most:=by simpa using Z
   have h2:m<=most:=by simpa using G
   simp[h1,h2,v]
  .exact((Fr.refl _ _).pushT).push
 .have d:=N.1;refine⟨some (h.nx+1,0),l+m,none,o,(((h.push (.arr new true)).set w none).pushT (if 0=0/\(h.push (.arr new true)).tagOf w=some e then some e else none) (.arr (n++new) true)),?_,⟨by rw[ur,d,H,List.length_append], .inr ⟨h.nx+1,rfl,rfl,rfl,sm,by simp[Heap.get_push]⟩⟩,?_,rfl,h.nx+1,rfl,om⟩
  .have D:(h.push (.arr new true)).get w=some (.arr n true):=by rw[Heap.get_push,uE om,u]
   have z: ¬((l+m)*g.bytes>most\/l+m>most):=om;have y: ¬(0+(l+m)*o<=n.length):=by
    rw[<-d,ur];have:0<m*o:=Nat.mul_pos om om;omega
   have C:Zr (l*o) (n.drop 0)=some n:=by rw[List.drop_zero];exact ZD d
   simp only[Zk,Xe,F,t,f,P,vF,W,v,ne_eq,not_true_eq_false,z,D,y,Bool.true_or,vG,C];rw[uE (by simp[K,r])]
   rfl
  .refine⟨by simp;omega,λj hj ha=> ?_⟩;have E:j≠w:=λX=>by subst X;exact ha 0 rfl
   rw[Heap.get_pushT,uE (by simp;omega),Heap.get_set,uE E,Heap.get_push,uE om]
theorem WD{n:Nat}{l:List V}(h:n<=l.length):Zr n l=some (l.take n):=by
 induction n generalizing l with
 |zero=>simp[Zr]
 |succ n a=>
  cases l with
  |nil=>simp at h
  |cons v l=>simp only[Zr,List.take_succ_cons];rw[a (by simpa using h)];rfl
def row{a:Type}(f:a->List V)(l:List a):List V:=(l.map f).flatten
theorem Xh{a:Type}{f:a->List V}{k:Nat}(d: ∀x,(f x).length=k)(l:List a):(row f l).length=l.length*k:=by
 induction l with
 |nil=>simp[row]
 |cons x l c=>
  have:row f (x::l)=f x++row f l:=by simp[row]
  rw[this,List.length_append,d,c,List.length_cons,ur];omega
theorem Zd4{c:Type}{f:c->List V}{k:Nat}(a: ∀x,(f x).length=k): ∀(l:List c) (i:Nat),(row f l).drop (i*k)=row f (l.drop i)
 | [],i=>by simp[row]
 |x::l,0=>sm
 |x::l,i+1=>by
  have h:row f (x::l)=f x++row f l:=by simp[row]
  rw[h,List.drop_succ_cons,<-Zd4 a l i,ur,Nat.one_mul,Nat.add_comm,<-vH]
  congr 1
  rw[<-a x];simp
theorem Xp{a:Type}{f:a->List V}{k:Nat}(c: ∀x,(f x).length=k){l:List a}{i:Nat}(d:i<l.length):Zr k ((row f l).drop (i*k))=some (f l[i]):=by
 rw[Zd4 c];have:l.drop i=l[i]::l.drop (i+1):=uM d;rw[this];have e: ∀(x:a) (m:List a),row f (x::m)=f x++row f m:=λx m=>by simp[row]
 rw[e,WD (by simp[c])]
 congr 1
 rw[<-c l[i]];simp
theorem Xz{a:Type}{f:a->List V}(l m:List a):row f (l++m)=row f l++row f m:=by simp[row]
/-! ### What is handed back, by the slots that live on -/
def Zbr:List (Nat×V)->Nat->Option V
 | [],_=>none
 |(s,v)::r,t=>if s=t then some v else Zbr r t
def Zdv(Y:YP)(l:List (Nat×V)):ResultVar->Option V
 | .tmp t=>match (Zbr l t).map V.plain with
  |none|some .undef=>none
  |some v=>some v
 | .cell a t=>match Y.ty t,Zbr l a with
  |some c,some (.lb d)=>(Zr c.size d).bind (Jj c.kd.agg)
  |_,_=>none
def Zdw(Y:YP)(l:List (Nat×V)):List ResultVar->Option (List V)
 | []=>some []
 |r::rs=>match Zdv Y l r,Zdw Y l rs with
  |some v,some a=>some (v::a)
  |_,_=>none
def resV(Y:YP)(fn:Func)(l:List (Nat×V)):Option V:=
 match Zdw Y l fn.results.toList with
 |some [v]=>some v
 |some a=>some (.tup a)
 |none=>none
theorem Zi0{c:St} : ∀ {a:List Nat} {t:Nat} {v:V},Zbr (a.zip (a.map λi=>lv i c)) t=some v->lv t c=v
 | [],t,v,h=>by simp[Zbr]at h
 |s::r,t,v,h=>by
  simp only[List.map_cons,List.zip_cons_cons,Zbr]at h;split at h
  .rename_i d;subst d;simpa using h
  .exact Zi0 h
theorem Zzb{Y}{d}{c:List Nat}{r:ResultVar}{v}(h:Zdv Y (c.zip (c.map λi=>lv i d)) r=some v):Zap Y d r=some v:=by
 cases r with
 |tmp t=>
  simp only[Zdv]at h
  cases e:Zbr (c.zip (c.map λi=>lv i d)) t with
  |none=>rw[e]at h;cases h
  |some x=>
   rw[e]at h;have g:d.env.getD t .undef=x:=Zi0 e;simp only[Zap,ev,g];simp only[uw]at h;split at h
   .cases h
   .cases h
   .rename_i w k f;simp only[uB]at f h;subst h f;split
    .rename_i l;exact absurd (by rw[l]) k
    .rfl
 |cell a t=>
  simp only[Zdv]at h;split at h
  .rename_i n m j e;have g:d.env.getD a .undef= .lb m:=Zi0 e;simp only[Zap,j,addr,g];simp only[Xu,g,List.drop_zero];exact h
  .cases h
theorem Zi1{Y}{e}{a:List Nat} : ∀ {d:List ResultVar} {c:List V},Zdw Y (a.zip (a.map λi=>lv i e)) d=some c->Jb Y e d=some c
 | [],c,h=>by simpa[Zdw,Jb]using h
 |r::d,c,h=>by
  simp only[Zdw]at h;split at h
  .rename_i v vs' f g;simp only[Jb,Zzb f,Zi1 g];exact h
  .cases h
def Fin(Y:YP)(fn:Func)(a:List Nat)(P:V->Heap->Prop)(o:Out)(_:Nat)(c:List V)(h:Heap):Prop:=
 (o= .normal\/o= .ret)/\ ∃v,resV Y fn (a.zip c)=some v/\P v h
def FinS(Y:YP)(fn:Func)(P:V->Heap->Prop)(o:Out)(a:St):Prop:=(o= .normal\/o= .ret)/\ ∃v,JI Y fn a=some v/\P v a.h
theorem Zk1{Y}{fn}{a}{P}{o:Out}{n:Nat}{e}{h}(f:Fin Y fn a P o n e h):AtV a (FinS Y fn P) o n e h:=by
 rintro m _ rfl rfl;obtain⟨l,v,d,k⟩:=f;refine⟨l,v,?_,k⟩;unfold resV at d;unfold JI;split at d
 .rename_i x j;rw[Zi1 j];exact d
 .rename_i e g j;rw[Zi1 j];simp only[uB]at d;subst d;split
  .rename_i y c;simp only[uB]at c;exact absurd c (g y)
  .rename_i c;simp only[uB]at c;rw[c]
  .rename_i c;cases c
 .cases d
theorem ZG{Y}(e:YOK Y){f:FuncId}{fn:Func}{a:List V}(j:Xo a=true){P:V->Prop}
  (d:TriL Y (flat (Za fn)) ⟨a++List.replicate (fn.ntmps-a.length) .undef,[], .empty⟩ (FinS Y fn λv h=> ∃r,Frz h v r/\P r)) (l:Y.P.funcs[f]? =some fn:=by kernel_rfl) (k:fn.body.isSome=true:=by kernel_rfl):PCon Y f a P:=by
 have c:=ZBu e l k (Q:=λv h=> ∃r,Frz h v r/\P r) d;exact⟨c.body,PTr.of (Vh j) c.tr λv h g=>g⟩
theorem ZB{Y}{fn}{a:List Nat}{o:Out}{n:Nat}{c}{h}{v1 r1 R:V}(e:o= .normal\/o= .ret)(d:resV Y fn (a.zip c)=some v1)(f:Frz h v1 r1)(hr:r1=R):
  Fin Y fn a (λv h=> ∃r,Frz h v r/\r=R) o n c h:=⟨e,_,d,_,f,hr⟩
theorem Zk2{Y}{fn}{a:List Nat}{o:Out}{n:Nat}{d}{h}{v1 c r1 e R:V}(g:o= .normal\/o= .ret)(f:resV Y fn (a.zip d)=some (.tup [v1,c]))(j:Frz h v1 r1)(k:Frz h c e)(hr: .tup [r1,e]=R):
  Fin Y fn a (λv h=> ∃r,Frz h v r/\r=R) o n d h:=⟨g,_,f,_, .tup _ _ (.cons _ _ _ _ j (.cons _ _ _ _ k .nil)),hr⟩
theorem fin1{Y}{fn}{a:List Nat}{o:Out}{n:Nat}{c}{h}{v1 r1 R:V}(e:o= .normal\/o= .ret)(d:resV Y fn (a.zip c)=some v1)(f:Frz h v1 r1)(hr:r1=R):
  AtV a (FinS Y fn λv h=> ∃r,Frz h v r/\r=R) o n c h:=Zk1 ⟨e,_,d,_,f,hr⟩
theorem fin2{Y}{fn}{a:List Nat}{o:Out}{n:Nat}{d}{h}{v1 c r1 e R:V}(g:o= .normal\/o= .ret)(f:resV Y fn (a.zip d)=some (.tup [v1,c]))(j:Frz h v1 r1)(k:Frz h c e)(hr: .tup [r1,e]=R):
  AtV a (FinS Y fn λv h=> ∃r,Frz h v r/\r=R) o n d h:=Zk1 ⟨g,_,f,_, .tup _ _ (.cons _ _ _ _ j (.cons _ _ _ _ k .nil)),hr⟩
theorem fin3{Y}{fn}{a:List Nat}{o:Out}{n:Nat}{d}{h}{v1 c e r1 g f R:V}(k:o= .normal\/o= .ret)(m:resV Y fn (a.zip d)=some (.tup [v1,c,e]))(l:Frz h v1 r1)(t:Frz h c g)(j:Frz h e f)(hr: .tup [r1,g,f]=R):
  AtV a (FinS Y fn λv h=> ∃r,Frz h v r/\r=R) o n d h:=Zk1 ⟨k,_,m,_, .tup _ _ (.cons _ _ _ _ l (.cons _ _ _ _ t (.cons _ _ _ _ j .nil))),hr⟩
theorem WT{c:Prop} [Decidable c] {p q:Prop} (h:c->p) (g: ¬c->q):If (decide c) p q:=Zf (λa=>h (by simpa using a)) (λa=>g (by simpa using a))
theorem VM{t:Nat}{p q:Prop}(h:0<t->p)(g:t=0->q):If (ltI 0 (t:Int)) p q:=Zf (λa=>h (by simpa[ltI]using a)) (λa=>g (by simp[ltI]at a;omega))
theorem Zq{a b:Nat}{p q:Prop}(h:a<b->p)(g:b<=a->q):If (ltI (a:Int) (b:Int)) p q:=Zf (λc=>h (by simpa[ltI]using c)) (λc=>g (by simp[ltI]at c;omega))
theorem Xr{a b:Int}{p q:Prop}(h:a<b->p)(g:b<=a->q):If (ltI a b) p q:=Zf (λc=>h (by simpa[ltI]using c)) (λc=>g (by simpa[ltI]using c))
theorem JT{a b:Int}{p q:Prop}(h:a<=b->p)(g:b<a->q):If (leI a b) p q:=Zf (λc=>h (by simpa[leI]using c)) (λc=>g (by simpa[leI]using c))
/-! ### Code, cut -/
def Xd:List Code->Nat
 | .block a (.loop _)::_=>a
 |_=>0
def Zx:List Code->Code
 | .block _ (.loop b)::_=>b
 |_=> .skip
def Zpu:List Code->Bool
 | .block _ (.loop _)::_::_=>true
 |_=>false
theorem Zk3{l:List Code}(h:Zpu l=true):l= .block (Xd l) (.loop (Zx l))::l.drop 1/\l.drop 1≠ []:=by
 unfold Zpu at h;split at h
 .exact⟨rfl,sm⟩
 .cases h
theorem Xg{Y}(f:YOK Y){loc:Nat->Bool}(fuel:Nat){n:Nat}(a:List Nat){c:St}{l}{Q:Out->St->Prop}(d:(post l).isEmpty=false)
  (h:Zc Y loc fuel (pre l) c (VQ a (PreV Y n a (post l) Q))):TriL Y l c Q:=
 Zza f (λe=>by rw[e]at d;cases d) h
theorem ZDx{c:List Nat}{K:KT}{a:List Nat}{o:Out}{n:Nat}{g:List V}{h:Heap}
  (j: ∀d:St,d.env.length=n->(a.map λi=>lv i d)=g->d.h=h->K o n (c.map λi=>lv i d) h):AtV a (VQ c K) o n g h:=by
 intro d f k e;have:=j d f k e;unfold VQ;rw[f,e];exact this
def JU:List Code->Nat
 | .block a _::_=>a
 |_=>0
def ZL:List Code->Code
 | .block _ b::_=>b
 |_=> .skip
def Znq:List Code->Bool
 | .block _ _::_::_=>true
 |_=>false
theorem Zrx{l:List Code}(h:Znq l=true):l= .block (JU l) (ZL l)::l.drop 1/\l.drop 1≠ []:=by
 unfold Znq at h;split at h
 .exact⟨rfl,sm⟩
 .cases h
def ZDy(c:Nat)(K:KT)(o:Out)(n:Nat)(a:List V)(h:Heap):Prop:=
 match o with
 | .exit j=>if j=c then K .normal n a h else K (.exit j) n a h
 |o=>K o n a h
def ZBv:List Code->Bool
 | [.block _ _]=>true
 |_=>false
theorem Zun{Y:YP}{a:List Nat}{g:St}{l:List Code}{K:KT}(f:ZBv l=true)
  (h:TriL Y (flat (ZL l)) g (VQ a (ZDy (JU l) K))):TriL Y l g (VQ a K):=by
 unfold ZBv at f;split at f
 .rename_i k b;have m:=XP (c:=b) (r:= []) (by rw[List.append_nil];exact h);refine QC (Tri.mono m ?_);intro o n d
  cases o with
  |normal=>exact d
  |ret=>exact d
  |exit j=>
   have d:ZDy k K (.exit j) _ _ _:=d;simp only[ZDy]at d;by_cases e:j=k
   .rw[uF e]at d;simp only[uF e];exact d
   .rw[uE e]at d;simp only[uE e];exact d
 .cases f
def QU:List Code->Code
 | .cond _ a _::_=>a
 |_=> .skip
def ZT:List Code->Code
 | .cond _ _ b::_=>b
 |_=> .skip
def ZH6:List Code->Operand
 | .cond x _ _::_=>x
 |_=> .tmp 0
def ZBw:List Code->Bool
 | [.cond _ _ _]=>true
 |_=>false
theorem Zz{Y}{a:St}{l:List Code}{Q}(d:ZBw l=true){b:Bool}(g:ev a.env (ZH6 l)= .b b)(h:TriL Y (flat (if b then QU l else ZT l)) a Q):TriL Y l a Q:=by
 unfold ZBw at d;split at d
 .rename_i x p q;have e:=XP (c:=if b then p else q) (r:= []) (by rw[List.append_nil];exact h);exact XB (Ziq g (Tri.mono e λo f j=>by cases o<;>exact j))
 .cases d
theorem ZR{Y}(d:YOK Y){loc:Nat->Bool}(fuel:Nat)(a){c}{l}{K:KT}(h:Zc Y loc fuel l c (VQ a K)):TriL Y l c (VQ a K):=Zbp d _ _ _ _ h
theorem ZE{Y}(e:YOK Y){loc:Nat->Bool}(fuel:Nat)(a){d}{l}{fn}{P}(h:Zc Y loc fuel l d (VQ a (Fin Y fn a P))):TriL Y l d (FinS Y fn P):=
 (Zbp e _ _ _ _ h).mono λ_ c f=>Zk1 f c rfl rfl rfl
theorem ZA{n:Nat}{l:List (Nat×V)} :(mk n l).length=n:=Zk0 n l
/-! ### Lists -/
abbrev lst{a:Type}(f:a->List V)(l:List a):V:= .ts (row f l) l.length none
theorem Js{d:Type}(f:d->List V)(h)(c)(k:Nat):Frz h (.sl none 0 c k) (lst f []):= .sln _ _ _ (λx a=>by cases a)
theorem Zbs{Y:YP}{h:Heap}{k:Nat}{a:Option (Nat×Nat)}{l:Nat}{c:Option Nat}{kk:Nat}{cs new:List V}{st e:TypeId}{g:TI}{m:Nat}{cap:Option Nat}
  (D:Y.kd st=some (.slice e)) (o:Y.ty e=some g) (u:g.size=k) (n:k≠0) (H:IsL h k a l c kk cs) (L:m≠0) (N:Zr (m*k) new=some new) (F:Zp new=true)
  (P:(l+m)*g.bytes<=most) (E:l+m<=most):
  ∃A z K G v,Zk Y h st st (.sl a l c kk) (.ts new m cap)=some (.sl A z K G,v)/\IsL v k A z K G (cs++new)/\Fr h a v/\z=l+m/\ ∃j,A=some (j,0)/\h.nx<=j:=by
 have t:=Vd N;have f:XI Y ⟨[],[],h⟩ g st (.ts new m cap)=some (m,new):=by
  simp only[XI,D,QT,XQ,u,N];rfl
 rcases H.2 with ⟨rfl,rfl,rfl⟩|⟨w,rfl,rfl,rfl,Z,r⟩
 .refine⟨some (h.nx,0),m,none,k,h.pushT (Y.tag e) (.arr new true),?_,⟨by simp[t], .inr ⟨h.nx,rfl,rfl,rfl,sm,sm⟩⟩,(Fr.refl _ _).pushT,sm,h.nx,rfl,Nat.le_refl _⟩;have X:m*g.bytes<=most:=by simpa using P
  have h2:m<=most:=by simpa using E
  simp[Zk,Xe,D,o,f,F,L,X,h2,u,n]
 .have d:=H.1;refine⟨some (h.nx,0),l+m,none,kk,((h.set w none).pushT (if 0=0/\h.tagOf w=some e then some e else none) (.arr (cs++new) true)),?_,⟨by rw[ur,d,<-t,List.length_append], .inr ⟨h.nx,rfl,rfl,rfl,sm,by simp[Heap.get_push]⟩⟩,?_,rfl,h.nx,rfl,Nat.le_refl _⟩
  .have y: ¬((l+m)*g.bytes>most\/l+m>most):=om;have x: ¬(0+(l+m)*kk<=cs.length):=by
    rw[<-d,ur];have:0<m*kk:=Nat.mul_pos om om;omega
   have B:Zr (l*kk) (cs.drop 0)=some cs:=by rw[List.drop_zero];exact ZD d
   simp only[Zk,Xe,D,o,f,vF,L,u,ne_eq,not_true_eq_false,y,r,x,Bool.true_or,vG,B];rw[uE (by simp[F,n])]
  .refine⟨sm,λj hj W=> ?_⟩;have C:j≠w:=λO=>by subst O;exact W 0 rfl
   rw[Heap.get_pushT,uE (by simp;omega),Heap.get_set,uE C]
end Go.Y
namespace Go.Y
open Go.ChangeShapes Go.WideShapes Go.RowKit
def inW(w:World):Vw:= {mu:=λ_=>(0,0),sz:=λ_=>0,snap:=λb=>w.heap[b]?,lv:=λ_=>False,kn:=λ_=>False}
theorem Zzc(w):Le (inW w) (inW w).dead:=⟨λ_ h=>h,λ_ h=>h.elim,λ_ h=>h.elim,λ_ _ h=>h,λ_ h=>h.elim⟩
def ShpF(S:TypeId->List V->Prop):List TypeId->List V->Prop
 | [],c=>c= []
 |t::r,c=> ∃a b,c=a++b/\S t a/\ShpF S r b
def Shp(Y:YP):Nat->TypeId->List V->Prop
 |0,_,_=>False
 |n+1,t,c=>match Y.kd t with
  |some .bool=> ∃b,c= [.b b]
  |some (.int k)=> ∃i,c= [.i k i]/\(Lit.int k i).wf=true
  |some .str=> ∃s,c= [.s s]/\s.length<=maxLen
  |some (.slice e)=> ∃a:List (List V),c= [.ts a.flatten a.length none]/\(∀x∈a,Shp Y n e x)/\a.length<=maxLen
  |some (.struct d)=>ShpF (Shp Y n) (d.map (·.2)) c
  |some (.arr k e)=> ∃a:List (List V),c=a.flatten/\a.length=k/\ ∀x∈a,Shp Y n e x
  |_=>False
def Zdo(Y:YP):Nat->List (Nat×TypeId)->Nat->Bool
 |off,[],a=>off==a
 |off,f::r,a=>match Y.ty f.2 with
  |some c=>f.1==off&&Zdo Y (off+c.size) r a
  |none=>false
def Zaw(Y:YP):Nat->TypeId->Bool
 |0,_=>true
 |n+1,t=>match Y.ty t with
  |some c=>match c.kd with
   | .bool| .int _| .str=>true
   | .slice e=>(match Y.ty e with|some a=>a.size !=0|none=>false)&&Zaw Y n e
   | .struct d=>Zdo Y 0 d c.size&&d.all λf=>Zaw Y n f.2
   | .arr k e=>(match Y.ty e with|some a=>c.size==k*a.size|none=>false)&&Zaw Y n e
   |_=>false
  |none=>false
section
variable {Y:YP} {w:World} {H:Type} {enc:TypeId×Value->H} {base:Nat} {spare:Nat->Bool} {held:Bool}
theorem Wl(e:YOK Y){t:TypeId}{a:TI}(c:Y.ty t=some a):Y.P.cellsOf t=a.size:=by
 obtain⟨i,d,z,h⟩:=e.ty t a c;simp[Program.cellsOf,h.info,h.size]
theorem Znr{S:List V->Prop} : ∀(n:Nat) (f:Nat->List Value),(∀i,i<n-> ∃d,VRs (inW w) d (f i)/\S d)-> ∃c:List (List V),c.length=n/\(∀x∈c,S x)/\VRs (inW w) c.flatten ((List.range n).flatMap f)
 |0,_,_=>⟨[],rfl,sm, .nil⟩
 |n+1,f,h=>by
  obtain⟨c,j,e,g⟩:=Znr n f λi m=>h i om;obtain⟨d,k,l⟩:=h n om;refine⟨c++ [d],by simp[j],λx a=> ?_,?_⟩
  .rw[List.mem_append]at a;rcases a with a|a
   .exact e x a
   .simp at a;subst a;exact l
  .rw[List.flatten_append,List.range_succ,ug];refine g.append ?_;simpa using k
theorem Ze9{f:Nat->List Value}{k:Nat}(a: ∀i,(f i).length=k): ∀(n j:Nat) (u:Value),((List.range n).flatMap f)[j]? =some u-> ∃i r,i<n/\r<k/\j=i*k+r/\(f i)[r]? =some u
 |0,j,u,h=>by simp at h
 |n+1,j,u,h=>by
  rw[List.range_succ,ug]at h;have c: ∀n,((List.range n).flatMap f).length=n*k:=by
   intro n
   induction n with
   |zero=>simp
   |succ n e=>rw[List.range_succ,ug,List.length_append,e,ur];simp[a]
  by_cases d:j<n*k
  .rw[vC (by rw[c];exact d)]at h;obtain⟨i,r,l,g⟩:=Ze9 a n j u h;exact⟨i,r,om,g⟩
  .rw[vB (by rw[c];omega),c]at h;simp only[List.flatMap_cons,List.flatMap_nil,List.append_nil]at h;have:j-n*k<k:=by
    have:=(List.getElem?_eq_some_iff.1 h).1
    rwa [a]at this
   exact⟨n,j-n*k,om,this,om,h⟩
theorem Zc2(hY:YOK Y): ∀(fuel:Nat) (t:TypeId) (K:List Value) (x:DataW H×List MemPlace),Zaw Y fuel t=true->DataW.trod enc Y.P w base spare held fuel t K=some x->
  ∃G,VRs (inW w) G K/\Shp Y fuel t G
 |0,_,_,_,_,h=>by simp[DataW.trod]at h
 |n+1,t,K,x,B,h=>by
  simp only[Zaw]at B;split at B
  .rename_i ti a1;obtain⟨c8,d,z,hT⟩:=hY.ty t ti a1;have b6:Y.kd t=some ti.kd:=by simp[YP.kd,a1]
   have L:=hT.kd;have hu:=hT.und;simp only[Shp,b6]
   cases A:ti.kd with
   |bool=>
    rw[A]at L;cases L;obtain⟨b,rfl,_⟩:=DataW.trod_bool hu h;exact⟨_, .cons _ _ _ _ (.b b) .nil,b,rfl⟩
   |int k=>
    rw[A]at L;cases L;obtain⟨i,rfl,_,hw⟩:=DataW.trod_int hu h;exact⟨_, .cons _ _ _ _ (.i k i) .nil,i,rfl,hw⟩
   |str=>
    rw[A]at L;cases L;obtain⟨s,rfl,_,hl⟩:=DataW.trod_string hu h;have e:(⟨s.data.toList.toArray⟩:ByteArray)=s:=sm;refine⟨[.s s.data.toList], .cons _ _ _ _ ?_ .nil,_,rfl,by simpa using hl⟩;have:=VR.s (W:=inW w) s.data.toList
    rwa [e]at this
   |slice e=>
    rw[A]at L B;cases L;simp only[uH]at B;obtain⟨E,Z⟩:=B;split at E
    .rename_i v a3;have a8:v.size≠0:=by simpa using E
     have b4:=Wl hY a3;rcases DataW.trod_slice hu h with ⟨rfl,_⟩|⟨a,len,cap,QT,c7,m,hm,rfl,_,_,hl,c6,D,b8,_⟩
     .exact⟨_, .cons _ _ _ _ (.tsz none (λ_ h=>by cases h)) .nil,[],rfl,sm,sm⟩
     .simp only[Nat.add_right_cancel_iff]at hm;subst hm;by_cases h0:len=0
      .subst h0;exact⟨_, .cons _ _ _ _ (.tsn 0 none a cap (Nat.zero_le _) (λ_ h=>by cases h)) .nil,[],rfl,sm,sm⟩
      .have N: ∀i,i<len-> ∃F y,w.cells? base (a.add (i*v.size)) v.size=some F/\DataW.trod enc Y.P w base spare held n e F=some y:=by
        intro i hi;have C:=b8 i hi;rw[b4]at C;have h2:QT[i]? =some (QT[i]' om):=sm;rw[h2]at C
        cases hc:w.cells? base (a.add (i*v.size)) v.size with
        |none=>rw[hc]at C;simp at C
        |some F=>rw[hc]at C;exact⟨F,_,rfl,C⟩
       let f:Nat->List Value:=λi=>(w.cells? base (a.add (i*v.size)) v.size).getD (List.replicate v.size default)
       have hf: ∀i,(f i).length=v.size:=by
        intro i;simp only[f]
        cases hc:w.cells? base (a.add (i*v.size)) v.size with
        |none=>simp
        |some F=>simpa using (World.cells?_some hc).2.1
       obtain⟨es,g1,g2,g3⟩:=Znr (w:=w) (S:=Shp Y n e) len f λi hi=>by
        obtain⟨F,y,C,h2⟩:=N i hi;obtain⟨G,h3,h4⟩:=Zc2 hY n e F y Z h2;exact⟨G,by simpa[f,C]using h3,h4⟩
       have a6: ∀i r,i<len->r<v.size->w.cell? (a.add (i*v.size+r))=(f i)[r]? :=by
        intro i r hi hr;obtain⟨F,y,C,h2⟩:=N i hi;have h3:=(World.cells?_some C).2.2 r hr;simp only[f,C,uq];rw[<-h3];rw[Go.Deep.add_add]
       have a5: ∃u,w.cell? a=some u:=by
        have C:=a6 0 0 om om;have h2:(f 0)[0]? =some ((f 0)[0]'(by rw[hf];omega)):=sm;rw[h2]at C;rw[show a.add (0*v.size+0)=a by simp[Addr.add_zero']]at C;exact⟨_,C⟩
       obtain⟨u0,a0⟩:=a5;have X:=World.cell?_spot a0;obtain⟨blk,off,sp⟩:=a;simp only at X;subst X;obtain⟨c,et,fr,hb⟩: ∃c et fr,w.heap[blk]? =some (.cells c et fr):=by
        simp only[World.cell?]at a0;split at a0
        .exact⟨_,_,_,by assumption⟩
        .cases a0
       refine⟨_, .cons _ _ _ _ (.ts es.flatten len none cap blk off c et fr ((List.range len).flatMap f) hl (λ_ h=>by cases h) hb (λj u hj=> ?_) (g3.mono (Zzc w))) .nil,es,by rw[g1],g2,om⟩;obtain⟨i,r,k1,k2,rfl,k3⟩:=Ze9 hf len j u hj;have:=a6 i r k1 k2;rw[k3,Wb,Zim hb]at this;exact this
    .cases E
   |struct fs=>
    rw[A]at L B;obtain⟨l,rfl,a7,_⟩:=L;simp only[uH,uP]at B;obtain⟨E,Z⟩:=B;obtain⟨xs,m,hm,_,D,b9,hf⟩:=DataW.trod_struct hu h;simp only[Nat.add_right_cancel_iff]at hm;subst hm;rw[Wl hY a1]at D;have b3: ∀f∈fs,∀tf,Y.ty f.2=some tf-> ∃G,VRs (inW w) G ((K.drop f.1).take tf.size)/\Shp Y n f.2 G:=by
     intro f a4 tf a2;rw[a7]at a4;simp only[uW,Array.mem_toList_iff]at a4;obtain⟨fd,c4,rfl⟩:=a4;obtain⟨i,hi,rfl⟩:=Array.mem_iff_getElem.1 c4;have C:=hf i l[i] (by simp[hi]);rw[Wl hY a2]at C;have h2:xs[i]? =some (xs[i]' om):=sm;rw[h2]at C;exact Zc2 hY n _ _ _ (Z (l[i].offset,l[i].type) (by rw[a7];exact uW.2 ⟨l[i],sm,rfl⟩)) C
    have b0: ∀(fs:List (Nat×TypeId)) (off:Nat),Zdo Y off fs ti.size=true->off<=K.length->(∀f∈fs,∀tf,Y.ty f.2=some tf-> ∃G,VRs (inW w) G ((K.drop f.1).take tf.size)/\Shp Y n f.2 G)->
      ∃G,VRs (inW w) G (K.drop off)/\ShpF (Shp Y n) (fs.map (·.2)) G:=by
     intro fs
     induction fs with
     |nil=>
      intro off ht _ _;simp only[Zdo,vM]at ht;refine⟨[],?_,rfl⟩;rw[List.drop_of_length_le om];exact .nil
     |cons f r ih=>
      intro off ht ho O;simp only[Zdo]at ht;split at ht
      .rename_i tf a2;simp only[uH,vM]at ht;obtain⟨rfl,ht⟩:=ht;have b5:f.1+tf.size<=K.length:=by
        rw[D];clear ih O;have: ∀(r:List (Nat×TypeId)) (o:Nat),Zdo Y o r ti.size=true->o<=ti.size:=by
         intro r
         induction r with
         |nil=>intro o h;simp only[Zdo,vM]at h;omega
         |cons g r ih=>
          intro o h;simp only[Zdo]at h;split at h
          .simp only[uH,vM]at h;have:=ih _ h.2;omega
          .cases h
        exact this r _ ht
       have:=O f sm tf a2;obtain⟨a,a9,b2⟩:=this;obtain⟨b,b7,c5⟩:=ih (f.1+tf.size) ht b5 λg hg=>O g (by simp[hg]);refine⟨a++b,?_,a,b,rfl,b2,c5⟩;have:=a9.append b7
       rwa [<-vH,vL]at this
      .cases ht
    obtain⟨G,k1,k2⟩:=b0 fs 0 E (Nat.zero_le _) b3;exact⟨G,by simpa using k1,k2⟩
   |arr k e=>
    rw[A]at L B;obtain⟨rfl,_⟩:=L;simp only[uH]at B;obtain⟨E,Z⟩:=B;split at E
    .rename_i v a3;have a8:ti.size=k*v.size:=by simpa using E
     obtain⟨xs,m,hm,_,D,b9,hf⟩:=DataW.trod_array hu h;simp only[Nat.add_right_cancel_iff]at hm;subst hm;rw[Wl hY a1]at D;rw[Wl hY a3]at hf;obtain⟨es,g1,g2,g3⟩:=Znr (w:=w) (S:=Shp Y n e) k (λi=>(K.drop (i*v.size)).take v.size) λi hi=>by
      have C:=hf i hi;have h2:xs[i]? =some (xs[i]' om):=sm;rw[h2]at C;exact Zc2 hY n e _ _ Z C
     refine⟨es.flatten,?_,es,rfl,g1,g2⟩;have:(List.range k).flatMap (λi=>(K.drop (i*v.size)).take v.size)=K:=by
      have b1: ∀m,m<=k->(List.range m).flatMap (λi=>(K.drop (i*v.size)).take v.size)=K.take (m*v.size):=by
       intro m
       induction m with
       |zero=>intro _;simp
       |succ m ih=>
        intro hm;rw[List.range_succ,ug,ih om,ur,Nat.one_mul,List.take_add];simp
      rw[b1 k (Nat.le_refl _),<-a8,<-D,List.take_length]
     rwa [this]at g3
    .cases E
   |ptr _=>rw[A]at B;cases B
   |map _ _=>rw[A]at B;cases B
   |func=>rw[A]at B;cases B
   |iface=>rw[A]at B;cases B
   |other=>rw[A]at B;cases B
  .cases B
end
theorem PCon.calls{Y}{f:FuncId}{a}{w}{c:List Value}(h:PCon Y f a (· = .b true))(j:Tabbed (inW w))(l:VRs (inW w) a c):
  Calls Y.P f c.toArray w λe d=>e= .returned (.bool true)/\Below w.heap.size w d:=by
 refine(h.tr (inW w) w c (λ_ _ h=>h) j l).mono ?_;rintro e d ⟨r,m,u,rfl,rfl,hr,_,_,_,g,k,_,st⟩;cases hr;exact⟨rfl,st.os,st.tape,st.output,g,k⟩
theorem ZDz{Y:YP}{n:Nat}{t:TypeId}{k:IntKind}(c:Y.kd t=some (.int k)){a:List V}(h:Shp Y n t a): ∃i,a= [.i k i]/\(Lit.int k i).wf=true:=by
 cases n with
 |zero=>exact h.elim
 |succ n=>simpa[Shp,c]using h
theorem ZD0{Y:YP}{n:Nat}{t:TypeId}(c:Y.kd t=some .str){a:List V}(h:Shp Y n t a): ∃s,a= [.s s]/\s.length<=maxLen:=by
 cases n with
 |zero=>exact h.elim
 |succ n=>simpa[Shp,c]using h
theorem Zry{Y:YP}{n:Nat}{t:TypeId}{a:List (Nat×TypeId)}(d:Y.kd t=some (.struct a)){c}(h:Shp Y n t c):
  ∃m:Nat,n=m+1/\ShpF (Shp Y m) (a.map (·.2)) c:=by
 cases n with
 |zero=>exact h.elim
 |succ n=>exact⟨n,rfl,by simpa[Shp,d]using h⟩
end Go.Y
