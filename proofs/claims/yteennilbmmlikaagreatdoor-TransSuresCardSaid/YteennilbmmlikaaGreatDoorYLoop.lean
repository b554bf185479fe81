/- A part of the proof. -/
import Derived.Test.YteennilbmmlikaaGreatDoorYSym
import Derived.KernelRfl
import Derived.Test.YteennilbmmlikaaGreatDoorYAny3
import Derived.WalkKit
import Derived.ProofKit
import Derived.OpenShut
import Derived.ChangeOld
import Derived.Below
import Derived.Carry
import Derived.Deep.Slices
namespace Go.Y
set_option maxRecDepth 1000000
set_option maxHeartbeats 0
abbrev KT:=Out->Nat->List V->Heap->Prop
section
variable {Y:YP} {W:Vw} {σ:St} {a:Act} {w:World}
def lv(n:Nat)(σ:St):V:=σ.env.getD n .undef
def mk(n:Nat)(l:List (Nat×V)):List V:=l.foldl (λe p=>e.set p.1 p.2) (List.replicate n .undef)
theorem Zvl: ∀(l:List (Nat×V)) (e:List V),(l.foldl (λe p=>e.set p.1 p.2) e).length=e.length/\
  ∀t v,(l.foldl (λe p=>e.set p.1 p.2) e)[t]? =some v->e[t]? =some v\/(t,v)∈l
 | [],e=>⟨rfl,λ_ _ h=> .inl h⟩
 |p::l,e=>by
  obtain⟨b,c⟩:=Zvl l (e.set p.1 p.2);refine⟨su b,λt v h=> ?_⟩;rcases c t v h with h|h;rw[Qd]at h;split at h;rename_i d;split at h;simp at h;subst h;subst d;exact .inr sm;cases h;exact .inl h;exact .inr (uv _ h)
theorem Zlm(n:Nat)(l:List (Nat×V)):(mk n l).length=n:=by simpa[mk]using (Zvl l (List.replicate n .undef)).1
theorem ZJc{n:Nat}{l:List (Nat×V)}{t:Nat}{v:V}(h:(mk n l)[t]? =some v):v= .undef\/(t,v)∈l:=by
 rcases(Zvl l (List.replicate n .undef)).2 t v h with h|h;simp[List.getElem?_replicate]at h;exact .inl h.2.symm;exact .inr h
theorem Rel.fewer(h:Rel W σ a w){σ2:St}(m:σ2.h=σ.h)(j:σ2.env.length=σ.env.length)(o:σ2.refs= [])(i: ∀(t:Nat) (v:V),σ2.env[t]? =some v->v=V.undef\/σ.env[t]? =some v):
  Rel W σ2 a w/\ ∀b,mine W σ2 a b->mine W σ a b:=by
 have c: ∀t b,QJ σ2 a t b->QJ σ a t b:=by
  rintro t b ⟨⟨l,d⟩,f⟩;rcases i t _ d with e|e;cases e;exact⟨⟨l,e⟩,f⟩
 refine⟨⟨m▸h.heap,by rw[j];exact h.size,λt v k=> ?_,λt p b d f=>h.box t p b (c _ _ d) (c _ _ f),λ_ _ _ n=>by simp[o]at n,h.defers⟩,?_⟩
 .rcases i t v k with rfl|e
  .have g:t<a.tmps.size:=by
    rw[h.size,<-j];exact(List.getElem?_eq_some_iff.1 k).1
   exact⟨a.tmps[t],by simp[g], .undef _⟩
  .exact h.env t v e
 .rintro b (d|⟨t,d⟩|d);exact .inl d;exact .inr (.inl ⟨t,c _ _ d⟩);exact .inr (.inr d)
theorem ZAg{n:Nat}{l:List (Nat×V)}{c}{Q}(g:σ.env.length=n)(e: ∀p∈l,lv p.1 σ=p.2)(h:Tri Y c ⟨mk n l,[],σ.h⟩ Q):Tri Y c σ Q:=by
 intro W a w W0 own0 w0 i j;have b:=i.fewer (σ2:=⟨mk n l,[],σ.h⟩) rfl (by simp[Zlm,g]) rfl (λt v k=>by
  rcases ZJc k with rfl|f;exact .inl rfl
  .have:=e _ f;simp only[lv,List.getD]at this
   cases d:σ.env[t]? with
   |none=>rw[d]at this;exact .inl this.symm
   |some x=>rw[d]at this;simp at this;rw[this];exact .inr rfl)
 exact h W a w W0 own0 w0 b.1 (j.weaken b.2)
def VQ(b:List Nat)(K:KT):Out->St->Prop:=λo σ=>K o σ.env.length (b.map λi=>lv i σ) σ.h
theorem Zbv{n:Nat}{b:List Nat}{c:Code}{Q:Out->St->Prop}{f:List V}{h:Heap}(j:σ.env.length=n)(m:b.map (λi=>lv i σ)=f)(g:σ.h=h)
  (k:Tri Y c ⟨mk n (b.zip f),[],h⟩ Q):Tri Y c σ Q:=by
 subst g m;refine ZAg j (λp d=> ?_) k;have e: ∀l:List Nat,l.zip (l.map λi=>lv i σ)=l.map λi=>(i,lv i σ):=by
  intro l
  induction l with
  |nil=>rfl
  |cons x l o=>simp[o]
 rw[e]at d;simp only[uW]at d;obtain⟨i,_,rfl⟩:=d
 rfl
def AtV(b:List Nat)(Q:Out->St->Prop)(o:Out)(d:Nat)(e:List V)(h:Heap):Prop:=
 ∀c:St,c.env.length=d->(b.map λi=>lv i c)=e->c.h=h->Q o c
theorem QM{n:Nat}{b:List Nat}{d:List Code}{Q:Out->St->Prop}{f:List V}{h:Heap}(g:d≠ [])(k:σ.env.length=n)(l:b.map (λi=>lv i σ)=f)(j:σ.h=h)
  (e:TriL Y d ⟨mk n (b.zip f),[],h⟩ Q):TriL Y d σ Q:=by
 match d,g,e with
 |c::r,_,e=>exact Zbv k l j e
/-! ### Code, cut at its loops -/
def flat:Code->List Code
 | .seq a b=>flat a++flat b
 | .scope a=>flat a
 |c=> [c]
def Vn:Code->Bool
 | .seq a b=>Vn a||Vn b
 | .cond _ a b=>Vn a||Vn b
 | .block _ b=>Vn b
 | .scope b=>Vn b
 | .loop _=>true
 |_=>false
def pre:List Code->List Code
 | []=> []
 |c::r=>if Vn c then []else c::pre r
def post:List Code->List Code
 | []=> []
 |c::r=>if Vn c then c::r else post r
theorem Zaz: ∀ {l m:List Code} {σ:St} {Q:Out->St->Prop},TriL Y l σ (λo b=>match o with
  | .normal=>TriL Y m b Q
  | .exit i=>Q (.exit i) b
  | .ret=>Q .ret b)->TriL Y (l++m) σ Q
 | [],_,_,_,h=>h
 |c::r,m,σ,Q,h=>by
  refine Tri.mono h ?_;intro o b d
  cases o with
  |normal=>exact Zaz (l:=r) d
  |exit i=>exact d
  |ret=>exact d
theorem XQ: ∀ {c:Code} {r:List Code} {σ:St} {Q:Out->St->Prop},TriL Y (flat c++r) σ Q->TriL Y (c::r) σ Q
 | .seq a b,r,σ,Q,h=>by
  simp only[flat,uU]at h;have e:=XQ (c:=a) h;refine XC (Zut (Tri.mono e ?_));intro o f d
  cases o with
  |normal=>exact XQ (c:=b) d
  |exit i=>exact d
  |ret=>exact d
 | .scope a,r,σ,Q,h=>by
  simp only[flat]at h;exact XC (Zkz (XQ (c:=a) h))
 | .skip,_,_,_,h| .region _ _ _,_,_,_,h| .cond _ _ _,_,_,_,h| .block _ _,_,_,_,h| .loop _,_,_,_,h| .rangeFunc _ _ _ _,_,_,_,h
 | .exit _,_,_,_,h| .label _,_,_,_,h| .goto _,_,_,_,h| .ret,_,_,_,h| .refuse _,_,_,_,h=>h
theorem Zqe: ∀l:List Code,pre l++post l=l
 | []=>rfl
 |c::r=>by
  simp only[pre,post];split;rfl;simp[Zqe r]
def PreV(Y:YP)(n:Nat)(b:List Nat)(r:List Code)(Q:Out->St->Prop)(o:Out)(c:Nat)(d:List V)(h:Heap):Prop:=
 match o with
 | .normal=>c=n/\TriL Y r ⟨mk n (b.zip d),[],h⟩ Q
 |o=>AtV b Q o c d h
theorem ZAh(f:YOK Y){e:Nat->Bool}{fuel n:Nat}{b:List Nat}{l:List Code}{Q:Out->St->Prop}(g:post l≠ [])
  (h:Zc Y e fuel (pre l) σ (VQ b (PreV Y n b (post l) Q))):TriL Y l σ Q:=by
 rw[<-Zqe l];refine Zaz ((Zbu f _ _ _ _ h).mono ?_);intro o c d
 cases o with
 |normal=>exact QM g d.1 rfl rfl d.2
 |exit i=>exact d c rfl rfl rfl
 |ret=>exact d c rfl rfl rfl
def Za(fn:Func):Code:=fn.body.getD .skip
theorem ZC1(m:YOK Y){f:FuncId}{g:Func}(j:Y.P.funcs[f]? =some g)(i:g.body.isSome=true){b:List V}{h:Heap}{Q:V->Heap->Prop}
  (k:TriL Y (flat (Za g)) ⟨b++List.replicate (g.ntmps-b.length) .undef,[],h⟩ λo σ=>(o= .normal\/o= .ret)/\ ∃v,JI Y g σ=some v/\Q v σ.h):Con Y f b h Q:=by
 obtain⟨d,i⟩:=Option.isSome_iff_exists.1 i;have e:Za g=d:=by simp[Za,i]
 rw[e]at k;refine⟨⟨g,d,j,i⟩,Zuv m j i ?_⟩;have l:=XQ (c:=d) (r:= []) (su k);refine Tri.mono l ?_;intro o p n;cases o<;>exact n
end
abbrev I (n : Int) : V := .i .i64 n
abbrev U (n : Int) : V := .i .u64 n
abbrev J (b : List V) (l : Nat) (c : Option Nat) : V := .ts b l c
abbrev S (a : Option (Nat × Nat)) (l : Nat) (c : Option Nat) (k : Nat) : V := .sl a l c k
abbrev Rp (n : Nat) : List V := List.replicate n .undef
abbrev MZ (n : Nat) (s : List Nat) (l : List V) : List V := mk n (s.zip l)
abbrev CP (Y : YP) (f : Nat) (c : List Code) (e : List V) (h : Heap) (b : List Nat) (K : KT) : Prop := Zc Y (Y.loc f) 100 c ⟨e, [], h⟩ (VQ b K)
abbrev S0 : V := .sl none 0 (some 0) 0
abbrev Ud : V := .undef
abbrev R9 (a b c d e : Int) (l : List V) (n : Nat) (k : Option Nat) (f g h : Int) : List V := [I a, U b, U c, U d, U e, J l n k, I f, I g, I h]
abbrev R0 : List V := [I 0, U 0, U 0, U 0, U 0, S0, I 0, I 0, I 0]
theorem qa:type_of% @List.take_succ_eq_append_getElem:=@List.take_succ_eq_append_getElem
theorem qb:type_of% @List.getElem?_eq_some_iff:=@List.getElem?_eq_some_iff
theorem qc:type_of% @Heap.get_set:=@Heap.get_set
theorem qdq:type_of% @Int.toNat_natCast:=@Int.toNat_natCast
theorem qe:type_of% @List.getElem_mem:=@List.getElem_mem
theorem qf:type_of% @List.length_append:=@List.length_append
theorem qg:type_of% @List.eq_nil_of_length_eq_zero:=@List.eq_nil_of_length_eq_zero
theorem qh:type_of% @List.length_cons:=@List.length_cons
theorem qi:type_of% @List.append_nil:=@List.append_nil
theorem qj:type_of% @Heap.get_pushT:=@Heap.get_pushT
theorem qk:type_of% @Heap.get_push:=@Heap.get_push
theorem ql:type_of% @List.drop_zero:=@List.drop_zero
theorem qm:type_of% @List.take_length:=@List.take_length
theorem qnq:type_of% @Nat.le_refl:=@Nat.le_refl
theorem qo:type_of% @List.getElem?_eq_getElem:=@List.getElem?_eq_getElem
theorem qp:type_of% @List.length_nil:=@List.length_nil
theorem qq:type_of% @List.getElem?_eq_none:=@List.getElem?_eq_none
theorem qrq:type_of% @Bool.and_eq_true:=@Bool.and_eq_true
theorem qs:type_of% @List.cons_append:=@List.cons_append
theorem qt:type_of% @List.take_of_length_le:=@List.take_of_length_le
theorem qu:type_of% @List.mem_cons:=@List.mem_cons
theorem qv:type_of% @Nat.lt_of_lt_of_le:=@Nat.lt_of_lt_of_le
theorem qw:type_of% @List.getD_eq_getElem?_getD:=@List.getD_eq_getElem?_getD
theorem qx:type_of% @Nat.zero_le:=@Nat.zero_le
theorem qy:type_of% @List.nil_append:=@List.nil_append
theorem qz:type_of% @List.map_cons:=@List.map_cons
theorem qA:type_of% @List.mem_append:=@List.mem_append
theorem qB:type_of% @List.drop_of_length_le:=@List.drop_of_length_le
theorem qC:type_of% @List.length_map:=@List.length_map
theorem rr:Out.ret=.normal\/Out.ret=.ret:=.inr rfl
abbrev I20:List V:=[I 0,I 0,I 0,I 0,I 0,I 0,I 0,I 0,I 0,I 0,I 0,I 0,I 0,I 0,I 0,I 0,I 0,I 0,I 0,I 0]
abbrev wW(x:Int):Int:=IntKind.i64.wrap x
abbrev e_0:Nat:=Heap.empty.nx
abbrev p_P(i:Nat):V:=.p (some (i,0))
def IsL(h:Heap)(k:Nat)(a:Option (Nat×Nat))(l:Nat)(c:Option Nat)(e:Nat)(b:List V):Prop:=
 l*k=b.length/\((a=none/\l=0/\b= [])\/ ∃d,a=some (d,0)/\c=none/\e=k/\d<h.nx/\h.get d=some (.arr b true))
def Fr(h:Heap)(a:Option (Nat×Nat))(b:Heap):Prop:=h.nx<=b.nx/\ ∀j,j<h.nx->(∀o,a≠some (j,o))->b.get j=h.get j
theorem Fr.refl(h)(a):Fr h a h:=⟨Nat.le_refl _,λ_ _ _=>rfl⟩
theorem Fr.push{h b:Heap}{a}{o:YObj}(f:Fr (h.push o) a b):Fr h a b:=by
 refine⟨by have:=f.1;simp at this;omega,λj d c=> ?_⟩;rw[f.2 j (by simp;omega) c,Heap.get_push,uE om]
theorem Fr.pushT{h b:Heap}{a}{t:Option TypeId}{o:YObj}(f:Fr (h.pushT t o) a b):Fr h a b:=by
 refine⟨by have:=f.1;simp at this;omega,λj d c=> ?_⟩;rw[f.2 j (by simp;omega) c,Heap.get_pushT,uE om]
theorem IsL.nil(h)(k:Nat)(c)(a:Nat):IsL h k none 0 c a []:=⟨sm, .inl ⟨rfl,rfl,rfl⟩⟩
theorem Zfm(l:List V):Zs l.length l=some l:=by
 induction l with
 |nil=>rfl
 |cons v l a=>simp[Zs,a]
theorem ZC{l:List V}{n:Nat}(h:n=l.length):Zs n l=some l:=by subst h;exact Zfm l
theorem Zsv{Y:YP}{h:Heap}{k:Nat}{a:Option (Nat×Nat)}{l:Nat}{c:Option Nat}{i:Nat}{f new:List V}{st e:TypeId}{g:TI}{m:Nat}
  (y:Y.kd st=some (.slice e)) (p:Y.ty e=some g) (q:g.size=k) (o:k≠0) (G:IsL h k a l c i f) (H:m≠0) (z:m*k=new.length) (E:Zp new=true)
  (P:(l+m)*g.bytes<=most) (u:l+m<=most):
  ∃s C D K t,Zk Y (h.push (.arr new true)) st st (.sl a l c i) (.sl (some (h.nx,0)) m (some m) k)=some (.sl s C D K,t)/\
   IsL t k s C D K (f++new)/\Fr h a t/\C=l+m/\ ∃j,s=some (j,0)/\h.nx<=j:=by
 have d:XJ Y ⟨[],[],h.push (.arr new true)⟩ g st (.sl (some (h.nx,0)) m (some m) k)=some (m,new):=by
  simp only[XJ,y,QS,XS,q,vG,Xt,Heap.get_push,List.drop_zero];rw[ZC z];rfl
 have F: ¬((!Zp new||decide (g.size=0))=true):=by simp[E,q,o]
 rcases G.2 with ⟨rfl,rfl,rfl⟩|⟨r,rfl,rfl,rfl,X,n⟩;refine⟨some (h.nx+1,0),m,none,k,(h.push (.arr new true)).pushT (Y.tag e) (.arr new true),?_,⟨su z, .inr ⟨h.nx+1,rfl,rfl,rfl,sm,by simp[Heap.get_push]⟩⟩,?_,sm,h.nx+1,rfl,om⟩;simp only[Zk,Xd,y,p,d,F,vF,H];have L:m*g.bytes<=most:=su P;have N:m<=most:=su u;simp[L,N,q];exact((Fr.refl _ _).pushT).push
 .have b:=G.1;refine⟨some (h.nx+1,0),l+m,none,i,(((h.push (.arr new true)).set r none).pushT (if 0=0/\(h.push (.arr new true)).tagOf r=some e then some e else none) (.arr (f++new) true)),?_,⟨by rw[ur,b,z,List.length_append], .inr ⟨h.nx+1,rfl,rfl,rfl,sm,by simp[Heap.get_push]⟩⟩,?_,rfl,h.nx+1,rfl,om⟩
  .have w:(h.push (.arr new true)).get r=some (.arr f true):=by rw[Heap.get_push,uE om,n]
   have v: ¬((l+m)*g.bytes>most\/l+m>most):=om;have A: ¬(0+(l+m)*i<=f.length):=by
    rw[<-b,ur];have:0<m*i:=Nat.mul_pos om om;omega
   have B:Zs (l*i) (f.drop 0)=some f:=by rw[List.drop_zero];exact ZC b
   simp only[Zk,Xd,y,p,d,F,vF,H,q,ne_eq,not_true_eq_false,v,w,A,Bool.true_or,vG,B];rw[uE (by simp[E,o])]
   rfl
  .refine⟨by simp;omega,λj Z O=> ?_⟩;have x:j≠r:=λW=>by subst W;exact O 0 rfl
   rw[Heap.get_pushT,uE (by simp;omega),Heap.get_set,uE x,Heap.get_push,uE om]
theorem WH{n:Nat}{l:List V}(h:n<=l.length):Zs n l=some (l.take n):=by
 induction n generalizing l with
 |zero=>simp[Zs]
 |succ n a=>
  cases l with
  |nil=>simp at h
  |cons v l=>simp only[Zs,List.take_succ_cons];rw[a (su h)];rfl
def row{a:Type}(f:a->List V)(l:List a):List V:=(l.map f).flatten
theorem Xf{a:Type}{f:a->List V}{k:Nat}(b: ∀x,(f x).length=k)(l:List a):(row f l).length=l.length*k:=by
 induction l with
 |nil=>simp[row]
 |cons x l c=>
  have:row f (x::l)=f x++row f l:=by simp[row]
  rw[this,List.length_append,b,c,List.length_cons,ur];omega
theorem Zeh{b:Type}{f:b->List V}{k:Nat}(a: ∀x,(f x).length=k): ∀(l:List b) (i:Nat),(row f l).drop (i*k)=row f (l.drop i)
 | [],i=>by simp[row]
 |x::l,0=>sm
 |x::l,i+1=>by
  have h:row f (x::l)=f x++row f l:=by simp[row]
  rw[h,List.drop_succ_cons,<-Zeh a l i,ur,Nat.one_mul,Nat.add_comm,<-vI]
  congr 1
  rw[<-a x];simp
theorem Xw{a:Type}{f:a->List V}{k:Nat}(b: ∀x,(f x).length=k){l:List a}{i:Nat}(d:i<l.length):Zs k ((row f l).drop (i*k))=some (f l[i]):=by
 rw[Zeh b];have:l.drop i=l[i]::l.drop (i+1):=uM d;rw[this];have c: ∀(x:a) (m:List a),row f (x::m)=f x++row f m:=λx m=>by simp[row]
 rw[c,WH (by simp[b])]
 congr 1
 rw[<-b l[i]];simp
theorem XA{a:Type}{f:a->List V}(l m:List a):row f (l++m)=row f l++row f m:=by simp[row]
/-! ### What is handed back, by the slots that live on -/
def Zbw:List (Nat×V)->Nat->Option V
 | [],_=>none
 |(s,v)::r,t=>if s=t then some v else Zbw r t
def Zd4(Y:YP)(l:List (Nat×V)):ResultVar->Option V
 | .tmp t=>match (Zbw l t).map V.plain with
  |none|some .undef=>none
  |some v=>some v
 | .cell a t=>match Y.ty t,Zbw l a with
  |some b,some (.lb c)=>(Zs b.size c).bind (Jh b.kd.agg)
  |_,_=>none
def Zd5(Y:YP)(l:List (Nat×V)):List ResultVar->Option (List V)
 | []=>some []
 |r::rs=>match Zd4 Y l r,Zd5 Y l rs with
  |some v,some a=>some (v::a)
  |_,_=>none
def resV(Y:YP)(a:Func)(l:List (Nat×V)):Option V:=
 match Zd5 Y l a.results.toList with
 |some [v]=>some v
 |some b=>some (.tup b)
 |none=>none
theorem Zje{b:St} : ∀ {a:List Nat} {t:Nat} {v:V},Zbw (a.zip (a.map λi=>lv i b)) t=some v->lv t b=v
 | [],t,v,h=>by simp[Zbw]at h
 |s::r,t,v,h=>by
  simp only[List.map_cons,List.zip_cons_cons,Zbw]at h;split at h;rename_i c;subst c;simpa using h;exact Zje h
theorem ZAi{Y}{e}{b:List Nat}{r:ResultVar}{v}(h:Zd4 Y (b.zip (b.map λi=>lv i e)) r=some v):Zat Y e r=some v:=by
 cases r with
 |tmp t=>
  simp only[Zd4]at h
  cases c:Zbw (b.zip (b.map λi=>lv i e)) t with
  |none=>rw[c]at h;cases h
  |some x=>
   rw[c]at h;have f:e.env.getD t .undef=x:=Zje c;simp only[Zat,ev,f];simp only[uw]at h;split at h;cases h;cases h;rename_i w j d;simp only[uB]at d h;subst h d;split;rename_i l;exact absurd (by rw[l]) j;rfl
 |cell a t=>
  simp only[Zd4]at h;split at h;rename_i m k g c;have f:e.env.getD a .undef= .lb k:=Zje c;simp only[Zat,g,addr,f];simp only[Xt,f,List.drop_zero];exact h;cases h
theorem Zjf{Y}{d}{a:List Nat} : ∀ {c:List ResultVar} {b:List V},Zd5 Y (a.zip (a.map λi=>lv i d)) c=some b->QZ Y d c=some b
 | [],b,h=>by simpa[Zd5,QZ]using h
 |r::c,b,h=>by
  simp only[Zd5]at h;split at h;rename_i v vs' e f;simp only[QZ,ZAi e,Zjf f];exact h;cases h
def Fin(Y:YP)(b:Func)(a:List Nat)(P:V->Heap->Prop)(o:Out)(_:Nat)(c:List V)(h:Heap):Prop:=
 (o= .normal\/o= .ret)/\ ∃v,resV Y b (a.zip c)=some v/\P v h
def FinS(Y:YP)(fn:Func)(P:V->Heap->Prop)(o:Out)(a:St):Prop:=(o= .normal\/o= .ret)/\ ∃v,JI Y fn a=some v/\P v a.h
theorem Zln{Y}{i}{a}{P}{o}{n:Nat}{g}{h}(f:Fin Y i a P o n g h):AtV a (FinS Y i P) o n g h:=by
 rintro l _ rfl rfl;obtain⟨j,v,c,k⟩:=f;refine⟨j,v,?_,k⟩;unfold resV at c;unfold JI;split at c;rename_i x e;rw[Zjf e];exact c;rename_i g d e;rw[Zjf e];simp only[uB]at c;subst c;split;rename_i y b;simp only[uB]at b;exact absurd b (d y);rename_i b;simp only[uB]at b;rw[b];rename_i b;cases b;cases c
theorem ZF{Y}(b:YOK Y){f:FuncId}{fn:Func}{a:List V}(e:Xp a=true){P:V->Prop}
  (j:TriL Y (flat (Za fn)) ⟨a++List.replicate (fn.ntmps-a.length) .undef,[], .empty⟩ (FinS Y fn λv h=> ∃r,Frz h v r/\P r)) (g:Y.P.funcs[f]? =some fn:=by kernel_rfl) (d:fn.body.isSome=true:=by kernel_rfl):PCon Y f a P:=by
 have c:=ZC1 b g d (Q:=λv h=> ∃r,Frz h v r/\P r) j;exact⟨c.body,PTr.of (Vl e) c.tr λv h i=>i⟩
theorem ZB{Y}{fn}{a:List Nat}{o:Out}{n:Nat}{b}{h}{v1 r1 R:V}(d:o= .normal\/o= .ret)(f:resV Y fn (a.zip b)=some v1)(c:Frz h v1 r1)(e:r1=R):
  Fin Y fn a (λv h=> ∃r,Frz h v r/\r=R) o n b h:=⟨d,_,f,_,c,e⟩
theorem Zlo{Y}{b}{a:List Nat}{o:Out}{n:Nat}{e}{h}{v1 d r1 c R:V}(i:o= .normal\/o= .ret)(k:resV Y b (a.zip e)=some (.tup [v1,d]))(f:Frz h v1 r1)(g:Frz h d c)(j: .tup [r1,c]=R):
  Fin Y b a (λv h=> ∃r,Frz h v r/\r=R) o n e h:=⟨i,_,k,_, .tup _ _ (.cons _ _ _ _ f (.cons _ _ _ _ g .nil)),j⟩
theorem fin1{Y}{b}{a:List Nat}{o:Out}{n:Nat}{c}{h}{v1 r1 R:V}(e:o= .normal\/o= .ret)(g:resV Y b (a.zip c)=some v1)(d:Frz h v1 r1)(f:r1=R):
  AtV a (FinS Y b λv h=> ∃r,Frz h v r/\r=R) o n c h:=Zln ⟨e,_,g,_,d,f⟩
theorem fin2{Y}{b}{a:List Nat}{o:Out}{n:Nat}{e}{h}{v1 d r1 c R:V}(i:o= .normal\/o= .ret)(k:resV Y b (a.zip e)=some (.tup [v1,d]))(f:Frz h v1 r1)(g:Frz h d c)(j: .tup [r1,c]=R):
  AtV a (FinS Y b λv h=> ∃r,Frz h v r/\r=R) o n e h:=Zln ⟨i,_,k,_, .tup _ _ (.cons _ _ _ _ f (.cons _ _ _ _ g .nil)),j⟩
theorem fin3{Y}{b}{a:List Nat}{o:Out}{n:Nat}{g}{h}{v1 e f r1 c d R:V}(l:o= .normal\/o= .ret)(p:resV Y b (a.zip g)=some (.tup [v1,e,f]))(i:Frz h v1 r1)(j:Frz h e c)(k:Frz h f d)(m: .tup [r1,c,d]=R):
  AtV a (FinS Y b λv h=> ∃r,Frz h v r/\r=R) o n g h:=Zln ⟨l,_,p,_, .tup _ _ (.cons _ _ _ _ i (.cons _ _ _ _ j (.cons _ _ _ _ k .nil))),m⟩
theorem WY{c:Prop} [Decidable c] {p q:Prop} (h:c->p) (g: ¬c->q):If (decide c) p q:=Zf (λa=>h (su a)) (λa=>g (su a))
theorem Zda{t:Nat}{p q:Prop}(h:0<t->p)(g:t=0->q):If (ltI 0 (t:Int)) p q:=Zf (λa=>h (by simpa[ltI]using a)) (λa=>g (by simp[ltI]at a;omega))
theorem Zq{a b:Nat}{p q:Prop}(h:a<b->p)(g:b<=a->q):If (ltI (a:Int) (b:Int)) p q:=Zf (λc=>h (by simpa[ltI]using c)) (λc=>g (by simp[ltI]at c;omega))
theorem Xr{a b:Int}{p q:Prop}(h:a<b->p)(g:b<=a->q):If (ltI a b) p q:=Zf (λc=>h (by simpa[ltI]using c)) (λc=>g (by simpa[ltI]using c))
theorem JU{a b:Int}{p q:Prop}(h:a<=b->p)(g:b<a->q):If (leI a b) p q:=Zf (λc=>h (by simpa[leI]using c)) (λc=>g (by simpa[leI]using c))
/-! ### Code, cut -/
def Xb:List Code->Nat
 | .block a (.loop _)::_=>a
 |_=>0
def Zw:List Code->Code
 | .block _ (.loop b)::_=>b
 |_=> .skip
def Zqf:List Code->Bool
 | .block _ (.loop _)::_::_=>true
 |_=>false
theorem Zlp{l:List Code}(h:Zqf l=true):l= .block (Xb l) (.loop (Zw l))::l.drop 1/\l.drop 1≠ []:=by
 unfold Zqf at h;split at h;exact⟨rfl,sm⟩;cases h
theorem Xm{Y}(d:YOK Y){loc:Nat->Bool}(fuel:Nat){n:Nat}(a:List Nat){c:St}{l}{Q:Out->St->Prop}(b:(post l).isEmpty=false)
  (h:Zc Y loc fuel (pre l) c (VQ a (PreV Y n a (post l) Q))):TriL Y l c Q:=
 ZAh d (λe=>by rw[e]at b;cases b) h
theorem ZE1{b:List Nat}{K:KT}{a:List Nat}{o:Out}{n:Nat}{f:List V}{h:Heap}
  (j: ∀c:St,c.env.length=n->(a.map λi=>lv i c)=f->c.h=h->K o n (b.map λi=>lv i c) h):AtV a (VQ b K) o n f h:=by
 intro c d g e;have:=j c d g e;unfold VQ;rw[d,e];exact this
def JV:List Code->Nat
 | .block a _::_=>a
 |_=>0
def ZK:List Code->Code
 | .block _ b::_=>b
 |_=> .skip
def Zoi:List Code->Bool
 | .block _ _::_::_=>true
 |_=>false
theorem Zsw{l:List Code}(h:Zoi l=true):l= .block (JV l) (ZK l)::l.drop 1/\l.drop 1≠ []:=by
 unfold Zoi at h;split at h;exact⟨rfl,sm⟩;cases h
def ZE2(b:Nat)(K:KT)(o:Out)(n:Nat)(a:List V)(h:Heap):Prop:=
 match o with
 | .exit j=>if j=b then K .normal n a h else K (.exit j) n a h
 |o=>K o n a h
def ZC2:List Code->Bool
 | [.block _ _]=>true
 |_=>false
theorem Zvm{Y:YP}{a:List Nat}{i:St}{l:List Code}{K:KT}(f:ZC2 l=true)
  (h:TriL Y (flat (ZK l)) i (VQ a (ZE2 (JV l) K))):TriL Y l i (VQ a K):=by
 unfold ZC2 at f;split at f
 .rename_i g b;have k:=XQ (c:=b) (r:= []) (by rw[List.append_nil];exact h);refine QB (Tri.mono k ?_);intro o m d
  cases o with
  |normal=>exact d
  |ret=>exact d
  |exit j=>
   have d:ZE2 g K (.exit j) _ _ _:=d;simp only[ZE2]at d;by_cases e:j=g;rw[uF e]at d;simp only[uF e];exact d;rw[uE e]at d;simp only[uE e];exact d
 .cases f
def QT:List Code->Code
 | .cond _ a _::_=>a
 |_=> .skip
def ZP:List Code->Code
 | .cond _ _ b::_=>b
 |_=> .skip
def ZJd:List Code->Operand
 | .cond x _ _::_=>x
 |_=> .tmp 0
def ZC3:List Code->Bool
 | [.cond _ _ _]=>true
 |_=>false
theorem Zz{Y}{d:St}{l:List Code}{Q}(a:ZC3 l=true){b:Bool}(g:ev d.env (ZJd l)= .b b)(h:TriL Y (flat (if b then QT l else ZP l)) d Q):TriL Y l d Q:=by
 unfold ZC3 at a;split at a
 .rename_i x p q;have e:=XQ (c:=if b then p else q) (r:= []) (by rw[List.append_nil];exact h);exact XC (Zi4 g (Tri.mono e λo i f=>by cases o<;>exact f))
 .cases a
theorem ZW{Y}(c:YOK Y){loc}(fuel:Nat)(a){b}{l}{K:KT}(h:Zc Y loc fuel l b (VQ a K)):TriL Y l b (VQ a K):=Zbu c _ _ _ _ h
theorem ZG{Y}(e:YOK Y){loc}(fuel:Nat)(a){d}{l}{c}{P}(h:Zc Y loc fuel l d (VQ a (Fin Y c a P))):TriL Y l d (FinS Y c P):=
 (Zbu e _ _ _ _ h).mono λ_ b f=>Zln f b rfl rfl rfl
theorem ZA{n:Nat}{l:List (Nat×V)} :(mk n l).length=n:=Zlm n l
/-! ### Lists -/
abbrev lst{a:Type}(f:a->List V)(l:List a):V:= .ts (row f l) l.length none
theorem Jq{b:Type}(f:b->List V)(h)(c)(k:Nat):Frz h (.sl none 0 c k) (lst f []):= .sln _ _ _ (λx a=>by cases a)
theorem Zbx{Y:YP}{h:Heap}{k:Nat}{a:Option (Nat×Nat)}{l:Nat}{c:Option Nat}{kk:Nat}{cs new:List V}{st e:TypeId}{f:TI}{m:Nat}{cap:Option Nat}
  (u:Y.kd st=some (.slice e)) (o:Y.ty e=some f) (w:f.size=k) (i:k≠0) (C:IsL h k a l c kk cs) (D:m≠0) (E:Zs (m*k) new=some new) (B:Zp new=true)
  (L:(l+m)*f.bytes<=most) (r:l+m<=most):
  ∃p z A F q,Zk Y h st st (.sl a l c kk) (.ts new m cap)=some (.sl p z A F,q)/\IsL q k p z A F (cs++new)/\Fr h a q/\z=l+m/\ ∃j,p=some (j,0)/\h.nx<=j:=by
 have n:=Vh E;have d:XJ Y ⟨[],[],h⟩ f st (.ts new m cap)=some (m,new):=by
  simp only[XJ,u,QS,XS,w,E];rfl
 rcases C.2 with ⟨rfl,rfl,rfl⟩|⟨y,rfl,rfl,rfl,O,g⟩;refine⟨some (h.nx,0),m,none,k,h.pushT (Y.tag e) (.arr new true),?_,⟨by simp[n], .inr ⟨h.nx,rfl,rfl,rfl,sm,sm⟩⟩,(Fr.refl _ _).pushT,sm,h.nx,rfl,Nat.le_refl _⟩;have G:m*f.bytes<=most:=su L;have H:m<=most:=su r;simp[Zk,Xd,u,o,d,B,D,G,H,w,i]
 .have b:=C.1;refine⟨some (h.nx,0),l+m,none,kk,((h.set y none).pushT (if 0=0/\h.tagOf y=some e then some e else none) (.arr (cs++new) true)),?_,⟨by rw[ur,b,<-n,List.length_append], .inr ⟨h.nx,rfl,rfl,rfl,sm,by simp[Heap.get_push]⟩⟩,?_,rfl,h.nx,rfl,Nat.le_refl _⟩
  .have s: ¬((l+m)*f.bytes>most\/l+m>most):=om;have v: ¬(0+(l+m)*kk<=cs.length):=by
    rw[<-b,ur];have:0<m*kk:=Nat.mul_pos om om;omega
   have x:Zs (l*kk) (cs.drop 0)=some cs:=by rw[List.drop_zero];exact ZC b
   simp only[Zk,Xd,u,o,d,vF,D,w,ne_eq,not_true_eq_false,s,g,v,Bool.true_or,vG,x];rw[uE (by simp[B,i])]
  .refine⟨sm,λj P K=> ?_⟩;have t:j≠y:=λN=>by subst N;exact K 0 rfl
   rw[Heap.get_pushT,uE (by simp;omega),Heap.get_set,uE t]
end Go.Y
namespace Go.Y
open Go.Proofs
set_option maxRecDepth 1000000
set_option maxHeartbeats 0
noncomputable section
abbrev B_13:=flat (Za Tryz.f13)
abbrev B_14:=flat (Za Tryz.f14)
abbrev B_24:=flat (Za Tryz.f24)
abbrev B_25:=flat (Za Tryz.f25)
abbrev B_27:=flat (Za Tryz.f27)
abbrev B_31:=flat (Za Tryz.f31)
abbrev B_32:=flat (Za Tryz.f32)
abbrev B_38:=flat (Za Tryz.f38)
abbrev B_40:=flat (Za Tryz.f40)
abbrev B_41:=flat (Za Tryz.f41)
abbrev B_49:=flat (Za Tryz.f49)
abbrev B_57:=flat (Za Tryz.f57)
abbrev B_63:=flat (Za Tryz.f63)
abbrev B_67:=flat (Za Tryz.f67)
abbrev B_74:=flat (Za Tryz.f74)
abbrev B_80:=flat (Za Tryz.f80)
abbrev B_82:=flat (Za Tryz.f82)
abbrev B_85:=flat (Za Tryz.f85)
abbrev B_89:=flat (Za Tryz.f89)
abbrev B_91:=flat (Za Tryz.f91)
abbrev B_92:=flat (Za Tryz.f92)
abbrev B_94:=flat (Za Tryz.f94)
abbrev B_95:=flat (Za Tryz.f95)
abbrev B_103:=flat (Za Tryz.f103)
abbrev B_106:=flat (Za Tryz.f106)
abbrev B_110:=flat (Za Tryz.f110)
abbrev B_114:=flat (Za Tryz.f114)
abbrev B_117:=flat (Za Tryz.f117)
abbrev B_118:=flat (Za Tryz.f118)
abbrev B_129:=flat (Za Tryz.f129)
abbrev B_134:=flat (Za Tryz.f134)
abbrev B_135:=flat (Za Tryz.f135)
abbrev B_140:=flat (Za Tryz.f140)
abbrev B_147:=flat (Za Tryz.f147)
abbrev B_166:=flat (Za Tryz.f166)
abbrev B_175:=flat (Za Tryz.f175)
abbrev B_194:=flat (Za Tryz.f194)
abbrev B_198:=flat (Za Tryz.f198)
abbrev B_201:=flat (Za Tryz.f201)
abbrev lp_(l:List Code):=flat (Zw (post l))
abbrev bk_(l:List Code):=flat (ZK (post l))
end
end Go.Y
namespace Go.Y
open Go.ChangeShapes Go.WideShapes Go.RowKit
def inW(w:World):Vw:= {mu:=λ_=>(0,0),sz:=λ_=>0,snap:=λb=>w.heap[b]?,lv:=λ_=>False,kn:=λ_=>False}
theorem ZAj(w):Le (inW w) (inW w).dead:=⟨λ_ h=>h,λ_ h=>h.elim,λ_ h=>h.elim,λ_ _ h=>h,λ_ h=>h.elim⟩
def ShpF(S:TypeId->List V->Prop):List TypeId->List V->Prop
 | [],c=>c= []
 |t::r,c=> ∃a b,c=a++b/\S t a/\ShpF S r b
def Shp(Y:YP):Nat->TypeId->List V->Prop
 |0,_,_=>False
 |n+1,t,c=>match Y.kd t with
  |some .bool=> ∃b,c= [.b b]
  |some (.int k)=> ∃i,c= [.i k i]/\(Lit.int k i).wf=true
  |some .str=> ∃s,c= [.s s]/\s.length<=maxLen
  |some (.slice e)=> ∃a:List (List V),c= [.ts a.flatten a.length none]/\(∀x∈a,Shp Y n e x)/\a.length<=maxLen
  |some (.struct d)=>ShpF (Shp Y n) (d.map (·.2)) c
  |some (.arr k e)=> ∃a:List (List V),c=a.flatten/\a.length=k/\ ∀x∈a,Shp Y n e x
  |_=>False
def Zdy(Y:YP):Nat->List (Nat×TypeId)->Nat->Bool
 |b,[],a=>b==a
 |b,f::r,a=>match Y.ty f.2 with
  |some c=>f.1==b&&Zdy Y (b+c.size) r a
  |none=>false
def Za0(Y:YP):Nat->TypeId->Bool
 |0,_=>true
 |n+1,t=>match Y.ty t with
  |some b=>match b.kd with
   | .bool| .int _| .str=>true
   | .slice e=>(match Y.ty e with|some a=>a.size !=0|none=>false)&&Za0 Y n e
   | .struct c=>Zdy Y 0 c b.size&&c.all λf=>Za0 Y n f.2
   | .arr k e=>(match Y.ty e with|some a=>b.size==k*a.size|none=>false)&&Za0 Y n e
   |_=>false
  |none=>false
section
variable {Y:YP} {w:World} {H:Type} {enc:TypeId×Value->H} {base:Nat} {spare:Nat->Bool} {held:Bool}
theorem Wm(b:YOK Y){t:TypeId}{a:TI}(c:Y.ty t=some a):Y.P.cellsOf t=a.size:=by
 obtain⟨i,d,z,h⟩:=b.ty t a c;simp[Program.cellsOf,h.info,h.size]
theorem Zoj{S:List V->Prop} : ∀(n:Nat) (f:Nat->List Value),(∀i,i<n-> ∃c,VRs (inW w) c (f i)/\S c)-> ∃b:List (List V),b.length=n/\(∀x∈b,S x)/\VRs (inW w) b.flatten ((List.range n).flatMap f)
 |0,_,_=>⟨[],rfl,sm, .nil⟩
 |n+1,f,h=>by
  obtain⟨b,d,e,g⟩:=Zoj n f λi l=>h i om;obtain⟨c,j,k⟩:=h n om;refine⟨b++ [c],by simp[d],λx a=> ?_,?_⟩;rw[List.mem_append]at a;rcases a with a|a;exact e x a;simp at a;subst a;exact k;rw[List.flatten_append,List.range_succ,ug];refine g.append ?_;simpa using j
theorem Zfn{f:Nat->List Value}{k:Nat}(a: ∀i,(f i).length=k): ∀(n j:Nat) (u:Value),((List.range n).flatMap f)[j]? =some u-> ∃i r,i<n/\r<k/\j=i*k+r/\(f i)[r]? =some u
 |0,j,u,h=>by simp at h
 |n+1,j,u,h=>by
  rw[List.range_succ,ug]at h;have b: ∀n,((List.range n).flatMap f).length=n*k:=by
   intro n
   induction n with
   |zero=>simp
   |succ n e=>rw[List.range_succ,ug,List.length_append,e,ur];simp[a]
  by_cases d:j<n*k;rw[vC (by rw[b];exact d)]at h;obtain⟨i,r,g,c⟩:=Zfn a n j u h;exact⟨i,r,om,c⟩
  .rw[vB (by rw[b];omega),b]at h;simp only[List.flatMap_cons,List.flatMap_nil,List.append_nil]at h;have:j-n*k<k:=by
    have:=(List.getElem?_eq_some_iff.1 h).1
    rwa [a]at this
   exact⟨n,j-n*k,om,this,om,h⟩
theorem Zdb(hY:YOK Y): ∀(fuel:Nat) (t:TypeId) (K:List Value) (x:DataW H×List MemPlace),Za0 Y fuel t=true->DataW.trod enc Y.P w base spare held fuel t K=some x->
  ∃G,VRs (inW w) G K/\Shp Y fuel t G
 |0,_,_,_,_,h=>by simp[DataW.trod]at h
 |n+1,t,K,x,A,h=>by
  simp only[Za0]at A;split at A
  .rename_i ti a0;obtain⟨c5,d,z,hT⟩:=hY.ty t ti a0;have b9:Y.kd t=some ti.kd:=by simp[YP.kd,a0]
   have L:=hT.kd;have hu:=hT.und;simp only[Shp,b9]
   cases p:ti.kd with
   |bool=>
    rw[p]at L;cases L;obtain⟨b,rfl,_⟩:=DataW.trod_bool hu h;exact⟨_, .cons _ _ _ _ (.b b) .nil,b,rfl⟩
   |int k=>
    rw[p]at L;cases L;obtain⟨i,rfl,_,hw⟩:=DataW.trod_int hu h;exact⟨_, .cons _ _ _ _ (.i k i) .nil,i,rfl,hw⟩
   |str=>
    rw[p]at L;cases L;obtain⟨s,rfl,_,hl⟩:=DataW.trod_string hu h;have e:(⟨s.data.toList.toArray⟩:ByteArray)=s:=sm;refine⟨[.s s.data.toList], .cons _ _ _ _ ?_ .nil,_,rfl,su hl⟩;have:=VR.s (W:=inW w) s.data.toList
    rwa [e]at this
   |slice e=>
    rw[p]at L A;cases L;simp only[uH]at A;obtain⟨C,X⟩:=A;split at C
    .rename_i q a3;have a9:q.size≠0:=su C;have b5:=Wm hY a3;rcases DataW.trod_slice hu h with ⟨rfl,_⟩|⟨a,E,cap,QS,c4,m,hm,rfl,_,_,hl,c3,B,b6,_⟩;exact⟨_, .cons _ _ _ _ (.tsz none (λ_ h=>by cases h)) .nil,[],rfl,sm,sm⟩
     .simp only[Nat.add_right_cancel_iff]at hm;subst hm;by_cases h0:E=0;subst h0;exact⟨_, .cons _ _ _ _ (.tsn 0 none a cap (Nat.zero_le _) (λ_ h=>by cases h)) .nil,[],rfl,sm,sm⟩
      .have O: ∀i,i<E-> ∃D y,w.cells? base (a.add (i*q.size)) q.size=some D/\DataW.trod enc Y.P w base spare held n e D=some y:=by
        intro i hi;have v:=b6 i hi;rw[b5]at v;have h2:QS[i]? =some (QS[i]' om):=sm;rw[h2]at v
        cases hc:w.cells? base (a.add (i*q.size)) q.size with
        |none=>rw[hc]at v;simp at v
        |some D=>rw[hc]at v;exact⟨D,_,rfl,v⟩
       let f:Nat->List Value:=λi=>(w.cells? base (a.add (i*q.size)) q.size).getD (List.replicate q.size default)
       have hf: ∀i,(f i).length=q.size:=by
        intro i;simp only[f]
        cases hc:w.cells? base (a.add (i*q.size)) q.size with
        |none=>simp
        |some D=>simpa using (World.cells?_some hc).2.1
       obtain⟨es,g1,g2,g3⟩:=Zoj (w:=w) (S:=Shp Y n e) E f λi hi=>by
        obtain⟨D,y,v,h2⟩:=O i hi;obtain⟨G,h3,h4⟩:=Zdb hY n e D y X h2;exact⟨G,by simpa[f,v]using h3,h4⟩
       have a6: ∀i r,i<E->r<q.size->w.cell? (a.add (i*q.size+r))=(f i)[r]? :=by
        intro i r hi hr;obtain⟨D,y,v,h2⟩:=O i hi;have h3:=(World.cells?_some v).2.2 r hr;simp only[f,v,uq];rw[<-h3];rw[Go.Deep.add_add]
       have a8: ∃u,w.cell? a=some u:=by
        have v:=a6 0 0 om om;have h2:(f 0)[0]? =some ((f 0)[0]'(by rw[hf];omega)):=sm;rw[h2]at v;rw[show a.add (0*q.size+0)=a by simp[Addr.add_zero']]at v;exact⟨_,v⟩
       obtain⟨u0,a1⟩:=a8;have Z:=World.cell?_spot a1;obtain⟨a5,F,sp⟩:=a;simp only at Z;subst Z;obtain⟨c,et,fr,hb⟩: ∃c et fr,w.heap[a5]? =some (.cells c et fr):=by
        simp only[World.cell?]at a1;split at a1;exact⟨_,_,_,by assumption⟩;cases a1
       refine⟨_, .cons _ _ _ _ (.ts es.flatten E none cap a5 F c et fr ((List.range E).flatMap f) hl (λ_ h=>by cases h) hb (λj u hj=> ?_) (g3.mono (ZAj w))) .nil,es,by rw[g1],g2,om⟩;obtain⟨i,r,k1,k2,rfl,k3⟩:=Zfn hf E j u hj;have:=a6 i r k1 k2;rw[k3,Wc,Zi0 hb]at this;exact this
    .cases C
   |struct fs=>
    rw[p]at L A;obtain⟨l,rfl,a7,_⟩:=L;simp only[uH,uP]at A;obtain⟨C,X⟩:=A;obtain⟨xs,m,hm,_,B,c1,hf⟩:=DataW.trod_struct hu h;simp only[Nat.add_right_cancel_iff]at hm;subst hm;rw[Wm hY a0]at B;have b7: ∀f∈fs,∀tf,Y.ty f.2=some tf-> ∃G,VRs (inW w) G ((K.drop f.1).take tf.size)/\Shp Y n f.2 G:=by
     intro f a2 tf a4;rw[a7]at a2;simp only[uW,Array.mem_toList_iff]at a2;obtain⟨fd,b8,rfl⟩:=a2;obtain⟨i,hi,rfl⟩:=Array.mem_iff_getElem.1 b8;have v:=hf i l[i] (by simp[hi]);rw[Wm hY a4]at v;have h2:xs[i]? =some (xs[i]' om):=sm;rw[h2]at v;exact Zdb hY n _ _ _ (X (l[i].offset,l[i].type) (by rw[a7];exact uW.2 ⟨l[i],sm,rfl⟩)) v
    have c2: ∀(fs:List (Nat×TypeId)) (F:Nat),Zdy Y F fs ti.size=true->F<=K.length->(∀f∈fs,∀tf,Y.ty f.2=some tf-> ∃G,VRs (inW w) G ((K.drop f.1).take tf.size)/\Shp Y n f.2 G)->
      ∃G,VRs (inW w) G (K.drop F)/\ShpF (Shp Y n) (fs.map (·.2)) G:=by
     intro fs
     induction fs with
     |nil=>
      intro F ht _ _;simp only[Zdy,vO]at ht;refine⟨[],?_,rfl⟩;rw[List.drop_of_length_le om];exact .nil
     |cons f r ih=>
      intro F ht ho N;simp only[Zdy]at ht;split at ht
      .rename_i tf a4;simp only[uH,vO]at ht;obtain⟨rfl,ht⟩:=ht;have c0:f.1+tf.size<=K.length:=by
        rw[B];clear ih N;have: ∀(r:List (Nat×TypeId)) (o:Nat),Zdy Y o r ti.size=true->o<=ti.size:=by
         intro r
         induction r with
         |nil=>intro o h;simp only[Zdy,vO]at h;omega
         |cons g r ih=>
          intro o h;simp only[Zdy]at h;split at h;simp only[uH,vO]at h;have:=ih _ h.2;omega;cases h
        exact this r _ ht
       have:=N f sm tf a4;obtain⟨a,b1,b2⟩:=this;obtain⟨b,b3,b4⟩:=ih (f.1+tf.size) ht c0 λg hg=>N g (by simp[hg]);refine⟨a++b,?_,a,b,rfl,b2,b4⟩;have:=b1.append b3
       rwa [<-vI,vN]at this
      .cases ht
    obtain⟨G,k1,k2⟩:=c2 fs 0 C (Nat.zero_le _) b7;exact⟨G,su k1,k2⟩
   |arr k e=>
    rw[p]at L A;obtain⟨rfl,_⟩:=L;simp only[uH]at A;obtain⟨C,X⟩:=A;split at C
    .rename_i q a3;have a9:ti.size=k*q.size:=su C;obtain⟨xs,m,hm,_,B,c1,hf⟩:=DataW.trod_array hu h;simp only[Nat.add_right_cancel_iff]at hm;subst hm;rw[Wm hY a0]at B;rw[Wm hY a3]at hf;obtain⟨es,g1,g2,g3⟩:=Zoj (w:=w) (S:=Shp Y n e) k (λi=>(K.drop (i*q.size)).take q.size) λi hi=>by
      have v:=hf i hi;have h2:xs[i]? =some (xs[i]' om):=sm;rw[h2]at v;exact Zdb hY n e _ _ X v
     refine⟨es.flatten,?_,es,rfl,g1,g2⟩;have:(List.range k).flatMap (λi=>(K.drop (i*q.size)).take q.size)=K:=by
      have b0: ∀m,m<=k->(List.range m).flatMap (λi=>(K.drop (i*q.size)).take q.size)=K.take (m*q.size):=by
       intro m
       induction m with
       |zero=>intro _;simp
       |succ m ih=>
        intro hm;rw[List.range_succ,ug,ih om,ur,Nat.one_mul,List.take_add];simp
      rw[b0 k (Nat.le_refl _),<-a9,<-B,List.take_length]
     rwa [this]at g3
    .cases C
   |ptr _=>rw[p]at A;cases A
   |map _ _=>rw[p]at A;cases A
   |func=>rw[p]at A;cases A
   |iface=>rw[p]at A;cases A
   |other=>rw[p]at A;cases A
  .cases A
end
theorem PCon.calls{Y}{f}{a}{w}{c:List Value}(h:PCon Y f a (· = .b true))(g:Tabbed (inW w))(l:VRs (inW w) a c):
  Calls Y.P f c.toArray w λe d=>e= .returned (.bool true)/\Below w.heap.size w d:=by
 refine(h.tr (inW w) w c (λ_ _ h=>h) g l).mono ?_;rintro e d ⟨r,m,u,rfl,rfl,j,_,_,_,k,i,_,st⟩;cases j;exact⟨rfl,st.os,st.tape,st.output,k,i⟩
theorem ZE3{Y:YP}{n:Nat}{t:TypeId}{k:IntKind}(b:Y.kd t=some (.int k)){a:List V}(h:Shp Y n t a): ∃i,a= [.i k i]/\(Lit.int k i).wf=true:=by
 cases n with
 |zero=>exact h.elim
 |succ n=>simpa[Shp,b]using h
theorem ZE4{Y:YP}{n:Nat}{t:TypeId}(b:Y.kd t=some .str){a:List V}(h:Shp Y n t a): ∃s,a= [.s s]/\s.length<=maxLen:=by
 cases n with
 |zero=>exact h.elim
 |succ n=>simpa[Shp,b]using h
theorem Zsx{Y:YP}{n:Nat}{t:TypeId}{a:List (Nat×TypeId)}(c:Y.kd t=some (.struct a)){b}(h:Shp Y n t b):
  ∃m:Nat,n=m+1/\ShpF (Shp Y m) (a.map (·.2)) b:=by
 cases n with
 |zero=>exact h.elim
 |succ n=>exact⟨n,rfl,by simpa[Shp,c]using h⟩
end Go.Y
namespace Go.Y
set_option maxRecDepth 1000000
set_option maxHeartbeats 0
def FrzT(h:Heap)(v a:V):Prop:=FrzA h v a\/ ∃b vs',v= .tup b/\a= .tup vs'/\FrzAL h b vs'
theorem FrzT.vr{W W'}{h}{w}(z:Fz W h w W')(a:Le W W'){v v'}(f:FrzT h v v'){u}(r:VR W v u):VR W' v' u:=by
 rcases f with f|⟨d,vs',rfl,rfl,f⟩;exact f.vr z a r
 .cases r with|tup _ c b=>exact .tup _ _ (f.vr z a b)
def AfterZ(Q:V->Heap->Prop)(v:V)(h:Heap):Prop:= ∃(D:List Nat) (a:V),FrzT (Vi h D) v a/\Q a (XP h D)
theorem AfterZ.now{Q}{v}{h}(a:Q v h):AfterZ Q v h:=⟨[],v, .inl (.same v),a⟩
theorem Con.freeze{Y}{f}{a}{h}{Q}(c:Con Y f a h (AfterZ Q)):Con Y f a h Q:=
 ⟨c.body,λW w p n o=>(c.tr W w p n o).mono λe t ⟨v,s,r,u,⟨D,q,l,m⟩,k,b,g,d⟩=>by
  obtain⟨i,j⟩:=b.frzD D;exact⟨q,_,_,u,m,k,i,l.vr (Fz.of b D) (Vj b D) g,d.trans j⟩⟩
theorem Zx{Y}(b:YOK Y){f:FuncId}{fn:Func}{a:List V}{h:Heap}{Q:V->Heap->Prop}
  (e:TriL Y (flat (Za fn)) ⟨a++List.replicate (fn.ntmps-a.length) .undef,[],h⟩ (FinS Y fn (AfterZ Q))) (d:Y.P.funcs[f]? =some fn:=by kernel_rfl) (c:fn.body.isSome=true:=by kernel_rfl):Con Y f a h Q:=Con.freeze (ZC1 b d c e)
theorem finC{Y}{fn}{a:List Nat}{Q}{o:Out}{n:Nat}{b}{h}{v}(c:o= .normal\/o= .ret)(e:resV Y fn (a.zip b)=some v)(d:AfterZ Q v h):
  Fin Y fn a (AfterZ Q) o n b h:=⟨c,v,e,d⟩
/-! ### slices.Clone -/
theorem Zlq{Y:YP}{st e:TypeId}{te:TI}(d:Y.kd st=some (.slice e))(b:Y.ty e=some te)(f:te.size≠0)(j:te.bytes<=1024){cs c:List V}{n:Nat}{cap:Option Nat}(k:Zs ((n+1)*te.size) cs=some c)(i:Zp c=true)(m:n+1<=2 ^ 30)
  (h:Heap):Zk Y h st st (.ts [] 0 (some 0)) (.ts cs (n+1) cap)=some (.sl (some (h.nx,0)) (n+1) none te.size,h.push (.arr c true)):=by
 have a:XJ Y ⟨[],[],h⟩ te st (.ts cs (n+1) cap)=some (n+1,c):=by
  simp only[XJ,d,QS,XS,k];rfl
 have l:most=1099511627776:=dc;have o:(n+1)*te.bytes<=2 ^ 30*1024:=Nat.mul_le_mul m j;have g: ¬((0+(n+1))*te.bytes>most\/0+(n+1)>most):=by rw[uJ,l];omega
 have p: ¬(0+(n+1)<=0):=om;simp only[Zk,Xd,d,b,a];rw[uE (by simp[i,f])];simp only[Nat.succ_ne_zero,vF];rw[uE g];simp[Zs]
theorem ZI{n:Int}(b: -2 ^ 62<=n)(c:n<=2 ^ 62):wW n=n:=by
 have e:(2:Int) ^ IntKind.i64.bits=18446744073709551616:=dc;have a:(2:Int) ^ (IntKind.i64.bits-1)=9223372036854775808:=dc;unfold wW IntKind.wrap;simp only[e,a,IntKind.signed,uT];by_cases h:0<=n;have:n % 18446744073709551616=n:=Int.emod_eq_of_lt h om;rw[this];simp;omega;have:n % 18446744073709551616=n+18446744073709551616:=om;rw[this];simp;omega
theorem Ze{i:Nat}(h:i<2 ^ 61):wW ((i:Int)+1)=((i+1:Nat):Int):=by
 rw[ZI om om];omega
def FrO(h:Heap)(b:Nat)(a:Heap):Prop:=h.nx<=a.nx/\ ∀j,j<h.nx->j≠b->a.get j=h.get j
theorem FrO.refl(h)(a:Nat):FrO h a h:=⟨qnq _,λ_ _ _=>rfl⟩
theorem FrO.trans{a b c}{d:Nat}(h:FrO a d b)(g:FrO b d c):FrO a d c:=
 ⟨uu h.1 g.1,λj e f=>by rw[g.2 j (qv e h.1) f,h.2 j e f]⟩
theorem FrO.set(h:Heap)(id:Nat)(o:Option YObj):FrO h id (h.set id o):=⟨qnq _,λj _ a=>by rw[qc,uE a]⟩
structure Lst{α:Type}(f:α->List V)(k:Nat)(h:Heap)(a:Option (Nat×Nat))(l:Nat)(c:Option Nat)(kk:Nat)(out:List α):Prop where
 cells: ∃cells,IsL h k a l c kk cells∧ZZ cells=true∧FrzL .empty cells (row f out)
 len:l=out.length
theorem Lst.nil{a:Type}(f:a->List V)(k:Nat)(h)(c)(b:Nat):Lst f k h none 0 c b ([]:List a):=⟨⟨[],IsL.nil _ _ _ _,rfl, .nil⟩,rfl⟩
theorem Jb: ∀ {l m},ZZ l=true->ZZ m=true->ZZ (l++m)=true
 | [],m,_,h=>h
 |v::l,m,h,g=>by
  simp only[ZZ,qrq]at h;simp only[qs,ZZ,qrq];exact⟨h.1,Jb h.2 g⟩
theorem IsL.fr{h h':Heap}{k:Nat}{a}{l:Nat}{c}{e:Nat}{cs}(b:IsL h k a l c e cs)(p:h.nx<=h'.nx)(o: ∀j,a=some (j,0)->j<h.nx->h'.get j=h.get j):IsL h' k a l c e cs:=by
 refine⟨b.1,?_⟩;rcases b.2 with f|⟨d,rfl,g,i,m,n⟩;exact .inl f;exact .inr ⟨d,rfl,g,i,om,by rw[o d rfl m,n]⟩
theorem Lst.fr{d:Type}{f:d->List V}{h h':Heap}{k:Nat}{a}{l:Nat}{c}{b:Nat}{out:List d}(n:Lst f k h a l c b out)(o:h.nx<=h'.nx)(p: ∀j,a=some (j,0)->j<h.nx->h'.get j=h.get j):Lst f k h' a l c b out:=by
 obtain⟨⟨cells,e,g,i⟩,m⟩:=n;exact⟨⟨cells,e.fr o p,g,i⟩,m⟩
theorem Lst.app{t:Type}{f:t->List V}{Y:YP}{h:Heap}{k:Nat}{a:Option (Nat×Nat)}{l:Nat}{c:Option Nat}{u:Nat}{out:List t}{new:List V}{st e:TypeId}{te:TI}(b:List t){cap:Option Nat}
  (C:Y.kd st=some (.slice e)) (s:Y.ty e=some te) (G:te.size=k) (r:k≠0) (D:Lst f k h a l c u out) (B:FrzL .empty new (row f b)) (d:ZZ new=true) (E:b≠ []) (F:new.length=b.length*k) (A:Zp new=true)
  (z:(out.length+b.length)*te.bytes<=most) (q:out.length+b.length<=most):
  ∃g p n o i,Zk Y h st st (.sl a l c u) (.ts new b.length cap)=some (.sl g p n o,i)/\Lst f k i g p n o (out++b)/\Fr h a i/\ ∃j,g=some (j,0)/\h.nx<=j:=by
 obtain⟨⟨cells,v,w,x⟩,y⟩:=D;subst y;obtain⟨g,p,n,o,i,H,K,L,N,O⟩:=Zbx (Y:=Y) (new:=new) (m:=b.length) (cap:=cap) C s G r v (su E) (ZC F.symm) A z q;exact⟨g,p,n,o,i,H,⟨⟨cells++new,K,Jb w d,by rw[XA];exact x.append B⟩,by simp[N]⟩,L,O⟩
theorem Lst.app1{q:Type}{f:q->List V}{Y:YP}{h:Heap}{k:Nat}{a:Option (Nat×Nat)}{l:Nat}{c:Option Nat}{t:Nat}{d:List q}{b:List V}{st e:TypeId}{te:TI}(x:q)
  (y:Y.kd st=some (.slice e)) (p:Y.ty e=some te) (B:te.size=k) (o:k≠0) (z:Lst f k h a l c t d) (w:FrzL .empty b (f x)) (g:ZZ b=true) (A:b.length=k) (v:Zp b=true)
  (n:te.bytes<=1024) (D:d.length<2 ^ 29):
  ∃i u r s m,Zk Y h st st (.sl a l c t) (.ts b 1 (some 1))=some (.sl i u r s,m)/\Lst f k m i u r s (d++ [x])/\Fr h a m/\ ∃j,i=some (j,0)/\h.nx<=j:=by
 have E:most=1099511627776:=dc;have C:(d.length+1)*te.bytes<=2 ^ 29*1024:=Nat.mul_le_mul om n;exact Lst.app [x] y p B o z (by simpa[row]using w) g sm (by simp[A]) v (by simp;omega) (by simp;omega)
theorem Za1{a b} : ∀ {l l'},ZZ l=true->FrzL a l l'->FrzL b l l':=Zc4
theorem Lst.frz{i:Type}{f:i->List V}{h}{k:Nat}(s:k≠0)(r: ∀x,(f x).length=k){a}{l:Nat}{c}{g:Nat}{b:List i}(t:Lst f k h a l c g b):Frz h (.sl a l c g) (lst f b):=by
 obtain⟨⟨cells,e,m,n⟩,o⟩:=t;subst o;rcases e.2 with ⟨rfl,j,p⟩|⟨u,rfl,rfl,rfl,p,q⟩;have:b= []:=qg j;subst this;exact .sln _ _ _ (λx d=>by cases d);exact .sl _ _ _ _ _ _ _ _ _ _ q (by rw[ql,e.1];exact Zfm _) (λx d=>by cases d) s (Za1 m n)
theorem Lst.afterZ{i:Type}{f:i->List V}{h}{k:Nat}(t:k≠0)(s: ∀x,(f x).length=k){a}{l:Nat}{c}{g:Nat}{b:List i}(u:Lst f k h a l c g b):
  ∃D:List Nat,Frz (Vi h D) (.sl a l c g) (lst f b)/\(∀j,j∈D->a=some (j,0)):=by
 obtain⟨⟨cells,e,n,o⟩,p⟩:=u;subst p;rcases e.2 with ⟨rfl,m,q⟩|⟨v,rfl,rfl,rfl,q,r⟩;have:b= []:=qg m;subst this;exact⟨[], .sln _ _ _ (λx d=>by cases d),sm⟩;exact⟨[v], .sl _ _ _ _ _ cells true cells _ _ (by rw[QK,uF sm,r]) (by rw[ql,e.1];exact Zfm _) (λx d=>by cases d) t (Za1 n o),sm⟩
theorem Lst.off{g:Type}{f:g->List V}{h}{k:Nat}{a}{l:Nat}{c}{n:Nat}{e:List g}(i:Lst f k h a l c n e){j o:Nat}(b:a=some (j,o)):o=0:=by
 obtain⟨⟨cells,⟨_,d|⟨m,d,_⟩⟩,_⟩,_⟩:=i;rw[d.1]at b;cases b;rw[d]at b;cases b;rfl
theorem FrO.app{p:Type}{f:p->List V}{b h e:Heap}{n k:Nat}{a}{l:Nat}{c}{t:Nat}{out:List p}(g:FrO b n h)(r:Lst f k h a l c t out)(d: ∀j,a=some (j,0)->b.nx<=j)(q:Fr h a e):FrO b n e:=
 ⟨uu g.1 q.1,λj i s=>by
  rw[q.2 j (qv i g.1) (λo m=>by
   have b:=r.off m;subst b;have:=d j m;omega)]
  exact g.2 j i s⟩
/-! ### Rows -/
theorem VP{a:Type}{f:a->List V}{k:Nat}(c: ∀x,(f x).length=k)(l:List a){i:Nat}(b:i<l.length):(row f l).drop (i*k)=f l[i]++row f (l.drop (i+1)):=by
 rw[Zeh c,uM b];rfl
/-! ### Bytes -/
theorem Zvn(c d:UInt8):(((c.toNat:Nat):Int)==((d.toNat:Nat):Int))=(c==d):=by rw[Bool.eq_iff_iff];simp only[vO,Int.ofNat_inj];exact⟨λh=>UInt8.toNat_inj.1 h,λh=>by rw[h]⟩
end Go.Y
