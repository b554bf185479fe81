/- A part of the proof. -/
import Derived.Test.YteennilbmmlikaaGreatDoorYOm
import Derived.Laws.Cells
import Derived.Laws.World
import Derived.Laws.AppendOwn
import Derived.Laws.StructEq
namespace Go.Y
set_option maxRecDepth 1000000
set_option maxHeartbeats 0
structure Vw where
 mu:Nat->Nat×Nat
 sz:Nat->Nat
 snap:Nat->Option Obj
 lv:Nat->Prop
 kn:Nat->Prop
def Vw.at(W:Vw)(id off:Nat):Addr:=⟨(W.mu id).1,(W.mu id).2+off,none⟩
def Vw.dead(W:Vw):Vw:= {mu:=W.mu,sz:=W.sz,snap:=W.snap,lv:=λ_=>False,kn:=λ_=>False}
mutual
inductive VR:Vw->V->Value->Prop
 |undef {W:Vw} (u:Value):VR W .undef u
 |b {W:Vw} (x:Bool):VR W (.b x) (.bool x)
 |i {W:Vw} (k:IntKind) (n:Int):VR W (.i k n) (.int k n)
 |s {W:Vw} (l:List UInt8):VR W (.s l) (.string ⟨l.toArray⟩)
 |pn {W:Vw} :VR W (.p none) (.pointer none)
 |ps {W:Vw} (id off:Nat) (a:Addr) (hid:W.kn id) (ha:W.lv id->a=W.at id off):VR W (.p (some (id,off))) (.pointer (some a))
 |tpn {W:Vw} (a:Addr):VR W (.tp []) (.pointer (some a))
 |tp {W:Vw} (cs:List V) (blk off:Nat) (c:Array Value) (e:TypeId) (fr:Nat×Nat) (us:List Value) (hs:W.snap blk=some (.cells c e fr))
   (hc: ∀j u,us[j]? =some u->c[off+j]? =some u) (hr:VRs W.dead cs us):VR W (.tp cs) (.pointer (some ⟨blk,off,none⟩))
 |sln {W:Vw} (c:Option Nat) (k:Nat):VR W (.sl none 0 c k) (.slice none 0 0)
 |sls {W:Vw} (id off len:Nat) (cap:Option Nat) (k:Nat) (a:Addr) (cap':Nat) (hid:W.kn id) (hl:len<=cap') (hc: ∀c,cap=some c->cap'=c)
   (ha:W.lv id->0<cap'->a=W.at id off) (hn:W.lv id->cap=none->(W.mu id).2+off+cap'*k=W.sz id)
   (hk:W.lv id->(W.mu id).2+off+cap'*k<=W.sz id):VR W (.sl (some (id,off)) len cap k) (.slice (some a) len cap')
 |tsn {W:Vw} (len:Nat) (cap:Option Nat) (a:Addr) (cap':Nat) (hl:len<=cap') (hc: ∀c,cap=some c->cap'=c):VR W (.ts [] len cap) (.slice (some a) len cap')
 |tsz {W:Vw} (cap:Option Nat) (hc: ∀c,cap=some c->c=0):VR W (.ts [] 0 cap) (.slice none 0 0)
 |ts {W:Vw} (cs:List V) (len:Nat) (cap:Option Nat) (cap':Nat) (blk off:Nat) (c:Array Value) (e:TypeId) (fr:Nat×Nat) (us:List Value) (hl:len<=cap') (hcap: ∀c,cap=some c->cap'=c)
   (hs:W.snap blk=some (.cells c e fr)) (hc: ∀j u,us[j]? =some u->c[off+j]? =some u) (hr:VRs W.dead cs us):VR W (.ts cs len cap) (.slice (some ⟨blk,off,none⟩) len cap')
 |mpn {W:Vw} :VR W (.mp none) (.map none)
 |mps {W:Vw} (id r:Nat) (hid:W.kn id) (hr:W.lv id->r=(W.mu id).1):VR W (.mp (some id)) (.map (some r))
 |fn {W:Vw} (f:Fn) (a c:List V) (ua uc:List Value) (ha:VRs W a ua) (hc:VRs W c uc):VR W (.fn f a c) (.func f ua.toArray uc.toArray)
 |nilfn {W:Vw} :VR W .nilfn .nilFunc
 |ifc {W:Vw} (t:TypeId) (v:V) (u:Value) (h:VR W v u):VR W (.ifc t v) (.iface t u)
 |nilifc {W:Vw} :VR W .nilifc .nilIface
 |agg {W:Vw} (cs:List V) (us:List Value) (h:VRs W cs us):VR W (.agg cs) (.agg us.toArray)
 |tup {W:Vw} (cs:List V) (us:List Value) (h:VRs W cs us):VR W (.tup cs) (.tuple us.toArray)
 |yl {W:Vw} (id l:Nat) (hid:W.kn id) (hl:W.lv id->l=(W.mu id).1):VR W (.yl id) (.func (.yield l) #[] #[])
inductive VRs:Vw->List V->List Value->Prop
 |nil {W:Vw} :VRs W [] []
 |cons {W:Vw} (v:V) (u:Value) (l:List V) (m:List Value) (h:VR W v u) (hs:VRs W l m):VRs W (v::l) (u::m)
end
structure Le(W W':Vw):Prop where
 kn: ∀id,W.kn id->W'.kn id
 mu: ∀id,W.kn id->W'.mu id=W.mu id
 sz: ∀id,W.kn id->W'.sz id=W.sz id
 snap: ∀b o,W.snap b=some o->W'.snap b=some o
 lv: ∀id,W.kn id->W'.lv id->W.lv id
theorem Le.refl(W):Le W W:=⟨λ_ h=>h,λ_ _=>rfl,λ_ _=>rfl,λ_ _ h=>h,λ_ _ h=>h⟩
theorem Le.trans{A B C}(h:Le A B)(g:Le B C):Le A C:=
  ⟨λa c=>g.kn a (h.kn a c),λa c=>(g.mu a (h.kn a c)).trans (h.mu a c),λa c=>(g.sz a (h.kn a c)).trans (h.sz a c),
   λb o d=>g.snap b o (h.snap b o d),λa c e=>h.lv a c (g.lv a (h.kn a c) e)⟩
theorem Le.at{W a:Vw}(h:Le W a){id:Nat}(hi:W.kn id)(off:Nat):a.at id off=W.at id off:=by
 unfold Vw.at;rw[h.mu id hi]
theorem Le.dead{W W':Vw}(h:Le W W'):Le W.dead W'.dead:=
 ⟨λ_ h=>h,λ_ h=>h.elim,λ_ h=>h.elim,h.snap,λ_ h=>h.elim⟩
theorem ZEi(W:Vw):Le W.dead W:=
 ⟨λ_ h=>h.elim,λ_ h=>h.elim,λ_ h=>h.elim,λ_ _ h=>h,λ_ h=>h.elim⟩
mutual
theorem VR.mono{W W'}(h:Le W W'){v}{u}(r:VR W v u):VR W' v u:=by
 cases r with
 |undef u=>exact .undef u
 |b x=>exact .b x
 |i k n=>exact .i k n
 |s l=>exact .s l
 |pn=>exact .pn
 |ps g m a d C=>exact .ps g m a (h.kn g d) (λp=>by rw[h.at d];exact C (h.lv g d p))
 |tpn a=>exact .tpn a
 |tp z y m c e F B A o E=>exact .tp z y m c e F B (h.snap _ _ A) o (VRs.mono h.dead E)
 |sln c k=>exact .sln c k
 |sls g m q cap k a j d p o C K H=>
  exact .sls g m q cap k a j (h.kn g d) p o (λw L=>by rw[h.at d];exact C (h.lv g d w) L)
   (λw G=>by rw[h.mu g d,h.sz g d];exact K (h.lv g d w) G) (λw=>by rw[h.mu g d,h.sz g d];exact H (h.lv g d w))
 |tsn q cap a j p o=>exact .tsn q cap a j p o
 |tsz cap o=>exact .tsz cap o
 |ts z q cap j y m c e F B p D A o E=>exact .ts z q cap j y m c e F B p D (h.snap _ _ A) o (VRs.mono h.dead E)
 |mpn=>exact .mpn
 |mps g r d E=>exact .mps g r (h.kn g d) (λp=>by rw[h.mu g d];exact E (h.lv g d p))
 |fn f a c N O C o=>exact .fn f a c N O (VRs.mono h C) (VRs.mono h o)
 |nilfn=>exact .nilfn
 |ifc t v u w=>exact .ifc t v u (VR.mono h w)
 |nilifc=>exact .nilifc
 |agg z B A=>exact .agg z B (VRs.mono h A)
 |tup z B A=>exact .tup z B (VRs.mono h A)
 |yl g l d p=>exact .yl g l (h.kn g d) (λw=>by rw[h.mu g d];exact p (h.lv g d w))
theorem VRs.mono{W W'}(h:Le W W'){l}{m:List Value}(r:VRs W l m):VRs W' l m:=by
 cases r with
 |nil=>exact .nil
 |cons v u l m b a=>exact .cons v u l m (VR.mono h b) (VRs.mono h a)
end
theorem VRs.length{W} : ∀ {l:List V} {m:List Value},VRs W l m->l.length=m.length
 |_,_, .nil=>rfl
 |_,_, .cons _ _ _ _ _ a=>by simp[a.length]
theorem VRs.append{W} : ∀ {l:List V} {m:List Value} {a:List V} {b:List Value},VRs W l m->VRs W a b->VRs W (l++a) (m++b)
 |_,_,_,_, .nil,h=>h
 |_,_,_,_, .cons v u l m d c,h=> .cons v u _ _ d (c.append h)
theorem VRs.get{W} : ∀ {l:List V} {m:List Value},VRs W l m-> ∀ {j:Nat} {v:V},l[j]? =some v-> ∃u,m[j]? =some u/\VR W v u
 |_,_, .nil,j,v,h=>by simp at h
 |_,_, .cons v u l m b a,0,v',h=>by simp at h;subst h;exact⟨u,rfl,b⟩
 |_,_, .cons v u l m b a,j+1,v',h=>by
  simp at h;obtain⟨e,c,d⟩:=a.get h;exact⟨e,su c,d⟩
theorem VRs.drop{W} : ∀ {l:List V} {m:List Value},VRs W l m-> ∀(n:Nat),VRs W (l.drop n) (m.drop n)
 |_,_, .nil,n=>by simp;exact .nil
 |_,_,h@(.cons _ _ _ _ _ _),0=>su h
 |_,_, .cons _ _ _ _ _ a,n+1=>su (a.drop n)
theorem VRs.take{W} : ∀ {l:List V} {m:List Value},VRs W l m-> ∀(n:Nat),VRs W (l.take n) (m.take n)
 |_,_, .nil,n=>by simp;exact .nil
 |_,_, .cons _ _ _ _ _ _,0=>by simp;exact .nil
 |_,_, .cons v u _ _ b a,n+1=>by simpa using .cons v u _ _ b (a.take n)
theorem VRs.of_get{W} : ∀ {l:List V} {m:List Value},l.length=m.length->(∀(j:Nat) (v:V) (u:Value),l[j]? =some v->m[j]? =some u->VR W v u)->VRs W l m
 | [],[],_,_=> .nil
 |v::l,u::m,a,h=> .cons v u l m (h 0 v u rfl rfl) (VRs.of_get (su a) λj e d b c=>h (j+1) e d (su b) (su c))
 | [],_::_,a,_=>by simp at a
 |_::_,[],a,_=>by simp at a
theorem VR.ofC(W)(c):VR W (ofC c) c:=by
  unfold Go.Y.ofC;split<;>first
    |exact .undef _
    |exact .b _
    |exact .i _ _
    |(rename_i s;have h:=VR.s (W:=W) s.data.toList;have e:(⟨s.data.toList.toArray⟩:ByteArray)=s:=sm
      rw[e]at h;exact h)
    |exact .pn
    |exact .sln _ _
    |exact .mpn
    |exact .nilfn
    |exact .nilifc
def ORel(W:Vw)(w:World)(a:Nat):YObj->Prop
 | .arr d wr=> ∃(c:Array Value) (e:TypeId) (f:Nat×Nat),w.heap[(W.mu a).1]? =some (.cells c e f)/\c.size=W.sz a/\(W.mu a).2+d.length<=c.size/\
   (∀j v,d[j]? =some v-> ∃u,c[(W.mu a).2+j]? =some u/\VR W v u)/\
   (∀j,(if wr then(W.mu a).2 else(W.mu a).2+d.length)<=j->j<c.size-> ¬(f.1<=j/\j<f.2))
 | .map h=> ∃(m:Array MapEntry) (b:Nat),w.heap[(W.mu a).1]? =some (.map m b)/\VRs W (h.map (·.1)) (m.toList.map (·.key))/\VRs W (h.map (·.2)) (m.toList.map (·.val))
 | .siter l g=>w.heap[(W.mu a).1]? =some (.stringIter ⟨l.toArray⟩ g)
 | .loop L=> ∃(fn:FuncId) (i:List Value) (k:Nat),w.heap[(W.mu a).1]? =some (.loop {state:=L.st,pending:=L.pend,fn,tmps:=i.toArray,params:=L.ps,assign:=L.assign,body:=L.body,defers:=k})/\VRs W L.env i
def TagR(W:Vw)(w:World)(p:Nat×TypeId):Prop:=
 W.lv p.1->(W.mu p.1).2=0/\ ∃(c:Array Value) (a:Nat×Nat),w.heap[(W.mu p.1).1]? =some (.cells c p.2 a)/\a.1<=a.2/\a.2<=c.size
def Tabbed(W:Vw):Prop:= ∀p,p∈tabs-> ∃(c:Array Value) (e:TypeId) (a:Nat×Nat),W.snap p.1=some (.cells c e a)/\VRs W.dead p.2 c.toList
theorem Tabbed.mono{W W':Vw}(h:Tabbed W)(a: ∀b o,W.snap b=some o->W'.snap b=some o):Tabbed W':=
 λp d=>let ⟨c,e,fr,h1,h2⟩:=h p d
  ⟨c,e,fr,a _ _ h1,h2.mono (W:=W.dead) (W':=W'.dead) ⟨λ_ h=>h,λ_ h=>h.elim,λ_ h=>h.elim,a,λ_ _ h=>h.elim⟩⟩
structure HRel(W:Vw)(h:Heap)(w:World):Prop where
 kn: ∀id,W.kn id->(h.raw id).isSome
 lk: ∀id,W.lv id->W.kn id
 lv: ∀id,W.lv id↔(h.get id).isSome
 lt: ∀id,(h.raw id).isSome->id<h.nx
 snap: ∀b o,W.snap b=some o->w.heap[b]? =some o
 obj: ∀id o,h.get id=some o->ORel W w id o
 inj: ∀id id',W.lv id->W.lv id'->(W.mu id).1=(W.mu id').1->id=id'
 apart: ∀id,W.lv id->W.snap (W.mu id).1=none
 tg: ∀p,p∈h.tg->W.kn p.1∧TagR W w p
 gl:Tabbed W
def Vw.own(W:Vw)(b:Nat):Prop:= ∃a,W.lv a/\(W.mu a).1=b
structure Str(w w':World):Prop where
 os:w'.os=w.os
 tape:w'.tape=w.tape
 output:w'.output=w.output
theorem Str.refl(w):Str w w:=⟨rfl,rfl,rfl⟩
theorem Str.trans{a b c}(h:Str a b)(g:Str b c):Str a c:=⟨g.os.trans h.os,g.tape.trans h.tape,g.output.trans h.output⟩
structure Stp(W:Vw)(own:Nat->Prop)(w:World)(W':Vw)(own':Nat->Prop)(w':World):Prop where
 le:Le W W'
 size:w.heap.size<=w'.heap.size
 keep: ∀b,b<w.heap.size-> ¬own b->w'.heap[b]? =w.heap[b]?
 owns: ∀b,own' b->own b∨w.heap.size<=b
 new: ∀b,W'.snap b≠none->W.snap b≠none∨own b∨w.heap.size<=b
 str:Str w w'
theorem Stp.refl(W)(own:Nat->Prop)(w):Stp W own w W own w:=
 ⟨.refl W,Nat.le_refl _,λ_ _ _=>rfl,λ_ h=> .inl h,λ_ h=> .inl h, .refl w⟩
theorem Stp.trans{W0 f i}{o0 j k:Nat->Prop}{w0 l m}(h:Stp W0 o0 w0 f j l)(g:Stp f j l i k m):Stp W0 o0 w0 i k m where
 le:=h.le.trans g.le
 size:=uu h.size g.size
 keep b hb hn:=by
  rw[g.keep b (Nat.lt_of_lt_of_le hb h.size) (λe=>(h.owns b e).elim hn (λd=>absurd hb (Nat.not_lt.2 d)))];exact h.keep b hb hn
 owns b e:=by
  rcases g.owns b e with a|a;exact h.owns b a;exact .inr (uu h.size a)
 str:=h.str.trans g.str
 new b hb:=by
  rcases g.new b hb with a|a|a;exact h.new b a;rcases h.owns b a with c|c;exact .inr (.inl c);exact .inr (.inr c);exact .inr (.inr (uu h.size a))
def Same(w a:World):Prop:= ∀(b:Nat) (o:Obj),w.heap[b]? =some o->a.heap[b]? =some o
theorem Same.refl(w):Same w w:=λ_ _ h=>h
theorem Same.size{a b:World}(h:Same a b):a.heap.size<=b.heap.size:=by
 by_cases hz:a.heap.size=0;omega;have c:a.heap.size-1<a.heap.size:=om;have d:=h (a.heap.size-1) a.heap[a.heap.size-1] (by simp[c]);have:=(Array.getElem?_eq_some_iff.1 d).1;omega
theorem ORel.same{W}{w f}(h:Same w f){d:Nat}{o:YObj}(r:ORel W w d o):ORel W f d o:=by
 cases o with
 |arr p wr=>obtain⟨c,e,i,a,b⟩:=r;exact⟨c,e,i,h _ _ a,b⟩
 |map q=>obtain⟨m,k,a,b⟩:=r;exact⟨m,k,h _ _ a,b⟩
 |siter l j=>exact h _ _ r
 |loop L=>obtain⟨fn,n,g,a,b⟩:=r;exact⟨fn,n,g,h _ _ a,b⟩
theorem TagR.same{W}{w a}(h:Same w a){p:Nat×TypeId}(r:TagR W w p):TagR W a p:=λg=>by
 obtain⟨d,c,b,e,f⟩:=r g;exact⟨d,c,b,h _ _ e,f⟩
theorem TagR.mono{W W':Vw}(b:Le W W'){w}{p:Nat×TypeId}(a:W.kn p.1)(r:TagR W w p):TagR W' w p:=λh=>by
 obtain⟨d,c,f,e,g⟩:=r (b.lv p.1 a h);rw[<-b.mu p.1 a]at d e;exact⟨d,c,f,e,g⟩
theorem Zkr: ∀ {l:List (Nat×List V)} {g:Nat} {a:List V},Zsf l g=some a->(g,a)∈l
 | [],_,_,h=>by cases h
 |p::r,g,a,h=>by
  unfold Zsf at h;split at h;rename_i e;cases h;subst e;exact .head _;exact .tail _ (Zkr h)
theorem HRel.tab{W}{h}{w}(r:HRel W h w){g:Nat}{a}(b:Zsf tabs g=some a):VR W (.tp a) (.pointer (some ⟨g,0,none⟩)):=
 let ⟨c,e,fr,h1,h2⟩:=r.gl _ (Zkr b)
 .tp a g 0 c e fr c.toList h1 (λj u d=>su d) h2
theorem HRel.same{W}{h}{w c}(r:HRel W h w)(s:Same w c):HRel W h c:=
 ⟨r.kn,r.lk,r.lv,r.lt,λb o d=>s b o (r.snap b o d),λf o e=>(r.obj f o e).same s,r.inj,r.apart,λp a=>⟨(r.tg p a).1,((r.tg p a).2).same s⟩,r.gl⟩
theorem ORel.mono{W W':Vw}(a:Le W W'){w}{d:Nat}{o:YObj}(b:W.kn d)(r:ORel W w d o):ORel W' w d o:=by
 cases o with
 |arr B wr=>
  obtain⟨c,e,p,f,g,h,q,s⟩:=r;refine⟨c,e,p,?_,?_,?_,?_,?_⟩;rw[a.mu d b];exact f;rw[a.sz d b];exact g;rw[a.mu d b];exact h;intro j v t;rw[a.mu d b];obtain⟨u,x,y⟩:=q j v t;exact⟨u,x,y.mono a⟩;intro j;rw[a.mu d b];exact s j
 |map C=>
  obtain⟨m,k,f,g,h⟩:=r;exact⟨m,k,by rw[a.mu d b];exact f,g.mono a,h.mono a⟩
 |siter l z=>unfold ORel at*;rw[a.mu d b];exact r
 |loop L=>obtain⟨n,A,i,f,g⟩:=r;exact⟨n,A,i,by rw[a.mu d b];exact f,g.mono a⟩
theorem XB{b:Type} : ∀(l:List b) (n:Nat) (a:List b),n+a.length<=l.length->(splice l n a).length=l.length
 |l,0,a,h=>by simp[splice];simp at h;omega
 | [],n+1,a,h=>by simp at h
 |v::l,n+1,a,h=>by simp[splice];exact XB l n a (by simp at h;omega)
theorem Xs{d:Type} : ∀(l:List d) (n:Nat) (a:List d) (j:Nat),n+a.length<=l.length->
  (splice l n a)[j]? =if n<=j/\j<n+a.length then a[j-n]? else l[j]?
 |l,0,a,j,h=>by
  simp only[splice,Nat.zero_le,true_and,uJ,Nat.sub_zero];split;rename_i c;rw[vC c]
  .rename_i c;rw[vB om,uz];congr 1;omega
 | [],n+1,a,j,h=>by simp at h
 |v::l,n+1,a,0,h=>by simp[splice]
 |v::l,n+1,a,j+1,h=>by
  simp only[splice,List.getElem?_cons_succ];rw[Xs l n a j (by simp at h;omega)];have e:(n<=j/\j<n+a.length)↔(n+1<=j+1/\j+1<n+1+a.length):=om;by_cases b:n<=j/\j<n+a.length
  .rw[uF b,uF (e.1 b)];congr 1;omega
  .rw[uE b,uE (λx=>b (e.2 x))]
theorem VRs.splice{W}{l:List V}{m:List Value}(h:VRs W l m){b:List V}{c:List Value}(o:VRs W b c)(n:Nat)(k:n+b.length<=l.length):
  VRs W (splice l n b) (splice m n c):=by
 have p:=h.length;have f:=o.length;refine VRs.of_get (by rw[XB _ _ _ k,XB _ _ _ om,p]) λj v u e a=> ?_;rw[Xs _ _ _ _ k]at e;rw[Xs _ _ _ _ om]at a;rw[<-f]at a;by_cases i:n<=j/\j<n+b.length;rw[uF i]at e a;obtain⟨q,d,g⟩:=o.get e;rw[d]at a;simp at a;subst a;exact g;rw[uE i]at e a;obtain⟨q,d,g⟩:=h.get e;rw[d]at a;simp at a;subst a;exact g
def _root_.Go.World.putB(w:World)(b:Nat)(o:Obj):World:= {w with heap:=w.heap.setIfInBounds b o}
@[simp] theorem Ze4 (w : World) (b : Nat) (o : Obj) : (w.putB b o).heap.size = w.heap.size := by simp [World.putB]
theorem Jk(w:World)(b:Nat)(o:Obj)(h:b<w.heap.size):(w.putB b o).heap[b]? =some o:=by simp[World.putB,h]
theorem Zcw(w:World)(b c:Nat)(o:Obj)(h:b≠c):(w.putB b o).heap[c]? =w.heap[c]? :=by
 simp[World.putB,Array.getElem?_setIfInBounds_ne h]
theorem Zt{w:World}{b:Nat}{o:Obj}(h:w.heap[b]? =some o):b<w.heap.size:=(Array.getElem?_eq_some_iff.1 h).1
@[simp] theorem Zsg (w : World) (o : Obj) : (w.alloc o).heap.size = w.heap.size + 1 := World.size_alloc ..
theorem JJ(w:World)(o:Obj):(w.alloc o).heap[w.heap.size]? =some o:=by show(w.heap.push o)[w.heap.size]? =some o;simp
theorem Jl(w:World)(o:Obj)(b:Nat)(h:b≠w.heap.size):(w.alloc o).heap[b]? =w.heap[b]? :=by show(w.heap.push o)[b]? =w.heap[b]?;rw[Array.getElem?_push];split;rename_i a;exact absurd a h;rfl
theorem Zcx(w:World)(o:Obj):Same w (w.alloc o):=λb a h=>by rw[Jl _ _ _ (by have:=Zt h;omega)];exact h
theorem Wc(b o n:Nat):(⟨b,o,none⟩:Addr).add n=⟨b,o+n,none⟩:=by
 unfold Addr.add;split;rename_i h;simp[h];rfl
theorem Zi0{w:World}{b:Nat}{c:Array Value}{e}{a:Nat×Nat}(h:w.heap[b]? =some (.cells c e a))(j:Nat):w.cell? ⟨b,j,none⟩=c[j]? :=by
 simp[World.cell?,h]
theorem Zks{w:World}{b:Nat}{c:Array Value}{e}{a:Nat×Nat}(h:w.heap[b]? =some (.cells c e a))(j:Nat):w.frozen? ⟨b,j,none⟩=(decide (a.1<=j)&&decide (j<a.2)):=by
 obtain⟨f,d⟩:=a;simp[World.frozen?,h]
def CellsW(w:World)(a:Addr)(b:List Value):Prop:= ∀j u,b[j]? =some u->w.cell? (a.add j)=some u
theorem CellsW.same{w f}(s:Same w f){a:Addr}{d:List Value}(h:CellsW w a d):CellsW f a d:=by
 intro j u i;have b:=h j u i;unfold World.cell? at*;split at b;rename_i c e k g;rw[s _ _ g];exact b;cases b
theorem CellsW.of_block{w:World}{b o:Nat}{c:Array Value}{e}{d:Nat×Nat}(h:w.heap[b]? =some (.cells c e d)){a:List Value}
  (f: ∀j u,a[j]? =some u->c[o+j]? =some u):CellsW w ⟨b,o,none⟩ a:=by
 intro j u g;rw[Wc,Zi0 h];exact f j u g
section
variable {P:Program}
theorem Zg{t:TypeId}{d:TypeDesc}(h:P.underlying t=some d)(w:World):(underlying t).run P w= .ok d w:=by simp[underlying,h]
theorem ZS{t:TypeId}{i:TypeInfo}(h:P.info? t=some i)(w:World):(sizeOf t).run P w= .ok i.size w:=by simp[sizeOf,typeInfo,h]
theorem Qp{t:TypeId}{i:TypeInfo}{z}(h:P.info? t=some i)(hz:i.zero=some z)(w:World):(zeroValue t).run P w= .ok z w:=by simp[zeroValue,typeInfo,h,hz]
def aggD:TypeDesc->Bool
 | .struct _| .array _ _=>true
 |_=>false
theorem Zkt{t:TypeId}{d:TypeDesc}(h:P.underlying t=some d)(w:World):(isAgg t).run P w= .ok (aggD d) w:=by
 simp only[isAgg,uC,Zg h,uA];cases d<;>rfl
theorem Zku{t:TypeId}{d:TypeDesc}{i:TypeInfo}(h:P.underlying t=some d)(j:P.info? t=some i)(w:World)(a:Addr)(b:List Value)
  (k:b.length=i.size) (f:CellsW w a b) (u:Value) (c:if aggD d then u= .agg b.toArray else b= [u]):(loadVar t a).run P w= .ok u w:=by
 simp only[loadVar,uC,Zkt h,uA];cases g:aggD d;simp only[g,uI,vF]at c ⊢;have e:=f 0 u (by simp[c]);simp[Addr.add]at e;simp[e];simp only[g,vG]at c ⊢;simp only[uC,ZS j,uA,<-k,run_loadCells_list w a b f,uD];rw[c]
theorem Qq(b o:Nat)(e)(d:Nat×Nat): ∀(c:List Value) (i:Nat) (a:Array Value) (w:World),w.heap[b]? =some (.cells a e d)->
  o+i+c.length<=a.size->(∀j,o+i<=j->j<o+i+c.length-> ¬(d.1<=j/\j<d.2))->(∀v∈c,v.oneCell'=true)->
  (storeCells ⟨b,o,none⟩ c i).run P w= .ok () (w.putB b (.cells (splice a.toList (o+i) c).toArray e d))
 | [],i,a,w,f,q,_,_=>by
  have D:splice a.toList (o+i) []=a.toList:=by
   apply vA;intro j;rw[Xs _ _ _ _ (su q)];split;rename_i h;simp at h;omega;rfl
  simp only[storeCells,uD,D]
  congr 1
  have:w.heap.setIfInBounds b (.cells a e d)=w.heap:=by
   apply Array.ext';apply vA;intro j;have:= @Array.getElem?_setIfInBounds _ w.heap b j (.cells a e d);simp only[Array.getElem?_toList];rw[this];split;rename_i h;subst h;split;exact f.symm;rename_i B;exact absurd (Zt f) B;rfl
  simp[World.putB,this]
 |v::c,i,a,w,f,q,z,s=>by
  simp only[List.length_cons]at q;have E:v.oneCell'=true:=s v sm;have n:o+i<a.size:=om;have g:w.cell? ⟨b,o+i,none⟩=some a[o+i]:=by rw[Zi0 f];simp[n]
  have p:w.frozen? ⟨b,o+i,none⟩=false:=by
   rw[Zks f];have:=z (o+i) om sm;simp only[Bool.and_eq_false_imp,vL,decide_eq_false_iff_not];intro t u;exact this ⟨t,u⟩
  have F:w.setCell ⟨b,o+i,none⟩ v=w.putB b (.cells (a.setIfInBounds (o+i) v) e d):=by
   unfold World.setCell World.putB
   congr 1
   apply Array.ext';apply vA;intro j;simp only[Array.getElem?_toList,Array.getElem?_modify,Array.getElem?_setIfInBounds];by_cases m:b=j;subst m;have r:=Array.getElem?_eq_some_iff.1 f;simp[Zt f,r.2];simp[m]
  simp only[storeCells,uC,Wc,run_store P w _ v _ E,g,p,uI,vF,uA,F];have G:=Qq b o e d c (i+1) (a.setIfInBounds (o+i) v) (w.putB b (.cells (a.setIfInBounds (o+i) v) e d)) (Jk _ _ _ (Zt f))
   (by simp;omega) (λj t u=>z j om (by simp;omega)) (λx r=>s x (by simp[r]))
  rw[G]
  congr 1
  unfold World.putB;simp only[Array.setIfInBounds_setIfInBounds]
  congr 4
  apply vA;intro j;rw[Xs _ _ _ _ (by simp;omega),Xs _ _ _ _ (by simp;omega)];simp only[List.length_cons,Array.getElem?_toList,Array.getElem?_setIfInBounds];by_cases m:j=o+i;subst m;have A: ¬(o+(i+1)<=o+i/\o+i<o+(i+1)+c.length):=om;have l:o+i<=o+i/\o+i<o+i+(c.length+1):=om;rw[uE A,uF l];simp[n];by_cases y:o+(i+1)<=j/\j<o+(i+1)+c.length;have l:o+i<=j/\j<o+i+(c.length+1):=om;rw[uF y,uF l];obtain⟨k,C⟩: ∃k,j=o+i+(k+1):=⟨j-(o+i+1),om⟩;subst C;rw[show o+i+(k+1)-(o+(i+1))=k from om,show o+i+(k+1)-(o+i)=k+1 from om];simp;have l: ¬(o+i<=j/\j<o+i+(c.length+1)):=om;rw[uE y,uE l];have: ¬(o+i=j):=λh=>m h.symm;rw[uE this]
end
def ZIw(W:Vw)(w:World)(a:List V)(u:Value):Prop:=
 ∃(b:Nat) (c:Array Value) (e:TypeId),u= .pointer (some ⟨b,0,none⟩)/\w.heap[b]? =some (.cells c e (0,0))/\VRs W a c.toList/\W.snap b=none/\ ¬W.own b
def SRel(W:Vw)(w:World)(v:V)(u:Value):Prop:=
 match v with
 | .lb a=>ZIw W w a u
 | .rf=>True
 |v=>VR W v u
def QJ(d:St)(a:Act)(t b:Nat):Prop:=(∃c,d.env[t]? =some (.lb c))/\a.tmps[t]? =some (.pointer (some ⟨b,0,none⟩))
def mkD(r:Nat):Deferred:= {target:= .collected r,args:= #[]}
structure Marks(W:Vw)(a:Act)(w:World):Prop where
 nd:a.defers.Nodup
 at_: ∀d∈a.defers,∃r,d=mkD r∧w.heap[r]? =some (.deferred (some []))∧W.snap r=none∧ ¬W.own r
theorem Marks.same{W}{a:Act}{w b}(s:Same w b)(h:Marks W a w):Marks W a b:=
 ⟨h.nd,λd c=>let ⟨r,h1,h2,h3,h4⟩:=h.at_ d c;⟨r,h1,s _ _ h2,h3,h4⟩⟩
theorem Marks.act{W}{a b:Act}{w}(h:Marks W a w)(e:b.defers=a.defers):Marks W b w:=⟨by rw[e];exact h.nd,by rw[e];exact h.at_⟩
theorem Marks.none{W}{a:Act}{w}(e:a.defers= []):Marks W a w:=⟨by rw[e];exact .nil,by rw[e];intro d b;cases b⟩
theorem Marks.turn{W b:Vw}{a:Act}{w c:World}(h:Marks W a w)(f: ∀r,w.heap[r]? =some (.deferred (some []))->W.snap r=Option.none-> ¬W.own r->c.heap[r]? =w.heap[r]? /\b.snap r=Option.none/\ ¬b.own r):Marks b a c:=
 ⟨h.nd,λd e=>let ⟨r,h1,h2,h3,h4⟩:=h.at_ d e;let ⟨k1,k2,k3⟩:=f r h2 h3 h4;⟨r,h1,by rw[k1];exact h2,k2,k3⟩⟩
structure Rel(W:Vw)(σ:St)(a:Act)(w:World):Prop where
 heap:HRel W σ.h w
 size:a.tmps.size=σ.env.length
 env: ∀(t:Nat) (v:V),σ.env[t]? =some v-> ∃u,a.tmps[t]? =some u∧SRel W w v u
 box: ∀t t' b,QJ σ a t b->QJ σ a t' b->t=t'
 refs: ∀(d s o:Nat),(d,s,o)∈σ.refs->σ.env[d]? =some .rf-> ∀b,QJ σ a s b->a.tmps[d]? =some (.pointer (some ⟨b,o,none⟩))
 defers:Marks W a w
def mine(W:Vw)(c:St)(a:Act)(b:Nat):Prop:=W.own b\/(∃t,QJ c a t b)\/mkD b∈a.defers
theorem SRel.same{W}{w a}(s:Same w a){v}{u}(h:SRel W w v u):SRel W a v u:=by
 cases v<;>first
  |exact h
  |(obtain⟨b,c,e,g,f,d⟩:=h;exact⟨b,c,e,g,s _ _ f,d⟩)
theorem Rel.same{W}{c}{a:Act}{w b}(s:Same w b)(h:Rel W c a w):Rel W c a b:=
 ⟨h.heap.same s,h.size,λt v d=>let ⟨u,h1,h2⟩:=h.env t v d;⟨u,h1,h2.same s⟩,h.box,h.refs,h.defers.same s⟩
theorem SRel.plain{W}{w}{v:V}{u}(h:SRel W w v u):VR W v.plain u:=by
 cases v<;>first|exact .undef u|exact h
theorem Rel.ev{W}{c:St}{a:Act}{w}(h:Rel W c a w)(x):VR W (ev c.env x) (a.eval x):=by
 cases x with
 |tmp t=>
  simp only[Go.Y.ev,Act.eval]
  cases b:c.env[t]? with
  |none=>simp[List.getD,b,V.plain];exact .undef _
  |some v=>
   obtain⟨u,d,e⟩:=h.env t v b;simp[List.getD,b,d];exact e.plain
 |const v=>exact VR.ofC W v
 |global g=>
  simp only[Go.Y.ev];split;rename_i j i;exact h.heap.tab i;exact .undef _
 |func f=>exact .fn (.func f) [] [] [] [] .nil .nil
def KdOK(Y:YP)(t:TypeId):Kd->TypeDesc->Prop
 | .bool,d=>d= .bool
 | .int k,d=>d= .int k
 | .str,d=>d= .string
 | .slice e,d=>d= .slice e
 | .arr n e,d=>d= .array n e/\Y.P.eqGuardType Y.P.depth t=false
 | .struct g,d=> ∃l:Array Field,d= .struct l/\g=l.toList.map (λf=>(f.offset,f.type))/\(∀f∈l,f.name≠"_")/\Y.P.stoodInHeld t=false/\Y.P.eqGuardType Y.P.depth t=false
 | .ptr e,d=>d= .pointer e
 | .map k e,d=>d= .map k e
 | .func,d=> ∃a b c,d= .func a b c
 | .iface,d=> ∃h,d= .interface h
 | .other,_=>False
structure TIOK(Y:YP)(t:TypeId)(ti:TI)(i:TypeInfo)(d:TypeDesc)(z:Value):Prop where
 info:Y.P.info? t=some i
 und:Y.P.underlying t=some d
 zero:i.zero=some z
 size:i.size=ti.size
 bytes:i.bytes=ti.bytes
 zr: ∀W,VRs W ti.zero z.cells.toList
 zl:ti.zero.length=ti.size
 zc:Zp ti.zero=true
 kd:KdOK Y t ti.kd d
 agg:aggD d=ti.kd.agg
 one:ti.kd.agg=false->ti.size=1
def extE:Nat->Array Value->Sem Value
 |1=>Extern.AbiNoEscape.same
 |_=>Extern.BytealgIndexByte.indexByte
def ZEj(Y:YP):Prop:= ∀p∈Y.ext,∃b,Y.P.funcs[p.1]? =some b/\b.body.isNone=true/\Extern.findNext b=none/\Extern.find b=some (extE p.2)
structure YOK(Y:YP):Prop where
 ty: ∀t ti,Y.ty t=some ti-> ∃i d z,TIOK Y t ti i d z
 mixed:Y.P.follows .mixedOrders=true
 name: ∀(f:FuncId) (fn:Func),Y.P.funcs[f]? =some fn->(fn.name=="runtime.NumGoroutine")=false
 ext:ZEj Y
def AdR(W:Vw)(σ:St)(a:Act):Ad->Addr->Prop
 | .lb s o,x=> ∃b,QJ σ a s b/\x=⟨b,o,none⟩
 | .hp g o,x=>W.kn g/\(W.lv g->x=W.at g o)
 | .ro h,x=>h= []\/ ∃(d f:Nat) (c:Array Value) (e:TypeId) (k:Nat×Nat) (i:List Value),x=⟨d,f,none⟩/\W.snap d=some (.cells c e k)/\
   (∀j u,i[j]? =some u->c[f+j]? =some u)/\VRs W.dead h i
theorem VG: ∀(n:Nat) (l r:List V),Zs n l=some r->r=l.take n/\r.length=n
 |0,l,r,h=>by simp[Zs]at h;subst h;simp
 |n+1,[],r,h=>by simp[Zs]at h
 |n+1,v::l,r,h=>by
  simp only[Zs,uG]at h;obtain⟨e,b,rfl⟩:=h;obtain⟨c,d⟩:=VG n l e b;exact⟨by simp[<-c],by simp[d]⟩
theorem Ze5: ∀ {l:List (Nat×Nat×Nat)} {t s o:Nat},Jg l t=some (s,o)->(t,s,o)∈l
 |(d,e,c)::l,t,s,o,h=>by
  simp only[Jg]at h;split at h;rename_i b;simp at h;simp[b,h];simp[Ze5 h]
section
variable {Y:YP} {W:Vw} {σ:St} {a:Act} {w:World}
theorem Rel.boxOf(h:Rel W σ a w){t:Nat}{d}(f:σ.env[t]? =some (.lb d)): ∃b,QJ σ a t b:=by
 obtain⟨u,g,i⟩:=h.env t _ f;obtain⟨b,c,e,j,_⟩:=i;exact⟨b,⟨d,f⟩,by rw[g,j]⟩
theorem Rel.boxCells(h:Rel W σ a w){t b:Nat}{f}(m:σ.env[t]? =some (.lb f))(k:QJ σ a t b):
  ∃(c:Array Value) (e:TypeId),w.heap[b]? =some (.cells c e (0,0))/\VRs W f c.toList/\W.snap b=none/\ ¬W.own b:=by
 obtain⟨u,g,i⟩:=h.env t _ m;obtain⟨o,c,e,n,l,j⟩:=i;have d:=k.2;rw[g,n]at d;simp at d;subst d;exact⟨c,e,l,j⟩
theorem Zcy(h:Rel W σ a w){x:Operand}{ad:Ad}(d:addr σ x=some ad): ∃y:Addr,a.eval x= .pointer (some y)/\AdR W σ a ad y:=by
 cases x with
 |tmp t=>
  simp only[addr]at d
  cases k:σ.env[t]? with
  |none=>simp[List.getD,k]at d
  |some v=>
   obtain⟨u,z,H⟩:=h.env t v k;have C:a.eval (.tmp t)=u:=by simp[Act.eval,z]
   simp only[List.getD,k,uq]at d;rw[C]
   cases v with
   |lb q=>
    simp at d;subst d;obtain⟨b,m⟩:=h.boxOf k;have:=m.2;rw[z]at this;simp at this;exact⟨⟨b,0,none⟩,this,b,m,rfl⟩
   |p o=>
    cases o with
    |none=>simp at d
    |some p=>
     obtain⟨i,o⟩:=p;simp at d;subst d
     cases H with
     |ps _ _ y D K=>exact⟨y,rfl,D,K⟩
   |tp q=>
    simp at d;subst d
    cases H with
    |tpn y=>exact⟨y,rfl, .inl rfl⟩
    |tp _ l n c e r G j B F=>exact⟨_,rfl, .inr ⟨l,n,c,e,r,G,rfl,j,B,F⟩⟩
   |rf=>
    cases E:Jg σ.refs t with
    |none=>simp[E]at d
    |some O=>
     obtain⟨s,o⟩:=O;simp only[E]at d;have N:=Ze5 E
     cases j:σ.env[s]? with
     |none=>simp[j]at d
     |some P=>
      cases P with
      |lb q=>
       simp[j]at d;subst d;obtain⟨b,m⟩:=h.boxOf j;have A:=h.refs t s o N k b m;rw[z]at A;simp at A;exact⟨⟨b,o,none⟩,A,b,m,rfl⟩
      |_=>simp[j]at d
   |_=>simp at d
 |const v=>simp[addr]at d
 |global g=>
  simp only[addr,uG]at d;obtain⟨q,L,C⟩:=d;subst C;have k:=h.heap.tab L;show∃y:Addr,Value.pointer (some ⟨g,0,none⟩)= .pointer (some y)/\AdR W σ a (.ro q) y
  cases k with
  |tpn=>exact⟨_,rfl, .inl rfl⟩
  |tp _ l n c e r G j B F=>exact⟨_,rfl, .inr ⟨_,_,c,e,r,G,rfl,j,B,F⟩⟩
 |func f=>simp[addr]at d
theorem VH(h:Rel W σ a w){ad:Ad}{y:Addr}(E:AdR W σ a ad y){n:Nat}{l}(g:Xt σ n ad=some l):
  ∃A,VRs W l A/\A.length=n/\CellsW w y A:=by
 cases ad with
 |lb s o=>
  obtain⟨b,L,rfl⟩:=E;simp only[Xt]at g
  cases p:σ.env[s]? with
  |none=>simp[List.getD,p]at g
  |some P=>
   cases P with
   |lb z=>
    simp[List.getD,p]at g;obtain⟨k,m⟩:=VG _ _ _ g;obtain⟨c,e,q,t,_⟩:=h.boxCells p L;have f:=(t.drop o).take n;rw[<-k]at f;refine⟨_,f,by rw[<-f.length,m],CellsW.of_block q λj u d=> ?_⟩;rw[List.getElem?_take]at d;split at d;rw[uz]at d;simpa using d;cases d
   |_=>simp[List.getD,p]at g
 |hp x o=>
  obtain⟨N,K⟩:=E;simp only[Xt]at g
  cases r:σ.h.get x with
  |none=>simp[r]at g
  |some ob=>
   cases ob with
   |arr z wr=>
    simp only[r]at g;have C:W.lv x:=(h.heap.lv x).2 (by simp[r]);obtain⟨k,m⟩:=VG _ _ _ g;obtain⟨c,e,G,q,X,Z,H,_⟩:=h.heap.obj x _ r;have B:VRs W z ((c.toList.drop (W.mu x).2).take z.length):=by
     refine VRs.of_get (by simp;omega) λj v u f i=> ?_;obtain⟨u',D,t⟩:=H j v f;rw[List.getElem?_take]at i;split at i;rw[uz]at i;simp at i;rw[D]at i;simp at i;subst i;exact t;cases i
    have f:=(B.drop o).take n;rw[<-k]at f;rw[K C];refine⟨_,f,by rw[<-f.length,m],CellsW.of_block q λj u d=> ?_⟩;rw[List.getElem?_take]at d;split at d;rw[uz,List.getElem?_take]at d;split at d;rw[uz]at d;simpa[uX]using d;cases d;cases d
   |_=>simp[r]at g
 |ro z=>
  simp only[Xt]at g;obtain⟨k,m⟩:=VG _ _ _ g;rcases E with rfl|⟨F,O,c,e,G,A,rfl,p,q,t⟩;simp at k;subst k;simp at m;subst m;exact⟨[], .nil,rfl,λj u d=>by simp at d⟩;have f:=t.take n;rw[<-k]at f;refine⟨_,f.mono (ZEi W),by rw[<-f.length,m],CellsW.of_block (h.heap.snap _ _ p) λj u d=> ?_⟩;rw[List.getElem?_take]at d;split at d;exact q j u d;cases d
theorem AdR.shift{ad:Ad}{y:Addr}(g:AdR W σ a ad y)(n:Nat):AdR W σ a (ad.shift n) (y.add n):=by
 cases ad with
 |lb s o=>
  obtain⟨b,m,rfl⟩:=g;exact⟨b,m,by rw[Wc]⟩
 |hp z o=>
  obtain⟨f,l⟩:=g;exact⟨f,λq=>by rw[l q];unfold Vw.at;rw[Wc,uX]⟩
 |ro x=>
  rcases g with rfl|⟨d,h,c,e,k,v,rfl,t,p,r⟩;exact .inl sm;refine .inr ⟨d,h+n,c,e,k,v.drop n,by rw[Wc],t,λj u i=> ?_,r.drop n⟩;rw[uz]at i;rw[uX];exact p _ _ i
theorem AdR.of_q{ad:Ad}{y:Addr}(d:AdR W σ a ad y):match ad.q with
  | .val v=>VR W v (.pointer (some y))
  | .ref s o=> ∃b,QJ σ a s b/\Value.pointer (some y)= .pointer (some ⟨b,o,none⟩):=by
 cases ad with
 |lb s o=>obtain⟨b,j,rfl⟩:=d;exact⟨b,j,rfl⟩
 |hp n o=>exact .ps n o y d.1 d.2
 |ro h=>
  rcases d with rfl|⟨f,g,c,e,i,p,rfl,m,k,l⟩;exact .tpn y;exact .tp h f g c e i p m k l
theorem Zg8{c:Bool}{l:List V}{d:List Value}{v}(h:VRs W l d)(b:Jh c l=some v):
  ∃u,VR W v u/\(if c then u= .agg d.toArray else d= [u]):=by
 cases c
 .simp only[Jh,uI,vF]at b ⊢
  cases h with
  |nil=>simp at b
  |cons g u l m e f=>
   cases f with
   |nil=>simp at b;subst b;exact⟨u,e,rfl⟩
   |cons _ _ _ _ _ _=>simp at b
 .simp[Jh]at b;subst b;exact⟨_, .agg _ _ h,sm⟩
end
section
variable {Y:YP} {W:Vw} {σ:St} {a:Act} {w:World}
def QR(W:Vw)(σ:St)(a:Act):Q->Value->Prop
 | .val v,u=>VR W v u
 | .ref s o,u=> ∃b,QJ σ a s b/\u= .pointer (some ⟨b,o,none⟩)
theorem AdR.qr{ad:Ad}{y:Addr}(c:AdR W σ a ad y):QR W σ a ad.q (.pointer (some y)):=by
 have:=c.of_q;cases b:ad.q<;>rw[b]at this<;>exact this
theorem XH{Y:YP}{t:TypeId}{b:Kd}(h:Y.kd t=some b): ∃c,Y.ty t=some c/\c.kd=b:=by
 simpa[YP.kd]using h
/-! ### whole numbers, strings -/
theorem Zuc{d:BinOp}{k:IntKind}{x y:Int}{v}(h:Zkp d k x y=some v)(t:TypeId):
  ∃u,VR W v u/\ ∀w,(binOp d t (.int k x) (.int k y)).run Y.P w= .ok u w:=by
 cases d<;>simp only[Zkp]at h
 case quo=>
  split at h;cases h;rename_i c;simp at h;subst h;exact⟨_, .i _ _,λw=>by simp[binOp,Op.intDiv,c]⟩
 case rem=>
  split at h;cases h;rename_i c;simp at h;subst h;exact⟨_, .i _ _,λw=>by simp[binOp,Op.intDiv,c]⟩
 case eql=>simp at h;subst h;exact⟨_, .b _,λw=>by simp[binOp,Op.intCmp]⟩
 case neq=>simp at h;subst h;exact⟨_, .b _,λw=>by simp[binOp,Op.intCmp,bne]⟩
 case lss=>simp at h;subst h;exact⟨_, .b _,λw=>by simp[binOp,Op.intCmp,ltI]⟩
 case leq=>simp at h;subst h;exact⟨_, .b _,λw=>by simp[binOp,Op.intCmp,leI]⟩
 case gtr=>simp at h;subst h;exact⟨_, .b _,λw=>by simp[binOp,Op.intCmp,ltI]⟩
 case geq=>simp at h;subst h;exact⟨_, .b _,λw=>by simp[binOp,Op.intCmp,leI]⟩
 case and=>simp only[uB]at h;subst h;exact⟨_, .i _ _,λw=>by rw[binOp_and];rfl⟩
 case or=>simp only[uB]at h;subst h;exact⟨_, .i _ _,λw=>by rw[binOp_or];rfl⟩
 case xor=>simp only[uB]at h;subst h;exact⟨_, .i _ _,λw=>by rw[binOp_xor];rfl⟩
 case andNot=>simp only[uB]at h;subst h;exact⟨_, .i _ _,λw=>by rw[binOp_andNot];rfl⟩
 all_goals first
  |(simp at h;done)
  |(simp at h;subst h;exact⟨_, .i _ _,λw=>by simp[binOp,Op.intArith]⟩)
theorem Zud{c:BinOp}{x y:List UInt8}{v}(h:Zpu c x y=some v)(t:TypeId):
  ∃u,VR W v u/\ ∀w,(binOp c t (.string ⟨x.toArray⟩) (.string ⟨y.toArray⟩)).run Y.P w= .ok u w:=by
 have g:(⟨x.toArray⟩:ByteArray).toList=x:=by rw[ByteArray.toList_eq]
 have i:(⟨y.toArray⟩:ByteArray).toList=y:=by rw[ByteArray.toList_eq]
 cases c<;>simp only[Zpu]at h
 case add=>
  split at h
  .rename_i j;simp at h;subst h;refine⟨_, .s _,λw=> ?_⟩;have f: ¬(9223372036854775807<(((⟨x.toArray⟩:ByteArray).size:Int)+((⟨y.toArray⟩:ByteArray).size:Int))):=by
    have d:(⟨x.toArray⟩:ByteArray).size=x.length:=rfl;have e:(⟨y.toArray⟩:ByteArray).size=y.length:=rfl;rw[d,e];omega
   simp[binOp,Op.stringOp,f];apply ByteArray.ext;simp
  .cases h
 all_goals first
  |(simp at h;done)
  |(simp at h;subst h;exact⟨_, .b _,λw=>by simp[binOp,Op.stringOp,g,i]⟩)
/-! ### '==' by type -/
theorem Ve{h}{t}{i:TypeInfo}{d:TypeDesc}{z}(g:TIOK Y t h i d z){p l:List V}{k:List Value}(x:VRs W p k){off:Nat}
  (v:Zs h.size (p.drop off)=some l): ∃c u,VRs W l c/\(∀w,(part t k.toArray off).run Y.P w= .ok u w)/\(if h.kd.agg then u= .agg c.toArray else c= [u]):=by
 obtain⟨q,r⟩:=VG _ _ _ v;have f:=(x.drop off).take h.size;rw[<-q]at f;have b:=f.length;rw[r]at b;simp only[part,uC,Zkt g.und,uA,g.agg];cases n:h.kd.agg
 .have m:=g.one n;rw[m]at b f;simp only[uI,vF];obtain⟨u,o⟩: ∃u,k[off]? =some u:=by
   cases s:k[off]? with
   |some u=>exact⟨u,rfl⟩
   |none=>
    rw[List.getElem?_eq_none_iff]at s;simp at b;omega
  have e:(k.drop off).take 1= [u]:=by
   apply vA;intro j;rw[List.getElem?_take,uz]
   cases j with
   |zero=>simp[o]
   |succ j=>simp
  rw[e]at f;exact⟨[u],u,f,λw=>by simp[o],rfl⟩
 .simp only[vG,uC,ZS g.info,uA,uD,g.size];exact⟨_,_,f,λw=>rfl,sm⟩
theorem Zg9{g:TI}{t}{i:TypeInfo}{d:TypeDesc}{z}(j:TIOK Y t g i d z){x y:V}{r:Bool}(h:WA g.kd x y=some r){u v:Value}
  (e:VR W x u) (f:VR W y v) (n:Nat) (w:World):(Op.equalIn (n+1) t u v).run Y.P w= .ok r w:=by
 have c:=j.und;have b:=j.kd;generalize g.kd=l at h b;cases l<;>cases x<;>cases y<;>simp only[WA]at h<;>first|(cases h;done)|skip
 .cases e;cases f;cases b;simp at h;rw[run_equalIn_bool' w n t _ _ c,<-h]
 .cases e;cases f;cases b;split at h;rename_i k;subst k;simp at h;rw[run_equalIn_int w n t _ _ _ _ c,<-h];cases h
 .cases e;cases f;cases b;simp at h;rw[run_equalIn_string w n t _ _ c,ByteArray.toList_eq,ByteArray.toList_eq,<-h]
def WB(d:Nat)(e:TypeId)(n:Nat)(c f:Array Value):List Nat->Sem Bool
 | []=>pure true
 |i::l=>do
  let a<-part e c (i*n)
  let b<-part e f (i*n)
  let r<-Op.equalIn d e a b
  if(!r)=true then pure false else WB d e n c f l
theorem Wd(d:Nat)(t e:TypeId)(c:Nat){i:TypeInfo}(f g:Array Value)(o:Y.P.underlying t=some (.array c e))(n:Y.P.info? e=some i)(w:World):
  (Op.equalIn (d+1) t (.agg f) (.agg g)).run Y.P w=(WB d e i.size f g (List.range c)).run Y.P w:=by
 simp only[Op.equalIn,uC,Zg o,uA,ZS n,Std.Legacy.Range.forIn_eq_forIn_range',Std.Legacy.Range.size,Nat.sub_zero,Nat.add_sub_cancel,Nat.div_one,List.range_eq_range'];generalize List.range' 0 c=l
 induction l generalizing w with
 |nil=>simp[WB]
 |cons k l p=>
  simp only[List.forIn_cons,WB,uC,Sem.run_ite];generalize (part e f (k*i.size)).run Y.P w=r1
  cases r1 with
  |ok a h=>
   simp only[uA];generalize (part e g (k*i.size)).run Y.P h=q
   cases q with
   |ok b j=>
    simp only[uA];generalize (Op.equalIn d e a b).run Y.P j=s
    cases s with
    |ok r m=>
     cases r;simp only[uA,Bool.not_false,vG,uD];simp only[uA,Bool.not_true,uI,vF,uD];exact p m
    |halt x m=>simp[Result.andThen]
   |halt x j=>simp[Result.andThen]
  |halt x h=>simp[Result.andThen]
theorem Znv(E:YOK Y): ∀(n:Nat) (t:TypeId) (xs ys:List V) (r:Bool),eqTy Y n t xs ys=some r-> ∀(O X:List Value),VRs W xs O->VRs W ys X->
  ∀D,Y.ty t=some D-> ∀(u v:Value),(if D.kd.agg then u= .agg O.toArray else O= [u])->(if D.kd.agg then v= .agg X.toArray else X= [v])->
  ∀(d:Nat) (w:World),n<=d->(Op.equalIn d t u v).run Y.P w= .ok r w
 |0,_,_,_,_,h=>by simp[eqTy]at h
 |n+1,t,xs,ys,r,h=>by
  intro O X hx hy D L u v B C d w hd;obtain⟨i,de,z,A⟩:=E.ty t D L;obtain⟨d,rfl⟩: ∃d',d=d'+1:=⟨d-1,om⟩;simp only[eqTy,YP.kd,L,uw]at h;split at h
  .rename_i fs c;simp only[uB]at c;have j:=A.kd;rw[c]at j;obtain⟨l,rfl,a1,G,a4,_⟩:=j;simp only[c,Kd.agg,vG]at B C;subst B C;have s:Y.P.fieldsOf t=l:=by simp[Program.fieldsOf,A.und]
   rw[run_equalIn_struct w d t _ _ (by rw[s];exact A.und) a4,s];clear s c;have m: ∀f∈l.toList,f.name≠"_":=λf hf=>G f (su hf);subst a1;generalize l.toList=fl at h m;clear G A
   induction fl generalizing r with
   |nil=>simp at h;subst h;simp[Op.eqFields]
   |cons f fl ih=>
    simp only[List.map_cons,List.foldr_cons]at h;split at h;rename_i tf K;split at h;rename_i a b ha hb;split at h;rename_i p q hp hq;simp at h;obtain⟨fi,fd,fz,F⟩:=E.ty _ tf K;obtain⟨ua,u',Z,h2,h3⟩:=Ve F hx ha;obtain⟨ub,v',h4,h5,h6⟩:=Ve F hy hb;have he:=Znv E n f.type a b p hp _ _ Z h4 tf K u' v' h3 h6 d w om;simp only[Op.eqFields];rw[uF (m f sm)];simp only[uC,h2,h5,he,uA,Sem.run_ite];cases p;simp at h;subst h;simp;simp at h;subst h;simpa using ih q hq (λg hg=>m g (by simp[hg]));cases h;cases h;cases h
  .rename_i N e c;simp only[uB]at c;have j:=A.kd;rw[c]at j;obtain⟨rfl,_⟩:=j;simp only[c,Kd.agg,vG]at B C;subst B C;split at h
   .rename_i te H;obtain⟨ei,ed,ez,o⟩:=E.ty e te H;rw[Wd d t e N _ _ A.und o.info w,o.size];generalize List.range N=il at h
    induction il generalizing r with
    |nil=>simp at h;subst h;simp[WB]
    |cons k il ih=>
     simp only[List.foldr_cons]at h;split at h;rename_i a b ha hb;split at h;rename_i p q hp hq;simp at h;obtain⟨ua,u',Z,h2,h3⟩:=Ve o hx ha;obtain⟨ub,v',h4,h5,h6⟩:=Ve o hy hb;have he:=Znv E n e a b p hp _ _ Z h4 te H u' v' h3 h6 d w om;simp only[WB,uC,h2,h5,he,uA,Sem.run_ite];cases p;simp at h;subst h;simp;simp at h;subst h;simpa using ih q hq;cases h;cases h
   .cases h
  .rename_i kd a3 a2 c;simp only[uB]at c;split at h
   .rename_i x y;rw[<-c]at h;have a0:D.kd.agg=false:=by
     rw[c];cases kd<;>first|rfl|(exact absurd rfl (a3 _))|(exact absurd rfl (a2 _ _))
    simp only[a0,uI,vF]at B C;subst B C
    cases hx with
    |cons _ _ _ _ a5 _=>
     cases hy with
     |cons _ _ _ _ a6 _=>exact Zg9 A h a5 a6 d w
   .cases h
  .cases h
end
end Go.Y
