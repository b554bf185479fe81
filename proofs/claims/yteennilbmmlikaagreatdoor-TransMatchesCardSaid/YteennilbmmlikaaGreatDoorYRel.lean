/- A part of the proof. -/
import Derived.Test.YteennilbmmlikaaGreatDoorYOm
import Derived.Laws.Cells
import Derived.Laws.World
import Derived.Laws.AppendOwn
import Derived.Laws.StructEq
namespace Go.Y
set_option maxRecDepth 1000000
set_option maxHeartbeats 0
structure Vw where
 mu:Nat->Nat×Nat
 sz:Nat->Nat
 snap:Nat->Option Obj
 lv:Nat->Prop
 kn:Nat->Prop
def Vw.at(W:Vw)(id off:Nat):Addr:=⟨(W.mu id).1,(W.mu id).2+off,none⟩
def Vw.dead(W:Vw):Vw:= {mu:=W.mu,sz:=W.sz,snap:=W.snap,lv:=λ_=>False,kn:=λ_=>False}
mutual
inductive VR:Vw->V->Value->Prop
 |undef {W:Vw} (u:Value):VR W .undef u
 |b {W:Vw} (x:Bool):VR W (.b x) (.bool x)
 |i {W:Vw} (k:IntKind) (n:Int):VR W (.i k n) (.int k n)
 |s {W:Vw} (l:List UInt8):VR W (.s l) (.string ⟨l.toArray⟩)
 |pn {W:Vw} :VR W (.p none) (.pointer none)
 |ps {W:Vw} (id off:Nat) (a:Addr) (hid:W.kn id) (ha:W.lv id->a=W.at id off):VR W (.p (some (id,off))) (.pointer (some a))
 |tpn {W:Vw} (a:Addr):VR W (.tp []) (.pointer (some a))
 |tp {W:Vw} (cs:List V) (blk off:Nat) (c:Array Value) (e:TypeId) (fr:Nat×Nat) (us:List Value) (hs:W.snap blk=some (.cells c e fr))
   (hc: ∀j u,us[j]? =some u->c[off+j]? =some u) (hr:VRs W.dead cs us):VR W (.tp cs) (.pointer (some ⟨blk,off,none⟩))
 |sln {W:Vw} (c:Option Nat) (k:Nat):VR W (.sl none 0 c k) (.slice none 0 0)
 |sls {W:Vw} (id off len:Nat) (cap:Option Nat) (k:Nat) (a:Addr) (cap':Nat) (hid:W.kn id) (hl:len<=cap') (hc: ∀c,cap=some c->cap'=c)
   (ha:W.lv id->0<cap'->a=W.at id off) (hn:W.lv id->cap=none->(W.mu id).2+off+cap'*k=W.sz id)
   (hk:W.lv id->(W.mu id).2+off+cap'*k<=W.sz id):VR W (.sl (some (id,off)) len cap k) (.slice (some a) len cap')
 |tsn {W:Vw} (len:Nat) (cap:Option Nat) (a:Addr) (cap':Nat) (hl:len<=cap') (hc: ∀c,cap=some c->cap'=c):VR W (.ts [] len cap) (.slice (some a) len cap')
 |tsz {W:Vw} (cap:Option Nat) (hc: ∀c,cap=some c->c=0):VR W (.ts [] 0 cap) (.slice none 0 0)
 |ts {W:Vw} (cs:List V) (len:Nat) (cap:Option Nat) (cap':Nat) (blk off:Nat) (c:Array Value) (e:TypeId) (fr:Nat×Nat) (us:List Value) (hl:len<=cap') (hcap: ∀c,cap=some c->cap'=c)
   (hs:W.snap blk=some (.cells c e fr)) (hc: ∀j u,us[j]? =some u->c[off+j]? =some u) (hr:VRs W.dead cs us):VR W (.ts cs len cap) (.slice (some ⟨blk,off,none⟩) len cap')
 |mpn {W:Vw} :VR W (.mp none) (.map none)
 |mps {W:Vw} (id r:Nat) (hid:W.kn id) (hr:W.lv id->r=(W.mu id).1):VR W (.mp (some id)) (.map (some r))
 |fn {W:Vw} (f:Fn) (a c:List V) (ua uc:List Value) (ha:VRs W a ua) (hc:VRs W c uc):VR W (.fn f a c) (.func f ua.toArray uc.toArray)
 |nilfn {W:Vw} :VR W .nilfn .nilFunc
 |ifc {W:Vw} (t:TypeId) (v:V) (u:Value) (h:VR W v u):VR W (.ifc t v) (.iface t u)
 |nilifc {W:Vw} :VR W .nilifc .nilIface
 |agg {W:Vw} (cs:List V) (us:List Value) (h:VRs W cs us):VR W (.agg cs) (.agg us.toArray)
 |tup {W:Vw} (cs:List V) (us:List Value) (h:VRs W cs us):VR W (.tup cs) (.tuple us.toArray)
 |yl {W:Vw} (id l:Nat) (hid:W.kn id) (hl:W.lv id->l=(W.mu id).1):VR W (.yl id) (.func (.yield l) #[] #[])
inductive VRs:Vw->List V->List Value->Prop
 |nil {W:Vw} :VRs W [] []
 |cons {W:Vw} (v:V) (u:Value) (l:List V) (m:List Value) (h:VR W v u) (hs:VRs W l m):VRs W (v::l) (u::m)
end
structure Le(W W':Vw):Prop where
 kn: ∀id,W.kn id->W'.kn id
 mu: ∀id,W.kn id->W'.mu id=W.mu id
 sz: ∀id,W.kn id->W'.sz id=W.sz id
 snap: ∀b o,W.snap b=some o->W'.snap b=some o
 lv: ∀id,W.kn id->W'.lv id->W.lv id
theorem Le.refl(W):Le W W:=⟨λ_ h=>h,λ_ _=>rfl,λ_ _=>rfl,λ_ _ h=>h,λ_ _ h=>h⟩
theorem Le.trans{A B C}(h:Le A B)(g:Le B C):Le A C:=
  ⟨λa c=>g.kn a (h.kn a c),λa c=>(g.mu a (h.kn a c)).trans (h.mu a c),λa c=>(g.sz a (h.kn a c)).trans (h.sz a c),
   λb o d=>g.snap b o (h.snap b o d),λa c e=>h.lv a c (g.lv a (h.kn a c) e)⟩
theorem Le.at{W a:Vw}(h:Le W a){id:Nat}(hi:W.kn id)(off:Nat):a.at id off=W.at id off:=by
 unfold Vw.at;rw[h.mu id hi]
theorem Le.dead{W W':Vw}(h:Le W W'):Le W.dead W'.dead:=
 ⟨λ_ h=>h,λ_ h=>h.elim,λ_ h=>h.elim,h.snap,λ_ h=>h.elim⟩
theorem ZDe(W:Vw):Le W.dead W:=
 ⟨λ_ h=>h.elim,λ_ h=>h.elim,λ_ h=>h.elim,λ_ _ h=>h,λ_ h=>h.elim⟩
mutual
theorem VR.mono{W W'}(h:Le W W'){v}{u:Value}(r:VR W v u):VR W' v u:=by
 cases r with
 |undef u=>exact .undef u
 |b x=>exact .b x
 |i k n=>exact .i k n
 |s l=>exact .s l
 |pn=>exact .pn
 |ps g off a d C=>exact .ps g off a (h.kn g d) (λo=>by rw[h.at d];exact C (h.lv g d o))
 |tpn a=>exact .tpn a
 |tp A blk off c e fr z y m hr=>exact .tp A blk off c e fr z (h.snap _ _ y) m (VRs.mono h.dead hr)
 |sln c k=>exact .sln c k
 |sls g off len cap k a j d o m C H G=>
  exact .sls g off len cap k a j (h.kn g d) o m (λw hp=>by rw[h.at d];exact C (h.lv g d w) hp)
   (λw D=>by rw[h.mu g d,h.sz g d];exact H (h.lv g d w) D) (λw=>by rw[h.mu g d,h.sz g d];exact G (h.lv g d w))
 |tsn len cap a j o m=>exact .tsn len cap a j o m
 |tsz cap m=>exact .tsz cap m
 |ts A len cap j blk off c e fr z o B y m hr=>exact .ts A len cap j blk off c e fr z o B (h.snap _ _ y) m (VRs.mono h.dead hr)
 |mpn=>exact .mpn
 |mps g r d hr=>exact .mps g r (h.kn g d) (λo=>by rw[h.mu g d];exact hr (h.lv g d o))
 |fn f a c F E C m=>exact .fn f a c F E (VRs.mono h C) (VRs.mono h m)
 |nilfn=>exact .nilfn
 |ifc t v u w=>exact .ifc t v u (VR.mono h w)
 |nilifc=>exact .nilifc
 |agg A z y=>exact .agg A z (VRs.mono h y)
 |tup A z y=>exact .tup A z (VRs.mono h y)
 |yl g l d o=>exact .yl g l (h.kn g d) (λw=>by rw[h.mu g d];exact o (h.lv g d w))
theorem VRs.mono{W W'}(h:Le W W'){l}{m:List Value}(r:VRs W l m):VRs W' l m:=by
 cases r with
 |nil=>exact .nil
 |cons v u l m c a=>exact .cons v u l m (VR.mono h c) (VRs.mono h a)
end
theorem VRs.length{W} : ∀ {l:List V} {m:List Value},VRs W l m->l.length=m.length
 |_,_, .nil=>rfl
 |_,_, .cons _ _ _ _ _ a=>by simp[a.length]
theorem VRs.append{W} : ∀ {l:List V} {m:List Value} {a:List V} {c:List Value},VRs W l m->VRs W a c->VRs W (l++a) (m++c)
 |_,_,_,_, .nil,h=>h
 |_,_,_,_, .cons v u l m e d,h=> .cons v u _ _ e (d.append h)
theorem VRs.get{W} : ∀ {l:List V} {m:List Value},VRs W l m-> ∀ {j:Nat} {v:V},l[j]? =some v-> ∃u,m[j]? =some u/\VR W v u
 |_,_, .nil,j,v,h=>by simp at h
 |_,_, .cons v u l m c a,0,v',h=>by simp at h;subst h;exact⟨u,rfl,c⟩
 |_,_, .cons v u l m c a,j+1,v',h=>by
  simp at h;obtain⟨d,e,f⟩:=a.get h;exact⟨d,by simpa using e,f⟩
theorem VRs.drop{W} : ∀ {l:List V} {m:List Value},VRs W l m-> ∀(n:Nat),VRs W (l.drop n) (m.drop n)
 |_,_, .nil,n=>by simp;exact .nil
 |_,_,h@(.cons _ _ _ _ _ _),0=>by simpa using h
 |_,_, .cons _ _ _ _ _ a,n+1=>by simpa using a.drop n
theorem VRs.take{W} : ∀ {l:List V} {m:List Value},VRs W l m-> ∀(n:Nat),VRs W (l.take n) (m.take n)
 |_,_, .nil,n=>by simp;exact .nil
 |_,_, .cons _ _ _ _ _ _,0=>by simp;exact .nil
 |_,_, .cons v u _ _ c a,n+1=>by simpa using .cons v u _ _ c (a.take n)
theorem VRs.of_get{W} : ∀ {l:List V} {m:List Value},l.length=m.length->(∀(j:Nat) (v:V) (u:Value),l[j]? =some v->m[j]? =some u->VR W v u)->VRs W l m
 | [],[],_,_=> .nil
 |v::l,u::m,a,h=> .cons v u l m (h 0 v u rfl rfl) (VRs.of_get (by simpa using a) λj d c e f=>h (j+1) d c (by simpa using e) (by simpa using f))
 | [],_::_,a,_=>by simp at a
 |_::_,[],a,_=>by simp at a
theorem VR.ofC(W)(c:Value):VR W (ofC c) c:=by
  unfold Go.Y.ofC;split<;>first
    |exact .undef _
    |exact .b _
    |exact .i _ _
    |(rename_i s;have h:=VR.s (W:=W) s.data.toList;have e:(⟨s.data.toList.toArray⟩:ByteArray)=s:=sm
      rw[e]at h;exact h)
    |exact .pn
    |exact .sln _ _
    |exact .mpn
    |exact .nilfn
    |exact .nilifc
def ORel(W:Vw)(w:World)(a:Nat):YObj->Prop
 | .arr g wr=> ∃(c:Array Value) (e:TypeId) (fr:Nat×Nat),w.heap[(W.mu a).1]? =some (.cells c e fr)/\c.size=W.sz a/\(W.mu a).2+g.length<=c.size/\
   (∀j v,g[j]? =some v-> ∃u,c[(W.mu a).2+j]? =some u/\VR W v u)/\
   (∀j,(if wr then(W.mu a).2 else(W.mu a).2+g.length)<=j->j<c.size-> ¬(fr.1<=j/\j<fr.2))
 | .map k=> ∃(m:Array MapEntry) (d:Nat),w.heap[(W.mu a).1]? =some (.map m d)/\VRs W (k.map (·.1)) (m.toList.map (·.key))/\VRs W (k.map (·.2)) (m.toList.map (·.val))
 | .siter l f=>w.heap[(W.mu a).1]? =some (.stringIter ⟨l.toArray⟩ f)
 | .loop L=> ∃(fn:FuncId) (h:List Value) (n:Nat),w.heap[(W.mu a).1]? =some (.loop {state:=L.st,pending:=L.pend,fn,tmps:=h.toArray,params:=L.ps,assign:=L.assign,body:=L.body,defers:=n})/\VRs W L.env h
def TagR(W:Vw)(w:World)(p:Nat×TypeId):Prop:=
 W.lv p.1->(W.mu p.1).2=0/\ ∃(c:Array Value) (fr:Nat×Nat),w.heap[(W.mu p.1).1]? =some (.cells c p.2 fr)/\fr.1<=fr.2/\fr.2<=c.size
def Tabbed(W:Vw):Prop:= ∀p,p∈tabs-> ∃(c:Array Value) (e:TypeId) (fr:Nat×Nat),W.snap p.1=some (.cells c e fr)/\VRs W.dead p.2 c.toList
theorem Tabbed.mono{W W':Vw}(h:Tabbed W)(a: ∀b o,W.snap b=some o->W'.snap b=some o):Tabbed W':=
 λp hp=>let ⟨c,e,fr,h1,h2⟩:=h p hp
  ⟨c,e,fr,a _ _ h1,h2.mono (W:=W.dead) (W':=W'.dead) ⟨λ_ h=>h,λ_ h=>h.elim,λ_ h=>h.elim,a,λ_ _ h=>h.elim⟩⟩
structure HRel(W:Vw)(h:Heap)(w:World):Prop where
 kn: ∀id,W.kn id->(h.raw id).isSome
 lk: ∀id,W.lv id->W.kn id
 lv: ∀id,W.lv id↔(h.get id).isSome
 lt: ∀id,(h.raw id).isSome->id<h.nx
 snap: ∀b o,W.snap b=some o->w.heap[b]? =some o
 obj: ∀id o,h.get id=some o->ORel W w id o
 inj: ∀id id',W.lv id->W.lv id'->(W.mu id).1=(W.mu id').1->id=id'
 apart: ∀id,W.lv id->W.snap (W.mu id).1=none
 tg: ∀p,p∈h.tg->W.kn p.1∧TagR W w p
 gl:Tabbed W
def Vw.own(W:Vw)(b:Nat):Prop:= ∃a,W.lv a/\(W.mu a).1=b
structure Str(w w':World):Prop where
 os:w'.os=w.os
 tape:w'.tape=w.tape
 output:w'.output=w.output
theorem Str.refl(w):Str w w:=⟨rfl,rfl,rfl⟩
theorem Str.trans{a b c}(h:Str a b)(g:Str b c):Str a c:=⟨g.os.trans h.os,g.tape.trans h.tape,g.output.trans h.output⟩
structure Stp(W:Vw)(own:Nat->Prop)(w:World)(W':Vw)(own':Nat->Prop)(w':World):Prop where
 le:Le W W'
 size:w.heap.size<=w'.heap.size
 keep: ∀b,b<w.heap.size-> ¬own b->w'.heap[b]? =w.heap[b]?
 owns: ∀b,own' b->own b∨w.heap.size<=b
 new: ∀b,W'.snap b≠none->W.snap b≠none∨own b∨w.heap.size<=b
 str:Str w w'
theorem Stp.refl(W)(own:Nat->Prop)(w):Stp W own w W own w:=
 ⟨.refl W,Nat.le_refl _,λ_ _ _=>rfl,λ_ h=> .inl h,λ_ h=> .inl h, .refl w⟩
theorem Stp.trans{W0 l j}{o0 f k:Nat->Prop}{w0 w1 m}(h:Stp W0 o0 w0 l f w1)(g:Stp l f w1 j k m):Stp W0 o0 w0 j k m where
 le:=h.le.trans g.le
 size:=uu h.size g.size
 keep b hb hn:=by
  rw[g.keep b (Nat.lt_of_lt_of_le hb h.size) (λc=>(h.owns b c).elim hn (λd=>absurd hb (Nat.not_lt.2 d)))];exact h.keep b hb hn
 owns b c:=by
  rcases g.owns b c with a|a
  .exact h.owns b a
  .exact .inr (uu h.size a)
 str:=h.str.trans g.str
 new b hb:=by
  rcases g.new b hb with a|a|a
  .exact h.new b a
  .rcases h.owns b a with e|e
   .exact .inr (.inl e)
   .exact .inr (.inr e)
  .exact .inr (.inr (uu h.size a))
def Same(w a:World):Prop:= ∀(b:Nat) (o:Obj),w.heap[b]? =some o->a.heap[b]? =some o
theorem Same.refl(w):Same w w:=λ_ _ h=>h
theorem Same.size{a b:World}(h:Same a b):a.heap.size<=b.heap.size:=by
 by_cases hz:a.heap.size=0
 .omega
 .have c:a.heap.size-1<a.heap.size:=om;have d:=h (a.heap.size-1) a.heap[a.heap.size-1] (by simp[c]);have:=(Array.getElem?_eq_some_iff.1 d).1;omega
theorem ORel.same{W}{w g}(h:Same w g){f:Nat}{o:YObj}(r:ORel W w f o):ORel W g f o:=by
 cases o with
 |arr u wr=>obtain⟨c,e,fr,a,d⟩:=r;exact⟨c,e,fr,h _ _ a,d⟩
 |map v=>obtain⟨m,k,a,d⟩:=r;exact⟨m,k,h _ _ a,d⟩
 |siter l n=>exact h _ _ r
 |loop L=>obtain⟨fn,j,t,a,d⟩:=r;exact⟨fn,j,t,h _ _ a,d⟩
theorem TagR.same{W}{w a}(h:Same w a){p:Nat×TypeId}(r:TagR W w p):TagR W a p:=λg=>by
 obtain⟨f,c,fr,d,e⟩:=r g;exact⟨f,c,fr,h _ _ d,e⟩
theorem TagR.mono{W W':Vw}(a:Le W W'){w}{p:Nat×TypeId}(d:W.kn p.1)(r:TagR W w p):TagR W' w p:=λh=>by
 obtain⟨f,c,fr,e,g⟩:=r (a.lv p.1 d h);rw[<-a.mu p.1 d]at f e;exact⟨f,c,fr,e,g⟩
theorem Zj5: ∀ {l:List (Nat×List V)} {g:Nat} {a:List V},Zrg l g=some a->(g,a)∈l
 | [],_,_,h=>by cases h
 |p::r,g,a,h=>by
  unfold Zrg at h;split at h
  .rename_i e;cases h;subst e;exact .head _
  .exact .tail _ (Zj5 h)
theorem HRel.tab{W}{h}{w}(r:HRel W h w){g:Nat}{a}(f:Zrg tabs g=some a):VR W (.tp a) (.pointer (some ⟨g,0,none⟩)):=
 let ⟨c,e,fr,h1,h2⟩:=r.gl _ (Zj5 f)
 .tp a g 0 c e fr c.toList h1 (λj u d=>by simpa using d) h2
theorem HRel.same{W}{h}{w a}(r:HRel W h w)(s:Same w a):HRel W h a:=
 ⟨r.kn,r.lk,r.lv,r.lt,λb o c=>s b o (r.snap b o c),λe o d=>(r.obj e o d).same s,r.inj,r.apart,λp hp=>⟨(r.tg p hp).1,((r.tg p hp).2).same s⟩,r.gl⟩
theorem ORel.mono{W W':Vw}(a:Le W W'){w}{f:Nat}{o:YObj}(d:W.kn f)(r:ORel W w f o):ORel W' w f o:=by
 cases o with
 |arr E wr=>
  obtain⟨c,e,fr,h,g,n,t,D⟩:=r;refine⟨c,e,fr,?_,?_,?_,?_,?_⟩
  .rw[a.mu f d];exact h
  .rw[a.sz f d];exact g
  .rw[a.mu f d];exact n
  .intro j v A;rw[a.mu f d];obtain⟨u,B,y⟩:=t j v A;exact⟨u,B,y.mono a⟩
  .intro j;rw[a.mu f d];exact D j
 |map F=>
  obtain⟨m,k,h,g,n⟩:=r;exact⟨m,k,by rw[a.mu f d];exact h,g.mono a,n.mono a⟩
 |siter l z=>unfold ORel at*;rw[a.mu f d];exact r
 |loop L=>obtain⟨fn,x,C,h,g⟩:=r;exact⟨fn,x,C,by rw[a.mu f d];exact h,g.mono a⟩
theorem XA{a:Type} : ∀(l:List a) (n:Nat) (new:List a),n+new.length<=l.length->(splice l n new).length=l.length
 |l,0,new,h=>by simp[splice];simp at h;omega
 | [],n+1,new,h=>by simp at h
 |v::l,n+1,new,h=>by simp[splice];exact XA l n new (by simp at h;omega)
theorem Xt{d:Type} : ∀(l:List d) (n:Nat) (new:List d) (j:Nat),n+new.length<=l.length->
  (splice l n new)[j]? =if n<=j/\j<n+new.length then new[j-n]? else l[j]?
 |l,0,new,j,h=>by
  simp only[splice,Nat.zero_le,true_and,uJ,Nat.sub_zero];split
  .rename_i c;rw[vC c]
  .rename_i c;rw[vB om,uz];congr 1;omega
 | [],n+1,new,j,h=>by simp at h
 |v::l,n+1,new,0,h=>by simp[splice]
 |v::l,n+1,new,j+1,h=>by
  simp only[splice,List.getElem?_cons_succ];rw[Xt l n new j (by simp at h;omega)];have e:(n<=j/\j<n+new.length)↔(n+1<=j+1/\j+1<n+1+new.length):=om;by_cases a:n<=j/\j<n+new.length
  .rw[uF a,uF (e.1 a)];congr 1;omega
  .rw[uE a,uE (λx=>a (e.2 x))]
theorem VRs.splice{W}{l:List V}{m:List Value}(h:VRs W l m){new:List V}{c:List Value}(o:VRs W new c)(n:Nat)(k:n+new.length<=l.length):
  VRs W (splice l n new) (splice m n c):=by
 have t:=h.length;have f:=o.length;refine VRs.of_get (by rw[XA _ _ _ k,XA _ _ _ om,t]) λj v u e a=> ?_;rw[Xt _ _ _ _ k]at e;rw[Xt _ _ _ _ om]at a;rw[<-f]at a;by_cases g:n<=j/\j<n+new.length
 .rw[uF g]at e a;obtain⟨r,d,hr⟩:=o.get e;rw[d]at a;simp at a;subst a;exact hr
 .rw[uE g]at e a;obtain⟨r,d,hr⟩:=h.get e;rw[d]at a;simp at a;subst a;exact hr
def _root_.Go.World.putB(w:World)(b:Nat)(o:Obj):World:= {w with heap:=w.heap.setIfInBounds b o}
@[simp] theorem Zeq (w : World) (b : Nat) (o : Obj) : (w.putB b o).heap.size = w.heap.size := by simp [World.putB]
theorem Jm(w:World)(b:Nat)(o:Obj)(h:b<w.heap.size):(w.putB b o).heap[b]? =some o:=by simp[World.putB,h]
theorem Zco(w:World)(b c:Nat)(o:Obj)(h:b≠c):(w.putB b o).heap[c]? =w.heap[c]? :=by
 simp[World.putB,Array.getElem?_setIfInBounds_ne h]
theorem Zt{w:World}{b:Nat}{o:Obj}(h:w.heap[b]? =some o):b<w.heap.size:=(Array.getElem?_eq_some_iff.1 h).1
@[simp] theorem Zrh (w : World) (o : Obj) : (w.alloc o).heap.size = w.heap.size + 1 := World.size_alloc ..
theorem JJ(w:World)(o:Obj):(w.alloc o).heap[w.heap.size]? =some o:=by
 show(w.heap.push o)[w.heap.size]? =some o;simp
theorem Jn(w:World)(o:Obj)(b:Nat)(h:b≠w.heap.size):(w.alloc o).heap[b]? =w.heap[b]? :=by
 show(w.heap.push o)[b]? =w.heap[b]?;rw[Array.getElem?_push];split
 .rename_i a;exact absurd a h
 .rfl
theorem Zcp(w:World)(o:Obj):Same w (w.alloc o):=λb a h=>by rw[Jn _ _ _ (by have:=Zt h;omega)];exact h
theorem Wb(b o n:Nat):(⟨b,o,none⟩:Addr).add n=⟨b,o+n,none⟩:=by
 unfold Addr.add;split
 .rename_i h;simp[h]
 .rfl
theorem Zim{w:World}{b:Nat}{c:Array Value}{e:TypeId}{fr:Nat×Nat}(h:w.heap[b]? =some (.cells c e fr))(j:Nat):w.cell? ⟨b,j,none⟩=c[j]? :=by
 simp[World.cell?,h]
theorem Zj6{w:World}{b:Nat}{c:Array Value}{e:TypeId}{fr:Nat×Nat}(h:w.heap[b]? =some (.cells c e fr))(j:Nat):w.frozen? ⟨b,j,none⟩=(decide (fr.1<=j)&&decide (j<fr.2)):=by
 obtain⟨a,d⟩:=fr;simp[World.frozen?,h]
def CellsW(w:World)(a:Addr)(c:List Value):Prop:= ∀j u,c[j]? =some u->w.cell? (a.add j)=some u
theorem CellsW.same{w g}(s:Same w g){a:Addr}{f:List Value}(h:CellsW w a f):CellsW g a f:=by
 intro j u k;have d:=h j u k;unfold World.cell? at*;split at d
 .rename_i c e fr l;rw[s _ _ l];exact d
 .cases d
theorem CellsW.of_block{w:World}{b o:Nat}{c:Array Value}{e:TypeId}{fr:Nat×Nat}(h:w.heap[b]? =some (.cells c e fr)){a:List Value}
  (f: ∀j u,a[j]? =some u->c[o+j]? =some u):CellsW w ⟨b,o,none⟩ a:=by
 intro j u d;rw[Wb,Zim h];exact f j u d
section
variable {P:Program}
theorem Zg{t:TypeId}{d:TypeDesc}(h:P.underlying t=some d)(w:World):(underlying t).run P w= .ok d w:=by simp[underlying,h]
theorem ZV{t:TypeId}{i:TypeInfo}(h:P.info? t=some i)(w:World):(sizeOf t).run P w= .ok i.size w:=by simp[sizeOf,typeInfo,h]
theorem Qq{t:TypeId}{i:TypeInfo}{z:Value}(h:P.info? t=some i)(hz:i.zero=some z)(w:World):(zeroValue t).run P w= .ok z w:=by simp[zeroValue,typeInfo,h,hz]
def aggD:TypeDesc->Bool
 | .struct _| .array _ _=>true
 |_=>false
theorem Zj7{t:TypeId}{d:TypeDesc}(h:P.underlying t=some d)(w:World):(isAgg t).run P w= .ok (aggD d) w:=by
 simp only[isAgg,uC,Zg h,uA];cases d<;>rfl
theorem Zj8{t:TypeId}{d:TypeDesc}{i:TypeInfo}(j:P.underlying t=some d)(l:P.info? t=some i)(w:World)(a:Addr)(c:List Value)
  (k:c.length=i.size) (f:CellsW w a c) (u:Value) (e:if aggD d then u= .agg c.toArray else c= [u]):(loadVar t a).run P w= .ok u w:=by
 simp only[loadVar,uC,Zj7 j,uA];cases h:aggD d
 .simp only[h,uI,vF]at e ⊢;have g:=f 0 u (by simp[e]);simp[Addr.add]at g;simp[g]
 .simp only[h,vG]at e ⊢;simp only[uC,ZV l,uA,<-k,run_loadCells_list w a c f,uD];rw[e]
theorem Qr(b o:Nat)(e:TypeId)(fr:Nat×Nat): ∀(c:List Value) (i:Nat) (a:Array Value) (w:World),w.heap[b]? =some (.cells a e fr)->
  o+i+c.length<=a.size->(∀j,o+i<=j->j<o+i+c.length-> ¬(fr.1<=j/\j<fr.2))->(∀v∈c,v.oneCell'=true)->
  (storeCells ⟨b,o,none⟩ c i).run P w= .ok () (w.putB b (.cells (splice a.toList (o+i) c).toArray e fr))
 | [],i,a,w,d,t,_,_=>by
  have C:splice a.toList (o+i) []=a.toList:=by
   apply vA;intro j;rw[Xt _ _ _ _ (by simpa using t)];split
   .rename_i h;simp at h;omega
   .rfl
  simp only[storeCells,uD,C]
  congr 1
  have:w.heap.setIfInBounds b (.cells a e fr)=w.heap:=by
   apply Array.ext';apply vA;intro j;have:= @Array.getElem?_setIfInBounds _ w.heap b j (.cells a e fr);simp only[Array.getElem?_toList];rw[this];split
   .rename_i h;subst h;split
    .exact d.symm
    .rename_i D;exact absurd (Zt d) D
   .rfl
  simp[World.putB,this]
 |v::c,i,a,w,d,t,y,A=>by
  simp only[List.length_cons]at t;have F:v.oneCell'=true:=A v sm;have m:o+i<a.size:=om;have f:w.cell? ⟨b,o+i,none⟩=some a[o+i]:=by rw[Zim d];simp[m]
  have n:w.frozen? ⟨b,o+i,none⟩=false:=by
   rw[Zj6 d];have:=y (o+i) om sm;simp only[Bool.and_eq_false_imp,vJ,decide_eq_false_iff_not];intro B z;exact this ⟨B,z⟩
  have E:w.setCell ⟨b,o+i,none⟩ v=w.putB b (.cells (a.setIfInBounds (o+i) v) e fr):=by
   unfold World.setCell World.putB
   congr 1
   apply Array.ext';apply vA;intro j;simp only[Array.getElem?_toList,Array.getElem?_modify,Array.getElem?_setIfInBounds];by_cases l:b=j
   .subst l;have r:=Array.getElem?_eq_some_iff.1 d;simp[Zt d,r.2]
   .simp[l]
  simp only[storeCells,uC,Wb,run_store P w _ v _ F,f,n,uI,vF,uA,E];have G:=Qr b o e fr c (i+1) (a.setIfInBounds (o+i) v) (w.putB b (.cells (a.setIfInBounds (o+i) v) e fr)) (Jm _ _ _ (Zt d))
   (by simp;omega) (λj B z=>y j om (by simp;omega)) (λx r=>A x (by simp[r]))
  rw[G]
  congr 1
  unfold World.putB;simp only[Array.setIfInBounds_setIfInBounds]
  congr 4
  apply vA;intro j;rw[Xt _ _ _ _ (by simp;omega),Xt _ _ _ _ (by simp;omega)];simp only[List.length_cons,Array.getElem?_toList,Array.getElem?_setIfInBounds];by_cases l:j=o+i
  .subst l;have K: ¬(o+(i+1)<=o+i/\o+i<o+(i+1)+c.length):=om;have g:o+i<=o+i/\o+i<o+i+(c.length+1):=om;rw[uE K,uF g];simp[m]
  .by_cases u:o+(i+1)<=j/\j<o+(i+1)+c.length
   .have g:o+i<=j/\j<o+i+(c.length+1):=om;rw[uF u,uF g];obtain⟨k,H⟩: ∃k,j=o+i+(k+1):=⟨j-(o+i+1),om⟩;subst H;rw[show o+i+(k+1)-(o+(i+1))=k from om,show o+i+(k+1)-(o+i)=k+1 from om];simp
   .have g: ¬(o+i<=j/\j<o+i+(c.length+1)):=om;rw[uE u,uE g];have: ¬(o+i=j):=λh=>l h.symm;rw[uE this]
end
def ZHp(W:Vw)(w:World)(a:List V)(u:Value):Prop:=
 ∃(b:Nat) (c:Array Value) (e:TypeId),u= .pointer (some ⟨b,0,none⟩)/\w.heap[b]? =some (.cells c e (0,0))/\VRs W a c.toList/\W.snap b=none/\ ¬W.own b
def SRel(W:Vw)(w:World)(v:V)(u:Value):Prop:=
 match v with
 | .lb a=>ZHp W w a u
 | .rf=>True
 |v=>VR W v u
def QJ(d:St)(a:Act)(t b:Nat):Prop:=(∃c,d.env[t]? =some (.lb c))/\a.tmps[t]? =some (.pointer (some ⟨b,0,none⟩))
def mkD(r:Nat):Deferred:= {target:= .collected r,args:= #[]}
structure Marks(W:Vw)(a:Act)(w:World):Prop where
 nd:a.defers.Nodup
 at_: ∀d∈a.defers,∃r,d=mkD r∧w.heap[r]? =some (.deferred (some []))∧W.snap r=none∧ ¬W.own r
theorem Marks.same{W}{a:Act}{w c}(s:Same w c)(h:Marks W a w):Marks W a c:=
 ⟨h.nd,λd e=>let ⟨r,h1,h2,h3,h4⟩:=h.at_ d e;⟨r,h1,s _ _ h2,h3,h4⟩⟩
theorem Marks.act{W}{a c:Act}{w}(h:Marks W a w)(e:c.defers=a.defers):Marks W c w:=⟨by rw[e];exact h.nd,by rw[e];exact h.at_⟩
theorem Marks.none{W}{a:Act}{w}(e:a.defers= []):Marks W a w:=⟨by rw[e];exact .nil,by rw[e];intro d c;cases c⟩
theorem Marks.turn{W c:Vw}{a:Act}{w e:World}(h:Marks W a w)(g: ∀r,w.heap[r]? =some (.deferred (some []))->W.snap r=Option.none-> ¬W.own r->e.heap[r]? =w.heap[r]? /\c.snap r=Option.none/\ ¬c.own r):Marks c a e:=
 ⟨h.nd,λd f=>let ⟨r,h1,h2,h3,h4⟩:=h.at_ d f;let ⟨k1,k2,k3⟩:=g r h2 h3 h4;⟨r,h1,by rw[k1];exact h2,k2,k3⟩⟩
structure Rel(W:Vw)(σ:St)(a:Act)(w:World):Prop where
 heap:HRel W σ.h w
 size:a.tmps.size=σ.env.length
 env: ∀(t:Nat) (v:V),σ.env[t]? =some v-> ∃u,a.tmps[t]? =some u∧SRel W w v u
 box: ∀t t' b,QJ σ a t b->QJ σ a t' b->t=t'
 refs: ∀(d s o:Nat),(d,s,o)∈σ.refs->σ.env[d]? =some .rf-> ∀b,QJ σ a s b->a.tmps[d]? =some (.pointer (some ⟨b,o,none⟩))
 defers:Marks W a w
def mine(W:Vw)(c:St)(a:Act)(b:Nat):Prop:=W.own b\/(∃t,QJ c a t b)\/mkD b∈a.defers
theorem SRel.same{W}{w a}(s:Same w a){v}{u:Value}(h:SRel W w v u):SRel W a v u:=by
 cases v<;>first
  |exact h
  |(obtain⟨b,c,e,d,g,f⟩:=h;exact⟨b,c,e,d,s _ _ g,f⟩)
theorem Rel.same{W}{d}{a:Act}{w c}(s:Same w c)(h:Rel W d a w):Rel W d a c:=
 ⟨h.heap.same s,h.size,λt v e=>let ⟨u,h1,h2⟩:=h.env t v e;⟨u,h1,h2.same s⟩,h.box,h.refs,h.defers.same s⟩
theorem SRel.plain{W}{w}{v:V}{u:Value}(h:SRel W w v u):VR W v.plain u:=by
 cases v<;>first|exact .undef u|exact h
theorem Rel.ev{W}{d:St}{a:Act}{w}(h:Rel W d a w)(x:Operand):VR W (ev d.env x) (a.eval x):=by
 cases x with
 |tmp t=>
  simp only[Go.Y.ev,Act.eval]
  cases c:d.env[t]? with
  |none=>simp[List.getD,c,V.plain];exact .undef _
  |some v=>
   obtain⟨u,j,k⟩:=h.env t v c;simp[List.getD,c,j];exact k.plain
 |const v=>exact VR.ofC W v
 |global g=>
  simp only[Go.Y.ev];split
  .rename_i l e;exact h.heap.tab e
  .exact .undef _
 |func f=>exact .fn (.func f) [] [] [] [] .nil .nil
def KdOK(Y:YP)(t:TypeId):Kd->TypeDesc->Prop
 | .bool,d=>d= .bool
 | .int k,d=>d= .int k
 | .str,d=>d= .string
 | .slice e,d=>d= .slice e
 | .arr n e,d=>d= .array n e/\Y.P.eqGuardType Y.P.depth t=false
 | .struct h,d=> ∃l:Array Field,d= .struct l/\h=l.toList.map (λf=>(f.offset,f.type))/\(∀f∈l,f.name≠"_")/\Y.P.stoodInHeld t=false/\Y.P.eqGuardType Y.P.depth t=false
 | .ptr e,d=>d= .pointer e
 | .map k e,d=>d= .map k e
 | .func,d=> ∃a b c,d= .func a b c
 | .iface,d=> ∃g,d= .interface g
 | .other,_=>False
structure TIOK(Y:YP)(t:TypeId)(ti:TI)(i:TypeInfo)(d:TypeDesc)(z:Value):Prop where
 info:Y.P.info? t=some i
 und:Y.P.underlying t=some d
 zero:i.zero=some z
 size:i.size=ti.size
 bytes:i.bytes=ti.bytes
 zr: ∀W,VRs W ti.zero z.cells.toList
 zl:ti.zero.length=ti.size
 zc:Zp ti.zero=true
 kd:KdOK Y t ti.kd d
 agg:aggD d=ti.kd.agg
 one:ti.kd.agg=false->ti.size=1
def extE:Nat->Array Value->Sem Value
 |1=>Extern.AbiNoEscape.same
 |_=>Extern.BytealgIndexByte.indexByte
def ZDf(Y:YP):Prop:= ∀p∈Y.ext,∃fn,Y.P.funcs[p.1]? =some fn/\fn.body.isNone=true/\Extern.findNext fn=none/\Extern.find fn=some (extE p.2)
structure YOK(Y:YP):Prop where
 ty: ∀t ti,Y.ty t=some ti-> ∃i d z,TIOK Y t ti i d z
 mixed:Y.P.follows .mixedOrders=true
 name: ∀(f:FuncId) (fn:Func),Y.P.funcs[f]? =some fn->(fn.name=="runtime.NumGoroutine")=false
 ext:ZDf Y
def AdR(W:Vw)(σ:St)(a:Act):Ad->Addr->Prop
 | .lb s o,x=> ∃b,QJ σ a s b/\x=⟨b,o,none⟩
 | .hp d o,x=>W.kn d/\(W.lv d->x=W.at d o)
 | .ro f,x=>f= []\/ ∃(blk off:Nat) (c:Array Value) (e:TypeId) (fr:Nat×Nat) (g:List Value),x=⟨blk,off,none⟩/\W.snap blk=some (.cells c e fr)/\
   (∀j u,g[j]? =some u->c[off+j]? =some u)/\VRs W.dead f g
theorem VD: ∀(n:Nat) (l r:List V),Zr n l=some r->r=l.take n/\r.length=n
 |0,l,r,h=>by simp[Zr]at h;subst h;simp
 |n+1,[],r,h=>by simp[Zr]at h
 |n+1,v::l,r,h=>by
  simp only[Zr,uG]at h;obtain⟨e,d,rfl⟩:=h;obtain⟨f,c⟩:=VD n l e d;exact⟨by simp[<-f],by simp[c]⟩
theorem Zer: ∀ {l:List (Nat×Nat×Nat)} {t s o:Nat},Ji l t=some (s,o)->(t,s,o)∈l
 |(d,f,e)::l,t,s,o,h=>by
  simp only[Ji]at h;split at h
  .rename_i c;simp at h;simp[c,h]
  .simp[Zer h]
section
variable {Y:YP} {W:Vw} {σ:St} {a:Act} {w:World}
theorem Rel.boxOf(h:Rel W σ a w){t:Nat}{d}(f:σ.env[t]? =some (.lb d)): ∃b,QJ σ a t b:=by
 obtain⟨u,j,k⟩:=h.env t _ f;obtain⟨b,c,e,g,_⟩:=k;exact⟨b,⟨d,f⟩,by rw[j,g]⟩
theorem Rel.boxCells(h:Rel W σ a w){t b:Nat}{f}(g:σ.env[t]? =some (.lb f))(n:QJ σ a t b):
  ∃(c:Array Value) (e:TypeId),w.heap[b]? =some (.cells c e (0,0))/\VRs W f c.toList/\W.snap b=none/\ ¬W.own b:=by
 obtain⟨u,m,o⟩:=h.env t _ g;obtain⟨r,c,e,l,k,j⟩:=o;have d:=n.2;rw[m,l]at d;simp at d;subst d;exact⟨c,e,k,j⟩
theorem Zcq(h:Rel W σ a w){x:Operand}{ad:Ad}(d:addr σ x=some ad): ∃y:Addr,a.eval x= .pointer (some y)/\AdR W σ a ad y:=by
 cases x with
 |tmp t=>
  simp only[addr]at d
  cases k:σ.env[t]? with
  |none=>simp[List.getD,k]at d
  |some v=>
   obtain⟨u,C,E⟩:=h.env t v k;have z:a.eval (.tmp t)=u:=by simp[Act.eval,C]
   simp only[List.getD,k,uq]at d;rw[z]
   cases v with
   |lb m=>
    simp at d;subst d;obtain⟨b,l⟩:=h.boxOf k;have:=l.2;rw[C]at this;simp at this;exact⟨⟨b,0,none⟩,this,b,l,rfl⟩
   |p o=>
    cases o with
    |none=>simp at d
    |some p=>
     obtain⟨i,o⟩:=p;simp at d;subst d
     cases E with
     |ps _ _ y D F=>exact⟨y,rfl,D,F⟩
   |tp m=>
    simp at d;subst d
    cases E with
    |tpn y=>exact⟨y,rfl, .inl rfl⟩
    |tp _ blk off c e fr n j r hr=>exact⟨_,rfl, .inr ⟨blk,off,c,e,fr,n,rfl,j,r,hr⟩⟩
   |rf=>
    cases A:Ji σ.refs t with
    |none=>simp[A]at d
    |some K=>
     obtain⟨s,o⟩:=K;simp only[A]at d;have L:=Zer A
     cases j:σ.env[s]? with
     |none=>simp[j]at d
     |some H=>
      cases H with
      |lb m=>
       simp[j]at d;subst d;obtain⟨b,l⟩:=h.boxOf j;have B:=h.refs t s o L k b l;rw[C]at B;simp at B;exact⟨⟨b,o,none⟩,B,b,l,rfl⟩
      |_=>simp[j]at d
   |_=>simp at d
 |const v=>simp[addr]at d
 |global g=>
  simp only[addr,uG]at d;obtain⟨m,G,z⟩:=d;subst z;have k:=h.heap.tab G;show∃y:Addr,Value.pointer (some ⟨g,0,none⟩)= .pointer (some y)/\AdR W σ a (.ro m) y
  cases k with
  |tpn=>exact⟨_,rfl, .inl rfl⟩
  |tp _ blk off c e fr n j r hr=>exact⟨_,rfl, .inr ⟨_,_,c,e,fr,n,rfl,j,r,hr⟩⟩
 |func f=>simp[addr]at d
theorem VE(h:Rel W σ a w){ad:Ad}{y:Addr}(F:AdR W σ a ad y){n:Nat}{l}(g:Xu σ n ad=some l):
  ∃B,VRs W l B/\B.length=n/\CellsW w y B:=by
 cases ad with
 |lb s o=>
  obtain⟨b,H,rfl⟩:=F;simp only[Xu]at g
  cases t:σ.env[s]? with
  |none=>simp[List.getD,t]at g
  |some N=>
   cases N with
   |lb C=>
    simp[List.getD,t]at g;obtain⟨m,r⟩:=VD _ _ _ g;obtain⟨c,e,x,hr,_⟩:=h.boxCells t H;have f:=(hr.drop o).take n;rw[<-m]at f;refine⟨_,f,by rw[<-f.length,r],CellsW.of_block x λj u d=> ?_⟩;rw[List.getElem?_take]at d;split at d
    .rw[uz]at d;simpa using d
    .cases d
   |_=>simp[List.getD,t]at g
 |hp z o=>
  obtain⟨O,K⟩:=F;simp only[Xu]at g
  cases A:σ.h.get z with
  |none=>simp[A]at g
  |some ob=>
   cases ob with
   |arr C wr=>
    simp only[A]at g;have D:W.lv z:=(h.heap.lv z).2 (by simp[A]);obtain⟨m,r⟩:=VD _ _ _ g;obtain⟨c,e,fr,x,X,Z,L,_⟩:=h.heap.obj z _ A;have E:VRs W C ((c.toList.drop (W.mu z).2).take C.length):=by
     refine VRs.of_get (by simp;omega) λj v u f k=> ?_;obtain⟨P,G,hr⟩:=L j v f;rw[List.getElem?_take]at k;split at k
     .rw[uz]at k;simp at k;rw[G]at k;simp at k;subst k;exact hr
     .cases k
    have f:=(E.drop o).take n;rw[<-m]at f;rw[K D];refine⟨_,f,by rw[<-f.length,r],CellsW.of_block x λj u d=> ?_⟩;rw[List.getElem?_take]at d;split at d
    .rw[uz,List.getElem?_take]at d;split at d
     .rw[uz]at d;simpa[uX]using d
     .cases d
    .cases d
   |_=>simp[A]at g
 |ro C=>
  simp only[Xu]at g;obtain⟨m,r⟩:=VD _ _ _ g;rcases F with rfl|⟨blk,off,c,e,fr,B,rfl,t,x,hr⟩
  .simp at m;subst m;simp at r;subst r;exact⟨[], .nil,rfl,λj u d=>by simp at d⟩
  .have f:=hr.take n;rw[<-m]at f;refine⟨_,f.mono (ZDe W),by rw[<-f.length,r],CellsW.of_block (h.heap.snap _ _ t) λj u d=> ?_⟩;rw[List.getElem?_take]at d;split at d
   .exact x j u d
   .cases d
theorem AdR.shift{ad:Ad}{y:Addr}(d:AdR W σ a ad y)(n:Nat):AdR W σ a (ad.shift n) (y.add n):=by
 cases ad with
 |lb s o=>
  obtain⟨b,m,rfl⟩:=d;exact⟨b,m,by rw[Wb]⟩
 |hp v o=>
  obtain⟨f,r⟩:=d;exact⟨f,λt=>by rw[r t];unfold Vw.at;rw[Wb,uX]⟩
 |ro x=>
  rcases d with rfl|⟨blk,off,c,e,fr,k,rfl,h,l,hr⟩
  .exact .inl sm
  .refine .inr ⟨blk,off+n,c,e,fr,k.drop n,by rw[Wb],h,λj u g=> ?_,hr.drop n⟩;rw[uz]at g;rw[uX];exact l _ _ g
theorem AdR.of_q{ad:Ad}{y:Addr}(d:AdR W σ a ad y):match ad.q with
  | .val v=>VR W v (.pointer (some y))
  | .ref s o=> ∃b,QJ σ a s b/\Value.pointer (some y)= .pointer (some ⟨b,o,none⟩):=by
 cases ad with
 |lb s o=>obtain⟨b,l,rfl⟩:=d;exact⟨b,l,rfl⟩
 |hp j o=>exact .ps j o y d.1 d.2
 |ro k=>
  rcases d with rfl|⟨blk,off,c,e,fr,g,rfl,f,h,hr⟩
  .exact .tpn y
  .exact .tp k blk off c e fr g f h hr
theorem Zgz{e:Bool}{l:List V}{d:List Value}{v}(h:VRs W l d)(c:Jj e l=some v):
  ∃u,VR W v u/\(if e then u= .agg d.toArray else d= [u]):=by
 cases e
 .simp only[Jj,uI,vF]at c ⊢
  cases h with
  |nil=>simp at c
  |cons j u l m g f=>
   cases f with
   |nil=>simp at c;subst c;exact⟨u,g,rfl⟩
   |cons _ _ _ _ _ _=>simp at c
 .simp[Jj]at c;subst c;exact⟨_, .agg _ _ h,sm⟩
end
section
variable {Y:YP} {W:Vw} {σ:St} {a:Act} {w:World}
def QR(W:Vw)(σ:St)(a:Act):Q->Value->Prop
 | .val v,u=>VR W v u
 | .ref s o,u=> ∃b,QJ σ a s b/\u= .pointer (some ⟨b,o,none⟩)
theorem AdR.qr{ad:Ad}{y:Addr}(c:AdR W σ a ad y):QR W σ a ad.q (.pointer (some y)):=by
 have:=c.of_q;cases d:ad.q<;>rw[d]at this<;>exact this
theorem XG{Y:YP}{t:TypeId}{kd:Kd}(h:Y.kd t=some kd): ∃c,Y.ty t=some c/\c.kd=kd:=by
 simpa[YP.kd]using h
/-! ### whole numbers, strings -/
theorem Ztd{d:BinOp}{k:IntKind}{x y:Int}{v}(h:Zj3 d k x y=some v)(t:TypeId):
  ∃u,VR W v u/\ ∀w,(binOp d t (.int k x) (.int k y)).run Y.P w= .ok u w:=by
 cases d<;>simp only[Zj3]at h
 case quo=>
  split at h
  .cases h
  .rename_i c;simp at h;subst h;exact⟨_, .i _ _,λw=>by simp[binOp,Op.intDiv,c]⟩
 case rem=>
  split at h
  .cases h
  .rename_i c;simp at h;subst h;exact⟨_, .i _ _,λw=>by simp[binOp,Op.intDiv,c]⟩
 case eql=>simp at h;subst h;exact⟨_, .b _,λw=>by simp[binOp,Op.intCmp]⟩
 case neq=>simp at h;subst h;exact⟨_, .b _,λw=>by simp[binOp,Op.intCmp,bne]⟩
 case lss=>simp at h;subst h;exact⟨_, .b _,λw=>by simp[binOp,Op.intCmp,ltI]⟩
 case leq=>simp at h;subst h;exact⟨_, .b _,λw=>by simp[binOp,Op.intCmp,leI]⟩
 case gtr=>simp at h;subst h;exact⟨_, .b _,λw=>by simp[binOp,Op.intCmp,ltI]⟩
 case geq=>simp at h;subst h;exact⟨_, .b _,λw=>by simp[binOp,Op.intCmp,leI]⟩
 case and=>simp only[uB]at h;subst h;exact⟨_, .i _ _,λw=>by rw[binOp_and];rfl⟩
 case or=>simp only[uB]at h;subst h;exact⟨_, .i _ _,λw=>by rw[binOp_or];rfl⟩
 case xor=>simp only[uB]at h;subst h;exact⟨_, .i _ _,λw=>by rw[binOp_xor];rfl⟩
 case andNot=>simp only[uB]at h;subst h;exact⟨_, .i _ _,λw=>by rw[binOp_andNot];rfl⟩
 all_goals first
  |(simp at h;done)
  |(simp at h;subst h;exact⟨_, .i _ _,λw=>by simp[binOp,Op.intArith]⟩)
theorem Zte{c:BinOp}{x y:List UInt8}{v}(h:Zo9 c x y=some v)(t:TypeId):
  ∃u,VR W v u/\ ∀w,(binOp c t (.string ⟨x.toArray⟩) (.string ⟨y.toArray⟩)).run Y.P w= .ok u w:=by
 have f:(⟨x.toArray⟩:ByteArray).toList=x:=by rw[ByteArray.toList_eq]
 have e:(⟨y.toArray⟩:ByteArray).toList=y:=by rw[ByteArray.toList_eq]
 cases c<;>simp only[Zo9]at h
 case add=>
  split at h
  .rename_i k;simp at h;subst h;refine⟨_, .s _,λw=> ?_⟩;have d: ¬(9223372036854775807<(((⟨x.toArray⟩:ByteArray).size:Int)+((⟨y.toArray⟩:ByteArray).size:Int))):=by
    have j:(⟨x.toArray⟩:ByteArray).size=x.length:=rfl;have g:(⟨y.toArray⟩:ByteArray).size=y.length:=rfl;rw[j,g];omega
   simp[binOp,Op.stringOp,d];apply ByteArray.ext;simp
  .cases h
 all_goals first
  |(simp at h;done)
  |(simp at h;subst h;exact⟨_, .b _,λw=>by simp[binOp,Op.stringOp,f,e]⟩)
/-! ### '==' by type -/
theorem Va{m}{t:TypeId}{i:TypeInfo}{d:TypeDesc}{z:Value}(k:TIOK Y t m i d z){v l:List V}{h:List Value}(hr:VRs W v h){off:Nat}
  (B:Zr m.size (v.drop off)=some l): ∃f u,VRs W l f/\(∀w,(part t h.toArray off).run Y.P w= .ok u w)/\(if m.kd.agg then u= .agg f.toArray else f= [u]):=by
 obtain⟨A,x⟩:=VD _ _ _ B;have g:=(hr.drop off).take m.size;rw[<-A]at g;have c:=g.length;rw[x]at c;simp only[part,uC,Zj7 k.und,uA,k.agg];cases o:m.kd.agg
 .have n:=k.one o;rw[n]at c g;simp only[uI,vF];obtain⟨u,r⟩: ∃u,h[off]? =some u:=by
   cases y:h[off]? with
   |some u=>exact⟨u,rfl⟩
   |none=>
    rw[List.getElem?_eq_none_iff]at y;simp at c;omega
  have e:(h.drop off).take 1= [u]:=by
   apply vA;intro j;rw[List.getElem?_take,uz]
   cases j with
   |zero=>simp[r]
   |succ j=>simp
  rw[e]at g;exact⟨[u],u,g,λw=>by simp[r],rfl⟩
 .simp only[vG,uC,ZV k.info,uA,uD,k.size];exact⟨_,_,g,λw=>rfl,sm⟩
theorem Zg0{g:TI}{t:TypeId}{i:TypeInfo}{d:TypeDesc}{z:Value}(k:TIOK Y t g i d z){x y:V}{r:Bool}(h:Wx g.kd x y=some r){u v:Value}
  (j:VR W x u) (f:VR W y v) (n:Nat) (w:World):(Op.equalIn (n+1) t u v).run Y.P w= .ok r w:=by
 have e:=k.und;have c:=k.kd;generalize g.kd=kd at h c;cases kd<;>cases x<;>cases y<;>simp only[Wx]at h<;>first|(cases h;done)|skip
 .cases j;cases f;cases c;simp at h;rw[run_equalIn_bool' w n t _ _ e,<-h]
 .cases j;cases f;cases c;split at h
  .rename_i l;subst l;simp at h;rw[run_equalIn_int w n t _ _ _ _ e,<-h]
  .cases h
 .cases j;cases f;cases c;simp at h;rw[run_equalIn_string w n t _ _ e,ByteArray.toList_eq,ByteArray.toList_eq,<-h]
def Wy(d:Nat)(e:TypeId)(n:Nat)(f c:Array Value):List Nat->Sem Bool
 | []=>pure true
 |i::l=>do
  let a<-part e f (i*n)
  let b<-part e c (i*n)
  let r<-Op.equalIn d e a b
  if(!r)=true then pure false else Wy d e n f c l
theorem Wc(d:Nat)(t e:TypeId)(len:Nat){i:TypeInfo}(f c:Array Value)(j:Y.P.underlying t=some (.array len e))(u:Y.P.info? e=some i)(w:World):
  (Op.equalIn (d+1) t (.agg f) (.agg c)).run Y.P w=(Wy d e i.size f c (List.range len)).run Y.P w:=by
 simp only[Op.equalIn,uC,Zg j,uA,ZV u,Std.Legacy.Range.forIn_eq_forIn_range',Std.Legacy.Range.size,Nat.sub_zero,Nat.add_sub_cancel,Nat.div_one,List.range_eq_range'];generalize List.range' 0 len=l
 induction l generalizing w with
 |nil=>simp[Wy]
 |cons k l m=>
  simp only[List.forIn_cons,Wy,uC,Sem.run_ite];generalize (part e f (k*i.size)).run Y.P w=r1
  cases r1 with
  |ok a w1=>
   simp only[uA];generalize (part e c (k*i.size)).run Y.P w1=o
   cases o with
   |ok b g=>
    simp only[uA];generalize (Op.equalIn d e a b).run Y.P g=n
    cases n with
    |ok r h=>
     cases r
     .simp only[uA,Bool.not_false,vG,uD]
     .simp only[uA,Bool.not_true,uI,vF,uD];exact m h
    |halt x h=>simp[Result.andThen]
   |halt x g=>simp[Result.andThen]
  |halt x w1=>simp[Result.andThen]
theorem Zm3(K:YOK Y): ∀(n:Nat) (t:TypeId) (xs Z:List V) (r:Bool),eqTy Y n t xs Z=some r-> ∀(O X:List Value),VRs W xs O->VRs W Z X->
  ∀D,Y.ty t=some D-> ∀(u v:Value),(if D.kd.agg then u= .agg O.toArray else O= [u])->(if D.kd.agg then v= .agg X.toArray else X= [v])->
  ∀(d:Nat) (w:World),n<=d->(Op.equalIn d t u v).run Y.P w= .ok r w
 |0,_,_,_,_,h=>by simp[eqTy]at h
 |n+1,t,xs,Z,r,h=>by
  intro O X hx hy D H u v E C d w hd;obtain⟨i,de,z,B⟩:=K.ty t D H;obtain⟨d,rfl⟩: ∃d',d=d'+1:=⟨d-1,om⟩;simp only[eqTy,YP.kd,H,uw]at h;split at h
  .rename_i fs c;simp only[uB]at c;have m:=B.kd;rw[c]at m;obtain⟨l,rfl,a4,N,a2,_⟩:=m;simp only[c,Kd.agg,vG]at E C;subst E C;have A:Y.P.fieldsOf t=l:=by simp[Program.fieldsOf,B.und]
   rw[run_equalIn_struct w d t _ _ (by rw[A];exact B.und) a2,A];clear A c;have j: ∀f∈l.toList,f.name≠"_":=λf hf=>N f (by simpa using hf);subst a4;generalize l.toList=fl at h j;clear N B
   induction fl generalizing r with
   |nil=>simp at h;subst h;simp[Op.eqFields]
   |cons f fl ih=>
    simp only[List.map_cons,List.foldr_cons]at h;split at h
    .rename_i tf F;split at h
     .rename_i a b ha hb;split at h
      .rename_i p q hp hq;simp at h;obtain⟨fi,fd,fz,L⟩:=K.ty _ tf F;obtain⟨ua,u',h1,h2,h3⟩:=Va L hx ha;obtain⟨ub,v',h4,h5,h6⟩:=Va L hy hb;have he:=Zm3 K n f.type a b p hp _ _ h1 h4 tf F u' v' h3 h6 d w om;simp only[Op.eqFields];rw[uF (j f sm)];simp only[uC,h2,h5,he,uA,Sem.run_ite];cases p
       .simp at h;subst h;simp
       .simp at h;subst h;simpa using ih q hq (λg hg=>j g (by simp[hg]))
      .cases h
     .cases h
    .cases h
  .rename_i len e c;simp only[uB]at c;have m:=B.kd;rw[c]at m;obtain⟨rfl,_⟩:=m;simp only[c,Kd.agg,vG]at E C;subst E C;split at h
   .rename_i te G;obtain⟨ei,ed,ez,o⟩:=K.ty e te G;rw[Wc d t e len _ _ B.und o.info w,o.size];generalize List.range len=il at h
    induction il generalizing r with
    |nil=>simp at h;subst h;simp[Wy]
    |cons k il ih=>
     simp only[List.foldr_cons]at h;split at h
     .rename_i a b ha hb;split at h
      .rename_i p q hp hq;simp at h;obtain⟨ua,u',h1,h2,h3⟩:=Va o hx ha;obtain⟨ub,v',h4,h5,h6⟩:=Va o hy hb;have he:=Zm3 K n e a b p hp _ _ h1 h4 te G u' v' h3 h6 d w om;simp only[Wy,uC,h2,h5,he,uA,Sem.run_ite];cases p
       .simp at h;subst h;simp
       .simp at h;subst h;simpa using ih q hq
      .cases h
     .cases h
   .cases h
  .rename_i kd a5 a0 c;simp only[uB]at c;split at h
   .rename_i x y;rw[<-c]at h;have a1:D.kd.agg=false:=by
     rw[c];cases kd<;>first|rfl|(exact absurd rfl (a5 _))|(exact absurd rfl (a0 _ _))
    simp only[a1,uI,vF]at E C;subst E C
    cases hx with
    |cons _ _ _ _ a6 _=>
     cases hy with
     |cons _ _ _ _ a3 _=>exact Zg0 B h a6 a3 d w
   .cases h
  .cases h
end
end Go.Y
