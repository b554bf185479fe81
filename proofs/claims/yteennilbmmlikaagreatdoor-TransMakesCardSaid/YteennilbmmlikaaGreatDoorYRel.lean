/- A part of the proof. -/
import Derived.Test.YteennilbmmlikaaGreatDoorYVal
import Derived.Laws.Cells
import Derived.Laws.World
import Derived.Laws.AppendOwn
import Derived.Laws.StructEq
namespace Go.Y
set_option maxRecDepth 1000000
set_option maxHeartbeats 0
structure Vw where
 mu:Nat->Nat×Nat
 sz:Nat->Nat
 snap:Nat->Option Obj
 lv:Nat->Prop
 kn:Nat->Prop

def Vw.at(W:Vw)(id off:Nat):Addr:=⟨(W.mu id).1,(W.mu id).2+off,none⟩

def Vw.dead(W:Vw):Vw:= {mu:=W.mu,sz:=W.sz,snap:=W.snap,lv:=fun _=>False,kn:=fun _=>False}

mutual
inductive VR:Vw->V->Value->Prop
 |undef {W:Vw} (u:Value):VR W .undef u
 |b {W:Vw} (x:Bool):VR W (.b x) (.bool x)
 |i {W:Vw} (k:IntKind) (n:Int):VR W (.i k n) (.int k n)
 |s {W:Vw} (l:List UInt8):VR W (.s l) (.string ⟨l.toArray⟩)
 |pn {W:Vw} :VR W (.p none) (.pointer none)
 |ps {W:Vw} (id off:Nat) (a:Addr) (hid:W.kn id) (ha:W.lv id->a=W.at id off):VR W (.p (some (id,off))) (.pointer (some a))
 |tpn {W:Vw} (a:Addr):VR W (.tp []) (.pointer (some a))
 |tp {W:Vw} (cs:List V) (blk off:Nat) (c:Array Value) (e:TypeId) (fr:Nat×Nat) (us:List Value) (hs:W.snap blk=some (.cells c e fr))
   (hc: ∀j u,us[j]? =some u->c[off+j]? =some u) (hr:VRs W.dead cs us):VR W (.tp cs) (.pointer (some ⟨blk,off,none⟩))
 |sln {W:Vw} (c:Option Nat) (k:Nat):VR W (.sl none 0 c k) (.slice none 0 0)
 |sls {W:Vw} (id off len:Nat) (cap:Option Nat) (k:Nat) (a:Addr) (cap':Nat) (hid:W.kn id) (hl:len<=cap') (hc: ∀c,cap=some c->cap'=c)
   (ha:W.lv id->0<cap'->a=W.at id off) (hn:W.lv id->cap=none->(W.mu id).2+off+cap'*k=W.sz id)
   (hk:W.lv id->(W.mu id).2+off+cap'*k<=W.sz id):VR W (.sl (some (id,off)) len cap k) (.slice (some a) len cap')
 |tsn {W:Vw} (len:Nat) (cap:Option Nat) (a:Addr) (cap':Nat) (hl:len<=cap') (hc: ∀c,cap=some c->cap'=c):VR W (.ts [] len cap) (.slice (some a) len cap')
 |tsz {W:Vw} (cap:Option Nat) (hc: ∀c,cap=some c->c=0):VR W (.ts [] 0 cap) (.slice none 0 0)
 |ts {W:Vw} (cs:List V) (len:Nat) (cap:Option Nat) (cap':Nat) (blk off:Nat) (c:Array Value) (e:TypeId) (fr:Nat×Nat) (us:List Value) (hl:len<=cap') (hcap: ∀c,cap=some c->cap'=c)
   (hs:W.snap blk=some (.cells c e fr)) (hc: ∀j u,us[j]? =some u->c[off+j]? =some u) (hr:VRs W.dead cs us):VR W (.ts cs len cap) (.slice (some ⟨blk,off,none⟩) len cap')
 |mpn {W:Vw} :VR W (.mp none) (.map none)
 |mps {W:Vw} (id r:Nat) (hid:W.kn id) (hr:W.lv id->r=(W.mu id).1):VR W (.mp (some id)) (.map (some r))
 |fn {W:Vw} (f:Fn) (a c:List V) (ua uc:List Value) (ha:VRs W a ua) (hc:VRs W c uc):VR W (.fn f a c) (.func f ua.toArray uc.toArray)
 |nilfn {W:Vw} :VR W .nilfn .nilFunc
 |ifc {W:Vw} (t:TypeId) (v:V) (u:Value) (h:VR W v u):VR W (.ifc t v) (.iface t u)
 |nilifc {W:Vw} :VR W .nilifc .nilIface
 |agg {W:Vw} (cs:List V) (us:List Value) (h:VRs W cs us):VR W (.agg cs) (.agg us.toArray)
 |tup {W:Vw} (cs:List V) (us:List Value) (h:VRs W cs us):VR W (.tup cs) (.tuple us.toArray)
 |yl {W:Vw} (id l:Nat) (hid:W.kn id) (hl:W.lv id->l=(W.mu id).1):VR W (.yl id) (.func (.yield l) #[] #[])
inductive VRs:Vw->List V->List Value->Prop
 |nil {W:Vw} :VRs W [] []
 |cons {W:Vw} (v:V) (u:Value) (l:List V) (m:List Value) (h:VR W v u) (hs:VRs W l m):VRs W (v::l) (u::m)
end

structure Le(W W':Vw):Prop where
 kn: ∀id,W.kn id->W'.kn id
 mu: ∀id,W.kn id->W'.mu id=W.mu id
 sz: ∀id,W.kn id->W'.sz id=W.sz id
 snap: ∀b o,W.snap b=some o->W'.snap b=some o
 lv: ∀id,W.kn id->W'.lv id->W.lv id

theorem Le.refl(W:Vw):Le W W:=⟨fun _ h=>h,fun _ _=>rfl,fun _ _=>rfl,fun _ _ h=>h,fun _ _ h=>h⟩

theorem Le.trans{A B C:Vw}(h:Le A B)(g:Le B C):Le A C:=
  ⟨fun id hi=>g.kn id (h.kn id hi),fun id hi=>(g.mu id (h.kn id hi)).trans (h.mu id hi),fun id hi=>(g.sz id (h.kn id hi)).trans (h.sz id hi),
   fun b o hb=>g.snap b o (h.snap b o hb),fun id hi hl=>h.lv id hi (g.lv id (h.kn id hi) hl)⟩

theorem Le.at{W W':Vw}(h:Le W W'){id:Nat}(hi:W.kn id)(off:Nat):W'.at id off=W.at id off:=by
 unfold Vw.at;rw[h.mu id hi]

theorem Le.dead{W W':Vw}(h:Le W W'):Le W.dead W'.dead:=
 ⟨fun _ h=>h,fun _ h=>h.elim,fun _ h=>h.elim,h.snap,fun _ h=>h.elim⟩

theorem Zxz(W:Vw):Le W.dead W:=
 ⟨fun _ h=>h.elim,fun _ h=>h.elim,fun _ h=>h.elim,fun _ _ h=>h,fun _ h=>h.elim⟩

mutual
theorem VR.mono{W W':Vw}(h:Le W W'){v:V}{u:Value}(r:VR W v u):VR W' v u:=by
 cases r with
 |undef u=>exact .undef u
 |b x=>exact .b x
 |i k n=>exact .i k n
 |s l=>exact .s l
 |pn=>exact .pn
 |ps id off a hid ha=>exact .ps id off a (h.kn id hid) (fun hl=>by rw[h.at hid];exact ha (h.lv id hid hl))
 |tpn a=>exact .tpn a
 |tp cs blk off c e fr us hs hc hr=>exact .tp cs blk off c e fr us (h.snap _ _ hs) hc (VRs.mono h.dead hr)
 |sln c k=>exact .sln c k
 |sls id off len cap k a cap' hid hl hc ha hn hk=>
  exact .sls id off len cap k a cap' (h.kn id hid) hl hc (fun hv hp=>by rw[h.at hid];exact ha (h.lv id hid hv) hp)
   (fun hv hcn=>by rw[h.mu id hid,h.sz id hid];exact hn (h.lv id hid hv) hcn) (fun hv=>by rw[h.mu id hid,h.sz id hid];exact hk (h.lv id hid hv))
 |tsn len cap a cap' hl hc=>exact .tsn len cap a cap' hl hc
 |tsz cap hc=>exact .tsz cap hc
 |ts cs len cap cap' blk off c e fr us hl hcap hs hc hr=>exact .ts cs len cap cap' blk off c e fr us hl hcap (h.snap _ _ hs) hc (VRs.mono h.dead hr)
 |mpn=>exact .mpn
 |mps id r hid hr=>exact .mps id r (h.kn id hid) (fun hl=>by rw[h.mu id hid];exact hr (h.lv id hid hl))
 |fn f a c ua uc ha hc=>exact .fn f a c ua uc (VRs.mono h ha) (VRs.mono h hc)
 |nilfn=>exact .nilfn
 |ifc t v u hv=>exact .ifc t v u (VR.mono h hv)
 |nilifc=>exact .nilifc
 |agg cs us hs=>exact .agg cs us (VRs.mono h hs)
 |tup cs us hs=>exact .tup cs us (VRs.mono h hs)
 |yl id l hid hl=>exact .yl id l (h.kn id hid) (fun hv=>by rw[h.mu id hid];exact hl (h.lv id hid hv))
theorem VRs.mono{W W':Vw}(h:Le W W'){l:List V}{m:List Value}(r:VRs W l m):VRs W' l m:=by
 cases r with
 |nil=>exact .nil
 |cons v u l m hv hs=>exact .cons v u l m (VR.mono h hv) (VRs.mono h hs)
end

theorem VRs.length{W:Vw} : ∀ {l:List V} {m:List Value},VRs W l m->l.length=m.length
 |_,_, .nil=>rfl
 |_,_, .cons _ _ _ _ _ hs=>by simp[hs.length]

theorem VRs.append{W:Vw} : ∀ {l:List V} {m:List Value} {l':List V} {m':List Value},VRs W l m->VRs W l' m'->VRs W (l++l') (m++m')
 |_,_,_,_, .nil,h=>h
 |_,_,_,_, .cons v u l m hv hs,h=> .cons v u _ _ hv (hs.append h)

theorem VRs.get{W:Vw} : ∀ {l:List V} {m:List Value},VRs W l m-> ∀ {j:Nat} {v:V},l[j]? =some v-> ∃u,m[j]? =some u∧VR W v u
 |_,_, .nil,j,v,h=>by simp at h
 |_,_, .cons v u l m hv hs,0,v',h=>by simp at h;subst h;exact⟨u,rfl,hv⟩
 |_,_, .cons v u l m hv hs,j+1,v',h=>by
  simp at h
  obtain⟨u',h1,h2⟩:=hs.get h
  exact⟨u',by simpa using h1,h2⟩

theorem VRs.drop{W:Vw} : ∀ {l:List V} {m:List Value},VRs W l m-> ∀(n:Nat),VRs W (l.drop n) (m.drop n)
 |_,_, .nil,n=>by simp;exact .nil
 |_,_,h@(.cons _ _ _ _ _ _),0=>by simpa using h
 |_,_, .cons _ _ _ _ _ hs,n+1=>by simpa using hs.drop n

theorem VRs.take{W:Vw} : ∀ {l:List V} {m:List Value},VRs W l m-> ∀(n:Nat),VRs W (l.take n) (m.take n)
 |_,_, .nil,n=>by simp;exact .nil
 |_,_, .cons _ _ _ _ _ _,0=>by simp;exact .nil
 |_,_, .cons v u _ _ hv hs,n+1=>by simpa using .cons v u _ _ hv (hs.take n)

theorem VRs.of_get{W:Vw} : ∀ {l:List V} {m:List Value},l.length=m.length->(∀(j:Nat) (v:V) (u:Value),l[j]? =some v->m[j]? =some u->VR W v u)->VRs W l m
 | [],[],_,_=> .nil
 |v::l,u::m,hl,h=> .cons v u l m (h 0 v u rfl rfl) (VRs.of_get (by simpa using hl) fun j v' u' h1 h2=>h (j+1) v' u' (by simpa using h1) (by simpa using h2))
 | [],_::_,hl,_=>by simp at hl
 |_::_,[],hl,_=>by simp at hl

theorem VR.ofC(W:Vw)(c:Value):VR W (ofC c) c:=by
  unfold Go.Y.ofC
  split<;>first
    |exact .undef _
    |exact .b _
    |exact .i _ _
    |(rename_i s;have h:=VR.s (W:=W) s.data.toList;have e:(⟨s.data.toList.toArray⟩:ByteArray)=s:=by simp
      rw[e]at h;exact h)
    |exact .pn
    |exact .sln _ _
    |exact .mpn
    |exact .nilfn
    |exact .nilifc

def ORel(W:Vw)(w:World)(id:Nat):YObj->Prop
 | .arr cs wr=> ∃(c:Array Value) (e:TypeId) (fr:Nat×Nat),w.heap[(W.mu id).1]? =some (.cells c e fr)∧c.size=W.sz id∧(W.mu id).2+cs.length<=c.size∧
   (∀j v,cs[j]? =some v-> ∃u,c[(W.mu id).2+j]? =some u∧VR W v u)∧
   (∀j,(if wr then(W.mu id).2 else(W.mu id).2+cs.length)<=j->j<c.size-> ¬(fr.1<=j∧j<fr.2))
 | .map es=> ∃(m:Array MapEntry) (clock:Nat),w.heap[(W.mu id).1]? =some (.map m clock)∧VRs W (es.map (·.1)) (m.toList.map (·.key))∧VRs W (es.map (·.2)) (m.toList.map (·.val))
 | .siter l pos=>w.heap[(W.mu id).1]? =some (.stringIter ⟨l.toArray⟩ pos)
 | .loop L=> ∃(fn:FuncId) (us:List Value) (df:Nat),w.heap[(W.mu id).1]? =some (.loop {state:=L.st,pending:=L.pend,fn,tmps:=us.toArray,params:=L.ps,assign:=L.assign,body:=L.body,defers:=df})∧VRs W L.env us

def TagR(W:Vw)(w:World)(p:Nat×TypeId):Prop:=
 W.lv p.1->(W.mu p.1).2=0∧ ∃(c:Array Value) (fr:Nat×Nat),w.heap[(W.mu p.1).1]? =some (.cells c p.2 fr)∧fr.1<=fr.2∧fr.2<=c.size

def Tabbed(W:Vw):Prop:= ∀p,p∈tabs-> ∃(c:Array Value) (e:TypeId) (fr:Nat×Nat),W.snap p.1=some (.cells c e fr)∧VRs W.dead p.2 c.toList
theorem Tabbed.mono{W W':Vw}(h:Tabbed W)(hle: ∀b o,W.snap b=some o->W'.snap b=some o):Tabbed W':=
 fun p hp=>let ⟨c,e,fr,h1,h2⟩:=h p hp
  ⟨c,e,fr,hle _ _ h1,h2.mono (W:=W.dead) (W':=W'.dead) ⟨fun _ h=>h,fun _ h=>h.elim,fun _ h=>h.elim,hle,fun _ _ h=>h.elim⟩⟩

structure HRel(W:Vw)(h:Heap)(w:World):Prop where
 kn: ∀id,W.kn id->(h.raw id).isSome
 lk: ∀id,W.lv id->W.kn id
 lv: ∀id,W.lv id↔(h.get id).isSome
 lt: ∀id,(h.raw id).isSome->id<h.nx
 snap: ∀b o,W.snap b=some o->w.heap[b]? =some o
 obj: ∀id o,h.get id=some o->ORel W w id o
 inj: ∀id id',W.lv id->W.lv id'->(W.mu id).1=(W.mu id').1->id=id'
 apart: ∀id,W.lv id->W.snap (W.mu id).1=none
 tg: ∀p,p∈h.tg->W.kn p.1∧TagR W w p
 gl:Tabbed W

def Vw.own(W:Vw)(b:Nat):Prop:= ∃id,W.lv id∧(W.mu id).1=b

structure Str(w w':World):Prop where
 os:w'.os=w.os
 tape:w'.tape=w.tape
 output:w'.output=w.output
theorem Str.refl(w:World):Str w w:=⟨rfl,rfl,rfl⟩
theorem Str.trans{a b c:World}(h:Str a b)(g:Str b c):Str a c:=⟨g.os.trans h.os,g.tape.trans h.tape,g.output.trans h.output⟩

structure Stp(W:Vw)(own:Nat->Prop)(w:World)(W':Vw)(own':Nat->Prop)(w':World):Prop where
 le:Le W W'
 size:w.heap.size<=w'.heap.size
 keep: ∀b,b<w.heap.size-> ¬own b->w'.heap[b]? =w.heap[b]?
 owns: ∀b,own' b->own b∨w.heap.size<=b
 new: ∀b,W'.snap b≠none->W.snap b≠none∨own b∨w.heap.size<=b
 str:Str w w'

theorem Stp.refl(W:Vw)(own:Nat->Prop)(w:World):Stp W own w W own w:=
 ⟨.refl W,Nat.le_refl _,fun _ _ _=>rfl,fun _ h=> .inl h,fun _ h=> .inl h, .refl w⟩

theorem Stp.trans{W0 W1 W2:Vw}{o0 o1 o2:Nat->Prop}{w0 w1 w2:World}(h:Stp W0 o0 w0 W1 o1 w1)(g:Stp W1 o1 w1 W2 o2 w2):Stp W0 o0 w0 W2 o2 w2 where
 le:=h.le.trans g.le
 size:=Nat.le_trans h.size g.size
 keep b hb hn:=by
  rw[g.keep b (Nat.lt_of_lt_of_le hb h.size) (fun ho=>(h.owns b ho).elim hn (fun hge=>absurd hb (Nat.not_lt.2 hge)))]
  exact h.keep b hb hn
 owns b ho:=by
  rcases g.owns b ho with h1|h1
  ·exact h.owns b h1
  ·exact .inr (Nat.le_trans h.size h1)
 str:=h.str.trans g.str
 new b hb:=by
  rcases g.new b hb with h1|h1|h1
  ·exact h.new b h1
  ·rcases h.owns b h1 with h2|h2
   ·exact .inr (.inl h2)
   ·exact .inr (.inr h2)
  ·exact .inr (.inr (Nat.le_trans h.size h1))

def Same(w w':World):Prop:= ∀(b:Nat) (o:Obj),w.heap[b]? =some o->w'.heap[b]? =some o

theorem Same.refl(w:World):Same w w:=fun _ _ h=>h
theorem Same.size{a b:World}(h:Same a b):a.heap.size<=b.heap.size:=by
 by_cases hz:a.heap.size=0
 ·omega
 ·have hlt:a.heap.size-1<a.heap.size:=by omega
  have h1:=h (a.heap.size-1) a.heap[a.heap.size-1] (by simp[hlt])
  have:=(Array.getElem?_eq_some_iff.1 h1).1
  omega

theorem ORel.same{W:Vw}{w w':World}(h:Same w w'){id:Nat}{o:YObj}(r:ORel W w id o):ORel W w' id o:=by
 cases o with
 |arr cs wr=>obtain⟨c,e,fr,h1,h2⟩:=r;exact⟨c,e,fr,h _ _ h1,h2⟩
 |map es=>obtain⟨m,k,h1,h2⟩:=r;exact⟨m,k,h _ _ h1,h2⟩
 |siter l pos=>exact h _ _ r
 |loop L=>obtain⟨fn,us,df,h1,h2⟩:=r;exact⟨fn,us,df,h _ _ h1,h2⟩

theorem TagR.same{W:Vw}{w w':World}(h:Same w w'){p:Nat×TypeId}(r:TagR W w p):TagR W w' p:=fun hl=>by
 obtain⟨h1,c,fr,h2,h3⟩:=r hl
 exact⟨h1,c,fr,h _ _ h2,h3⟩
theorem TagR.mono{W W':Vw}(hle:Le W W'){w:World}{p:Nat×TypeId}(hid:W.kn p.1)(r:TagR W w p):TagR W' w p:=fun hl=>by
 obtain⟨h1,c,fr,h2,h3⟩:=r (hle.lv p.1 hid hl)
 rw[<-hle.mu p.1 hid]at h1 h2
 exact⟨h1,c,fr,h2,h3⟩

theorem Zho: ∀ {l:List (Nat×List V)} {g:Nat} {cs:List V},Znr l g=some cs->(g,cs)∈l
 | [],_,_,h=>by cases h
 |p::r,g,cs,h=>by
  unfold Znr at h
  split at h
  ·rename_i e;cases h;subst e;exact .head _
  ·exact .tail _ (Zho h)
theorem HRel.tab{W:Vw}{h:Heap}{w:World}(r:HRel W h w){g:Nat}{cs:List V}(hg:Znr tabs g=some cs):VR W (.tp cs) (.pointer (some ⟨g,0,none⟩)):=
 let ⟨c,e,fr,h1,h2⟩:=r.gl _ (Zho hg)
 .tp cs g 0 c e fr c.toList h1 (fun j u hj=>by simpa using hj) h2

theorem HRel.same{W:Vw}{h:Heap}{w w':World}(r:HRel W h w)(s:Same w w'):HRel W h w':=
 ⟨r.kn,r.lk,r.lv,r.lt,fun b o hb=>s b o (r.snap b o hb),fun id o ho=>(r.obj id o ho).same s,r.inj,r.apart,fun p hp=>⟨(r.tg p hp).1,((r.tg p hp).2).same s⟩,r.gl⟩

theorem ORel.mono{W W':Vw}(hle:Le W W'){w:World}{id:Nat}{o:YObj}(hid:W.kn id)(r:ORel W w id o):ORel W' w id o:=by
 cases o with
 |arr cs wr=>
  obtain⟨c,e,fr,h1,h2,h3,h4,h5⟩:=r
  refine⟨c,e,fr,?_,?_,?_,?_,?_⟩
  ·rw[hle.mu id hid];exact h1
  ·rw[hle.sz id hid];exact h2
  ·rw[hle.mu id hid];exact h3
  ·intro j v hj;rw[hle.mu id hid];obtain⟨u,hu,hv⟩:=h4 j v hj;exact⟨u,hu,hv.mono hle⟩
  ·intro j;rw[hle.mu id hid];exact h5 j
 |map es=>
  obtain⟨m,k,h1,h2,h3⟩:=r
  exact⟨m,k,by rw[hle.mu id hid];exact h1,h2.mono hle,h3.mono hle⟩
 |siter l pos=>unfold ORel at*;rw[hle.mu id hid];exact r
 |loop L=>obtain⟨fn,us,df,h1,h2⟩:=r;exact⟨fn,us,df,by rw[hle.mu id hid];exact h1,h2.mono hle⟩
theorem Xp{α:Type} : ∀(l:List α) (n:Nat) (new:List α),n+new.length<=l.length->(splice l n new).length=l.length
 |l,0,new,h=>by simp[splice];simp at h;omega
 | [],n+1,new,h=>by simp at h
 |v::l,n+1,new,h=>by simp[splice];exact Xp l n new (by simp at h;omega)

theorem Xn{α:Type} : ∀(l:List α) (n:Nat) (new:List α) (j:Nat),n+new.length<=l.length->
  (splice l n new)[j]? =if n<=j∧j<n+new.length then new[j-n]? else l[j]?
 |l,0,new,j,h=>by
  simp only[splice,Nat.zero_le,true_and,Nat.zero_add,Nat.sub_zero]
  split
  ·rename_i hj;rw[List.getElem?_append_left hj]
  ·rename_i hj;rw[List.getElem?_append_right (by omega),List.getElem?_drop];congr 1;omega
 | [],n+1,new,j,h=>by simp at h
 |v::l,n+1,new,0,h=>by simp[splice]
 |v::l,n+1,new,j+1,h=>by
  simp only[splice,List.getElem?_cons_succ]
  rw[Xn l n new j (by simp at h;omega)]
  have e:(n<=j∧j<n+new.length)↔(n+1<=j+1∧j+1<n+1+new.length):=by omega
  by_cases hc:n<=j∧j<n+new.length
  ·rw[if_pos hc,if_pos (e.1 hc)];congr 1;omega
  ·rw[if_neg hc,if_neg (fun x=>hc (e.2 x))]

theorem VRs.splice{W:Vw}{l:List V}{m:List Value}(h:VRs W l m){new:List V}{new':List Value}(hn:VRs W new new')(n:Nat)(hf:n+new.length<=l.length):
  VRs W (splice l n new) (splice m n new'):=by
 have hl:=h.length
 have hnl:=hn.length
 refine VRs.of_get (by rw[Xp _ _ _ hf,Xp _ _ _ (by omega),hl]) fun j v u hv hu=> ?_
 rw[Xn _ _ _ _ hf]at hv
 rw[Xn _ _ _ _ (by omega)]at hu
 rw[<-hnl]at hu
 by_cases hc:n<=j∧j<n+new.length
 ·rw[if_pos hc]at hv hu
  obtain⟨u',hu',hr⟩:=hn.get hv
  rw[hu']at hu;simp at hu;subst hu;exact hr
 ·rw[if_neg hc]at hv hu
  obtain⟨u',hu',hr⟩:=h.get hv
  rw[hu']at hu;simp at hu;subst hu;exact hr

def _root_.Go.World.putB(w:World)(b:Nat)(o:Obj):World:= {w with heap:=w.heap.setIfInBounds b o}

@[simp] theorem Zcx (w : World) (b : Nat) (o : Obj) : (w.putB b o).heap.size = w.heap.size := by simp [World.putB]
theorem QO(w:World)(b:Nat)(o:Obj)(h:b<w.heap.size):(w.putB b o).heap[b]? =some o:=by simp[World.putB,h]
theorem Za6(w:World)(b c:Nat)(o:Obj)(h:b≠c):(w.putB b o).heap[c]? =w.heap[c]? :=by
 simp[World.putB,Array.getElem?_setIfInBounds_ne h]

theorem Zq{w:World}{b:Nat}{o:Obj}(h:w.heap[b]? =some o):b<w.heap.size:=(Array.getElem?_eq_some_iff.1 h).1

@[simp] theorem Zns (w : World) (o : Obj) : (w.alloc o).heap.size = w.heap.size + 1 := World.size_alloc ..
theorem Jh(w:World)(o:Obj):(w.alloc o).heap[w.heap.size]? =some o:=by
 show(w.heap.push o)[w.heap.size]? =some o
 simp
theorem QS(w:World)(o:Obj)(b:Nat)(h:b≠w.heap.size):(w.alloc o).heap[b]? =w.heap[b]? :=by
 show(w.heap.push o)[b]? =w.heap[b]?
 rw[Array.getElem?_push]
 split
 ·rename_i h';exact absurd h' h
 ·rfl
theorem Za7(w:World)(o:Obj):Same w (w.alloc o):=fun b o' h=>by rw[QS _ _ _ (by have:=Zq h;omega)];exact h

theorem Jv(b o n:Nat):(⟨b,o,none⟩:Addr).add n=⟨b,o+n,none⟩:=by
 unfold Addr.add
 split
 ·rename_i h;simp[h]
 ·rfl

theorem Zf8{w:World}{b:Nat}{c:Array Value}{e:TypeId}{fr:Nat×Nat}(h:w.heap[b]? =some (.cells c e fr))(j:Nat):w.cell? ⟨b,j,none⟩=c[j]? :=by
 simp[World.cell?,h]

theorem Zhp{w:World}{b:Nat}{c:Array Value}{e:TypeId}{fr:Nat×Nat}(h:w.heap[b]? =some (.cells c e fr))(j:Nat):w.frozen? ⟨b,j,none⟩=(decide (fr.1<=j)&&decide (j<fr.2)):=by
 obtain⟨lo,hi⟩:=fr
 simp[World.frozen?,h]

def CellsW(w:World)(a:Addr)(us:List Value):Prop:= ∀j u,us[j]? =some u->w.cell? (a.add j)=some u

theorem CellsW.same{w w':World}(s:Same w w'){a:Addr}{us:List Value}(h:CellsW w a us):CellsW w' a us:=by
 intro j u hj
 have h1:=h j u hj
 unfold World.cell? at*
 split at h1
 ·rename_i c e fr hb
  rw[s _ _ hb]
  exact h1
 ·cases h1

theorem CellsW.of_block{w:World}{b o:Nat}{c:Array Value}{e:TypeId}{fr:Nat×Nat}(h:w.heap[b]? =some (.cells c e fr)){us:List Value}
  (hc: ∀j u,us[j]? =some u->c[o+j]? =some u):CellsW w ⟨b,o,none⟩ us:=by
 intro j u hj
 rw[Jv,Zf8 h]
 exact hc j u hj

section
variable {P:Program}

theorem Ze{t:TypeId}{d:TypeDesc}(h:P.underlying t=some d)(w:World):(underlying t).run P w= .ok d w:=by simp[underlying,h]
theorem ZM{t:TypeId}{i:TypeInfo}(h:P.info? t=some i)(w:World):(sizeOf t).run P w= .ok i.size w:=by simp[sizeOf,typeInfo,h]
theorem Qa{t:TypeId}{i:TypeInfo}{z:Value}(h:P.info? t=some i)(hz:i.zero=some z)(w:World):(zeroValue t).run P w= .ok z w:=by simp[zeroValue,typeInfo,h,hz]

def aggD:TypeDesc->Bool
 | .struct _| .array _ _=>true
 |_=>false

theorem Zhq{t:TypeId}{d:TypeDesc}(h:P.underlying t=some d)(w:World):(isAgg t).run P w= .ok (aggD d) w:=by
 simp only[isAgg,Sem.run_bind,Ze h,Result.andThen_ok]
 cases d<;>rfl

theorem Zhr{t:TypeId}{d:TypeDesc}{i:TypeInfo}(hd:P.underlying t=some d)(hi:P.info? t=some i)(w:World)(a:Addr)(us:List Value)
  (hl:us.length=i.size) (hc:CellsW w a us) (u:Value) (hu:if aggD d then u= .agg us.toArray else us= [u]):(loadVar t a).run P w= .ok u w:=by
 simp only[loadVar,Sem.run_bind,Zhq hd,Result.andThen_ok]
 cases hg:aggD d
 ·simp only[hg,Bool.false_eq_true,if_false]at hu ⊢
  have h0:=hc 0 u (by simp[hu])
  simp[Addr.add]at h0
  simp[h0]
 ·simp only[hg,if_true]at hu ⊢
  simp only[Sem.run_bind,ZM hi,Result.andThen_ok,<-hl,run_loadCells_list w a us hc,Sem.run_pure]
  rw[hu]

theorem Qb(b o:Nat)(e:TypeId)(fr:Nat×Nat): ∀(vs:List Value) (i:Nat) (cur:Array Value) (w:World),w.heap[b]? =some (.cells cur e fr)->
  o+i+vs.length<=cur.size->(∀j,o+i<=j->j<o+i+vs.length-> ¬(fr.1<=j∧j<fr.2))->(∀v∈vs,v.oneCell'=true)->
  (storeCells ⟨b,o,none⟩ vs i).run P w= .ok () (w.putB b (.cells (splice cur.toList (o+i) vs).toArray e fr))
 | [],i,cur,w,hb,hl,_,_=>by
  have hs:splice cur.toList (o+i) []=cur.toList:=by
   apply List.ext_getElem?
   intro j
   rw[Xn _ _ _ _ (by simpa using hl)]
   split
   ·rename_i h;simp at h;omega
   ·rfl
  simp only[storeCells,Sem.run_pure,hs]
  congr 1
  have:w.heap.setIfInBounds b (.cells cur e fr)=w.heap:=by
   apply Array.ext'
   apply List.ext_getElem?
   intro j
   have:= @Array.getElem?_setIfInBounds _ w.heap b j (.cells cur e fr)
   simp only[Array.getElem?_toList]
   rw[this]
   split
   ·rename_i h;subst h;split
    ·exact hb.symm
    ·rename_i h';exact absurd (Zq hb) h'
   ·rfl
  simp[World.putB,this]
 |v::vs,i,cur,w,hb,hl,hf,h1=>by
  simp only[List.length_cons]at hl
  have hv:v.oneCell'=true:=h1 v (by simp)
  have hlt:o+i<cur.size:=by omega
  have hcell:w.cell? ⟨b,o+i,none⟩=some cur[o+i]:=by rw[Zf8 hb];simp[hlt]
  have hfz:w.frozen? ⟨b,o+i,none⟩=false:=by
   rw[Zhp hb]
   have:=hf (o+i) (by omega) (by simp)
   simp only[Bool.and_eq_false_imp,decide_eq_true_eq,decide_eq_false_iff_not]
   intro h2 h3;exact this ⟨h2,h3⟩
  have hw:w.setCell ⟨b,o+i,none⟩ v=w.putB b (.cells (cur.setIfInBounds (o+i) v) e fr):=by
   unfold World.setCell World.putB
   congr 1
   apply Array.ext'
   apply List.ext_getElem?
   intro j
   simp only[Array.getElem?_toList,Array.getElem?_modify,Array.getElem?_setIfInBounds]
   by_cases hj:b=j
   ·subst hj
    have hx:=Array.getElem?_eq_some_iff.1 hb
    simp[Zq hb,hx.2]
   ·simp[hj]
  simp only[storeCells,Sem.run_bind,Jv,run_store P w _ v _ hv,hcell,hfz,Bool.false_eq_true,if_false,Result.andThen_ok,hw]
  have ih:=Qb b o e fr vs (i+1) (cur.setIfInBounds (o+i) v) (w.putB b (.cells (cur.setIfInBounds (o+i) v) e fr)) (QO _ _ _ (Zq hb))
   (by simp;omega) (fun j h2 h3=>hf j (by omega) (by simp;omega)) (fun x hx=>h1 x (by simp[hx]))
  rw[ih]
  congr 1
  unfold World.putB
  simp only[Array.setIfInBounds_setIfInBounds]
  congr 4
  apply List.ext_getElem?
  intro j
  rw[Xn _ _ _ _ (by simp;omega),Xn _ _ _ _ (by simp;omega)]
  simp only[List.length_cons,Array.getElem?_toList,Array.getElem?_setIfInBounds]
  by_cases hj:j=o+i
  ·subst hj
   have e1: ¬(o+(i+1)<=o+i∧o+i<o+(i+1)+vs.length):=by omega
   have e2:o+i<=o+i∧o+i<o+i+(vs.length+1):=by omega
   rw[if_neg e1,if_pos e2]
   simp[hlt]
  ·by_cases hc:o+(i+1)<=j∧j<o+(i+1)+vs.length
   ·have e2:o+i<=j∧j<o+i+(vs.length+1):=by omega
    rw[if_pos hc,if_pos e2]
    obtain⟨k,hk⟩: ∃k,j=o+i+(k+1):=⟨j-(o+i+1),by omega⟩
    subst hk
    rw[show o+i+(k+1)-(o+(i+1))=k by omega,show o+i+(k+1)-(o+i)=k+1 by omega]
    simp
   ·have e2: ¬(o+i<=j∧j<o+i+(vs.length+1)):=by omega
    rw[if_neg hc,if_neg e2]
    have: ¬(o+i=j):=fun h=>hj h.symm
    rw[if_neg this]
end

def ZBt(W:Vw)(w:World)(cs:List V)(u:Value):Prop:=
 ∃(b:Nat) (c:Array Value) (e:TypeId),u= .pointer (some ⟨b,0,none⟩)∧w.heap[b]? =some (.cells c e (0,0))∧VRs W cs c.toList∧W.snap b=none∧ ¬W.own b

def SRel(W:Vw)(w:World)(v:V)(u:Value):Prop:=
 match v with
 | .lb cs=>ZBt W w cs u
 | .rf=>True
 |v=>VR W v u

def QC(σ:St)(a:Act)(t b:Nat):Prop:=(∃cs,σ.env[t]? =some (.lb cs))∧a.tmps[t]? =some (.pointer (some ⟨b,0,none⟩))

def mkD(r:Nat):Deferred:= {target:= .collected r,args:= #[]}
structure Marks(W:Vw)(a:Act)(w:World):Prop where
 nd:a.defers.Nodup
 at_: ∀d∈a.defers,∃r,d=mkD r∧w.heap[r]? =some (.deferred (some []))∧W.snap r=none∧ ¬W.own r

theorem Marks.same{W:Vw}{a:Act}{w w':World}(s:Same w w')(h:Marks W a w):Marks W a w':=
 ⟨h.nd,fun d hd=>let ⟨r,h1,h2,h3,h4⟩:=h.at_ d hd;⟨r,h1,s _ _ h2,h3,h4⟩⟩
theorem Marks.act{W:Vw}{a a':Act}{w:World}(h:Marks W a w)(e:a'.defers=a.defers):Marks W a' w:=⟨by rw[e];exact h.nd,by rw[e];exact h.at_⟩
theorem Marks.none{W:Vw}{a:Act}{w:World}(e:a.defers= []):Marks W a w:=⟨by rw[e];exact .nil,by rw[e];intro d hd;cases hd⟩
theorem Marks.turn{W W':Vw}{a:Act}{w w':World}(h:Marks W a w)(hk: ∀r,w.heap[r]? =some (.deferred (some []))->W.snap r=Option.none-> ¬W.own r->w'.heap[r]? =w.heap[r]? ∧W'.snap r=Option.none∧ ¬W'.own r):Marks W' a w':=
 ⟨h.nd,fun d hd=>let ⟨r,h1,h2,h3,h4⟩:=h.at_ d hd;let ⟨k1,k2,k3⟩:=hk r h2 h3 h4;⟨r,h1,by rw[k1];exact h2,k2,k3⟩⟩

structure Rel(W:Vw)(σ:St)(a:Act)(w:World):Prop where
 heap:HRel W σ.h w
 size:a.tmps.size=σ.env.length
 env: ∀(t:Nat) (v:V),σ.env[t]? =some v-> ∃u,a.tmps[t]? =some u∧SRel W w v u
 box: ∀t t' b,QC σ a t b->QC σ a t' b->t=t'
 refs: ∀(d s o:Nat),(d,s,o)∈σ.refs->σ.env[d]? =some .rf-> ∀b,QC σ a s b->a.tmps[d]? =some (.pointer (some ⟨b,o,none⟩))
 defers:Marks W a w

def mine(W:Vw)(σ:St)(a:Act)(b:Nat):Prop:=W.own b∨(∃t,QC σ a t b)∨mkD b∈a.defers

theorem SRel.same{W:Vw}{w w':World}(s:Same w w'){v:V}{u:Value}(h:SRel W w v u):SRel W w' v u:=by
 cases v<;>first
  |exact h
  |(obtain⟨b,c,e,hu,hb,h2⟩:=h;exact⟨b,c,e,hu,s _ _ hb,h2⟩)

theorem Rel.same{W:Vw}{σ:St}{a:Act}{w w':World}(s:Same w w')(h:Rel W σ a w):Rel W σ a w':=
 ⟨h.heap.same s,h.size,fun t v ht=>let ⟨u,h1,h2⟩:=h.env t v ht;⟨u,h1,h2.same s⟩,h.box,h.refs,h.defers.same s⟩

theorem SRel.plain{W:Vw}{w:World}{v:V}{u:Value}(h:SRel W w v u):VR W v.plain u:=by
 cases v<;>first|exact .undef u|exact h

theorem Rel.ev{W:Vw}{σ:St}{a:Act}{w:World}(h:Rel W σ a w)(x:Operand):VR W (ev σ.env x) (a.eval x):=by
 cases x with
 |tmp t=>
  simp only[Go.Y.ev,Act.eval]
  cases ht:σ.env[t]? with
  |none=>simp[List.getD,ht,V.plain];exact .undef _
  |some v=>
   obtain⟨u,h1,h2⟩:=h.env t v ht
   simp[List.getD,ht,h1]
   exact h2.plain
 |const v=>exact VR.ofC W v
 |global g=>
  simp only[Go.Y.ev]
  split
  ·rename_i cs hg;exact h.heap.tab hg
  ·exact .undef _
 |func f=>exact .fn (.func f) [] [] [] [] .nil .nil
def KdOK(Y:YP)(t:TypeId):Kd->TypeDesc->Prop
 | .bool,d=>d= .bool
 | .int k,d=>d= .int k
 | .str,d=>d= .string
 | .slice e,d=>d= .slice e
 | .arr n e,d=>d= .array n e∧Y.P.eqGuardType Y.P.depth t=false
 | .struct fs,d=> ∃l:Array Field,d= .struct l∧fs=l.toList.map (fun f=>(f.offset,f.type))∧(∀f∈l,f.name≠"_")∧Y.P.stoodInHeld t=false∧Y.P.eqGuardType Y.P.depth t=false
 | .ptr e,d=>d= .pointer e
 | .map k e,d=>d= .map k e
 | .func,d=> ∃a b c,d= .func a b c
 | .iface,d=> ∃ms,d= .interface ms
 | .other,_=>False

structure TIOK(Y:YP)(t:TypeId)(ti:TI)(i:TypeInfo)(d:TypeDesc)(z:Value):Prop where
 info:Y.P.info? t=some i
 und:Y.P.underlying t=some d
 zero:i.zero=some z
 size:i.size=ti.size
 bytes:i.bytes=ti.bytes
 zr: ∀W,VRs W ti.zero z.cells.toList
 zl:ti.zero.length=ti.size
 zc:Zk ti.zero=true
 kd:KdOK Y t ti.kd d
 agg:aggD d=ti.kd.agg
 one:ti.kd.agg=false->ti.size=1

def extE:Nat->Array Value->Sem Value
 |1=>Extern.AbiNoEscape.same
 |_=>Extern.BytealgIndexByte.indexByte
def Zx0(Y:YP):Prop:= ∀p∈Y.ext,∃fn,Y.P.funcs[p.1]? =some fn∧fn.body.isNone=true∧Extern.findNext fn=none∧Extern.find fn=some (extE p.2)

structure YOK(Y:YP):Prop where
 ty: ∀t ti,Y.ty t=some ti-> ∃i d z,TIOK Y t ti i d z
 mixed:Y.P.follows .mixedOrders=true
 name: ∀(f:FuncId) (fn:Func),Y.P.funcs[f]? =some fn->(fn.name=="runtime.NumGoroutine")=false
 ext:Zx0 Y

def AdR(W:Vw)(σ:St)(a:Act):Ad->Addr->Prop
 | .lb s o,x=> ∃b,QC σ a s b∧x=⟨b,o,none⟩
 | .hp id o,x=>W.kn id∧(W.lv id->x=W.at id o)
 | .ro cs,x=>cs= []∨ ∃(blk off:Nat) (c:Array Value) (e:TypeId) (fr:Nat×Nat) (us:List Value),x=⟨blk,off,none⟩∧W.snap blk=some (.cells c e fr)∧
   (∀j u,us[j]? =some u->c[off+j]? =some u)∧VRs W.dead cs us

theorem WL: ∀(n:Nat) (l r:List V),Zo n l=some r->r=l.take n∧r.length=n
 |0,l,r,h=>by simp[Zo]at h;subst h;simp
 |n+1,[],r,h=>by simp[Zo]at h
 |n+1,v::l,r,h=>by
  simp only[Zo,Option.map_eq_some_iff]at h
  obtain⟨r',h1,rfl⟩:=h
  obtain⟨h2,h3⟩:=WL n l r' h1
  exact⟨by simp[<-h2],by simp[h3]⟩

theorem Zcy: ∀ {l:List (Nat×Nat×Nat)} {t s o:Nat},QJ l t=some (s,o)->(t,s,o)∈l
 |(d,s',o')::l,t,s,o,h=>by
  simp only[QJ]at h
  split at h
  ·rename_i hd;simp at h;simp[hd,h]
  ·simp[Zcy h]

section
variable {Y:YP} {W:Vw} {σ:St} {a:Act} {w:World}

theorem Rel.boxOf(h:Rel W σ a w){t:Nat}{cs:List V}(ht:σ.env[t]? =some (.lb cs)): ∃b,QC σ a t b:=by
 obtain⟨u,h1,h2⟩:=h.env t _ ht
 obtain⟨b,c,e,hu,_⟩:=h2
 exact⟨b,⟨cs,ht⟩,by rw[h1,hu]⟩

theorem Rel.boxCells(h:Rel W σ a w){t b:Nat}{cs:List V}(ht:σ.env[t]? =some (.lb cs))(hb:QC σ a t b):
  ∃(c:Array Value) (e:TypeId),w.heap[b]? =some (.cells c e (0,0))∧VRs W cs c.toList∧W.snap b=none∧ ¬W.own b:=by
 obtain⟨u,h1,h2⟩:=h.env t _ ht
 obtain⟨b',c,e,hu,hc,h3⟩:=h2
 have h4:=hb.2
 rw[h1,hu]at h4
 simp at h4
 subst h4
 exact⟨c,e,hc,h3⟩

theorem Za8(h:Rel W σ a w){x:Operand}{ad:Ad}(hx:addr σ x=some ad): ∃y:Addr,a.eval x= .pointer (some y)∧AdR W σ a ad y:=by
 cases x with
 |tmp t=>
  simp only[addr]at hx
  cases ht:σ.env[t]? with
  |none=>simp[List.getD,ht]at hx
  |some v=>
   obtain⟨u,h1,h2⟩:=h.env t v ht
   have he:a.eval (.tmp t)=u:=by simp[Act.eval,h1]
   simp only[List.getD,ht,Option.getD_some]at hx
   rw[he]
   cases v with
   |lb cs=>
    simp at hx;subst hx
    obtain⟨b,hb⟩:=h.boxOf ht
    have:=hb.2
    rw[h1]at this;simp at this
    exact⟨⟨b,0,none⟩,this,b,hb,rfl⟩
   |p o=>
    cases o with
    |none=>simp at hx
    |some p=>
     obtain⟨i,o⟩:=p
     simp at hx;subst hx
     cases h2 with
     |ps _ _ y hid ha=>exact⟨y,rfl,hid,ha⟩
   |tp cs=>
    simp at hx;subst hx
    cases h2 with
    |tpn y=>exact⟨y,rfl, .inl rfl⟩
    |tp _ blk off c e fr us hs hc hr=>exact⟨_,rfl, .inr ⟨blk,off,c,e,fr,us,rfl,hs,hc,hr⟩⟩
   |rf=>
    cases hl:QJ σ.refs t with
    |none=>simp[hl]at hx
    |some so=>
     obtain⟨s,o⟩:=so
     simp only[hl]at hx
     have hm:=Zcy hl
     cases hs:σ.env[s]? with
     |none=>simp[hs]at hx
     |some vs=>
      cases vs with
      |lb cs=>
       simp[hs]at hx;subst hx
       obtain⟨b,hb⟩:=h.boxOf hs
       have h3:=h.refs t s o hm ht b hb
       rw[h1]at h3;simp at h3
       exact⟨⟨b,o,none⟩,h3,b,hb,rfl⟩
      |_=>simp[hs]at hx
   |_=>simp at hx
 |const v=>simp[addr]at hx
 |global g=>
  simp only[addr,Option.map_eq_some_iff]at hx
  obtain⟨cs,hg,he⟩:=hx
  subst he
  have ht:=h.heap.tab hg
  show∃y:Addr,Value.pointer (some ⟨g,0,none⟩)= .pointer (some y)∧AdR W σ a (.ro cs) y
  cases ht with
  |tpn=>exact⟨_,rfl, .inl rfl⟩
  |tp _ blk off c e fr us hs hc hr=>exact⟨_,rfl, .inr ⟨_,_,c,e,fr,us,rfl,hs,hc,hr⟩⟩
 |func f=>simp[addr]at hx

theorem WM(h:Rel W σ a w){ad:Ad}{y:Addr}(hy:AdR W σ a ad y){n:Nat}{l:List V}(hl:Xg σ n ad=some l):
  ∃us,VRs W l us∧us.length=n∧CellsW w y us:=by
 cases ad with
 |lb s o=>
  obtain⟨b,hb,rfl⟩:=hy
  simp only[Xg]at hl
  cases hs:σ.env[s]? with
  |none=>simp[List.getD,hs]at hl
  |some vs=>
   cases vs with
   |lb cs=>
    simp[List.getD,hs]at hl
    obtain⟨h1,h2⟩:=WL _ _ _ hl
    obtain⟨c,e,hc,hr,_⟩:=h.boxCells hs hb
    have hv:=(hr.drop o).take n
    rw[<-h1]at hv
    refine⟨_,hv,by rw[<-hv.length,h2],CellsW.of_block hc fun j u hj=> ?_⟩
    rw[List.getElem?_take]at hj
    split at hj
    ·rw[List.getElem?_drop]at hj;simpa using hj
    ·cases hj
   |_=>simp[List.getD,hs]at hl
 |hp id o=>
  obtain⟨hid,ha⟩:=hy
  simp only[Xg]at hl
  cases ho:σ.h.get id with
  |none=>simp[ho]at hl
  |some ob=>
   cases ob with
   |arr cs wr=>
    simp only[ho]at hl
    have hlv:W.lv id:=(h.heap.lv id).2 (by simp[ho])
    obtain⟨h1,h2⟩:=WL _ _ _ hl
    obtain⟨c,e,fr,hc,h3,h4,h5,_⟩:=h.heap.obj id _ ho
    have hcs:VRs W cs ((c.toList.drop (W.mu id).2).take cs.length):=by
     refine VRs.of_get (by simp;omega) fun j v u hv hu=> ?_
     obtain⟨u',hu',hr⟩:=h5 j v hv
     rw[List.getElem?_take]at hu
     split at hu
     ·rw[List.getElem?_drop]at hu
      simp at hu
      rw[hu']at hu;simp at hu;subst hu;exact hr
     ·cases hu
    have hv:=(hcs.drop o).take n
    rw[<-h1]at hv
    rw[ha hlv]
    refine⟨_,hv,by rw[<-hv.length,h2],CellsW.of_block hc fun j u hj=> ?_⟩
    rw[List.getElem?_take]at hj
    split at hj
    ·rw[List.getElem?_drop,List.getElem?_take]at hj
     split at hj
     ·rw[List.getElem?_drop]at hj;simpa[Nat.add_assoc]using hj
     ·cases hj
    ·cases hj
   |_=>simp[ho]at hl
 |ro cs=>
  simp only[Xg]at hl
  obtain⟨h1,h2⟩:=WL _ _ _ hl
  rcases hy with rfl|⟨blk,off,c,e,fr,us,rfl,hs,hc,hr⟩
  ·simp at h1;subst h1;simp at h2;subst h2
   exact⟨[], .nil,rfl,fun j u hj=>by simp at hj⟩
  ·have hv:=hr.take n
   rw[<-h1]at hv
   refine⟨_,hv.mono (Zxz W),by rw[<-hv.length,h2],CellsW.of_block (h.heap.snap _ _ hs) fun j u hj=> ?_⟩
   rw[List.getElem?_take]at hj
   split at hj
   ·exact hc j u hj
   ·cases hj

theorem AdR.shift{ad:Ad}{y:Addr}(hy:AdR W σ a ad y)(n:Nat):AdR W σ a (ad.shift n) (y.add n):=by
 cases ad with
 |lb s o=>
  obtain⟨b,hb,rfl⟩:=hy
  exact⟨b,hb,by rw[Jv]⟩
 |hp id o=>
  obtain⟨hid,ha⟩:=hy
  exact⟨hid,fun hl=>by rw[ha hl];unfold Vw.at;rw[Jv,Nat.add_assoc]⟩
 |ro cs=>
  rcases hy with rfl|⟨blk,off,c,e,fr,us,rfl,hs,hc,hr⟩
  ·exact .inl (by simp)
  ·refine .inr ⟨blk,off+n,c,e,fr,us.drop n,by rw[Jv],hs,fun j u hj=> ?_,hr.drop n⟩
   rw[List.getElem?_drop]at hj
   rw[Nat.add_assoc]
   exact hc _ _ hj

theorem AdR.of_q{ad:Ad}{y:Addr}(hy:AdR W σ a ad y):match ad.q with
  | .val v=>VR W v (.pointer (some y))
  | .ref s o=> ∃b,QC σ a s b∧Value.pointer (some y)= .pointer (some ⟨b,o,none⟩):=by
 cases ad with
 |lb s o=>obtain⟨b,hb,rfl⟩:=hy;exact⟨b,hb,rfl⟩
 |hp id o=>exact .ps id o y hy.1 hy.2
 |ro cs=>
  rcases hy with rfl|⟨blk,off,c,e,fr,us,rfl,hs,hc,hr⟩
  ·exact .tpn y
  ·exact .tp cs blk off c e fr us hs hc hr

theorem Zet{ag:Bool}{l:List V}{us:List Value}{v:V}(h:VRs W l us)(hv:QK ag l=some v):
  ∃u,VR W v u∧(if ag then u= .agg us.toArray else us= [u]):=by
 cases ag
 ·simp only[QK,Bool.false_eq_true,if_false]at hv ⊢
  cases h with
  |nil=>simp at hv
  |cons v' u l m h1 h2=>
   cases h2 with
   |nil=>simp at hv;subst hv;exact⟨u,h1,rfl⟩
   |cons _ _ _ _ _ _=>simp at hv
 ·simp[QK]at hv;subst hv
  exact⟨_, .agg _ _ h,by simp⟩
end
section
variable {Y:YP} {W:Vw} {σ:St} {a:Act} {w:World}

def QR(W:Vw)(σ:St)(a:Act):Q->Value->Prop
 | .val v,u=>VR W v u
 | .ref s o,u=> ∃b,QC σ a s b∧u= .pointer (some ⟨b,o,none⟩)

theorem AdR.qr{ad:Ad}{y:Addr}(hy:AdR W σ a ad y):QR W σ a ad.q (.pointer (some y)):=by
 have:=hy.of_q
 cases hq:ad.q<;>rw[hq]at this<;>exact this

theorem Xx{Y:YP}{t:TypeId}{kd:Kd}(h:Y.kd t=some kd): ∃ti,Y.ty t=some ti∧ti.kd=kd:=by
 simpa[YP.kd]using h

/-! ### whole numbers, strings -/
theorem Zpd{op:BinOp}{k:IntKind}{x y:Int}{v:V}(h:Zhm op k x y=some v)(t:TypeId):
  ∃u,VR W v u∧ ∀w,(binOp op t (.int k x) (.int k y)).run Y.P w= .ok u w:=by
 cases op<;>simp only[Zhm]at h
 case quo=>
  split at h
  ·cases h
  ·rename_i hy;simp at h;subst h;exact⟨_, .i _ _,fun w=>by simp[binOp,Op.intDiv,hy]⟩
 case rem=>
  split at h
  ·cases h
  ·rename_i hy;simp at h;subst h;exact⟨_, .i _ _,fun w=>by simp[binOp,Op.intDiv,hy]⟩
 case eql=>simp at h;subst h;exact⟨_, .b _,fun w=>by simp[binOp,Op.intCmp]⟩
 case neq=>simp at h;subst h;exact⟨_, .b _,fun w=>by simp[binOp,Op.intCmp,bne]⟩
 case lss=>simp at h;subst h;exact⟨_, .b _,fun w=>by simp[binOp,Op.intCmp,ltI]⟩
 case leq=>simp at h;subst h;exact⟨_, .b _,fun w=>by simp[binOp,Op.intCmp,leI]⟩
 case gtr=>simp at h;subst h;exact⟨_, .b _,fun w=>by simp[binOp,Op.intCmp,ltI]⟩
 case geq=>simp at h;subst h;exact⟨_, .b _,fun w=>by simp[binOp,Op.intCmp,leI]⟩
 case and=>simp only[Option.some.injEq]at h;subst h;exact⟨_, .i _ _,fun w=>by rw[binOp_and];rfl⟩
 case or=>simp only[Option.some.injEq]at h;subst h;exact⟨_, .i _ _,fun w=>by rw[binOp_or];rfl⟩
 case xor=>simp only[Option.some.injEq]at h;subst h;exact⟨_, .i _ _,fun w=>by rw[binOp_xor];rfl⟩
 case andNot=>simp only[Option.some.injEq]at h;subst h;exact⟨_, .i _ _,fun w=>by rw[binOp_andNot];rfl⟩
 all_goals first
  |(simp at h;done)
  |(simp at h;subst h;exact⟨_, .i _ _,fun w=>by simp[binOp,Op.intArith]⟩)

theorem Zpe{op:BinOp}{x y:List UInt8}{v:V}(h:Zlt op x y=some v)(t:TypeId):
  ∃u,VR W v u∧ ∀w,(binOp op t (.string ⟨x.toArray⟩) (.string ⟨y.toArray⟩)).run Y.P w= .ok u w:=by
 have hx:(⟨x.toArray⟩:ByteArray).toList=x:=by rw[ByteArray.toList_eq]
 have hy:(⟨y.toArray⟩:ByteArray).toList=y:=by rw[ByteArray.toList_eq]
 cases op<;>simp only[Zlt]at h
 case add=>
  split at h
  ·rename_i hl
   simp at h;subst h
   refine⟨_, .s _,fun w=> ?_⟩
   have hs: ¬(9223372036854775807<(((⟨x.toArray⟩:ByteArray).size:Int)+((⟨y.toArray⟩:ByteArray).size:Int))):=by
    have e1:(⟨x.toArray⟩:ByteArray).size=x.length:=rfl
    have e2:(⟨y.toArray⟩:ByteArray).size=y.length:=rfl
    rw[e1,e2];omega
   simp[binOp,Op.stringOp,hs]
   apply ByteArray.ext
   simp
  ·cases h
 all_goals first
  |(simp at h;done)
  |(simp at h;subst h;exact⟨_, .b _,fun w=>by simp[binOp,Op.stringOp,hx,hy]⟩)

/-! ### '==' by type -/
theorem Wq{ti:TI}{t:TypeId}{i:TypeInfo}{d:TypeDesc}{z:Value}(ht:TIOK Y t ti i d z){xs l:List V}{us:List Value}(hr:VRs W xs us){off:Nat}
  (hl:Zo ti.size (xs.drop off)=some l): ∃us' u,VRs W l us'∧(∀w,(part t us.toArray off).run Y.P w= .ok u w)∧(if ti.kd.agg then u= .agg us'.toArray else us'= [u]):=by
 obtain⟨h1,h2⟩:=WL _ _ _ hl
 have hv:=(hr.drop off).take ti.size
 rw[<-h1]at hv
 have hlen:=hv.length
 rw[h2]at hlen
 simp only[part,Sem.run_bind,Zhq ht.und,Result.andThen_ok,ht.agg]
 cases hag:ti.kd.agg
 ·have h1':=ht.one hag
  rw[h1']at hlen hv
  simp only[Bool.false_eq_true,if_false]
  obtain⟨u,hu⟩: ∃u,us[off]? =some u:=by
   cases hc:us[off]? with
   |some u=>exact⟨u,rfl⟩
   |none=>
    rw[List.getElem?_eq_none_iff]at hc
    simp at hlen;omega
  have e:(us.drop off).take 1= [u]:=by
   apply List.ext_getElem?
   intro j
   rw[List.getElem?_take,List.getElem?_drop]
   cases j with
   |zero=>simp[hu]
   |succ j=>simp
  rw[e]at hv
  exact⟨[u],u,hv,fun w=>by simp[hu],rfl⟩
 ·simp only[if_true,Sem.run_bind,ZM ht.info,Result.andThen_ok,Sem.run_pure,ht.size]
  exact⟨_,_,hv,fun w=>rfl,by simp⟩

theorem Zeu{ti:TI}{t:TypeId}{i:TypeInfo}{d:TypeDesc}{z:Value}(ht:TIOK Y t ti i d z){x y:V}{r:Bool}(h:JO ti.kd x y=some r){u v:Value}
  (hx:VR W x u) (hy:VR W y v) (n:Nat) (w:World):(Op.equalIn (n+1) t u v).run Y.P w= .ok r w:=by
 have hd:=ht.und
 have hk:=ht.kd
 generalize ti.kd=kd at h hk
 cases kd<;>cases x<;>cases y<;>simp only[JO]at h<;>first|(cases h;done)|skip
 ·cases hx;cases hy;cases hk
  simp at h
  rw[run_equalIn_bool' w n t _ _ hd,<-h]
 ·cases hx;cases hy;cases hk
  split at h
  ·rename_i hj;subst hj;simp at h;rw[run_equalIn_int w n t _ _ _ _ hd,<-h]
  ·cases h
 ·cases hx;cases hy;cases hk
  simp at h
  rw[run_equalIn_string w n t _ _ hd,ByteArray.toList_eq,ByteArray.toList_eq,<-h]

def JQ(d:Nat)(e:TypeId)(n:Nat)(xs ys:Array Value):List Nat->Sem Bool
 | []=>pure true
 |i::l=>do
  let a<-part e xs (i*n)
  let b<-part e ys (i*n)
  let r<-Op.equalIn d e a b
  if(!r)=true then pure false else JQ d e n xs ys l

theorem Jw(d:Nat)(t e:TypeId)(len:Nat){i:TypeInfo}(xs ys:Array Value)(ht:Y.P.underlying t=some (.array len e))(hi:Y.P.info? e=some i)(w:World):
  (Op.equalIn (d+1) t (.agg xs) (.agg ys)).run Y.P w=(JQ d e i.size xs ys (List.range len)).run Y.P w:=by
 simp only[Op.equalIn,Sem.run_bind,Ze ht,Result.andThen_ok,ZM hi,Std.Legacy.Range.forIn_eq_forIn_range',Std.Legacy.Range.size,Nat.sub_zero,Nat.add_sub_cancel,Nat.div_one,List.range_eq_range']
 generalize List.range' 0 len=l
 induction l generalizing w with
 |nil=>simp[JQ]
 |cons k l ih=>
  simp only[List.forIn_cons,JQ,Sem.run_bind,Sem.run_ite]
  generalize (part e xs (k*i.size)).run Y.P w=r1
  cases r1 with
  |ok a w1=>
   simp only[Result.andThen_ok]
   generalize (part e ys (k*i.size)).run Y.P w1=r2
   cases r2 with
   |ok b w2=>
    simp only[Result.andThen_ok]
    generalize (Op.equalIn d e a b).run Y.P w2=r3
    cases r3 with
    |ok r w3=>
     cases r
     ·simp only[Result.andThen_ok,Bool.not_false,if_true,Sem.run_pure]
     ·simp only[Result.andThen_ok,Bool.not_true,Bool.false_eq_true,if_false,Sem.run_pure]
      exact ih w3
    |halt x w3=>simp[Result.andThen]
   |halt x w2=>simp[Result.andThen]
  |halt x w1=>simp[Result.andThen]

theorem Zj3(hY:YOK Y): ∀(n:Nat) (t:TypeId) (xs ys:List V) (r:Bool),eqTy Y n t xs ys=some r-> ∀(us vs:List Value),VRs W xs us->VRs W ys vs->
  ∀ti,Y.ty t=some ti-> ∀(u v:Value),(if ti.kd.agg then u= .agg us.toArray else us= [u])->(if ti.kd.agg then v= .agg vs.toArray else vs= [v])->
  ∀(d:Nat) (w:World),n<=d->(Op.equalIn d t u v).run Y.P w= .ok r w
 |0,_,_,_,_,h=>by simp[eqTy]at h
 |n+1,t,xs,ys,r,h=>by
  intro us vs hx hy ti hti u v hu hv d w hd
  obtain⟨i,de,z,ht⟩:=hY.ty t ti hti
  obtain⟨d,rfl⟩: ∃d',d=d'+1:=⟨d-1,by omega⟩
  simp only[eqTy,YP.kd,hti,Option.map_some]at h
  split at h
  ·rename_i fs hk
   simp only[Option.some.injEq]at hk
   have hkd:=ht.kd
   rw[hk]at hkd
   obtain⟨l,rfl,hfs,hnm,hsi,_⟩:=hkd
   simp only[hk,Kd.agg,if_true]at hu hv
   subst hu hv
   have hfo:Y.P.fieldsOf t=l:=by simp[Program.fieldsOf,ht.und]
   rw[run_equalIn_struct w d t _ _ (by rw[hfo];exact ht.und) hsi,hfo]
   clear hfo hk
   have hnm': ∀f∈l.toList,f.name≠"_":=fun f hf=>hnm f (by simpa using hf)
   subst hfs
   generalize l.toList=fl at h hnm'
   clear hnm ht
   induction fl generalizing r with
   |nil=>simp at h;subst h;simp[Op.eqFields]
   |cons f fl ih=>
    simp only[List.map_cons,List.foldr_cons]at h
    split at h
    ·rename_i tf htf
     split at h
     ·rename_i a b ha hb
      split at h
      ·rename_i p q hp hq
       simp at h
       obtain⟨fi,fd,fz,hft⟩:=hY.ty _ tf htf
       obtain⟨ua,u',h1,h2,h3⟩:=Wq hft hx ha
       obtain⟨ub,v',h4,h5,h6⟩:=Wq hft hy hb
       have he:=Zj3 hY n f.type a b p hp _ _ h1 h4 tf htf u' v' h3 h6 d w (by omega)
       simp only[Op.eqFields]
       rw[if_pos (hnm' f (by simp))]
       simp only[Sem.run_bind,h2,h5,he,Result.andThen_ok,Sem.run_ite]
       cases p
       ·simp at h;subst h;simp
       ·simp at h;subst h;simpa using ih q hq (fun g hg=>hnm' g (by simp[hg]))
      ·cases h
     ·cases h
    ·cases h
  ·rename_i len e hk
   simp only[Option.some.injEq]at hk
   have hkd:=ht.kd
   rw[hk]at hkd
   obtain⟨rfl,_⟩:=hkd
   simp only[hk,Kd.agg,if_true]at hu hv
   subst hu hv
   split at h
   ·rename_i te hte
    obtain⟨ei,ed,ez,het⟩:=hY.ty e te hte
    rw[Jw d t e len _ _ ht.und het.info w,het.size]
    generalize List.range len=il at h
    induction il generalizing r with
    |nil=>simp at h;subst h;simp[JQ]
    |cons k il ih=>
     simp only[List.foldr_cons]at h
     split at h
     ·rename_i a b ha hb
      split at h
      ·rename_i p q hp hq
       simp at h
       obtain⟨ua,u',h1,h2,h3⟩:=Wq het hx ha
       obtain⟨ub,v',h4,h5,h6⟩:=Wq het hy hb
       have he:=Zj3 hY n e a b p hp _ _ h1 h4 te hte u' v' h3 h6 d w (by omega)
       simp only[JQ,Sem.run_bind,h2,h5,he,Result.andThen_ok,Sem.run_ite]
       cases p
       ·simp at h;subst h;simp
       ·simp at h;subst h;simpa using ih q hq
      ·cases h
     ·cases h
   ·cases h
  ·rename_i kd hks hka hk
   simp only[Option.some.injEq]at hk
   split at h
   ·rename_i x y
    rw[<-hk]at h
    have hag:ti.kd.agg=false:=by
     rw[hk]
     cases kd<;>first|rfl|(exact absurd rfl (hks _))|(exact absurd rfl (hka _ _))
    simp only[hag,Bool.false_eq_true,if_false]at hu hv
    subst hu hv
    cases hx with
    |cons _ _ _ _ hxu _=>
     cases hy with
     |cons _ _ _ _ hyv _=>exact Zeu ht h hxu hyv d w
   ·cases h
  ·cases h
end
end Go.Y
