/- A part of the proof. -/
import Derived.Test.YteennilbmmlikaaGreatDoorYApp2
namespace Go.Y
set_option maxRecDepth 1000000
set_option maxHeartbeats 0
mutual
/-- What a value comes to, once its memory is read-only. -/
inductive Frz (h:Heap):V->V->Prop
 |undef:Frz h .undef .undef
 |b (x:Bool):Frz h (.b x) (.b x)
 |i (k:IntKind) (n:Int):Frz h (.i k n) (.i k n)
 |s (l:List UInt8):Frz h (.s l) (.s l)
 |pn:Frz h (.p none) (.p none)
 |sln (c:Option Nat) (k:Nat) (c':Option Nat) (hc: ∀x,c'=some x->x=0):Frz h (.sl none 0 c k) (.ts [] 0 c')
 |sln0 (c:Option Nat) (k:Nat):Frz h (.sl none 0 c k) (.sl none 0 c k)
 |sl (id off len:Nat) (cap:Option Nat) (k:Nat) (cs:List V) (wr:Bool) (c1 cs':List V) (cap':Option Nat) (hg:h.get id=some (.arr cs wr)) (ht:Zo (len*k) (cs.drop off)=some c1)
   (hp: ∀x,cap'=some x->cap=some x) (hk:k≠0) (hc:FrzL h c1 cs'):Frz h (.sl (some (id,off)) len cap k) (.ts cs' len cap')
 |ts (cs:List V) (len:Nat) (cap cap':Option Nat) (hp: ∀x,cap'=some x->cap=some x):Frz h (.ts cs len cap) (.ts cs len cap')
 |tp (cs:List V):Frz h (.tp cs) (.tp cs)
 |mpn:Frz h (.mp none) (.mp none)
 |fn (f:Fn) (a c a' c':List V) (ha:FrzL h a a') (hc:FrzL h c c'):Frz h (.fn f a c) (.fn f a' c')
 |nilfn:Frz h .nilfn .nilfn
 |ifc (t:TypeId) (v v':V) (hv:Frz h v v'):Frz h (.ifc t v) (.ifc t v')
 |nilifc:Frz h .nilifc .nilifc
 |agg (cs cs':List V) (hc:FrzL h cs cs'):Frz h (.agg cs) (.agg cs')
 |tup (cs cs':List V) (hc:FrzL h cs cs'):Frz h (.tup cs) (.tup cs')
inductive FrzL (h:Heap):List V->List V->Prop
 |nil:FrzL h [] []
 |cons (v v':V) (l l':List V) (hv:Frz h v v') (hl:FrzL h l l'):FrzL h (v::l) (v'::l')
end

theorem FrzL.length{h:Heap} : ∀ {l l':List V},FrzL h l l'->l.length=l'.length
 |_,_, .nil=>rfl
 |_,_, .cons _ _ _ _ _ hl=>by simp[hl.length]

theorem FrzL.append{h:Heap} : ∀ {l l' m m':List V},FrzL h l l'->FrzL h m m'->FrzL h (l++m) (l'++m')
 |_,_,_,_, .nil,g=>g
 |_,_,_,_, .cons _ _ _ _ hv hl,g=> .cons _ _ _ _ hv (hl.append g)

theorem Wt: ∀ {n:Nat} {l c:List V},Zo n l=some c->c.length=n
 |0,_,c,h=>by simp[Zo]at h;simp[<-h]
 |n+1,[],c,h=>by simp[Zo]at h
 |n+1,v::l,c,h=>by
  simp only[Zo,Option.map_eq_some_iff]at h
  obtain⟨d,h1,rfl⟩:=h
  simp[Wt h1]

theorem Zbc: ∀ {n:Nat} {l c:List V},Zo n l=some c-> ∀(j:Nat) (v:V),c[j]? =some v->l[j]? =some v
 |0,_,c,h,j,v,hj=>by simp[Zo]at h;subst h;simp at hj
 |n+1,[],c,h,j,v,hj=>by simp[Zo]at h
 |n+1,x::l,c,h,j,v,hj=>by
  simp only[Zo,Option.map_eq_some_iff]at h
  obtain⟨d,h1,rfl⟩:=h
  cases j with
  |zero=>simpa using hj
  |succ j=>simp at hj ⊢;exact Zbc h1 j v hj

structure Fz(W:Vw)(h:Heap)(w:World)(W':Vw):Prop where
 lv: ∀id,(h.get id).isSome->W.lv id
 obj: ∀id o,h.get id=some o->ORel W w id o
 snap: ∀b o,W.snap b=some o->W'.snap b=some o
 now: ∀id,(h.get id).isSome->W'.snap (W.mu id).1=w.heap[(W.mu id).1]?

theorem VV{W W':Vw}(h: ∀b o,W.snap b=some o->W'.snap b=some o):Le W.dead W'.dead:=
 ⟨fun _ h=>h,fun _ h=>h.elim,fun _ h=>h.elim,h,fun _ h=>h.elim⟩

mutual
theorem Frz.vr{W W':Vw}{h:Heap}{w:World}(z:Fz W h w W'){v v':V}(f:Frz h v v'){u:Value}(r:VR W v u):VR W' v' u:=by
 cases f with
 |undef=>exact .undef _
 |b x=>cases r;exact .b _
 |i k n=>cases r;exact .i _ _
 |s l=>cases r;exact .s _
 |pn=>cases r;exact .pn
 |sln c k c' hc=>cases r;exact .tsz _ hc
 |sln0 c k=>cases r;exact .sln _ _
 |sl id off len cap k cs wr c1 cs' cap' hg ht hp hk hc=>
  cases r with
  |sls _ _ _ _ _ a cp hid hl hcp ha hn hkk=>
   have hlv:W.lv id:=z.lv id (by simp[hg])
   have hcp': ∀x,cap'=some x->cp=x:=fun x hx=>hcp x (hp x hx)
   by_cases h0:len=0
   ·have e1:=Wt ht
    have e2:=hc.length
    have:cs'= []:=by
     apply List.eq_nil_of_length_eq_zero
     rw[<-e2,e1,h0,Nat.zero_mul]
    subst this
    exact .tsn _ _ _ _ hl hcp'
   ·have haa:=ha hlv (by omega)
    obtain⟨c,e,fr,g1,g2,g3,g4,g5⟩:=z.obj id _ hg
    have hnow:=z.now id (by simp[hg])
    rw[g1]at hnow
    have key: ∀(l:List V) (o:Nat),(∀j v,l[j]? =some v-> ∃u,c[o+j]? =some u∧VR W v u)-> ∃us,VRs W l us∧ ∀j u,us[j]? =some u->c[o+j]? =some u:=by
     intro l
     induction l with
     |nil=>intro o _;exact⟨[], .nil,fun j u hj=>by simp at hj⟩
     |cons x l ih=>
      intro o hx
      obtain⟨u,q1,q2⟩:=hx 0 x rfl
      obtain⟨us,q3,q4⟩:=ih (o+1) (fun j v hj=>by
       obtain⟨u',p1,p2⟩:=hx (j+1) v (by simpa using hj)
       exact⟨u',by rw[<-p1];congr 1;omega,p2⟩)
      refine⟨u::us, .cons _ _ _ _ q2 q3,fun j u' hj=> ?_⟩
      cases j with
      |zero=>simp at hj;subst hj;exact q1
      |succ j=>simp at hj;rw[<-q4 j u' hj];congr 1;omega
    obtain⟨us,q1,q2⟩:=key c1 ((W.mu id).2+off) (fun j v hj=>by
     have hj2:=Zbc ht j v hj
     rw[List.getElem?_drop]at hj2
     obtain⟨u,p1,p2⟩:=g4 _ _ hj2
     exact⟨u,by rw[<-p1];congr 1;omega,p2⟩)
    subst haa
    exact .ts _ _ _ _ _ _ c e fr us hl hcp' hnow q2 (FrzL.vr (W':=W'.dead) ⟨z.lv,z.obj,z.snap,z.now⟩ hc q1)
 |ts cs len cap cap' hp=>
  cases r with
  |tsn _ _ a cp hl hcp=>exact .tsn _ _ _ _ hl (fun x hx=>hcp x (hp x hx))
  |tsz _ hcp=>exact .tsz _ (fun x hx=>hcp x (hp x hx))
  |ts _ _ _ cp blk off c e fr us hl hcp hs hcc hr=>exact .ts _ _ _ _ blk off c e fr us hl (fun x hx=>hcp x (hp x hx)) (z.snap _ _ hs) hcc (hr.mono (VV z.snap))
 |tp cs=>
  cases r with
  |tpn a=>exact .tpn a
  |tp _ blk off c e fr us hs hcc hr=>exact .tp _ blk off c e fr us (z.snap _ _ hs) hcc (hr.mono (VV z.snap))
 |mpn=>cases r;exact .mpn
 |fn f a c a' c' ha hc=>cases r with|fn _ _ _ ua uc h1 h2=>exact .fn _ _ _ _ _ (FrzL.vr z ha h1) (FrzL.vr z hc h2)
 |nilfn=>cases r;exact .nilfn
 |ifc t v v' hv=>cases r with|ifc _ _ u h1=>exact .ifc _ _ _ (Frz.vr z hv h1)
 |nilifc=>cases r;exact .nilifc
 |agg cs cs' hc=>cases r with|agg _ us h1=>exact .agg _ _ (FrzL.vr z hc h1)
 |tup cs cs' hc=>cases r with|tup _ us h1=>exact .tup _ _ (FrzL.vr z hc h1)
theorem FrzL.vr{W W':Vw}{h:Heap}{w:World}(z:Fz W h w W'){l l':List V}(f:FrzL h l l'){us:List Value}(r:VRs W l us):VRs W' l' us:=by
 cases f with
 |nil=>cases r;exact .nil
 |cons v v' l l' hv hl=>cases r with|cons _ u _ m h1 h2=>exact .cons _ _ _ _ (Frz.vr z hv h1) (FrzL.vr z hl h2)
end

theorem Jz(id:Nat):Heap.empty.get id=none:=rfl
theorem Zpx(id:Nat):Heap.empty.raw id=none:=rfl

def Cold(l:List V):Prop:=FrzL Heap.empty l l

theorem Cold.vrs{l:List V}(c:Cold l){W W':Vw}(hs: ∀b o,W.snap b=some o->W'.snap b=some o){us:List Value}(r:VRs W l us):VRs W' l us:=
 FrzL.vr (h:=Heap.empty) (w:=default) ⟨fun id h=>by simp[Jz]at h,fun id o h=>by simp[Jz]at h,hs,fun id h=>by simp[Jz]at h⟩ c r

def PTr(Y:YP)(f:FuncId)(args:List V)(P:V->Prop):Prop:=
 ∀(W:Vw) (w:World) (us:List Value),(∀b o,W.snap b=some o->w.heap[b]? =some o)->Tabbed W->VRs W args us->Calls Y.P f us.toArray w fun e w'=>
  ∃(r:V) (W':Vw) (u:Value),P r∧e= .returned u∧VR W' r u∧(∀b o,W.snap b=some o->W'.snap b=some o)∧(∀b o,W'.snap b=some o->w'.heap[b]? =some o)∧
   (∀b,W'.snap b≠none->W.snap b≠none∨w.heap.size<=b)∧w.heap.size<=w'.heap.size∧(∀b,b<w.heap.size->w'.heap[b]? =w.heap[b]?)∧(∀W'',(∀b o,W'.snap b=some o->W''.snap b=some o)->VR W'' r u)∧Str w w'

theorem PTr.mono{Y:YP}{f:FuncId}{args:List V}{P P':V->Prop}(h:PTr Y f args P)(hp: ∀r,P r->P' r):PTr Y f args P':=
 fun W w us hs hg hv=>(h W w us hs hg hv).mono fun _ _ ⟨r,W',u,h1,h2⟩=>⟨r,W',u,hp _ h1,h2⟩

structure PCon(Y:YP)(f:FuncId)(args:List V)(P:V->Prop):Prop where
 body:QV Y f
 tr:PTr Y f args P

theorem PCon.mono{Y:YP}{f:FuncId}{args:List V}{P P':V->Prop}(h:PCon Y f args P)(hp: ∀r,P r->P' r):PCon Y f args P':=⟨h.body,h.tr.mono hp⟩

noncomputable def Vw.all(W:Vw)(w:World):Vw:=by
 classical exact {W with snap:=fun b=>if W.own b then w.heap[b]? else W.snap b,lv:=fun _=>False}

theorem HRel.all{W:Vw}{h:Heap}{w:World}(r:HRel W h w):Fz W h w (W.all w) where
 lv id hi:=(r.lv id).2 hi
 obj:=r.obj
 snap b o hb:=by
  unfold Vw.all;simp only
  split
  ·rename_i ho
   obtain⟨id,h1,rfl⟩:=ho
   rw[r.apart id h1]at hb;cases hb
  ·exact hb
 now id hi:=by
  unfold Vw.all;simp only
  rw[if_pos ⟨id,(r.lv id).2 hi,rfl⟩]

theorem PTr.of{Y:YP}{f:FuncId}{args:List V}{Q:V->Heap->Prop}{P:V->Prop}(hc:Cold args)(ht:CallTr Y f args Heap.empty Q)(hq: ∀v h,Q v h-> ∃r,Frz h v r∧P r):PTr Y f args P:=by
 intro W w us hs hgl hv
 let W0:Vw:= {mu:=fun _=>(0,0),sz:=fun _=>0,snap:=W.snap,lv:=fun _=>False,kn:=fun _=>False}
 have h0:HRel W0 Heap.empty w:=⟨fun _ h=>h.elim,fun _ h=>h.elim,fun id=>by simp[W0,Jz],fun id h=>by simp[Zpx]at h,hs,fun id o h=>by simp[Jz]at h,fun _ _ h=>h.elim,fun _ h=>h.elim,fun p hp=>(nomatch hp),hgl.mono fun _ _ h=>h⟩
 have hown: ∀b,¬W0.own b:=fun b ⟨_,h,_⟩=>h
 refine(ht W0 w us h0 (Cold.vrs (W:=W) (W':=W0) hc (fun _ _ h=>h) hv)).mono ?_
 rintro e w' ⟨v,h',W',u,hQ,rfl,hr,hvr,hst⟩
 obtain⟨r,hf,hp⟩:=hq v h' hQ
 have z:=hr.all
 refine⟨r,W'.all w',u,hp,rfl,hf.vr z hvr,fun b o hb=>z.snap b o (hst.le.snap b o hb),?_,?_,hst.size,fun b hb=>hst.keep b hb (hown b),fun W'' hW=> ?_,hst.str⟩
 ·intro b o hb
  unfold Vw.all at hb;simp only at hb
  split at hb
  ·exact hb
  ·exact hr.snap b o hb
 ·intro b hb
  unfold Vw.all at hb;simp only at hb
  split at hb
  ·rename_i ho
   rcases hst.owns b ho with h1|h1
   ·exact absurd h1 (hown b)
   ·exact .inr h1
  ·rcases hst.new b hb with h1|h1|h1
   ·exact .inl h1
   ·exact absurd h1 (hown b)
   ·exact .inr h1
 ·exact hf.vr ⟨z.lv,z.obj,fun b o hb=>hW b o (z.snap b o hb),fun id hi=>by
   have h1:=z.now id hi
   have h2: ∃o,w'.heap[(W'.mu id).1]? =some o:=by
    obtain⟨o,ho⟩:=Option.isSome_iff_exists.1 hi
    have:=hr.obj id o ho
    cases o with
    |arr cs wr=>obtain⟨c,e,fr,q,_⟩:=this;exact⟨_,q⟩
    |map es=>obtain⟨m,k,q,_⟩:=this;exact⟨_,q⟩
    |siter l pos=>exact⟨_,this⟩
    |loop L=>obtain⟨fn,us,df,q,_⟩:=this;exact⟨_,q⟩
   obtain⟨o,ho⟩:=h2
   rw[ho]at h1 ⊢
   exact hW _ _ h1⟩ hvr

/-! ### Values without memory -/
def Zge:V->Bool
 | .b _| .i _ _| .s _| .p none| .mp none| .nilfn| .nilifc| .fn _ [] []| .sl none 0 _ _=>true
 |_=>false
def Ze0:List V->Bool
 | []=>true
 |v::r=>Zge v&&Ze0 r
def Zny:V->Bool
 | .agg cs=>Ze0 cs
 |v=>Zge v
def Ze1:List V->Bool
 | []=>true
 |v::r=>Zny v&&Ze1 r
def Zgf:V->Bool
 | .tup cs=>Ze1 cs
 |v=>Zny v

theorem Zgg{v:V}(h:Zge v=true)(h0:Heap):Frz h0 v v:=by
 unfold Zge at h
 split at h<;>first|exact .b _|exact .i _ _|exact .s _|exact .pn|exact .mpn|exact .nilfn|exact .nilifc|exact .fn _ _ _ _ _ .nil .nil|exact .sln0 _ _|cases h
theorem Zhy(h0:Heap): ∀ {l:List V},Ze0 l=true->FrzL h0 l l
 | [],_=> .nil
 |v::r,h=>by simp only[Ze0,Bool.and_eq_true]at h;exact .cons _ _ _ _ (Zgg h.1 h0) (Zhy h0 h.2)
theorem Zly{v:V}(h:Zny v=true)(h0:Heap):Frz h0 v v:=by
 unfold Zny at h
 split at h
 ·exact .agg _ _ (Zhy h0 h)
 ·exact Zgg h h0
theorem Zhz(h0:Heap): ∀ {l:List V},Ze1 l=true->FrzL h0 l l
 | [],_=> .nil
 |v::r,h=>by simp only[Ze1,Bool.and_eq_true]at h;exact .cons _ _ _ _ (Zly h.1 h0) (Zhz h0 h.2)
theorem Ztt{v:V}(h:Zgf v=true)(h0:Heap):Frz h0 v v:=by
 unfold Zgf at h
 split at h
 ·exact .tup _ _ (Zhz h0 h)
 ·exact Zly h h0

theorem Zlz{v:V}(h:Zge v=true){W W':Vw}{u:Value}(r:VR W v u):VR W' v u:=by
 unfold Zge at h
 split at h<;>first|(cases r;first|exact .b _|exact .i _ _|exact .s _|exact .pn|exact .mpn|exact .nilfn|exact .nilifc|(rename_i h1 h2;cases h1;cases h2;exact .fn _ _ _ _ _ .nil .nil)|exact .sln _ _)|cases h
theorem Zh0{W W':Vw} : ∀ {l:List V} {us:List Value},Ze0 l=true->VRs W l us->VRs W' l us
 | [],_,_,r=>by cases r;exact .nil
 |v::l,_,h,r=>by
  simp only[Ze0,Bool.and_eq_true]at h
  cases r with|cons _ _ _ _ h1 h2=>exact .cons _ _ _ _ (Zlz h.1 h1) (Zh0 h.2 h2)
theorem Zl0{v:V}(h:Zny v=true){W W':Vw}{u:Value}(r:VR W v u):VR W' v u:=by
 unfold Zny at h
 split at h
 ·cases r with|agg _ _ h1=>exact .agg _ _ (Zh0 h h1)
 ·exact Zlz h r
theorem Zh1{W W':Vw} : ∀ {l:List V} {us:List Value},Ze1 l=true->VRs W l us->VRs W' l us
 | [],_,_,r=>by cases r;exact .nil
 |v::l,_,h,r=>by
  simp only[Ze1,Bool.and_eq_true]at h
  cases r with|cons _ _ _ _ h1 h2=>exact .cons _ _ _ _ (Zl0 h.1 h1) (Zh1 h.2 h2)
theorem Ztu{v:V}(h:Zgf v=true){W W':Vw}{u:Value}(r:VR W v u):VR W' v u:=by
 unfold Zgf at h
 split at h
 ·cases r with|tup _ _ h1=>exact .tup _ _ (Zh1 h h1)
 ·exact Zl0 h r

def Zc1:V->Bool
 | .ts _ _ _| .tp _=>true
 |v=>Zge v
def ZQ:List V->Bool
 | []=>true
 |v::r=>Zc1 v&&ZQ r
def Zen:V->Bool
 | .agg cs=>ZQ cs
 |v=>Zc1 v
def Xc:List V->Bool
 | []=>true
 |v::r=>Zen v&&Xc r

/-! ### The call, from a frame -/
def Vw.more(W:Vw)(n:Nat)(s:Nat->Option Obj):Vw:= {W with snap:=fun b=>if n<=b then s b else W.snap b}

theorem Zpy{W:Vw}{w:World}{s:Nat->Option Obj}(hs: ∀b o,W.snap b=some o->s b=some o):Le W (W.more w.heap.size s):=
 ⟨fun _ h=>h,fun _ _=>rfl,fun _ _=>rfl,fun b o hb=>by
  unfold Vw.more;simp only
  split
  ·exact hs b o hb
  ·exact hb,fun _ _ h=>h⟩

section
variable {Y:YP} {σ:St} {W:Vw} {a:Act} {w:World}

theorem Rel.more(h:Rel W σ a w){w':World}{s:Nat->Option Obj}(hs: ∀b o,W.snap b=some o->s b=some o)(hz:w.heap.size<=w'.heap.size)
    (hk: ∀b,b<w.heap.size->w'.heap[b]? =w.heap[b]?) (hn: ∀b o,s b=some o->w'.heap[b]? =some o) (hstr:Str w w'):
    Rel (W.more w.heap.size s) σ a w'∧Stp W (mine W σ a) w (W.more w.heap.size s) (mine (W.more w.heap.size s) σ a) w':=by
  have hle:=Zpy (w:=w) hs
  have hsame:Same w w':=fun b o hb=>by rw[hk b (Zq hb)];exact hb
  have hlt: ∀id,W.lv id->(W.mu id).1<w.heap.size:=by
    intro id hl
    obtain⟨o,ho⟩:=Option.isSome_iff_exists.1 ((h.heap.lv id).1 hl)
    have:=h.heap.obj id o ho
    cases o with
    |arr cs wr=>obtain⟨c,e,fr,q,_⟩:=this;exact Zq q
    |map es=>obtain⟨m,k,q,_⟩:=this;exact Zq q
    |siter l pos=>exact Zq this
    |loop L=>obtain⟨fn,us,df,q,_⟩:=this;exact Zq q
  refine⟨⟨⟨h.heap.kn,h.heap.lk,h.heap.lv,h.heap.lt,?_,?_,h.heap.inj,?_,fun p hp=>⟨(h.heap.tg p hp).1,(((h.heap.tg p hp).2).same hsame).mono hle (h.heap.tg p hp).1⟩,h.heap.gl.mono hle.snap⟩,h.size,?_,h.box,h.refs,h.defers.turn fun r hr h1 h2=>⟨by rw[hk r (Zq hr)],by
    have:=Zq hr
    simp only[Vw.more]
    rw[if_neg (by omega)]
    exact h1,h2⟩⟩,⟨hle,hz,fun b hb _=>hk b hb,fun b hb=> .inl hb,?_,hstr⟩⟩
  · intro b o hb
    simp only[Vw.more]at hb
    split at hb
    · exact hn b o hb
    · exact hsame b o (h.heap.snap b o hb)
  · intro id o ho
    exact((h.heap.obj id o ho).same hsame).mono hle (h.heap.known (by simp[ho]))
  · intro id hl
    have:=hlt id hl
    simp only[Vw.more]
    rw[if_neg (by omega)]
    exact h.heap.apart id hl
  · intro t v ht
    obtain⟨u,h1,h2⟩:=h.env t v ht
    refine⟨u,h1,?_⟩
    cases v<;>first
      |exact VR.mono hle h2
      |exact h2
      |(obtain⟨b,c,e,hu,hb,hv,hsn,ho⟩:=h2
        refine⟨b,c,e,hu,hsame _ _ hb,VRs.mono hle hv,?_,ho⟩
        have:=Zq hb
        simp only[Vw.more]
        rw[if_neg (by omega)]
        exact hsn)
  · intro b hb
    simp only[Vw.more]at hb
    split at hb
    · rename_i hge;exact .inr (.inr hge)
    · exact .inl hb

theorem pcall(h:Rel W σ a w){f:FuncId}{args args':List V}{P:V->Prop}(hp:PTr Y f args' P)(hf:FrzL σ.h args args')(hc:Cold args∧args'=args∨ ∀r,P r->Zgf r=true){us:List Value}(hv:VRs W args us):
  Calls Y.P f us.toArray w fun e w'=> ∃(r:V) (W':Vw) (u:Value),P r∧e= .returned u∧Rel W' σ a w'∧VR W' r u∧Stp W (mine W σ a) w W' (mine W' σ a) w'∧ ∀b,mine W' σ a b->mine W σ a b:=by
 rcases hc with ⟨hc,rfl⟩|hc
 ·refine(hp W w us h.heap.snap h.heap.gl hv).mono ?_
  rintro e w' ⟨r,W',u,h1,rfl,_,h3,h4,h5,h6,h7,h8,h9⟩
  obtain⟨g1,g2⟩:=h.more (s:=W'.snap) h3 h6 h7 h4 h9
  refine⟨r,_,u,h1,rfl,g1,h8 _ ?_,g2,fun b hb=>hb⟩
  intro b o hb
  simp only[Vw.more]
  split
  ·exact hb
  ·rename_i hlt
   rcases h5 b (by simp[hb])with h9'|h9'
   ·cases hsn:W.snap b with
    |none=>exact absurd hsn h9'
    |some o'=>rw[h3 b o' hsn]at hb;exact hb
   ·exact absurd h9' hlt
 ·have z:=h.heap.all
  refine(hp (W.all w) w us (fun b o hb=> ?_) (h.heap.gl.mono z.snap) (hf.vr z hv)).mono ?_
  ·unfold Vw.all at hb;simp only at hb
   split at hb
   ·exact hb
   ·exact h.heap.snap b o hb
  rintro e w' ⟨r,W',u,h1,rfl,h2,h3,h4,h5,h6,h7,h8,h9⟩
  obtain⟨g1,g2⟩:=h.more (s:=W.snap) (fun _ _ h=>h) h6 h7 (fun b o hb=>by
   rw[h7 b (Zq (h.heap.snap b o hb))];exact h.heap.snap b o hb) h9
  exact⟨r,_,u,h1,rfl,g1,Ztu (hc r h1) h2,g2,fun b hb=>hb⟩
end

/-! ### Some objects become read-only -/
def XT(h:Heap)(D:List Nat):Heap:=D.foldl (fun h i=>if(h.get i).isSome then h.set i none else h) h
def VW(h:Heap)(D:List Nat):Heap:=D.foldl (fun acc i=>acc.set i (h.get i)) .empty

theorem Qr: ∀(D:List Nat) (h:Heap) (j:Nat),(XT h D).get j=if j∈D then none else h.get j
 | [],h,j=>by simp[XT]
 |i::D,h,j=>by
  have:=Qr D (if(h.get i).isSome then h.set i none else h) j
  unfold XT at*
  rw[List.foldl_cons,this]
  by_cases h1:j∈D
  ·simp[h1]
  ·rw[if_neg h1]
   cases hg:(h.get i).isSome with
   |true=>
    simp only[if_true,Heap.get_set]
    by_cases h2:j=i
    ·simp[h2]
    ·simp[h1,h2]
   |false=>
    simp only[Bool.false_eq_true,if_false]
    by_cases h2:j=i
    ·subst h2
     simp only[List.mem_cons,true_or,if_true]
     simpa using hg
    ·simp[h1,h2]
theorem Zl1: ∀(D:List Nat) (h:Heap),(XT h D).tg=h.tg
 | [],h=>rfl
 |i::D,h=>by
  have:=Zl1 D (if(h.get i).isSome then h.set i none else h)
  unfold XT at*
  rw[List.foldl_cons,this];split<;>rfl
theorem WN: ∀(D:List Nat) (h:Heap),(XT h D).nx=h.nx
 | [],h=>rfl
 |i::D,h=>by
  have:=WN D (if(h.get i).isSome then h.set i none else h)
  unfold XT at*
  rw[List.foldl_cons,this];split<;>rfl
theorem Zc2: ∀(D:List Nat) (h:Heap) (j:Nat),((XT h D).raw j).isSome=(h.raw j).isSome
 | [],h,j=>rfl
 |i::D,h,j=>by
  have:=Zc2 D (if(h.get i).isSome then h.set i none else h) j
  unfold XT at*
  rw[List.foldl_cons,this]
  split
  ·rename_i hg
   rw[Heap.raw_set]
   split
   ·rename_i e;subst e;rw[Heap.raw_of hg];rfl
   ·rfl
  ·rfl

theorem Zh2(h:Heap): ∀(D:List Nat) (acc:Heap) (j:Nat),(D.foldl (fun acc i=>acc.set i (h.get i)) acc).get j=if j∈D then h.get j else acc.get j
 | [],acc,j=>by simp
 |i::D,acc,j=>by
  rw[List.foldl_cons,Zh2 h D _ j,Heap.get_set]
  by_cases h1:j∈D
  ·simp[h1]
  ·by_cases h2:j=i
   ·subst h2;simp
   ·simp[h1,h2]
theorem QW(h:Heap)(D:List Nat)(j:Nat):(VW h D).get j=if j∈D then h.get j else none:=by
 unfold VW
 rw[Zh2]
 rfl

noncomputable def Vw.frzD(W:Vw)(D:List Nat)(w:World):Vw:=by
 classical exact {W with snap:=fun b=>if∃i,i∈D∧W.lv i∧(W.mu i).1=b then w.heap[b]? else W.snap b,lv:=fun id=>W.lv id∧id∉D}

theorem HRel.block{W:Vw}{h:Heap}{w:World}(hr:HRel W h w){id:Nat}(hl:W.lv id): ∃o,w.heap[(W.mu id).1]? =some o:=by
 obtain⟨o,ho⟩:=Option.isSome_iff_exists.1 ((hr.lv id).1 hl)
 have:=hr.obj id o ho
 cases o with
 |arr cs wr=>obtain⟨c,e,fr,q,_⟩:=this;exact⟨_,q⟩
 |map es=>obtain⟨m,k,q,_⟩:=this;exact⟨_,q⟩
 |siter l pos=>exact⟨_,this⟩
 |loop L=>obtain⟨fn,us,df,q,_⟩:=this;exact⟨_,q⟩

theorem Vv{W:Vw}{h:Heap}{w:World}(hr:HRel W h w)(D:List Nat):Le W (W.frzD D w) where
 kn _ h:=h
 mu _ _:=rfl
 sz _ _:=rfl
 snap b o hb:=by
  unfold Vw.frzD;simp only
  split
  ·rename_i ho
   obtain⟨i,_,h2,rfl⟩:=ho
   rw[hr.apart i h2]at hb;cases hb
  ·exact hb
 lv _ _ h:=h.1

theorem HRel.frzD{W:Vw}{h:Heap}{w:World}(hr:HRel W h w)(D:List Nat):HRel (W.frzD D w) (XT h D) w∧Stp W W.own w (W.frzD D w) (W.frzD D w).own w:=by
 have hle:=Vv hr D
 refine⟨⟨fun j hj=>by rw[Zc2];exact hr.kn j hj,fun j hj=>hr.lk j hj.1,fun j=> ?_,fun j hj=>by rw[WN];rw[Zc2]at hj;exact hr.lt j hj,fun b o hb=> ?_,fun j o hj=> ?_,fun j k h1 h2=>hr.inj j k h1.1 h2.1,fun j hj=> ?_,fun p hp=> ?tg,hr.gl.mono hle.snap⟩,
  ⟨hle,Nat.le_refl _,fun b _ _=>rfl,fun b hb=> ?_,fun b hb=> ?_, .refl w⟩⟩
 case tg=>
  have hp':p∈h.tg:=by rw[<-Zl1 D h];exact hp
  exact⟨(hr.tg p hp').1,((hr.tg p hp').2).mono hle (hr.tg p hp').1⟩
 ·rw[Qr]
  show(W.lv j∧j∉D)↔_
  by_cases e:j∈D
  ·simp[e]
  ·simp[e,hr.lv j]
 ·unfold Vw.frzD at hb;simp only at hb
  split at hb
  ·exact hb
  ·exact hr.snap b o hb
 ·rw[Qr]at hj
  by_cases e:j∈D
  ·simp[e]at hj
  ·simp[e]at hj
   exact(hr.obj j o hj).mono hle (hr.known (by simp[hj]))
 ·unfold Vw.frzD;simp only
  rw[if_neg]
  ·exact hr.apart j hj.1
  ·rintro⟨i,h1,h2,h3⟩
   have:=hr.inj i j h2 hj.1 h3
   subst this
   exact hj.2 h1
 ·obtain⟨id,h1,h2⟩:=hb
  exact .inl ⟨id,h1.1,h2⟩
 ·unfold Vw.frzD at hb;simp only at hb
  split at hb
  ·rename_i ho
   obtain⟨i,_,h2,h3⟩:=ho
   exact .inr (.inl ⟨i,h2,h3⟩)
  ·exact .inl hb

theorem Fz.of{W:Vw}{h:Heap}{w:World}(hr:HRel W h w)(D:List Nat):Fz W (VW h D) w (W.frzD D w) where
 lv id hi:=by
  rw[QW]at hi
  split at hi
  ·exact(hr.lv id).2 hi
  ·simp at hi
 obj id o ho:=by
  rw[QW]at ho
  split at ho
  ·exact hr.obj id o ho
  ·cases ho
 snap:=(Vv hr D).snap
 now id hi:=by
  rw[QW]at hi
  split at hi
  ·rename_i hm
   unfold Vw.frzD;simp only
   rw[if_pos ⟨id,hm,(hr.lv id).2 hi,rfl⟩]
  ·simp at hi

mutual
/-- A value, some of whose memory becomes read-only. -/
inductive FrzA (h:Heap):V->V->Prop
 |same (v:V):FrzA h v v
 |frz (v v':V) (hf:Frz h v v'):FrzA h v v'
 |agg (cs cs':List V) (hc:FrzAL h cs cs'):FrzA h (.agg cs) (.agg cs')
inductive FrzAL (h:Heap):List V->List V->Prop
 |nil:FrzAL h [] []
 |cons (v v':V) (l l':List V) (hv:FrzA h v v') (hl:FrzAL h l l'):FrzAL h (v::l) (v'::l')
end

mutual
theorem FrzA.vr{W W':Vw}{h:Heap}{w:World}(z:Fz W h w W')(hle:Le W W'){v v':V}(f:FrzA h v v'){u:Value}(r:VR W v u):VR W' v' u:=by
 cases f with
 |same=>exact r.mono hle
 |frz _ _ hf=>exact hf.vr z r
 |agg cs cs' hc=>cases r with|agg _ us h1=>exact .agg _ _ (FrzAL.vr z hle hc h1)
theorem FrzAL.vr{W W':Vw}{h:Heap}{w:World}(z:Fz W h w W')(hle:Le W W'){l l':List V}(f:FrzAL h l l'){us:List Value}(r:VRs W l us):VRs W' l' us:=by
 cases f with
 |nil=>cases r;exact .nil
 |cons v v' l l' hv hl=>cases r with|cons _ u _ m h1 h2=>exact .cons _ _ _ _ (FrzA.vr z hle hv h1) (FrzAL.vr z hle hl h2)
end
noncomputable def Vw.cut(W W':Vw)(w':World):Vw:=by
 classical exact {mu:=W'.mu,sz:=W'.sz,kn:=W.kn,lv:=fun id=>W'.lv id∧W.kn id,snap:=fun b=>if∃i,¬W.kn i∧W'.lv i∧(W'.mu i).1=b then w'.heap[b]? else W'.snap b}

section
variable {W W':Vw} {w w':World}

theorem WO{h':Heap}(hh:HRel W' h' w')(b:Nat)(o:Obj)(hb:W'.snap b=some o):(W.cut W' w').snap b=some o:=by
 unfold Vw.cut;simp only
 split
 ·rename_i ho
  obtain⟨i,_,h2,rfl⟩:=ho
  rw[hh.apart i h2]at hb;cases hb
 ·exact hb

mutual
theorem VR.cut{h':Heap}(hh:HRel W' h' w'){v:V}{u0 u:Value}(r0:VR W v u0)(r:VR W' v u):VR (W.cut W' w') v u:=by
 cases r with
 |undef u=>exact .undef u
 |b x=>exact .b x
 |i k n=>exact .i k n
 |s l=>exact .s l
 |pn=>exact .pn
 |ps id off a hid ha=>
  cases r0 with|ps _ _ _ hid0 _=>exact .ps id off a hid0 (fun hl=>ha hl.1)
 |tpn a=>exact .tpn a
 |tp cs blk off c e fr us hs hc hr=>exact .tp cs blk off c e fr us (WO hh _ _ hs) hc (hr.mono (VV (WO hh)))
 |sln c k=>exact .sln c k
 |sls id off len cap k a cap' hid hl hc ha hn hk=>
  cases r0 with|sls _ _ _ _ _ _ _ hid0=>exact .sls id off len cap k a cap' hid0 hl hc (fun hv=>ha hv.1) (fun hv=>hn hv.1) (fun hv=>hk hv.1)
 |tsn len cap a cap' hl hc=>exact .tsn len cap a cap' hl hc
 |tsz cap hc=>exact .tsz cap hc
 |ts cs len cap cap' blk off c e fr us hl hcap hs hc hr=>exact .ts cs len cap cap' blk off c e fr us hl hcap (WO hh _ _ hs) hc (hr.mono (VV (WO hh)))
 |mpn=>exact .mpn
 |mps id r hid hr=>cases r0 with|mps _ _ hid0 _=>exact .mps id r hid0 (fun hl=>hr hl.1)
 |fn f a c ua uc ha hc=>cases r0 with|fn _ _ _ _ _ ha0 hc0=>exact .fn f a c ua uc (VRs.cut hh ha0 ha) (VRs.cut hh hc0 hc)
 |nilfn=>exact .nilfn
 |ifc t v u hv=>cases r0 with|ifc _ _ _ hv0=>exact .ifc t v u (VR.cut hh hv0 hv)
 |nilifc=>exact .nilifc
 |agg cs us hs=>cases r0 with|agg _ _ hs0=>exact .agg cs us (VRs.cut hh hs0 hs)
 |tup cs us hs=>cases r0 with|tup _ _ hs0=>exact .tup cs us (VRs.cut hh hs0 hs)
 |yl id l hid hl=>cases r0 with|yl _ _ hid0 _=>exact .yl id l hid0 (fun hv=>hl hv.1)
 termination_by SizeOf.sizeOf v
theorem VRs.cut{h':Heap}(hh:HRel W' h' w'){l:List V}{m0 m:List Value}(r0:VRs W l m0)(r:VRs W' l m):VRs (W.cut W' w') l m:=by
 cases r with
 |nil=>exact .nil
 |cons v u l m hv hs=>cases r0 with|cons _ _ _ _ hv0 hs0=>exact .cons v u l m (VR.cut hh hv0 hv) (VRs.cut hh hs0 hs)
 termination_by SizeOf.sizeOf l
end

theorem ZH0{σ:St}{a:Act}(h:Rel W σ a w){h1:Heap}(hh:HRel W' h1 w')(hs:Stp W W.own w W' W'.own w')(hsame: ∀i,i<σ.h.nx->h1.get i=σ.h.get i)(htg: ∀p,p∈σ.h.tg->p∈h1.tg){v r:V}{u:Value}(hvr:VR W' v u)
    {hN:Heap} (hN1: ∀i o,hN.get i=some o->h1.get i=some o∧σ.h.nx<=i) (hf:Frz hN v r):
    Rel (W.cut W' w') σ a w'∧VR (W.cut W' w') r u∧Stp W (mine W σ a) w (W.cut W' w') (mine (W.cut W' w') σ a) w'∧(∀b,mine (W.cut W' w') σ a b->mine W σ a b):=by
  have hlv: ∀id,W.kn id->(W'.lv id↔W.lv id):=fun id hid=>by
    rw[hh.lv id,h.heap.lv id,hsame id (h.heap.lt id (h.heap.kn id hid))]
  have hle:Le W (W.cut W' w'):=⟨fun _ h=>h,fun id hid=>hs.le.mu id hid,fun id hid=>hs.le.sz id hid,fun b o hb=>WO hh b o (hs.le.snap b o hb),fun id hid hl=>(hlv id hid).1 hl.1⟩
  have hlt: ∀id,W.lv id->W.kn id:=h.heap.lk
  have hnone: ∀b,b<w.heap.size->W.snap b=none-> ¬W.own b->(W.cut W' w').snap b=none:=by
    intro b hb h1 h2
    unfold Vw.cut;simp only
    rw[if_neg]
    · cases hb':W'.snap b with
      |none=>rfl
      |some o=>
        rcases hs.new b (by simp[hb'])with h3|h3|h3
        · exact absurd h1 h3
        · exact absurd h3 h2
        · omega
    · rintro⟨i,_,hi2,hi3⟩
      rcases hs.owns b ⟨i,hi2,hi3⟩with h3|h3
      · exact h2 h3
      · omega
  have hown: ∀b,(W.cut W' w').own b->W.own b:=by
    rintro b ⟨id,hl,rfl⟩
    refine⟨id,(hlv id hl.2).1 hl.1,?_⟩
    show _=(W'.mu id).1
    rw[hs.le.mu id hl.2]
  have hmine: ∀b,mine (W.cut W' w') σ a b->mine W σ a b:=by
    rintro b (hb|hb)
    · exact .inl (hown b hb)
    · exact .inr hb
  refine⟨⟨⟨h.heap.kn,fun id hl=>hl.2,fun id=> ?_,h.heap.lt,fun b o hb=> ?_,fun id o ho=> ?_,fun i j hi hj=>hh.inj i j hi.1 hj.1,fun id hl=> ?_,fun p hp=> ?tg,h.heap.gl.mono hle.snap⟩,h.size,fun t v ht=> ?_,h.box,h.refs,h.defers.turn fun r hr h1 h2=>⟨hs.keep r (Zq hr) h2,hnone r (Zq hr) h1 h2,fun ho=>h2 (hown r ho)⟩⟩,?_,⟨hle,hs.size,fun b hb hn=>hs.keep b hb fun ho=>hn (.inl ho),fun b hb=> .inl (hmine b hb),fun b hb=> ?_,hs.str⟩,hmine⟩
  case tg=>
    obtain⟨g1,g2⟩:=h.heap.tg p hp
    refine⟨g1,fun hl=> ?_⟩
    exact(hh.tg p (htg p hp)).2 hl.1
  · show(W'.lv id∧W.kn id)↔_
    rw[<-h.heap.lv id]
    exact⟨fun hl=>(hlv id hl.2).1 hl.1,fun hl=>⟨(hlv id (hlt id hl)).2 hl,hlt id hl⟩⟩
  · unfold Vw.cut at hb;simp only at hb
    split at hb
    · exact hb
    · exact hh.snap b o hb
  · have hid:id<σ.h.nx:=h.heap.ltg (by simp[ho])
    have ho1:h1.get id=some o:=by rw[hsame id hid];exact ho
    have r0:=h.heap.obj id o ho
    have r1:=hh.obj id o ho1
    cases o with
    |arr cs wr=>
      obtain⟨c,e,fr,g1,g2,g3,g4,g5⟩:=r1
      obtain⟨c0,e0,fr0,k1,k2,k3,k4,k5⟩:=r0
      refine⟨c,e,fr,g1,g2,g3,fun j v hj=> ?_,g5⟩
      obtain⟨u,q1,q2⟩:=g4 j v hj
      obtain⟨u0,q3,q4⟩:=k4 j v hj
      exact⟨u,q1,q4.cut hh q2⟩
    |map es=>
      obtain⟨m,k,g1,g2,g3⟩:=r1
      obtain⟨m0,k0,k1,k2,k3⟩:=r0
      exact⟨m,k,g1,k2.cut hh g2,k3.cut hh g3⟩
    |siter l pos=>exact r1
    |loop L=>
      obtain⟨fn,us,df,g1,g2⟩:=r1
      obtain⟨fn0,us0,df0,k1,k2⟩:=r0
      exact⟨fn,us,df,g1,k2.cut hh g2⟩
  · unfold Vw.cut;simp only
    rw[if_neg]
    · exact hh.apart id hl.1
    · rintro⟨i,h1,h2,h3⟩
      have:=hh.inj i id h2 hl.1 h3
      subst this
      exact h1 hl.2
  · obtain⟨u,h1,h2⟩:=h.env t v ht
    refine⟨u,h1,?_⟩
    cases v<;>first
      |exact VR.mono hle h2
      |exact h2
      |(obtain⟨b,c,e,hu,hb,hv,hsn,ho⟩:=h2
        have hbl:=Zq hb
        refine⟨b,c,e,hu,by rw[hs.keep b hbl ho];exact hb,VRs.mono hle hv,hnone b hbl hsn ho,fun hh=>ho (hown b hh)⟩)
  · refine hf.vr (W:=W') ⟨fun id hi=> ?_,fun id o ho=>hh.obj id o (hN1 id o ho).1,WO hh,fun id hi=> ?_⟩ hvr
    · obtain⟨o,ho⟩:=Option.isSome_iff_exists.1 hi
      exact(hh.lv id).2 (by simp[(hN1 id o ho).1])
    · obtain⟨o,ho⟩:=Option.isSome_iff_exists.1 hi
      unfold Vw.cut;simp only
      rw[if_pos ⟨id,h.heap.new (hN1 id o ho).2,(hh.lv id).2 (by simp[(hN1 id o ho).1]),rfl⟩]
  · unfold Vw.cut at hb;simp only at hb
    split at hb
    · rename_i ho
      obtain⟨i,_,h2,h3⟩:=ho
      rcases hs.owns b ⟨i,h2,h3⟩with h4|h4
      · exact .inr (.inl (.inl h4))
      · exact .inr (.inr h4)
    · rcases hs.new b hb with h4|h4|h4
      · exact .inl h4
      · exact .inr (.inl (.inl h4))
      · exact .inr (.inr h4)
end

theorem HRel.ext{W:Vw}{h h':Heap}{w:World}(r:HRel W h w)(hg: ∀i,h'.raw i=h.raw i)(hn:h'.nx=h.nx)(ht:h'.tg=h.tg):HRel W h' w:=
 have hgg: ∀i,h'.get i=h.get i:=fun i=>congrArg Option.join (hg i)
 ⟨fun id=>by rw[hg];exact r.kn id,r.lk,fun id=>by rw[hgg];exact r.lv id,fun id=>by rw[hg,hn];exact r.lt id,r.snap,fun id o=>by rw[hgg];exact r.obj id o,r.inj,r.apart,fun p=>by rw[ht];exact r.tg p,r.gl⟩
mutual
def veq:V->V->Bool
 | .b x, .b y=>x==y
 | .i j x, .i k y=>decide (j=k)&&x==y
 | .s l, .s m=>l==m
 | .p none, .p none| .mp none, .mp none| .nilfn, .nilfn| .nilifc, .nilifc=>true
 | .sl none 0 (some 0) 0, .sl none 0 (some 0) 0=>true
 |_,_=>false
end

theorem ZBx{a b:V}(h:veq a b=true):a=b:=by
 unfold veq at h
 split at h<;>first|rfl|(simp at h;first|(obtain⟨rfl,rfl⟩:=h;rfl)|(subst h;rfl))|cases h

def veqs:List V->List V->Bool
 | [],[]=>true
 |a::l,b::m=>veq a b&&veqs l m
 |_,_=>false

theorem Zpz: ∀ {l m:List V},veqs l m=true->l=m
 | [],[],_=>rfl
 |a::l,b::m,h=>by
  simp only[veqs,Bool.and_eq_true]at h
  rw[ZBx h.1,Zpz h.2]
 | [],_::_,h=>by simp[veqs]at h
 |_::_,[],h=>by simp[veqs]at h

def kdB(Y:YP)(t:TypeId):Kd->TypeDesc->Bool
 | .bool, .bool=>true
 | .int k, .int k'=>decide (k=k')
 | .str, .string=>true
 | .slice e, .slice e'=>e==e'
 | .arr n e, .array n' e'=>n==n'&&e==e'&& !Y.P.eqGuardType Y.P.depth t
 | .struct fs, .struct l=>fs==l.toList.map (fun f=>(f.offset,f.type))&&l.toList.all (fun f=> !(f.name=="_"))&& !Y.P.stoodInHeld t&& !Y.P.eqGuardType Y.P.depth t
 | .ptr e, .pointer e'=>e==e'
 | .map k e, .map k' e'=>k==k'&&e==e'
 | .func, .func _ _ _=>true
 | .iface, .interface _=>true
 |_,_=>false

theorem ZBy{Y:YP}{t:TypeId}{k:Kd}{d:TypeDesc}(h:kdB Y t k d=true):KdOK Y t k d:=by
 unfold kdB at h
 split at h<;>simp only[KdOK]
 ·simp at h;subst h;rfl
 ·simp at h;subst h;rfl
 ·simp at h;obtain⟨⟨rfl,rfl⟩,h⟩:=h;exact⟨rfl,h⟩
 ·rename_i fs l
  simp only[Bool.and_eq_true,beq_iff_eq,Bool.not_eq_true',List.all_eq_true,beq_eq_false_iff_ne]at h
  exact⟨l,rfl,h.1.1.1,fun f hf=>h.1.1.2 f (by simpa using hf),h.1.2,h.2⟩
 ·simp at h;subst h;rfl
 ·simp at h;obtain⟨rfl,rfl⟩:=h;rfl
 ·exact⟨_,_,_,rfl⟩
 ·exact⟨_,rfl⟩
 ·cases h

def tiB(Y:YP)(t:TypeId)(ti:TI):Bool:=
 match Y.P.info? t with
 |some i=>match Y.P.underlying t,i.zero with
  |some d,some z=>decide (i.size=ti.size)&&decide (i.bytes=ti.bytes)&&veqs ti.zero (z.cells.toList.map ofC)&&decide (ti.zero.length=ti.size)&&Zk ti.zero&&
    kdB Y t ti.kd d&&(aggD d==ti.kd.agg)&&(ti.kd.agg||decide (ti.size=1))
  |_,_=>false
 |none=>false

theorem VRs.ofCs(W:Vw): ∀l:List Value,VRs W (l.map ofC) l
 | []=> .nil
 |u::l=> .cons _ _ _ _ (VR.ofC W u) (VRs.ofCs W l)

theorem ZBz{Y:YP}{t:TypeId}{ti:TI}(h:tiB Y t ti=true): ∃i d z,TIOK Y t ti i d z:=by
 unfold tiB at h
 split at h
 ·rename_i i hi
  split at h
  ·rename_i d z hd hz
   simp only[Bool.and_eq_true,decide_eq_true_eq,beq_iff_eq,Bool.or_eq_true]at h
   obtain⟨⟨⟨⟨⟨⟨⟨h1,h2⟩,h3⟩,h4⟩,h5⟩,h6⟩,h7⟩,h8⟩:=h
   refine⟨i,d,z,hi,hd,hz,h1,h2,fun W=> ?_,h4,h5,ZBy h6,h7,fun ha=> ?_⟩
   ·rw[Zpz h3];exact VRs.ofCs W _
   ·rcases h8 with h8|h8
    ·rw[ha]at h8;cases h8
    ·exact h8
  ·cases h
 ·cases h

def tabB(Y:YP):Bool:=
 (List.range Y.tys.length).all (fun t=>match Y.ty t with|none=>true|some ti=>tiB Y t ti)&&Y.P.follows .mixedOrders&&Y.P.funcs.toList.all (fun f=> !(f.name=="runtime.NumGoroutine"))

theorem Zc3{Y:YP}(h:tabB Y=true)(he:Zx0 Y):YOK Y:=by
 simp only[tabB,Bool.and_eq_true,List.all_eq_true,List.mem_range]at h
 obtain⟨⟨h1,h2⟩,h3⟩:=h
 refine⟨fun t ti ht=> ?_,h2,fun f fn hf=> ?_,he⟩
 ·have hlt:t<Y.tys.length:=by
   unfold YP.ty at ht
   by_cases hl:t<Y.tys.length
   ·exact hl
   ·rw[List.getElem?_eq_none (Nat.le_of_not_lt hl)]at ht;cases ht
  have:=h1 t hlt
  rw[ht]at this
  exact ZBz this
 ·have:=h3 fn (by
   have h4:=Array.mem_of_getElem? hf
   simpa using h4)
  simpa using this
end Go.Y
