/- A part of the proof. -/
import Derived.Test.YteennilbmmlikaaGreatDoorYApp2
namespace Go.Y
set_option maxRecDepth 1000000
set_option maxHeartbeats 0
mutual
/-- What a value comes to, once its memory is read-only. -/
inductive Frz (h:Heap):V->V->Prop
 |undef:Frz h .undef .undef
 |b (x:Bool):Frz h (.b x) (.b x)
 |i (k:IntKind) (n:Int):Frz h (.i k n) (.i k n)
 |s (l:List UInt8):Frz h (.s l) (.s l)
 |pn:Frz h (.p none) (.p none)
 |sln (c:Option Nat) (k:Nat) (c':Option Nat) (hc: ∀x,c'=some x->x=0):Frz h (.sl none 0 c k) (.ts [] 0 c')
 |sln0 (c:Option Nat) (k:Nat):Frz h (.sl none 0 c k) (.sl none 0 c k)
 |sl (id off len:Nat) (cap:Option Nat) (k:Nat) (cs:List V) (wr:Bool) (c1 cs':List V) (cap':Option Nat) (hg:h.get id=some (.arr cs wr)) (ht:Zs (len*k) (cs.drop off)=some c1)
   (hp: ∀x,cap'=some x->cap=some x) (hk:k≠0) (hc:FrzL h c1 cs'):Frz h (.sl (some (id,off)) len cap k) (.ts cs' len cap')
 |ts (cs:List V) (len:Nat) (cap cap':Option Nat) (hp: ∀x,cap'=some x->cap=some x):Frz h (.ts cs len cap) (.ts cs len cap')
 |tp (cs:List V):Frz h (.tp cs) (.tp cs)
 |mpn:Frz h (.mp none) (.mp none)
 |fn (f:Fn) (a c a' c':List V) (ha:FrzL h a a') (hc:FrzL h c c'):Frz h (.fn f a c) (.fn f a' c')
 |nilfn:Frz h .nilfn .nilfn
 |ifc (t:TypeId) (v v':V) (hv:Frz h v v'):Frz h (.ifc t v) (.ifc t v')
 |nilifc:Frz h .nilifc .nilifc
 |agg (cs cs':List V) (hc:FrzL h cs cs'):Frz h (.agg cs) (.agg cs')
 |tup (cs cs':List V) (hc:FrzL h cs cs'):Frz h (.tup cs) (.tup cs')
inductive FrzL (h:Heap):List V->List V->Prop
 |nil:FrzL h [] []
 |cons (v v':V) (l l':List V) (hv:Frz h v v') (hl:FrzL h l l'):FrzL h (v::l) (v'::l')
end
theorem FrzL.length{h} : ∀ {l b:List V},FrzL h l b->l.length=b.length
 |_,_, .nil=>rfl
 |_,_, .cons _ _ _ _ _ c=>by simp[c.length]
theorem FrzL.append{h} : ∀ {l b m c:List V},FrzL h l b->FrzL h m c->FrzL h (l++m) (b++c)
 |_,_,_,_, .nil,g=>g
 |_,_,_,_, .cons _ _ _ _ e d,g=> .cons _ _ _ _ e (d.append g)
theorem Vh: ∀ {n:Nat} {l c:List V},Zs n l=some c->c.length=n
 |0,_,c,h=>by simp[Zs]at h;simp[<-h]
 |n+1,[],c,h=>by simp[Zs]at h
 |n+1,v::l,c,h=>by
  simp only[Zs,uG]at h;obtain⟨d,b,rfl⟩:=h;simp[Vh b]
theorem Zc1: ∀ {n:Nat} {l c:List V},Zs n l=some c-> ∀(j:Nat) (v:V),c[j]? =some v->l[j]? =some v
 |0,_,c,h,j,v,b=>by simp[Zs]at h;subst h;simp at b
 |n+1,[],c,h,j,v,b=>by simp[Zs]at h
 |n+1,x::l,c,h,j,v,b=>by
  simp only[Zs,uG]at h;obtain⟨d,e,rfl⟩:=h
  cases j with
  |zero=>simpa using b
  |succ j=>simp at b ⊢;exact Zc1 e j v b
structure Fz(W:Vw)(h:Heap)(w:World)(W':Vw):Prop where
 lv: ∀id,(h.get id).isSome->W.lv id
 obj: ∀id o,h.get id=some o->ORel W w id o
 snap: ∀b o,W.snap b=some o->W'.snap b=some o
 now: ∀id,(h.get id).isSome->W'.snap (W.mu id).1=w.heap[(W.mu id).1]?
theorem Zbo{W c:Vw}(h: ∀b o,W.snap b=some o->c.snap b=some o):Le W.dead c.dead:=
 ⟨λ_ h=>h,λ_ h=>h.elim,λ_ h=>h.elim,h,λ_ h=>h.elim⟩
mutual
theorem Frz.vr{W W'}{h}{w}(z:Fz W h w W'){v v'}(f:Frz h v v'){u}(r:VR W v u):VR W' v' u:=by
 cases f with
 |undef=>exact .undef _
 |b x=>cases r;exact .b _
 |i k n=>cases r;exact .i _ _
 |s l=>cases r;exact .s _
 |pn=>cases r;exact .pn
 |sln c k c' p=>cases r;exact .tsz _ p
 |sln0 c k=>cases r;exact .sln _ _
 |sl O m P cap k X wr c1 E A hg ht N hk p=>
  cases r with
  |sls _ _ _ _ _ a Z a3 H d ha hn a4=>
   have a1:W.lv O:=z.lv O (by simp[hg]);have B: ∀x,A=some x->Z=x:=λx y=>d x (N x y);by_cases h0:P=0
   .have e1:=Vh ht;have e2:=p.length;have:E= []:=by
     apply List.eq_nil_of_length_eq_zero;rw[<-e2,e1,h0,Nat.zero_mul]
    subst this;exact .tsn _ _ _ _ H B
   .have a0:=ha a1 om;obtain⟨c,e,K,g1,g2,g3,g4,g5⟩:=z.obj O _ hg;have C:=z.now O (by simp[hg]);rw[g1]at C;have a2: ∀(l:List V) (o:Nat),(∀j v,l[j]? =some v-> ∃u,c[o+j]? =some u/\VR W v u)-> ∃g,VRs W l g/\ ∀j u,g[j]? =some u->c[o+j]? =some u:=by
     intro l
     induction l with
     |nil=>intro o _;exact⟨[], .nil,λj u q=>by simp at q⟩
     |cons x l ih=>
      intro o y;obtain⟨u,q1,q2⟩:=y 0 x rfl;obtain⟨g,q3,q4⟩:=ih (o+1) (λj v q=>by
       obtain⟨u',p1,p2⟩:=y (j+1) v (su q);exact⟨u',by rw[<-p1];congr 1;omega,p2⟩)
      refine⟨u::g, .cons _ _ _ _ q2 q3,λj u' q=> ?_⟩
      cases j with
      |zero=>simp at q;subst q;exact q1
      |succ j=>simp at q;rw[<-q4 j u' q];congr 1;omega
    obtain⟨g,q1,q2⟩:=a2 c1 ((W.mu O).2+m) (λj v q=>by
     have L:=Zc1 ht j v q;rw[uz]at L;obtain⟨u,p1,p2⟩:=g4 _ _ L;exact⟨u,by rw[<-p1];congr 1;omega,p2⟩)
    subst a0;exact .ts _ _ _ _ _ _ c e K g H B C q2 (FrzL.vr (W':=W'.dead) ⟨z.lv,z.obj,z.snap,z.now⟩ p q1)
 |ts X P cap A N=>
  cases r with
  |tsn _ _ a Z H d=>exact .tsn _ _ _ _ H (λx y=>d x (N x y))
  |tsz _ d=>exact .tsz _ (λx y=>d x (N x y))
  |ts _ _ _ Z D m c e K g H d hs G hr=>exact .ts _ _ _ _ D m c e K g H (λx y=>d x (N x y)) (z.snap _ _ hs) G (hr.mono (Zbo z.snap))
 |tp X=>
  cases r with
  |tpn a=>exact .tpn a
  |tp _ D m c e K g hs G hr=>exact .tp _ D m c e K g (z.snap _ _ hs) G (hr.mono (Zbo z.snap))
 |mpn=>cases r;exact .mpn
 |fn f a c a' c' ha p=>cases r with|fn _ _ _ ua uc F h2=>exact .fn _ _ _ _ _ (FrzL.vr z ha F) (FrzL.vr z p h2)
 |nilfn=>cases r;exact .nilfn
 |ifc t v v' hv=>cases r with|ifc _ _ u F=>exact .ifc _ _ _ (Frz.vr z hv F)
 |nilifc=>cases r;exact .nilifc
 |agg X E p=>cases r with|agg _ g F=>exact .agg _ _ (FrzL.vr z p F)
 |tup X E p=>cases r with|tup _ g F=>exact .tup _ _ (FrzL.vr z p F)
theorem FrzL.vr{W W'}{h}{w}(z:Fz W h w W'){l b}(f:FrzL h l b){c:List Value}(r:VRs W l c):VRs W' b c:=by
 cases f with
 |nil=>cases r;exact .nil
 |cons v v' l b i g=>cases r with|cons _ u _ m d e=>exact .cons _ _ _ _ (Frz.vr z i d) (FrzL.vr z g e)
end
theorem Wg(b:Nat):Heap.empty.get b=none:=rfl
theorem Zuw(b:Nat):Heap.empty.raw b=none:=rfl
def Cold(l:List V):Prop:=FrzL Heap.empty l l
theorem Cold.vrs{l}(c:Cold l){W W':Vw}(f: ∀b o,W.snap b=some o->W'.snap b=some o){e:List Value}(r:VRs W l e):VRs W' l e:=
 FrzL.vr (h:=Heap.empty) (w:=default) ⟨λd h=>by simp[Wg]at h,λd o h=>by simp[Wg]at h,f,λd h=>by simp[Wg]at h⟩ c r
def PTr(Y:YP)(f:FuncId)(g:List V)(P:V->Prop):Prop:=
 ∀(W:Vw) (w:World) (i:List Value),(∀b o,W.snap b=some o->w.heap[b]? =some o)->Tabbed W->VRs W g i->Calls Y.P f i.toArray w λe h=>
  ∃(r:V) (c:Vw) (u:Value),P r/\e= .returned u/\VR c r u/\(∀b o,W.snap b=some o->c.snap b=some o)/\(∀b o,c.snap b=some o->h.heap[b]? =some o)/\
   (∀b,c.snap b≠none->W.snap b≠none\/w.heap.size<=b)/\w.heap.size<=h.heap.size/\(∀b,b<w.heap.size->h.heap[b]? =w.heap[b]?)/\(∀d,(∀b o,c.snap b=some o->d.snap b=some o)->VR d r u)/\Str w h
theorem PTr.mono{Y}{f}{b}{P c:V->Prop}(h:PTr Y f b P)(i: ∀r,P r->c r):PTr Y f b c:=
 λW w l j g k=>(h W w l j g k).mono λ_ _ ⟨r,W',u,d,e⟩=>⟨r,W',u,i _ d,e⟩
structure PCon(Y:YP)(f:FuncId)(args:List V)(P:V->Prop):Prop where
 body:Jo Y f
 tr:PTr Y f args P
theorem PCon.mono{Y}{f}{b}{P c:V->Prop}(h:PCon Y f b P)(d: ∀r,P r->c r):PCon Y f b c:=⟨h.body,h.tr.mono d⟩
noncomputable def Vw.all(W:Vw)(w:World):Vw:=by
 classical exact {W with snap:=λb=>if W.own b then w.heap[b]? else W.snap b,lv:=λ_=>False}
theorem HRel.all{W:Vw}{h}{w}(r:HRel W h w):Fz W h w (W.all w) where
 lv c hi:=(r.lv c).2 hi
 obj:=r.obj
 snap b o hb:=by
  unfold Vw.all;simp only;split;rename_i e;obtain⟨c,d,rfl⟩:=e;rw[r.apart c d]at hb;cases hb;exact hb
 now c hi:=by
  unfold Vw.all;simp only;rw[uF ⟨c,(r.lv c).2 hi,rfl⟩]
theorem PTr.of{Y}{f}{j}{Q}{P:V->Prop}(hc:Cold j)(ht:CallTr Y f j Heap.empty Q)(hq: ∀v h,Q v h-> ∃r,Frz h v r/\P r):PTr Y f j P:=by
 intro W w G hs A hv
 let W0:Vw:= {mu:=λ_=>(0,0),sz:=λ_=>0,snap:=W.snap,lv:=λ_=>False,kn:=λ_=>False}
 have O:HRel W0 Heap.empty w:=⟨λ_ h=>h.elim,λ_ h=>h.elim,λs=>by simp[W0,Wg],λs h=>by simp[Zuw]at h,hs,λs o h=>by simp[Wg]at h,λ_ _ h=>h.elim,λ_ h=>h.elim,λp B=>(nomatch B),A.mono λ_ _ h=>h⟩;have n: ∀b,¬W0.own b:=λb ⟨_,h,_⟩=>h;refine(ht W0 w G O (Cold.vrs (W:=W) (W':=W0) hc (λ_ _ h=>h) hv)).mono ?_;rintro e H ⟨v,N,y,u,Z,rfl,C,x,g⟩;obtain⟨r,E,B⟩:=hq v N Z;have z:=C.all;refine⟨r,y.all H,u,B,rfl,E.vr z x,λb o d=>z.snap b o (g.le.snap b o d),?_,?_,g.size,λb d=>g.keep b d (n b),λK D=> ?_,g.str⟩;intro b o d;unfold Vw.all at d;simp only at d;split at d;exact d;exact C.snap b o d;intro b d;unfold Vw.all at d;simp only at d;split at d;rename_i t;rcases g.owns b t with i|i;exact absurd i (n b);exact .inr i;rcases g.new b d with i|i|i;exact .inl i;exact absurd i (n b);exact .inr i
 .exact E.vr ⟨z.lv,z.obj,λb o d=>D b o (z.snap b o d),λs F=>by
   have i:=z.now s F;have X: ∃o,H.heap[(y.mu s).1]? =some o:=by
    obtain⟨o,t⟩:=Option.isSome_iff_exists.1 F;have:=C.obj s o t
    cases o with
    |arr cs wr=>obtain⟨c,e,fr,q,_⟩:=this;exact⟨_,q⟩
    |map es=>obtain⟨m,k,q,_⟩:=this;exact⟨_,q⟩
    |siter l a0=>exact⟨_,this⟩
    |loop L=>obtain⟨fn,G,df,q,_⟩:=this;exact⟨_,q⟩
   obtain⟨o,t⟩:=X;rw[t]at i ⊢;exact D _ _ i⟩ x
/-! ### Values without memory -/
def Zi6:V->Bool
 | .b _| .i _ _| .s _| .p none| .mp none| .nilfn| .nilifc| .fn _ [] []| .sl none 0 _ _=>true
 |_=>false
def Zhf:List V->Bool
 | []=>true
 |v::r=>Zi6 v&&Zhf r
def Zsm:V->Bool
 | .agg b=>Zhf b
 |v=>Zi6 v
def Zhg:List V->Bool
 | []=>true
 |v::r=>Zsm v&&Zhg r
def Zi7:V->Bool
 | .tup b=>Zhg b
 |v=>Zsm v
theorem Zi8{v:V}(h:Zi6 v=true)(c):Frz c v v:=by unfold Zi6 at h;split at h<;>first|exact .b _|exact .i _ _|exact .s _|exact .pn|exact .mpn|exact .nilfn|exact .nilifc|exact .fn _ _ _ _ _ .nil .nil|exact .sln0 _ _|cases h
theorem Zk1(b): ∀ {l:List V},Zhf l=true->FrzL b l l
 | [],_=> .nil
 |v::r,h=>by simp only[Zhf,uH]at h;exact .cons _ _ _ _ (Zi8 h.1 b) (Zk1 b h.2)
theorem Zpz{v:V}(h:Zsm v=true)(b):Frz b v v:=by unfold Zsm at h;split at h;exact .agg _ _ (Zk1 b h);exact Zi8 h b
theorem Zk2(b): ∀ {l:List V},Zhg l=true->FrzL b l l
 | [],_=> .nil
 |v::r,h=>by simp only[Zhg,uH]at h;exact .cons _ _ _ _ (Zpz h.1 b) (Zk2 b h.2)
theorem Zzw{v:V}(h:Zi7 v=true)(b):Frz b v v:=by
 unfold Zi7 at h;split at h;exact .tup _ _ (Zk2 b h);exact Zpz h b
theorem Zp0{v:V}(h:Zi6 v=true){W c}{u}(r:VR W v u):VR c v u:=by unfold Zi6 at h;split at h<;>first|(cases r;first|exact .b _|exact .i _ _|exact .s _|exact .pn|exact .mpn|exact .nilfn|exact .nilifc|(rename_i d e;cases d;cases e;exact .fn _ _ _ _ _ .nil .nil)|exact .sln _ _)|cases h
theorem Zk3{W c} : ∀ {l:List V} {b:List Value},Zhf l=true->VRs W l b->VRs c l b
 | [],_,_,r=>by cases r;exact .nil
 |v::l,_,h,r=>by
  simp only[Zhf,uH]at h
  cases r with|cons _ _ _ _ d e=>exact .cons _ _ _ _ (Zp0 h.1 d) (Zk3 h.2 e)
theorem Zp1{v:V}(h:Zsm v=true){W b}{u}(r:VR W v u):VR b v u:=by
 unfold Zsm at h;split at h
 .cases r with|agg _ _ c=>exact .agg _ _ (Zk3 h c)
 .exact Zp0 h r
theorem Zk4{W c} : ∀ {l:List V} {b:List Value},Zhg l=true->VRs W l b->VRs c l b
 | [],_,_,r=>by cases r;exact .nil
 |v::l,_,h,r=>by
  simp only[Zhg,uH]at h
  cases r with|cons _ _ _ _ d e=>exact .cons _ _ _ _ (Zp1 h.1 d) (Zk4 h.2 e)
theorem Zzx{v:V}(h:Zi7 v=true){W b}{u}(r:VR W v u):VR b v u:=by
 unfold Zi7 at h;split at h
 .cases r with|tup _ _ c=>exact .tup _ _ (Zk4 h c)
 .exact Zp1 h r
def Ze8:V->Bool
 | .ts _ _ _| .tp _=>true
 |v=>Zi6 v
def ZZ:List V->Bool
 | []=>true
 |v::r=>Ze8 v&&ZZ r
def Zg4:V->Bool
 | .agg b=>ZZ b
 |v=>Ze8 v
def Xp:List V->Bool
 | []=>true
 |v::r=>Zg4 v&&Xp r
/-! ### The call, from a frame -/
def Vw.more(W:Vw)(n:Nat)(s:Nat->Option Obj):Vw:= {W with snap:=λb=>if n<=b then s b else W.snap b}
theorem Zux{W:Vw}{w:World}{s:Nat->Option Obj}(d: ∀b o,W.snap b=some o->s b=some o):Le W (W.more w.heap.size s):=
 ⟨λ_ h=>h,λ_ _=>rfl,λ_ _=>rfl,λb o c=>by
  unfold Vw.more;simp only;split;exact d b o c
  .exact c,λ_ _ h=>h⟩
section
variable {Y:YP} {σ:St} {W:Vw} {a:Act} {w:World}
theorem Rel.more(h:Rel W σ a w){w':World}{s:Nat->Option Obj}(G: ∀b o,W.snap b=some o->s b=some o)(hz:w.heap.size<=w'.heap.size)
    (A: ∀b,b<w.heap.size->w'.heap[b]? =w.heap[b]?) (F: ∀b o,s b=some o->w'.heap[b]? =some o) (x:Str w w'):
    Rel (W.more w.heap.size s) σ a w'/\Stp W (mine W σ a) w (W.more w.heap.size s) (mine (W.more w.heap.size s) σ a) w':=by
  have g:=Zux (w:=w) G;have d:Same w w':=λb o f=>by rw[A b (Zt f)];exact f
  have B: ∀i,W.lv i->(W.mu i).1<w.heap.size:=by
    intro i y;obtain⟨o,j⟩:=Option.isSome_iff_exists.1 ((h.heap.lv i).1 y);have:=h.heap.obj i o j
    cases o with
    |arr P wr=>obtain⟨c,e,fr,q,_⟩:=this;exact Zt q
    |map Z=>obtain⟨m,k,q,_⟩:=this;exact Zt q
    |siter l O=>exact Zt this
    |loop L=>obtain⟨fn,us,X,q,_⟩:=this;exact Zt q
  refine⟨⟨⟨h.heap.kn,h.heap.lk,h.heap.lv,h.heap.lt,?_,?_,h.heap.inj,?_,λp C=>⟨(h.heap.tg p C).1,(((h.heap.tg p C).2).same d).mono g (h.heap.tg p C).1⟩,h.heap.gl.mono g.snap⟩,h.size,?_,h.box,h.refs,h.defers.turn λr E h1 n=>⟨by rw[A r (Zt E)],by
    have:=Zt E;simp only[Vw.more];rw[uE om];exact h1,n⟩⟩,⟨g,hz,λb f _=>A b f,λb f=> .inl f,?_,x⟩⟩
  · intro b o f
    simp only[Vw.more]at f;split at f
    · exact F b o f
    · exact d b o (h.heap.snap b o f)
  · intro i o j
    exact((h.heap.obj i o j).same d).mono g (h.heap.known (by simp[j]))
  · intro i y
    have:=B i y;simp only[Vw.more];rw[uE om];exact h.heap.apart i y
  · intro t v H
    obtain⟨u,h1,n⟩:=h.env t v H;refine⟨u,h1,?_⟩;cases v<;>first
      |exact VR.mono g n
      |exact n
      |(obtain⟨b,c,e,K,f,N,D,j⟩:=n
        refine⟨b,c,e,K,d _ _ f,VRs.mono g N,?_,j⟩;have:=Zt f;simp only[Vw.more];rw[uE om];exact D)
  · intro b f
    simp only[Vw.more]at f;split at f
    · rename_i z;exact .inr (.inr z)
    · exact .inl f
theorem pcall(h:Rel W σ a w){f}{d args':List V}{P:V->Prop}(D:PTr Y f args' P)(G:FrzL σ.h d args')(l:Cold d/\args'=d\/ ∀r,P r->Zi7 r=true){m:List Value}(E:VRs W d m):
  Calls Y.P f m.toArray w λe n=> ∃(r:V) (g:Vw) (u:Value),P r/\e= .returned u/\Rel g σ a n/\VR g r u/\Stp W (mine W σ a) w g (mine g σ a) n/\ ∀b,mine g σ a b->mine W σ a b:=by
 rcases l with ⟨l,rfl⟩|l
 .refine(D W w m h.heap.snap h.heap.gl E).mono ?_;rintro e n ⟨r,g,u,j,rfl,_,t,A,B,v,k,C,x⟩;obtain⟨p,q⟩:=h.more (s:=g.snap) t v k A x;refine⟨r,_,u,j,rfl,p,C _ ?_,q,λb c=>c⟩;intro b o c;simp only[Vw.more];split;exact c
  .rename_i y;rcases B b (by simp[c])with h9'|h9'
   .cases i:W.snap b with
    |none=>exact absurd i h9'
    |some H=>rw[t b H i]at c;exact c
   .exact absurd h9' y
 .have z:=h.heap.all;refine(D (W.all w) w m (λb o c=> ?_) (h.heap.gl.mono z.snap) (G.vr z E)).mono ?_;unfold Vw.all at c;simp only at c;split at c;exact c;exact h.heap.snap b o c;rintro e n ⟨r,g,u,j,rfl,F,t,A,B,v,k,C,x⟩;obtain⟨p,q⟩:=h.more (s:=W.snap) (λ_ _ h=>h) v k (λb o c=>by
   rw[k b (Zt (h.heap.snap b o c))];exact h.heap.snap b o c) x
  exact⟨r,_,u,j,rfl,p,Zzx (l r j) F,q,λb c=>c⟩
end
/-! ### Some objects become read-only -/
def XP(h:Heap)(D:List Nat):Heap:=D.foldl (λh i=>if(h.get i).isSome then h.set i none else h) h
def Vi(h:Heap)(D:List Nat):Heap:=D.foldl (λb i=>b.set i (h.get i)) .empty
theorem Xv: ∀(D:List Nat) (h:Heap) (j:Nat),(XP h D).get j=if j∈D then none else h.get j
 | [],h,j=>by simp[XP]
 |i::D,h,j=>by
  have:=Xv D (if(h.get i).isSome then h.set i none else h) j;unfold XP at*;rw[uR,this];by_cases c:j∈D;simp[c]
  .rw[uE c]
   cases d:(h.get i).isSome with
   |true=>
    simp only[vG,Heap.get_set];by_cases b:j=i;simp[b];simp[c,b]
   |false=>
    simp only[uI,vF];by_cases b:j=i;subst b;simp only[List.mem_cons,true_or,vG];simpa using d;simp[c,b]
theorem Zp2: ∀(D:List Nat) (h:Heap),(XP h D).tg=h.tg
 | [],h=>rfl
 |i::D,h=>by
  have:=Zp2 D (if(h.get i).isSome then h.set i none else h);unfold XP at*;rw[uR,this];split<;>rfl
theorem Qs: ∀(D:List Nat) (h:Heap),(XP h D).nx=h.nx
 | [],h=>rfl
 |i::D,h=>by
  have:=Qs D (if(h.get i).isSome then h.set i none else h);unfold XP at*;rw[uR,this];split<;>rfl
theorem Ze9: ∀(D:List Nat) (h:Heap) (j:Nat),((XP h D).raw j).isSome=(h.raw j).isSome
 | [],h,j=>rfl
 |i::D,h,j=>by
  have:=Ze9 D (if(h.get i).isSome then h.set i none else h) j;unfold XP at*;rw[uR,this];split;rename_i b;rw[Heap.raw_set];split;rename_i e;subst e;rw[Heap.raw_of b];rfl;rfl;rfl
theorem Zk5(h:Heap): ∀(D:List Nat) (b:Heap) (j:Nat),(D.foldl (λb i=>b.set i (h.get i)) b).get j=if j∈D then h.get j else b.get j
 | [],b,j=>sm
 |i::D,b,j=>by
  rw[uR,Zk5 h D _ j,Heap.get_set];by_cases c:j∈D;simp[c];by_cases d:j=i;subst d;simp;simp[c,d]
theorem QK(h:Heap)(D:List Nat)(j:Nat):(Vi h D).get j=if j∈D then h.get j else none:=by
 unfold Vi;rw[Zk5]
 rfl
noncomputable def Vw.frzD(W:Vw)(D:List Nat)(w:World):Vw:=by
 classical exact {W with snap:=λb=>if∃i,i∈D/\W.lv i/\(W.mu i).1=b then w.heap[b]? else W.snap b,lv:=λc=>W.lv c/\c∉D}
theorem HRel.block{W:Vw}{h}{w:World}(d:HRel W h w){b:Nat}(f:W.lv b): ∃o,w.heap[(W.mu b).1]? =some o:=by
 obtain⟨o,g⟩:=Option.isSome_iff_exists.1 ((d.lv b).1 f);have:=d.obj b o g
 cases o with
 |arr j wr=>obtain⟨c,e,s,q,_⟩:=this;exact⟨_,q⟩
 |map p=>obtain⟨m,k,q,_⟩:=this;exact⟨_,q⟩
 |siter l i=>exact⟨_,this⟩
 |loop L=>obtain⟨r,t,n,q,_⟩:=this;exact⟨_,q⟩
theorem Vj{W:Vw}{h}{w}(e:HRel W h w)(D):Le W (W.frzD D w) where
 kn _ h:=h
 mu _ _:=rfl
 sz _ _:=rfl
 snap b o hb:=by
  unfold Vw.frzD;simp only;split;rename_i d;obtain⟨i,_,c,rfl⟩:=d;rw[e.apart i c]at hb;cases hb;exact hb
 lv _ _ h:=h.1
theorem HRel.frzD{W:Vw}{h}{w}(d:HRel W h w)(D):HRel (W.frzD D w) (XP h D) w/\Stp W W.own w (W.frzD D w) (W.frzD D w).own w:=by
 have g:=Vj d D;refine⟨⟨λj c=>by rw[Ze9];exact d.kn j c,λj c=>d.lk j c.1,λj=> ?_,λj c=>by rw[Qs];rw[Ze9]at c;exact d.lt j c,λb o f=> ?_,λj o c=> ?_,λj k n l=>d.inj j k n.1 l.1,λj c=> ?_,λp s=> ?tg,d.gl.mono g.snap⟩,
  ⟨g,Nat.le_refl _,λb _ _=>rfl,λb f=> ?_,λb f=> ?_, .refl w⟩⟩
 case tg=>
  have m:p∈h.tg:=by rw[<-Zp2 D h];exact s
  exact⟨(d.tg p m).1,((d.tg p m).2).mono g (d.tg p m).1⟩
 .rw[Xv];show(W.lv j/\j∉D)↔_;by_cases e:j∈D;simp[e];simp[e,d.lv j]
 .unfold Vw.frzD at f;simp only at f;split at f;exact f;exact d.snap b o f
 .rw[Xv]at c;by_cases e:j∈D;simp[e]at c;simp[e]at c;exact(d.obj j o c).mono g (d.known (by simp[c]))
 .unfold Vw.frzD;simp only;rw[uE];exact d.apart j c.1;rintro⟨i,n,l,q⟩;have:=d.inj i j l c.1 q;subst this;exact c.2 n
 .obtain⟨t,n,l⟩:=f;exact .inl ⟨t,n.1,l⟩
 .unfold Vw.frzD at f;simp only at f;split at f;rename_i r;obtain⟨i,_,l,q⟩:=r;exact .inr (.inl ⟨i,l,q⟩);exact .inl f
theorem Fz.of{W:Vw}{h}{w}(b:HRel W h w)(D):Fz W (Vi h D) w (W.frzD D w) where
 lv id hi:=by
  rw[QK]at hi;split at hi;exact(b.lv id).2 hi;simp at hi
 obj id o ho:=by
  rw[QK]at ho;split at ho;exact b.obj id o ho;cases ho
 snap:=(Vj b D).snap
 now id hi:=by
  rw[QK]at hi;split at hi;rename_i c;unfold Vw.frzD;simp only;rw[uF ⟨id,c,(b.lv id).2 hi,rfl⟩];simp at hi
mutual
/-- A value, some of whose memory becomes read-only. -/
inductive FrzA (h:Heap):V->V->Prop
 |same (v:V):FrzA h v v
 |frz (v v':V) (hf:Frz h v v'):FrzA h v v'
 |agg (cs cs':List V) (hc:FrzAL h cs cs'):FrzA h (.agg cs) (.agg cs')
inductive FrzAL (h:Heap):List V->List V->Prop
 |nil:FrzAL h [] []
 |cons (v v':V) (l l':List V) (hv:FrzA h v v') (hl:FrzAL h l l'):FrzAL h (v::l) (v'::l')
end
mutual
theorem FrzA.vr{W W'}{h}{w}(z:Fz W h w W')(b:Le W W'){v v'}(f:FrzA h v v'){u}(r:VR W v u):VR W' v' u:=by
 cases f with
 |same=>exact r.mono b
 |frz _ _ g=>exact g.vr z r
 |agg i c e=>cases r with|agg _ j d=>exact .agg _ _ (FrzAL.vr z b e d)
theorem FrzAL.vr{W W'}{h}{w}(z:Fz W h w W')(b:Le W W'){l c}(f:FrzAL h l c){d:List Value}(r:VRs W l d):VRs W' c d:=by
 cases f with
 |nil=>cases r;exact .nil
 |cons v v' l c j i=>cases r with|cons _ u _ m e g=>exact .cons _ _ _ _ (FrzA.vr z b j e) (FrzAL.vr z b i g)
end
noncomputable def Vw.cut(W W':Vw)(w':World):Vw:=by
 classical exact {mu:=W'.mu,sz:=W'.sz,kn:=W.kn,lv:=λa=>W'.lv a/\W.kn a,snap:=λb=>if∃i,¬W.kn i/\W'.lv i/\(W'.mu i).1=b then w'.heap[b]? else W'.snap b}
section
variable {W W':Vw} {w w':World}
theorem VJ{c}(e:HRel W' c w')(b:Nat)(o:Obj)(a:W'.snap b=some o):(W.cut W' w').snap b=some o:=by
 unfold Vw.cut;simp only;split;rename_i f;obtain⟨i,_,d,rfl⟩:=f;rw[e.apart i d]at a;cases a;exact a
mutual
theorem VR.cut{X}(p:HRel W' X w'){v}{u0 u}(y:VR W v u0)(r:VR W' v u):VR (W.cut W' w') v u:=by
 cases r with
 |undef u=>exact .undef u
 |b x=>exact .b x
 |i k n=>exact .i k n
 |s l=>exact .s l
 |pn=>exact .pn
 |ps E h a B G=>
  cases y with|ps _ _ _ d _=>exact .ps E h a d (λm=>G m.1)
 |tpn a=>exact .tpn a
 |tp A z h c e L F C j K=>exact .tp A z h c e L F (VJ p _ _ C) j (K.mono (Zbo (VJ p)))
 |sln c k=>exact .sln c k
 |sls E h o cap k a g B m j G Z Y=>
  cases y with|sls _ _ _ _ _ _ _ d=>exact .sls E h o cap k a g d m j (λq=>G q.1) (λq=>Z q.1) (λq=>Y q.1)
 |tsn o cap a g m j=>exact .tsn o cap a g m j
 |tsz cap j=>exact .tsz cap j
 |ts A o cap g z h c e L F m H C j K=>exact .ts A o cap g z h c e L F m H (VJ p _ _ C) j (K.mono (Zbo (VJ p)))
 |mpn=>exact .mpn
 |mps E r B K=>cases y with|mps _ _ d _=>exact .mps E r d (λm=>K m.1)
 |fn f a c ua uc G j=>cases y with|fn _ _ _ _ _ N O=>exact .fn f a c ua uc (VRs.cut p N G) (VRs.cut p O j)
 |nilfn=>exact .nilfn
 |ifc t v u q=>cases y with|ifc _ _ _ P=>exact .ifc t v u (VR.cut p P q)
 |nilifc=>exact .nilifc
 |agg A F C=>cases y with|agg _ _ D=>exact .agg A F (VRs.cut p D C)
 |tup A F C=>cases y with|tup _ _ D=>exact .tup A F (VRs.cut p D C)
 |yl E l B m=>cases y with|yl _ _ d _=>exact .yl E l d (λq=>m q.1)
 termination_by SizeOf.sizeOf v
theorem VRs.cut{d}(c:HRel W' d w'){l}{g m:List Value}(h:VRs W l g)(r:VRs W' l m):VRs (W.cut W' w') l m:=by
 cases r with
 |nil=>exact .nil
 |cons v u l m f e=>cases h with|cons _ _ _ _ b a=>exact .cons v u l m (VR.cut c b f) (VRs.cut c a e)
 termination_by SizeOf.sizeOf l
end
theorem ZP0{A:St}{a:Act}(h:Rel W A a w){y:Heap}(s:HRel W' y w')(z:Stp W W.own w W' W'.own w')(F: ∀i,i<A.h.nx->y.get i=A.h.get i)(a5: ∀p,p∈A.h.tg->p∈y.tg){v r:V}{u}(a6:VR W' v u)
    {hN:Heap} (H: ∀i o,hN.get i=some o->y.get i=some o/\A.h.nx<=i) (hf:Frz hN v r):
    Rel (W.cut W' w') A a w'/\VR (W.cut W' w') r u/\Stp W (mine W A a) w (W.cut W' w') (mine (W.cut W' w') A a) w'/\(∀b,mine (W.cut W' w') A a b->mine W A a b):=by
  have N: ∀d,W.kn d->(W'.lv d↔W.lv d):=λd q=>by
    rw[s.lv d,h.heap.lv d,F d (h.heap.lt d (h.heap.kn d q))]
  have K:Le W (W.cut W' w'):=⟨λ_ h=>h,λd q=>z.le.mu d q,λd q=>z.le.sz d q,λb o f=>VJ s b o (z.le.snap b o f),λd q g=>(N d q).1 g.1⟩;have Z: ∀d,W.lv d->W.kn d:=h.heap.lk;have D: ∀b,b<w.heap.size->W.snap b=none-> ¬W.own b->(W.cut W' w').snap b=none:=by
    intro b f y x;unfold Vw.cut;simp only;rw[uE]
    · cases a0:W'.snap b with
      |none=>rfl
      |some o=>
        rcases z.new b (by simp[a0])with B|B|B
        · exact absurd y B
        · exact absurd B x
        · omega
    · rintro⟨i,_,a1,a2⟩
      rcases z.owns b ⟨i,a1,a2⟩with B|B
      · exact x B
      · omega
  have E: ∀b,(W.cut W' w').own b->W.own b:=by
    rintro b ⟨d,g,rfl⟩;refine⟨d,(N d g.2).1 g.1,?_⟩;show _=(W'.mu d).1;rw[z.le.mu d g.2]
  have C: ∀b,mine (W.cut W' w') A a b->mine W A a b:=by
    rintro b (f|f)
    · exact .inl (E b f)
    · exact .inr f
  refine⟨⟨⟨h.heap.kn,λd g=>g.2,λd=> ?_,h.heap.lt,λb o f=> ?_,λd o n=> ?_,λi j Y hj=>s.inj i j Y.1 hj.1,λd g=> ?_,λp hp=> ?tg,h.heap.gl.mono K.snap⟩,h.size,λt v ht=> ?_,h.box,h.refs,h.defers.turn λr hr y x=>⟨z.keep r (Zt hr) x,D r (Zt hr) y x,λn=>x (E r n)⟩⟩,?_,⟨K,z.size,λb f hn=>z.keep b f λn=>hn (.inl n),λb f=> .inl (C b f),λb f=> ?_,z.str⟩,C⟩
  case tg=>
    obtain⟨O,P⟩:=h.heap.tg p hp;refine⟨O,λg=> ?_⟩;exact(s.tg p (a5 p hp)).2 g.1
  · show(W'.lv d/\W.kn d)↔_
    rw[<-h.heap.lv d];exact⟨λg=>(N d g.2).1 g.1,λg=>⟨(N d (Z d g)).2 g,Z d g⟩⟩
  · unfold Vw.cut at f;simp only at f
    split at f
    · exact f
    · exact s.snap b o f
  · have q:d<A.h.nx:=h.heap.ltg (by simp[n])
    have a3:y.get d=some o:=by rw[F d q];exact n
    have r0:=h.heap.obj d o n;have r1:=s.obj d o a3
    cases o with
    |arr cs wr=>
      obtain⟨c,e,fr,O,P,g3,g4,g5⟩:=r1;obtain⟨c0,e0,a9,k1,k2,k3,k4,k5⟩:=r0;refine⟨c,e,fr,O,P,g3,λj v hj=> ?_,g5⟩;obtain⟨u,q1,q2⟩:=g4 j v hj;obtain⟨u0,q3,q4⟩:=k4 j v hj;exact⟨u,q1,q4.cut s q2⟩
    |map es=>
      obtain⟨m,k,O,P,g3⟩:=r1;obtain⟨m0,k0,k1,k2,k3⟩:=r0;exact⟨m,k,O,k2.cut s P,k3.cut s g3⟩
    |siter l b0=>exact r1
    |loop L=>
      obtain⟨fn,us,df,O,P⟩:=r1;obtain⟨a8,b1,a7,k1,k2⟩:=r0;exact⟨fn,us,df,O,k2.cut s P⟩
  · unfold Vw.cut;simp only
    rw[uE]
    · exact s.apart d g.1
    · rintro⟨i,y,x,B⟩
      have:=s.inj i d x g.1 B;subst this;exact y g.2
  · obtain⟨u,y,x⟩:=h.env t v ht
    refine⟨u,y,?_⟩;cases v<;>first
      |exact VR.mono K x
      |exact x
      |(obtain⟨b,c,e,hu,f,hv,a4,n⟩:=x
        have X:=Zt f;refine⟨b,c,e,hu,by rw[z.keep b X n];exact f,VRs.mono K hv,D b X a4 n,λs=>n (E b s)⟩)
  · refine hf.vr (W:=W') ⟨λd Y=> ?_,λd o n=>s.obj d o (H d o n).1,VJ s,λd Y=> ?_⟩ a6
    · obtain⟨o,n⟩:=Option.isSome_iff_exists.1 Y
      exact(s.lv d).2 (by simp[(H d o n).1])
    · obtain⟨o,n⟩:=Option.isSome_iff_exists.1 Y
      unfold Vw.cut;simp only;rw[uF ⟨d,h.heap.new (H d o n).2,(s.lv d).2 (by simp[(H d o n).1]),rfl⟩]
  · unfold Vw.cut at f;simp only at f
    split at f
    · rename_i n
      obtain⟨i,_,x,B⟩:=n;rcases z.owns b ⟨i,x,B⟩with G|G
      · exact .inr (.inl (.inl G))
      · exact .inr (.inr G)
    · rcases z.new b f with G|G|G
      · exact .inl G
      · exact .inr (.inl (.inl G))
      · exact .inr (.inr G)
end
theorem HRel.ext{W}{h b:Heap}{w}(r:HRel W h w)(d: ∀i,b.raw i=h.raw i)(e:b.nx=h.nx)(f:b.tg=h.tg):HRel W b w:=
 have c: ∀i,b.get i=h.get i:=λi=>congrArg Option.join (d i)
 ⟨λa=>by rw[d];exact r.kn a,r.lk,λa=>by rw[c];exact r.lv a,λa=>by rw[d,e];exact r.lt a,r.snap,λa o=>by rw[c];exact r.obj a o,r.inj,r.apart,λp=>by rw[f];exact r.tg p,r.gl⟩
mutual
def veq:V->V->Bool
 | .b x, .b y=>x==y
 | .i j x, .i k y=>decide (j=k)&&x==y
 | .s l, .s m=>l==m
 | .p none, .p none| .mp none, .mp none| .nilfn, .nilfn| .nilifc, .nilifc=>true
 | .sl none 0 (some 0) 0, .sl none 0 (some 0) 0=>true
 |_,_=>false
end
theorem ZI0{a b:V}(h:veq a b=true):a=b:=by
 unfold veq at h;split at h<;>first|rfl|(simp at h;first|(obtain⟨rfl,rfl⟩:=h;rfl)|(subst h;rfl))|cases h
def veqs:List V->List V->Bool
 | [],[]=>true
 |a::l,b::m=>veq a b&&veqs l m
 |_,_=>false
theorem Zuy: ∀ {l m:List V},veqs l m=true->l=m
 | [],[],_=>rfl
 |a::l,b::m,h=>by
  simp only[veqs,uH]at h;rw[ZI0 h.1,Zuy h.2]
 | [],_::_,h=>by simp[veqs]at h
 |_::_,[],h=>by simp[veqs]at h
def kdB(Y:YP)(t:TypeId):Kd->TypeDesc->Bool
 | .bool, .bool=>true
 | .int k, .int a=>decide (k=a)
 | .str, .string=>true
 | .slice e, .slice e'=>e==e'
 | .arr n e, .array n' e'=>n==n'&&e==e'&& !Y.P.eqGuardType Y.P.depth t
 | .struct b, .struct l=>b==l.toList.map (λf=>(f.offset,f.type))&&l.toList.all (λf=> !(f.name=="_"))&& !Y.P.stoodInHeld t&& !Y.P.eqGuardType Y.P.depth t
 | .ptr e, .pointer e'=>e==e'
 | .map k e, .map a e'=>k==a&&e==e'
 | .func, .func _ _ _=>true
 | .iface, .interface _=>true
 |_,_=>false
theorem ZI1{Y}{t}{k:Kd}{d:TypeDesc}(h:kdB Y t k d=true):KdOK Y t k d:=by
 unfold kdB at h;split at h<;>simp only[KdOK]
 .simp at h;subst h;rfl
 .simp at h;subst h;rfl
 .simp at h;obtain⟨⟨rfl,rfl⟩,h⟩:=h;exact⟨rfl,h⟩
 .rename_i b l;simp only[uH,vO,Bool.not_eq_true',uP,beq_eq_false_iff_ne]at h;exact⟨l,rfl,h.1.1.1,λf a=>h.1.1.2 f (su a),h.1.2,h.2⟩
 .simp at h;subst h;rfl
 .simp at h;obtain⟨rfl,rfl⟩:=h;rfl
 .exact⟨_,_,_,rfl⟩
 .exact⟨_,rfl⟩
 .cases h
def tiB(Y:YP)(t:TypeId)(a:TI):Bool:=
 match Y.P.info? t with
 |some i=>match Y.P.underlying t,i.zero with
  |some d,some z=>decide (i.size=a.size)&&decide (i.bytes=a.bytes)&&veqs a.zero (z.cells.toList.map ofC)&&decide (a.zero.length=a.size)&&Zp a.zero&&
    kdB Y t a.kd d&&(aggD d==a.kd.agg)&&(a.kd.agg||decide (a.size=1))
  |_,_=>false
 |none=>false
theorem VRs.ofCs(W): ∀l:List Value,VRs W (l.map ofC) l
 | []=> .nil
 |u::l=> .cons _ _ _ _ (VR.ofC W u) (VRs.ofCs W l)
theorem ZI2{Y}{t}{b:TI}(h:tiB Y t b=true): ∃i d z,TIOK Y t b i d z:=by
 unfold tiB at h;split at h;rename_i i o;split at h;rename_i d z n hz;simp only[uH,vL,vO,uS]at h;obtain⟨⟨⟨⟨⟨⟨⟨c,e⟩,f⟩,g⟩,j⟩,k⟩,l⟩,a⟩:=h;refine⟨i,d,z,o,n,hz,c,e,λW=> ?_,g,j,ZI1 k,l,λm=> ?_⟩;rw[Zuy f];exact VRs.ofCs W _;rcases a with a|a;rw[m]at a;cases a;exact a;cases h;cases h
def tabB(Y:YP):Bool:=
 (List.range Y.tys.length).all (λt=>match Y.ty t with|none=>true|some a=>tiB Y t a)&&Y.P.follows .mixedOrders&&Y.P.funcs.toList.all (λf=> !(f.name=="runtime.NumGoroutine"))
theorem Vk{Y:YP}(h:tabB Y=true)(k:ZEj Y):YOK Y:=by
 simp only[tabB,uH,uP,List.mem_range]at h;obtain⟨⟨e,g⟩,i⟩:=h;refine⟨λt m a=> ?_,g,λf d l=> ?_,k⟩
 .have b:t<Y.tys.length:=by
   unfold YP.ty at a;by_cases c:t<Y.tys.length;exact c;rw[List.getElem?_eq_none (Nat.le_of_not_lt c)]at a;cases a
  have:=e t b;rw[a]at this;exact ZI2 this
 .have:=i d (by
   have j:=Array.mem_of_getElem? l;simpa using j)
  simpa using this
end Go.Y
