/- A part of the proof. -/
import Derived.Test.YteennilbmmlikaaGreatDoorYApp2
namespace Go.Y
set_option maxRecDepth 1000000
set_option maxHeartbeats 0
mutual
/-- What a value comes to, once its memory is read-only. -/
inductive Frz (h:Heap):V->V->Prop
 |undef:Frz h .undef .undef
 |b (x:Bool):Frz h (.b x) (.b x)
 |i (k:IntKind) (n:Int):Frz h (.i k n) (.i k n)
 |s (l:List UInt8):Frz h (.s l) (.s l)
 |pn:Frz h (.p none) (.p none)
 |sln (c:Option Nat) (k:Nat) (c':Option Nat) (hc: ∀x,c'=some x->x=0):Frz h (.sl none 0 c k) (.ts [] 0 c')
 |sln0 (c:Option Nat) (k:Nat):Frz h (.sl none 0 c k) (.sl none 0 c k)
 |sl (id off len:Nat) (cap:Option Nat) (k:Nat) (cs:List V) (wr:Bool) (c1 cs':List V) (cap':Option Nat) (hg:h.get id=some (.arr cs wr)) (ht:Zr (len*k) (cs.drop off)=some c1)
   (hp: ∀x,cap'=some x->cap=some x) (hk:k≠0) (hc:FrzL h c1 cs'):Frz h (.sl (some (id,off)) len cap k) (.ts cs' len cap')
 |ts (cs:List V) (len:Nat) (cap cap':Option Nat) (hp: ∀x,cap'=some x->cap=some x):Frz h (.ts cs len cap) (.ts cs len cap')
 |tp (cs:List V):Frz h (.tp cs) (.tp cs)
 |mpn:Frz h (.mp none) (.mp none)
 |fn (f:Fn) (a c a' c':List V) (ha:FrzL h a a') (hc:FrzL h c c'):Frz h (.fn f a c) (.fn f a' c')
 |nilfn:Frz h .nilfn .nilfn
 |ifc (t:TypeId) (v v':V) (hv:Frz h v v'):Frz h (.ifc t v) (.ifc t v')
 |nilifc:Frz h .nilifc .nilifc
 |agg (cs cs':List V) (hc:FrzL h cs cs'):Frz h (.agg cs) (.agg cs')
 |tup (cs cs':List V) (hc:FrzL h cs cs'):Frz h (.tup cs) (.tup cs')
inductive FrzL (h:Heap):List V->List V->Prop
 |nil:FrzL h [] []
 |cons (v v':V) (l l':List V) (hv:Frz h v v') (hl:FrzL h l l'):FrzL h (v::l) (v'::l')
end
theorem FrzL.length{h} : ∀ {l c:List V},FrzL h l c->l.length=c.length
 |_,_, .nil=>rfl
 |_,_, .cons _ _ _ _ _ d=>by simp[d.length]
theorem FrzL.append{h} : ∀ {l c m d:List V},FrzL h l c->FrzL h m d->FrzL h (l++m) (c++d)
 |_,_,_,_, .nil,g=>g
 |_,_,_,_, .cons _ _ _ _ f e,g=> .cons _ _ _ _ f (e.append g)
theorem Vd: ∀ {n:Nat} {l c:List V},Zr n l=some c->c.length=n
 |0,_,c,h=>by simp[Zr]at h;simp[<-h]
 |n+1,[],c,h=>by simp[Zr]at h
 |n+1,v::l,c,h=>by
  simp only[Zr,uG]at h;obtain⟨d,e,rfl⟩:=h;simp[Vd e]
theorem Zct: ∀ {n:Nat} {l c:List V},Zr n l=some c-> ∀(j:Nat) (v:V),c[j]? =some v->l[j]? =some v
 |0,_,c,h,j,v,e=>by simp[Zr]at h;subst h;simp at e
 |n+1,[],c,h,j,v,e=>by simp[Zr]at h
 |n+1,x::l,c,h,j,v,e=>by
  simp only[Zr,uG]at h;obtain⟨d,f,rfl⟩:=h
  cases j with
  |zero=>simpa using e
  |succ j=>simp at e ⊢;exact Zct f j v e
structure Fz(W:Vw)(h:Heap)(w:World)(W':Vw):Prop where
 lv: ∀id,(h.get id).isSome->W.lv id
 obj: ∀id o,h.get id=some o->ORel W w id o
 snap: ∀b o,W.snap b=some o->W'.snap b=some o
 now: ∀id,(h.get id).isSome->W'.snap (W.mu id).1=w.heap[(W.mu id).1]?
theorem Zbj{W c:Vw}(h: ∀b o,W.snap b=some o->c.snap b=some o):Le W.dead c.dead:=
 ⟨λ_ h=>h,λ_ h=>h.elim,λ_ h=>h.elim,h,λ_ h=>h.elim⟩
mutual
theorem Frz.vr{W W'}{h}{w}(z:Fz W h w W'){v v'}(f:Frz h v v'){u:Value}(r:VR W v u):VR W' v' u:=by
 cases f with
 |undef=>exact .undef _
 |b x=>cases r;exact .b _
 |i k n=>cases r;exact .i _ _
 |s l=>cases r;exact .s _
 |pn=>cases r;exact .pn
 |sln c k c' A=>cases r;exact .tsz _ A
 |sln0 c k=>cases r;exact .sln _ _
 |sl L off len cap k N wr c1 F D hg ht hp hk A=>
  cases r with
  |sls _ _ _ _ _ a cp a1 H d ha hn a0=>
   have Z:W.lv L:=z.lv L (by simp[hg]);have B: ∀x,D=some x->cp=x:=λx m=>d x (hp x m);by_cases h0:len=0
   .have e1:=Vd ht;have e2:=A.length;have:F= []:=by
     apply List.eq_nil_of_length_eq_zero;rw[<-e2,e1,h0,Nat.zero_mul]
    subst this;exact .tsn _ _ _ _ H B
   .have P:=ha Z om;obtain⟨c,e,fr,g1,g2,g3,g4,g5⟩:=z.obj L _ hg;have C:=z.now L (by simp[hg]);rw[g1]at C;have X: ∀(l:List V) (o:Nat),(∀j v,l[j]? =some v-> ∃u,c[o+j]? =some u/\VR W v u)-> ∃g,VRs W l g/\ ∀j u,g[j]? =some u->c[o+j]? =some u:=by
     intro l
     induction l with
     |nil=>intro o _;exact⟨[], .nil,λj u y=>by simp at y⟩
     |cons x l ih=>
      intro o m;obtain⟨u,q1,q2⟩:=m 0 x rfl;obtain⟨g,q3,q4⟩:=ih (o+1) (λj v y=>by
       obtain⟨u',p1,p2⟩:=m (j+1) v (by simpa using y);exact⟨u',by rw[<-p1];congr 1;omega,p2⟩)
      refine⟨u::g, .cons _ _ _ _ q2 q3,λj u' y=> ?_⟩
      cases j with
      |zero=>simp at y;subst y;exact q1
      |succ j=>simp at y;rw[<-q4 j u' y];congr 1;omega
    obtain⟨g,q1,q2⟩:=X c1 ((W.mu L).2+off) (λj v y=>by
     have K:=Zct ht j v y;rw[uz]at K;obtain⟨u,p1,p2⟩:=g4 _ _ K;exact⟨u,by rw[<-p1];congr 1;omega,p2⟩)
    subst P;exact .ts _ _ _ _ _ _ c e fr g H B C q2 (FrzL.vr (W':=W'.dead) ⟨z.lv,z.obj,z.snap,z.now⟩ A q1)
 |ts N len cap D hp=>
  cases r with
  |tsn _ _ a cp H d=>exact .tsn _ _ _ _ H (λx m=>d x (hp x m))
  |tsz _ d=>exact .tsz _ (λx m=>d x (hp x m))
  |ts _ _ _ cp blk off c e fr g H d O G hr=>exact .ts _ _ _ _ blk off c e fr g H (λx m=>d x (hp x m)) (z.snap _ _ O) G (hr.mono (Zbj z.snap))
 |tp N=>
  cases r with
  |tpn a=>exact .tpn a
  |tp _ blk off c e fr g O G hr=>exact .tp _ blk off c e fr g (z.snap _ _ O) G (hr.mono (Zbj z.snap))
 |mpn=>cases r;exact .mpn
 |fn f a c a' c' ha A=>cases r with|fn _ _ _ ua uc E h2=>exact .fn _ _ _ _ _ (FrzL.vr z ha E) (FrzL.vr z A h2)
 |nilfn=>cases r;exact .nilfn
 |ifc t v v' hv=>cases r with|ifc _ _ u E=>exact .ifc _ _ _ (Frz.vr z hv E)
 |nilifc=>cases r;exact .nilifc
 |agg N F A=>cases r with|agg _ g E=>exact .agg _ _ (FrzL.vr z A E)
 |tup N F A=>cases r with|tup _ g E=>exact .tup _ _ (FrzL.vr z A E)
theorem FrzL.vr{W W'}{h}{w}(z:Fz W h w W'){l c}(f:FrzL h l c){d:List Value}(r:VRs W l d):VRs W' c d:=by
 cases f with
 |nil=>cases r;exact .nil
 |cons v v' l c k j=>cases r with|cons _ u _ m g e=>exact .cons _ _ _ _ (Frz.vr z k g) (FrzL.vr z j e)
end
theorem Wf(c:Nat):Heap.empty.get c=none:=rfl
theorem Ztx(c:Nat):Heap.empty.raw c=none:=rfl
def Cold(l:List V):Prop:=FrzL Heap.empty l l
theorem Cold.vrs{l}(c:Cold l){W W':Vw}(f: ∀b o,W.snap b=some o->W'.snap b=some o){d:List Value}(r:VRs W l d):VRs W' l d:=
 FrzL.vr (h:=Heap.empty) (w:=default) ⟨λe h=>by simp[Wf]at h,λe o h=>by simp[Wf]at h,f,λe h=>by simp[Wf]at h⟩ c r
def PTr(Y:YP)(f:FuncId)(d:List V)(P:V->Prop):Prop:=
 ∀(W:Vw) (w:World) (j:List Value),(∀b o,W.snap b=some o->w.heap[b]? =some o)->Tabbed W->VRs W d j->Calls Y.P f j.toArray w λe h=>
  ∃(r:V) (c:Vw) (u:Value),P r/\e= .returned u/\VR c r u/\(∀b o,W.snap b=some o->c.snap b=some o)/\(∀b o,c.snap b=some o->h.heap[b]? =some o)/\
   (∀b,c.snap b≠none->W.snap b≠none\/w.heap.size<=b)/\w.heap.size<=h.heap.size/\(∀b,b<w.heap.size->h.heap[b]? =w.heap[b]?)/\(∀g,(∀b o,c.snap b=some o->g.snap b=some o)->VR g r u)/\Str w h
theorem PTr.mono{Y}{f:FuncId}{c}{P d:V->Prop}(h:PTr Y f c P)(hp: ∀r,P r->d r):PTr Y f c d:=
 λW w g e k m=>(h W w g e k m).mono λ_ _ ⟨r,W',u,l,j⟩=>⟨r,W',u,hp _ l,j⟩
structure PCon(Y:YP)(f:FuncId)(args:List V)(P:V->Prop):Prop where
 body:Jq Y f
 tr:PTr Y f args P
theorem PCon.mono{Y}{f:FuncId}{c}{P d:V->Prop}(h:PCon Y f c P)(hp: ∀r,P r->d r):PCon Y f c d:=⟨h.body,h.tr.mono hp⟩
noncomputable def Vw.all(W:Vw)(w:World):Vw:=by
 classical exact {W with snap:=λb=>if W.own b then w.heap[b]? else W.snap b,lv:=λ_=>False}
theorem HRel.all{W:Vw}{h}{w}(r:HRel W h w):Fz W h w (W.all w) where
 lv c hi:=(r.lv c).2 hi
 obj:=r.obj
 snap b o hb:=by
  unfold Vw.all;simp only;split
  .rename_i d;obtain⟨c,e,rfl⟩:=d;rw[r.apart c e]at hb;cases hb
  .exact hb
 now c hi:=by
  unfold Vw.all;simp only;rw[uF ⟨c,(r.lv c).2 hi,rfl⟩]
theorem PTr.of{Y}{f:FuncId}{n}{Q}{P:V->Prop}(Z:Cold n)(N:CallTr Y f n Heap.empty Q)(X: ∀v h,Q v h-> ∃r,Frz h v r/\P r):PTr Y f n P:=by
 intro W w D K C hv
 let W0:Vw:= {mu:=λ_=>(0,0),sz:=λ_=>0,snap:=W.snap,lv:=λ_=>False,kn:=λ_=>False}
 have h0:HRel W0 Heap.empty w:=⟨λ_ h=>h.elim,λ_ h=>h.elim,λx=>by simp[W0,Wf],λx h=>by simp[Ztx]at h,K,λx o h=>by simp[Wf]at h,λ_ _ h=>h.elim,λ_ h=>h.elim,λp hp=>(nomatch hp),C.mono λ_ _ h=>h⟩;have t: ∀b,¬W0.own b:=λb ⟨_,h,_⟩=>h;refine(N W0 w D h0 (Cold.vrs (W:=W) (W':=W0) Z (λ_ _ h=>h) hv)).mono ?_;rintro e G ⟨v,O,B,u,hQ,rfl,hr,y,g⟩;obtain⟨r,E,hp⟩:=X v O hQ;have z:=hr.all;refine⟨r,B.all G,u,hp,rfl,E.vr z y,λb o d=>z.snap b o (g.le.snap b o d),?_,?_,g.size,λb d=>g.keep b d (t b),λa0 H=> ?_,g.str⟩
 .intro b o d;unfold Vw.all at d;simp only at d;split at d
  .exact d
  .exact hr.snap b o d
 .intro b d;unfold Vw.all at d;simp only at d;split at d
  .rename_i A;rcases g.owns b A with j|j
   .exact absurd j (t b)
   .exact .inr j
  .rcases g.new b d with j|j|j
   .exact .inl j
   .exact absurd j (t b)
   .exact .inr j
 .exact E.vr ⟨z.lv,z.obj,λb o d=>H b o (z.snap b o d),λx F=>by
   have j:=z.now x F;have h2: ∃o,G.heap[(B.mu x).1]? =some o:=by
    obtain⟨o,A⟩:=Option.isSome_iff_exists.1 F;have:=hr.obj x o A
    cases o with
    |arr cs wr=>obtain⟨c,e,fr,q,_⟩:=this;exact⟨_,q⟩
    |map es=>obtain⟨m,k,q,_⟩:=this;exact⟨_,q⟩
    |siter l a1=>exact⟨_,this⟩
    |loop L=>obtain⟨fn,D,df,q,_⟩:=this;exact⟨_,q⟩
   obtain⟨o,A⟩:=h2;rw[A]at j ⊢;exact H _ _ j⟩ y
/-! ### Values without memory -/
def Zis:V->Bool
 | .b _| .i _ _| .s _| .p none| .mp none| .nilfn| .nilifc| .fn _ [] []| .sl none 0 _ _=>true
 |_=>false
def Zg6:List V->Bool
 | []=>true
 |v::r=>Zis v&&Zg6 r
def Zrn:V->Bool
 | .agg c=>Zg6 c
 |v=>Zis v
def Zg7:List V->Bool
 | []=>true
 |v::r=>Zrn v&&Zg7 r
def Zit:V->Bool
 | .tup c=>Zg7 c
 |v=>Zrn v
theorem Ziu{v:V}(h:Zis v=true)(c):Frz c v v:=by
 unfold Zis at h;split at h<;>first|exact .b _|exact .i _ _|exact .s _|exact .pn|exact .mpn|exact .nilfn|exact .nilifc|exact .fn _ _ _ _ _ .nil .nil|exact .sln0 _ _|cases h
theorem Zkf(c): ∀ {l:List V},Zg6 l=true->FrzL c l l
 | [],_=> .nil
 |v::r,h=>by simp only[Zg6,uH]at h;exact .cons _ _ _ _ (Ziu h.1 c) (Zkf c h.2)
theorem Zpe{v:V}(h:Zrn v=true)(c):Frz c v v:=by
 unfold Zrn at h;split at h
 .exact .agg _ _ (Zkf c h)
 .exact Ziu h c
theorem Zkg(c): ∀ {l:List V},Zg7 l=true->FrzL c l l
 | [],_=> .nil
 |v::r,h=>by simp only[Zg7,uH]at h;exact .cons _ _ _ _ (Zpe h.1 c) (Zkg c h.2)
theorem Zyp{v:V}(h:Zit v=true)(c):Frz c v v:=by
 unfold Zit at h;split at h
 .exact .tup _ _ (Zkg c h)
 .exact Zpe h c
theorem Zpf{v:V}(h:Zis v=true){W c}{u:Value}(r:VR W v u):VR c v u:=by
 unfold Zis at h;split at h<;>first|(cases r;first|exact .b _|exact .i _ _|exact .s _|exact .pn|exact .mpn|exact .nilfn|exact .nilifc|(rename_i d e;cases d;cases e;exact .fn _ _ _ _ _ .nil .nil)|exact .sln _ _)|cases h
theorem Zkh{W d} : ∀ {l:List V} {c:List Value},Zg6 l=true->VRs W l c->VRs d l c
 | [],_,_,r=>by cases r;exact .nil
 |v::l,_,h,r=>by
  simp only[Zg6,uH]at h
  cases r with|cons _ _ _ _ e f=>exact .cons _ _ _ _ (Zpf h.1 e) (Zkh h.2 f)
theorem Zpg{v:V}(h:Zrn v=true){W c}{u:Value}(r:VR W v u):VR c v u:=by
 unfold Zrn at h;split at h
 .cases r with|agg _ _ d=>exact .agg _ _ (Zkh h d)
 .exact Zpf h r
theorem Zki{W d} : ∀ {l:List V} {c:List Value},Zg7 l=true->VRs W l c->VRs d l c
 | [],_,_,r=>by cases r;exact .nil
 |v::l,_,h,r=>by
  simp only[Zg7,uH]at h
  cases r with|cons _ _ _ _ e f=>exact .cons _ _ _ _ (Zpg h.1 e) (Zki h.2 f)
theorem Zyq{v:V}(h:Zit v=true){W c}{u:Value}(r:VR W v u):VR c v u:=by
 unfold Zit at h;split at h
 .cases r with|tup _ _ d=>exact .tup _ _ (Zki h d)
 .exact Zpg h r
def Zeu:V->Bool
 | .ts _ _ _| .tp _=>true
 |v=>Zis v
def Xb:List V->Bool
 | []=>true
 |v::r=>Zeu v&&Xb r
def Zgt:V->Bool
 | .agg c=>Xb c
 |v=>Zeu v
def Xo:List V->Bool
 | []=>true
 |v::r=>Zgt v&&Xo r
/-! ### The call, from a frame -/
def Vw.more(W:Vw)(n:Nat)(s:Nat->Option Obj):Vw:= {W with snap:=λb=>if n<=b then s b else W.snap b}
theorem Zty{W:Vw}{w:World}{s:Nat->Option Obj}(d: ∀b o,W.snap b=some o->s b=some o):Le W (W.more w.heap.size s):=
 ⟨λ_ h=>h,λ_ _=>rfl,λ_ _=>rfl,λb o c=>by
  unfold Vw.more;simp only;split
  .exact d b o c
  .exact c,λ_ _ h=>h⟩
section
variable {Y:YP} {σ:St} {W:Vw} {a:Act} {w:World}
theorem Rel.more(h:Rel W σ a w){w':World}{s:Nat->Option Obj}(E: ∀b o,W.snap b=some o->s b=some o)(hz:w.heap.size<=w'.heap.size)
    (C: ∀b,b<w.heap.size->w'.heap[b]? =w.heap[b]?) (N: ∀b o,s b=some o->w'.heap[b]? =some o) (x:Str w w'):
    Rel (W.more w.heap.size s) σ a w'/\Stp W (mine W σ a) w (W.more w.heap.size s) (mine (W.more w.heap.size s) σ a) w':=by
  have g:=Zty (w:=w) E;have d:Same w w':=λb o f=>by rw[C b (Zt f)];exact f
  have D: ∀j,W.lv j->(W.mu j).1<w.heap.size:=by
    intro j z;obtain⟨o,n⟩:=Option.isSome_iff_exists.1 ((h.heap.lv j).1 z);have:=h.heap.obj j o n
    cases o with
    |arr P wr=>obtain⟨c,e,fr,q,_⟩:=this;exact Zt q
    |map X=>obtain⟨m,k,q,_⟩:=this;exact Zt q
    |siter l H=>exact Zt this
    |loop L=>obtain⟨fn,O,Z,q,_⟩:=this;exact Zt q
  refine⟨⟨⟨h.heap.kn,h.heap.lk,h.heap.lv,h.heap.lt,?_,?_,h.heap.inj,?_,λp hp=>⟨(h.heap.tg p hp).1,(((h.heap.tg p hp).2).same d).mono g (h.heap.tg p hp).1⟩,h.heap.gl.mono g.snap⟩,h.size,?_,h.box,h.refs,h.defers.turn λr hr h1 y=>⟨by rw[C r (Zt hr)],by
    have:=Zt hr;simp only[Vw.more];rw[uE om];exact h1,y⟩⟩,⟨g,hz,λb f _=>C b f,λb f=> .inl f,?_,x⟩⟩
  · intro b o f
    simp only[Vw.more]at f;split at f
    · exact N b o f
    · exact d b o (h.heap.snap b o f)
  · intro j o n
    exact((h.heap.obj j o n).same d).mono g (h.heap.known (by simp[n]))
  · intro j z
    have:=D j z;simp only[Vw.more];rw[uE om];exact h.heap.apart j z
  · intro t v F
    obtain⟨u,h1,y⟩:=h.env t v F;refine⟨u,h1,?_⟩;cases v<;>first
      |exact VR.mono g y
      |exact y
      |(obtain⟨b,c,e,K,f,G,B,n⟩:=y
        refine⟨b,c,e,K,d _ _ f,VRs.mono g G,?_,n⟩;have:=Zt f;simp only[Vw.more];rw[uE om];exact B)
  · intro b f
    simp only[Vw.more]at f;split at f
    · rename_i A;exact .inr (.inr A)
    · exact .inl f
theorem pcall(h:Rel W σ a w){f:FuncId}{d args':List V}{P:V->Prop}(hp:PTr Y f args' P)(H:FrzL σ.h d args')(m:Cold d/\args'=d\/ ∀r,P r->Zit r=true){k:List Value}(D:VRs W d k):
  Calls Y.P f k.toArray w λe n=> ∃(r:V) (g:Vw) (u:Value),P r/\e= .returned u/\Rel g σ a n/\VR g r u/\Stp W (mine W σ a) w g (mine g σ a) n/\ ∀b,mine g σ a b->mine W σ a b:=by
 rcases m with ⟨m,rfl⟩|m
 .refine(hp W w k h.heap.snap h.heap.gl D).mono ?_;rintro e n ⟨r,g,u,t,rfl,_,x,G,E,B,l,F,y⟩;obtain⟨A,v⟩:=h.more (s:=g.snap) x B l G y;refine⟨r,_,u,t,rfl,A,F _ ?_,v,λb c=>c⟩;intro b o c;simp only[Vw.more];split
  .exact c
  .rename_i C;rcases E b (by simp[c])with h9'|h9'
   .cases j:W.snap b with
    |none=>exact absurd j h9'
    |some K=>rw[x b K j]at c;exact c
   .exact absurd h9' C
 .have z:=h.heap.all;refine(hp (W.all w) w k (λb o c=> ?_) (h.heap.gl.mono z.snap) (H.vr z D)).mono ?_
  .unfold Vw.all at c;simp only at c;split at c
   .exact c
   .exact h.heap.snap b o c
  rintro e n ⟨r,g,u,t,rfl,L,x,G,E,B,l,F,y⟩;obtain⟨A,v⟩:=h.more (s:=W.snap) (λ_ _ h=>h) B l (λb o c=>by
   rw[l b (Zt (h.heap.snap b o c))];exact h.heap.snap b o c) y
  exact⟨r,_,u,t,rfl,A,Zyq (m r t) L,v,λb c=>c⟩
end
/-! ### Some objects become read-only -/
def XO(h:Heap)(D:List Nat):Heap:=D.foldl (λh i=>if(h.get i).isSome then h.set i none else h) h
def Ve(h:Heap)(D:List Nat):Heap:=D.foldl (λc i=>c.set i (h.get i)) .empty
theorem Xw: ∀(D:List Nat) (h:Heap) (j:Nat),(XO h D).get j=if j∈D then none else h.get j
 | [],h,j=>by simp[XO]
 |i::D,h,j=>by
  have:=Xw D (if(h.get i).isSome then h.set i none else h) j;unfold XO at*;rw[uR,this];by_cases d:j∈D
  .simp[d]
  .rw[uE d]
   cases e:(h.get i).isSome with
   |true=>
    simp only[vG,Heap.get_set];by_cases c:j=i
    .simp[c]
    .simp[d,c]
   |false=>
    simp only[uI,vF];by_cases c:j=i
    .subst c;simp only[List.mem_cons,true_or,vG];simpa using e
    .simp[d,c]
theorem Zph: ∀(D:List Nat) (h:Heap),(XO h D).tg=h.tg
 | [],h=>rfl
 |i::D,h=>by
  have:=Zph D (if(h.get i).isSome then h.set i none else h);unfold XO at*;rw[uR,this];split<;>rfl
theorem Qt: ∀(D:List Nat) (h:Heap),(XO h D).nx=h.nx
 | [],h=>rfl
 |i::D,h=>by
  have:=Qt D (if(h.get i).isSome then h.set i none else h);unfold XO at*;rw[uR,this];split<;>rfl
theorem Zev: ∀(D:List Nat) (h:Heap) (j:Nat),((XO h D).raw j).isSome=(h.raw j).isSome
 | [],h,j=>rfl
 |i::D,h,j=>by
  have:=Zev D (if(h.get i).isSome then h.set i none else h) j;unfold XO at*;rw[uR,this];split
  .rename_i c;rw[Heap.raw_set];split
   .rename_i e;subst e;rw[Heap.raw_of c];rfl
   .rfl
  .rfl
theorem Zkj(h:Heap): ∀(D:List Nat) (c:Heap) (j:Nat),(D.foldl (λc i=>c.set i (h.get i)) c).get j=if j∈D then h.get j else c.get j
 | [],c,j=>sm
 |i::D,c,j=>by
  rw[uR,Zkj h D _ j,Heap.get_set];by_cases d:j∈D
  .simp[d]
  .by_cases e:j=i
   .subst e;simp
   .simp[d,e]
theorem QK(h:Heap)(D:List Nat)(j:Nat):(Ve h D).get j=if j∈D then h.get j else none:=by
 unfold Ve;rw[Zkj]
 rfl
noncomputable def Vw.frzD(W:Vw)(D:List Nat)(w:World):Vw:=by
 classical exact {W with snap:=λb=>if∃i,i∈D/\W.lv i/\(W.mu i).1=b then w.heap[b]? else W.snap b,lv:=λc=>W.lv c/\c∉D}
theorem HRel.block{W:Vw}{h}{w:World}(hr:HRel W h w){d:Nat}(g:W.lv d): ∃o,w.heap[(W.mu d).1]? =some o:=by
 obtain⟨o,j⟩:=Option.isSome_iff_exists.1 ((hr.lv d).1 g);have:=hr.obj d o j
 cases o with
 |arr r wr=>obtain⟨c,e,fr,q,_⟩:=this;exact⟨_,q⟩
 |map t=>obtain⟨m,k,q,_⟩:=this;exact⟨_,q⟩
 |siter l f=>exact⟨_,this⟩
 |loop L=>obtain⟨fn,n,u,q,_⟩:=this;exact⟨_,q⟩
theorem Vf{W:Vw}{h}{w}(hr:HRel W h w)(D):Le W (W.frzD D w) where
 kn _ h:=h
 mu _ _:=rfl
 sz _ _:=rfl
 snap b o hb:=by
  unfold Vw.frzD;simp only;split
  .rename_i d;obtain⟨i,_,c,rfl⟩:=d;rw[hr.apart i c]at hb;cases hb
  .exact hb
 lv _ _ h:=h.1
theorem HRel.frzD{W:Vw}{h}{w}(hr:HRel W h w)(D):HRel (W.frzD D w) (XO h D) w/\Stp W W.own w (W.frzD D w) (W.frzD D w).own w:=by
 have f:=Vf hr D;refine⟨⟨λj c=>by rw[Zev];exact hr.kn j c,λj c=>hr.lk j c.1,λj=> ?_,λj c=>by rw[Qt];rw[Zev]at c;exact hr.lt j c,λb o d=> ?_,λj o c=> ?_,λj k m l=>hr.inj j k m.1 l.1,λj c=> ?_,λp hp=> ?tg,hr.gl.mono f.snap⟩,
  ⟨f,Nat.le_refl _,λb _ _=>rfl,λb d=> ?_,λb d=> ?_, .refl w⟩⟩
 case tg=>
  have g:p∈h.tg:=by rw[<-Zph D h];exact hp
  exact⟨(hr.tg p g).1,((hr.tg p g).2).mono f (hr.tg p g).1⟩
 .rw[Xw];show(W.lv j/\j∉D)↔_;by_cases e:j∈D
  .simp[e]
  .simp[e,hr.lv j]
 .unfold Vw.frzD at d;simp only at d;split at d
  .exact d
  .exact hr.snap b o d
 .rw[Xw]at c;by_cases e:j∈D
  .simp[e]at c
  .simp[e]at c;exact(hr.obj j o c).mono f (hr.known (by simp[c]))
 .unfold Vw.frzD;simp only;rw[uE]
  .exact hr.apart j c.1
  .rintro⟨i,m,l,n⟩;have:=hr.inj i j l c.1 n;subst this;exact c.2 m
 .obtain⟨r,m,l⟩:=d;exact .inl ⟨r,m.1,l⟩
 .unfold Vw.frzD at d;simp only at d;split at d
  .rename_i t;obtain⟨i,_,l,n⟩:=t;exact .inr (.inl ⟨i,l,n⟩)
  .exact .inl d
theorem Fz.of{W:Vw}{h}{w}(hr:HRel W h w)(D):Fz W (Ve h D) w (W.frzD D w) where
 lv id hi:=by
  rw[QK]at hi;split at hi
  .exact(hr.lv id).2 hi
  .simp at hi
 obj id o ho:=by
  rw[QK]at ho;split at ho
  .exact hr.obj id o ho
  .cases ho
 snap:=(Vf hr D).snap
 now id hi:=by
  rw[QK]at hi;split at hi
  .rename_i c;unfold Vw.frzD;simp only;rw[uF ⟨id,c,(hr.lv id).2 hi,rfl⟩]
  .simp at hi
mutual
/-- A value, some of whose memory becomes read-only. -/
inductive FrzA (h:Heap):V->V->Prop
 |same (v:V):FrzA h v v
 |frz (v v':V) (hf:Frz h v v'):FrzA h v v'
 |agg (cs cs':List V) (hc:FrzAL h cs cs'):FrzA h (.agg cs) (.agg cs')
inductive FrzAL (h:Heap):List V->List V->Prop
 |nil:FrzAL h [] []
 |cons (v v':V) (l l':List V) (hv:FrzA h v v') (hl:FrzAL h l l'):FrzAL h (v::l) (v'::l')
end
mutual
theorem FrzA.vr{W W'}{h}{w}(z:Fz W h w W')(c:Le W W'){v v'}(f:FrzA h v v'){u:Value}(r:VR W v u):VR W' v' u:=by
 cases f with
 |same=>exact r.mono c
 |frz _ _ g=>exact g.vr z r
 |agg l e d=>cases r with|agg _ k j=>exact .agg _ _ (FrzAL.vr z c d j)
theorem FrzAL.vr{W W'}{h}{w}(z:Fz W h w W')(c:Le W W'){l d}(f:FrzAL h l d){e:List Value}(r:VRs W l e):VRs W' d e:=by
 cases f with
 |nil=>cases r;exact .nil
 |cons v v' l d n k=>cases r with|cons _ u _ m j g=>exact .cons _ _ _ _ (FrzA.vr z c n j) (FrzAL.vr z c k g)
end
noncomputable def Vw.cut(W W':Vw)(w':World):Vw:=by
 classical exact {mu:=W'.mu,sz:=W'.sz,kn:=W.kn,lv:=λa=>W'.lv a/\W.kn a,snap:=λb=>if∃i,¬W.kn i/\W'.lv i/\(W'.mu i).1=b then w'.heap[b]? else W'.snap b}
section
variable {W W':Vw} {w w':World}
theorem VG{c}(d:HRel W' c w')(b:Nat)(o:Obj)(a:W'.snap b=some o):(W.cut W' w').snap b=some o:=by
 unfold Vw.cut;simp only;split
 .rename_i e;obtain⟨i,_,f,rfl⟩:=e;rw[d.apart i f]at a;cases a
 .exact a
mutual
theorem VR.cut{N}(o:HRel W' N w'){v}{P u:Value}(y:VR W v P)(r:VR W' v u):VR (W.cut W' w') v u:=by
 cases r with
 |undef u=>exact .undef u
 |b x=>exact .b x
 |i k n=>exact .i k n
 |s l=>exact .s l
 |pn=>exact .pn
 |ps C off a E G=>
  cases y with|ps _ _ _ d _=>exact .ps C off a d (λj=>G j.1)
 |tpn a=>exact .tpn a
 |tp D blk off c e fr A z h hr=>exact .tp D blk off c e fr A (VG o _ _ z) h (hr.mono (Zbj (VG o)))
 |sln c k=>exact .sln c k
 |sls C off len cap k a g E j h G hn Z=>
  cases y with|sls _ _ _ _ _ _ _ d=>exact .sls C off len cap k a g d j h (λm=>G m.1) (λm=>hn m.1) (λm=>Z m.1)
 |tsn len cap a g j h=>exact .tsn len cap a g j h
 |tsz cap h=>exact .tsz cap h
 |ts D len cap g blk off c e fr A j F z h hr=>exact .ts D len cap g blk off c e fr A j F (VG o _ _ z) h (hr.mono (Zbj (VG o)))
 |mpn=>exact .mpn
 |mps C r E hr=>cases y with|mps _ _ d _=>exact .mps C r d (λj=>hr j.1)
 |fn f a c X O G h=>cases y with|fn _ _ _ _ _ H K=>exact .fn f a c X O (VRs.cut o H G) (VRs.cut o K h)
 |nilfn=>exact .nilfn
 |ifc t v u m=>cases y with|ifc _ _ _ L=>exact .ifc t v u (VR.cut o L m)
 |nilifc=>exact .nilifc
 |agg D A z=>cases y with|agg _ _ B=>exact .agg D A (VRs.cut o B z)
 |tup D A z=>cases y with|tup _ _ B=>exact .tup D A (VRs.cut o B z)
 |yl C l E j=>cases y with|yl _ _ d _=>exact .yl C l d (λm=>j m.1)
 termination_by SizeOf.sizeOf v
theorem VRs.cut{g}(d:HRel W' g w'){l}{h m:List Value}(f:VRs W l h)(r:VRs W' l m):VRs (W.cut W' w') l m:=by
 cases r with
 |nil=>exact .nil
 |cons v u l m j e=>cases f with|cons _ _ _ _ a c=>exact .cons v u l m (VR.cut d a j) (VRs.cut d c e)
 termination_by SizeOf.sizeOf l
end
theorem ZOt{B:St}{a:Act}(h:Rel W B a w){C:Heap}(y:HRel W' C w')(A:Stp W W.own w W' W'.own w')(G: ∀i,i<B.h.nx->C.get i=B.h.get i)(a4: ∀p,p∈B.h.tg->p∈C.tg){v r:V}{u:Value}(a5:VR W' v u)
    {hN:Heap} (N: ∀i o,hN.get i=some o->C.get i=some o/\B.h.nx<=i) (hf:Frz hN v r):
    Rel (W.cut W' w') B a w'/\VR (W.cut W' w') r u/\Stp W (mine W B a) w (W.cut W' w') (mine (W.cut W' w') B a) w'/\(∀b,mine (W.cut W' w') B a b->mine W B a b):=by
  have K: ∀d,W.kn d->(W'.lv d↔W.lv d):=λd x=>by
    rw[y.lv d,h.heap.lv d,G d (h.heap.lt d (h.heap.kn d x))]
  have O:Le W (W.cut W' w'):=⟨λ_ h=>h,λd x=>A.le.mu d x,λd x=>A.le.sz d x,λb o f=>VG y b o (A.le.snap b o f),λd x g=>(K d x).1 g.1⟩;have a1: ∀d,W.lv d->W.kn d:=h.heap.lk;have H: ∀b,b<w.heap.size->W.snap b=none-> ¬W.own b->(W.cut W' w').snap b=none:=by
    intro b f C z;unfold Vw.cut;simp only;rw[uE]
    · cases a6:W'.snap b with
      |none=>rfl
      |some o=>
        rcases A.new b (by simp[a6])with E|E|E
        · exact absurd C E
        · exact absurd E z
        · omega
    · rintro⟨i,_,a7,a3⟩
      rcases A.owns b ⟨i,a7,a3⟩with E|E
      · exact z E
      · omega
  have F: ∀b,(W.cut W' w').own b->W.own b:=by
    rintro b ⟨d,g,rfl⟩;refine⟨d,(K d g.2).1 g.1,?_⟩;show _=(W'.mu d).1;rw[A.le.mu d g.2]
  have D: ∀b,mine (W.cut W' w') B a b->mine W B a b:=by
    rintro b (f|f)
    · exact .inl (F b f)
    · exact .inr f
  refine⟨⟨⟨h.heap.kn,λd g=>g.2,λd=> ?_,h.heap.lt,λb o f=> ?_,λd o n=> ?_,λi j hi hj=>y.inj i j hi.1 hj.1,λd g=> ?_,λp hp=> ?tg,h.heap.gl.mono O.snap⟩,h.size,λt v ht=> ?_,h.box,h.refs,h.defers.turn λr hr C z=>⟨A.keep r (Zt hr) z,H r (Zt hr) C z,λn=>z (F r n)⟩⟩,?_,⟨O,A.size,λb f hn=>A.keep b f λn=>hn (.inl n),λb f=> .inl (D b f),λb f=> ?_,A.str⟩,D⟩
  case tg=>
    obtain⟨X,Z⟩:=h.heap.tg p hp;refine⟨X,λg=> ?_⟩;exact(y.tg p (a4 p hp)).2 g.1
  · show(W'.lv d/\W.kn d)↔_
    rw[<-h.heap.lv d];exact⟨λg=>(K d g.2).1 g.1,λg=>⟨(K d (a1 d g)).2 g,a1 d g⟩⟩
  · unfold Vw.cut at f;simp only at f
    split at f
    · exact f
    · exact y.snap b o f
  · have x:d<B.h.nx:=h.heap.ltg (by simp[n])
    have a2:C.get d=some o:=by rw[G d x];exact n
    have r0:=h.heap.obj d o n;have r1:=y.obj d o a2
    cases o with
    |arr cs wr=>
      obtain⟨c,e,fr,X,Z,g3,g4,g5⟩:=r1;obtain⟨c0,e0,b0,k1,k2,k3,k4,k5⟩:=r0;refine⟨c,e,fr,X,Z,g3,λj v hj=> ?_,g5⟩;obtain⟨u,q1,q2⟩:=g4 j v hj;obtain⟨u0,q3,q4⟩:=k4 j v hj;exact⟨u,q1,q4.cut y q2⟩
    |map es=>
      obtain⟨m,k,X,Z,g3⟩:=r1;obtain⟨m0,k0,k1,k2,k3⟩:=r0;exact⟨m,k,X,k2.cut y Z,k3.cut y g3⟩
    |siter l b2=>exact r1
    |loop L=>
      obtain⟨fn,us,df,X,Z⟩:=r1;obtain⟨b1,a9,b3,k1,k2⟩:=r0;exact⟨fn,us,df,X,k2.cut y Z⟩
  · unfold Vw.cut;simp only
    rw[uE]
    · exact y.apart d g.1
    · rintro⟨i,C,z,E⟩
      have:=y.inj i d z g.1 E;subst this;exact C g.2
  · obtain⟨u,C,z⟩:=h.env t v ht
    refine⟨u,C,?_⟩;cases v<;>first
      |exact VR.mono O z
      |exact z
      |(obtain⟨b,c,e,hu,f,hv,a8,n⟩:=z
        have a0:=Zt f;refine⟨b,c,e,hu,by rw[A.keep b a0 n];exact f,VRs.mono O hv,H b a0 a8 n,λy=>n (F b y)⟩)
  · refine hf.vr (W:=W') ⟨λd hi=> ?_,λd o n=>y.obj d o (N d o n).1,VG y,λd hi=> ?_⟩ a5
    · obtain⟨o,n⟩:=Option.isSome_iff_exists.1 hi
      exact(y.lv d).2 (by simp[(N d o n).1])
    · obtain⟨o,n⟩:=Option.isSome_iff_exists.1 hi
      unfold Vw.cut;simp only;rw[uF ⟨d,h.heap.new (N d o n).2,(y.lv d).2 (by simp[(N d o n).1]),rfl⟩]
  · unfold Vw.cut at f;simp only at f
    split at f
    · rename_i n
      obtain⟨i,_,z,E⟩:=n;rcases A.owns b ⟨i,z,E⟩with P|P
      · exact .inr (.inl (.inl P))
      · exact .inr (.inr P)
    · rcases A.new b f with P|P|P
      · exact .inl P
      · exact .inr (.inl (.inl P))
      · exact .inr (.inr P)
end
theorem HRel.ext{W}{h c:Heap}{w}(r:HRel W h w)(e: ∀i,c.raw i=h.raw i)(g:c.nx=h.nx)(f:c.tg=h.tg):HRel W c w:=
 have d: ∀i,c.get i=h.get i:=λi=>congrArg Option.join (e i)
 ⟨λa=>by rw[e];exact r.kn a,r.lk,λa=>by rw[d];exact r.lv a,λa=>by rw[e,g];exact r.lt a,r.snap,λa o=>by rw[d];exact r.obj a o,r.inj,r.apart,λp=>by rw[f];exact r.tg p,r.gl⟩
mutual
def veq:V->V->Bool
 | .b x, .b y=>x==y
 | .i j x, .i k y=>decide (j=k)&&x==y
 | .s l, .s m=>l==m
 | .p none, .p none| .mp none, .mp none| .nilfn, .nilfn| .nilifc, .nilifc=>true
 | .sl none 0 (some 0) 0, .sl none 0 (some 0) 0=>true
 |_,_=>false
end
theorem ZHt{a b:V}(h:veq a b=true):a=b:=by
 unfold veq at h;split at h<;>first|rfl|(simp at h;first|(obtain⟨rfl,rfl⟩:=h;rfl)|(subst h;rfl))|cases h
def veqs:List V->List V->Bool
 | [],[]=>true
 |a::l,b::m=>veq a b&&veqs l m
 |_,_=>false
theorem Ztz: ∀ {l m:List V},veqs l m=true->l=m
 | [],[],_=>rfl
 |a::l,b::m,h=>by
  simp only[veqs,uH]at h;rw[ZHt h.1,Ztz h.2]
 | [],_::_,h=>by simp[veqs]at h
 |_::_,[],h=>by simp[veqs]at h
def kdB(Y:YP)(t:TypeId):Kd->TypeDesc->Bool
 | .bool, .bool=>true
 | .int k, .int a=>decide (k=a)
 | .str, .string=>true
 | .slice e, .slice e'=>e==e'
 | .arr n e, .array n' e'=>n==n'&&e==e'&& !Y.P.eqGuardType Y.P.depth t
 | .struct c, .struct l=>c==l.toList.map (λf=>(f.offset,f.type))&&l.toList.all (λf=> !(f.name=="_"))&& !Y.P.stoodInHeld t&& !Y.P.eqGuardType Y.P.depth t
 | .ptr e, .pointer e'=>e==e'
 | .map k e, .map a e'=>k==a&&e==e'
 | .func, .func _ _ _=>true
 | .iface, .interface _=>true
 |_,_=>false
theorem ZHu{Y}{t:TypeId}{k:Kd}{d:TypeDesc}(h:kdB Y t k d=true):KdOK Y t k d:=by
 unfold kdB at h;split at h<;>simp only[KdOK]
 .simp at h;subst h;rfl
 .simp at h;subst h;rfl
 .simp at h;obtain⟨⟨rfl,rfl⟩,h⟩:=h;exact⟨rfl,h⟩
 .rename_i c l;simp only[uH,vM,Bool.not_eq_true',uP,beq_eq_false_iff_ne]at h;exact⟨l,rfl,h.1.1.1,λf a=>h.1.1.2 f (by simpa using a),h.1.2,h.2⟩
 .simp at h;subst h;rfl
 .simp at h;obtain⟨rfl,rfl⟩:=h;rfl
 .exact⟨_,_,_,rfl⟩
 .exact⟨_,rfl⟩
 .cases h
def tiB(Y:YP)(t:TypeId)(a:TI):Bool:=
 match Y.P.info? t with
 |some i=>match Y.P.underlying t,i.zero with
  |some d,some z=>decide (i.size=a.size)&&decide (i.bytes=a.bytes)&&veqs a.zero (z.cells.toList.map ofC)&&decide (a.zero.length=a.size)&&Zp a.zero&&
    kdB Y t a.kd d&&(aggD d==a.kd.agg)&&(a.kd.agg||decide (a.size=1))
  |_,_=>false
 |none=>false
theorem VRs.ofCs(W): ∀l:List Value,VRs W (l.map ofC) l
 | []=> .nil
 |u::l=> .cons _ _ _ _ (VR.ofC W u) (VRs.ofCs W l)
theorem ZHv{Y}{t:TypeId}{c:TI}(h:tiB Y t c=true): ∃i d z,TIOK Y t c i d z:=by
 unfold tiB at h;split at h
 .rename_i i m;split at h
  .rename_i d z e hz;simp only[uH,vJ,vM,uS]at h;obtain⟨⟨⟨⟨⟨⟨⟨k,r⟩,f⟩,n⟩,o⟩,j⟩,g⟩,a⟩:=h;refine⟨i,d,z,m,e,hz,k,r,λW=> ?_,n,o,ZHu j,g,λl=> ?_⟩
   .rw[Ztz f];exact VRs.ofCs W _
   .rcases a with a|a
    .rw[l]at a;cases a
    .exact a
  .cases h
 .cases h
def tabB(Y:YP):Bool:=
 (List.range Y.tys.length).all (λt=>match Y.ty t with|none=>true|some a=>tiB Y t a)&&Y.P.follows .mixedOrders&&Y.P.funcs.toList.all (λf=> !(f.name=="runtime.NumGoroutine"))
theorem Vg{Y:YP}(h:tabB Y=true)(e:ZDf Y):YOK Y:=by
 simp only[tabB,uH,uP,List.mem_range]at h;obtain⟨⟨k,m⟩,g⟩:=h;refine⟨λt n a=> ?_,m,λf fn j=> ?_,e⟩
 .have c:t<Y.tys.length:=by
   unfold YP.ty at a;by_cases d:t<Y.tys.length
   .exact d
   .rw[List.getElem?_eq_none (Nat.le_of_not_lt d)]at a;cases a
  have:=k t c;rw[a]at this;exact ZHv this
 .have:=g fn (by
   have l:=Array.mem_of_getElem? j;simpa using l)
  simpa using this
end Go.Y
