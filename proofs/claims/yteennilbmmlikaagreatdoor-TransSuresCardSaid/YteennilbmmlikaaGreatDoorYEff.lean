/- A part of the proof. -/
import Derived.Test.YteennilbmmlikaaGreatDoorYExo
import Derived.Orders
namespace Go.Y
set_option maxRecDepth 1000000
set_option maxHeartbeats 0
structure Con(Y:YP)(f:FuncId)(args:List V)(h:Heap)(Q:V->Heap->Prop):Prop where
 body:Jo Y f
 tr:CallTr Y f args h Q
theorem Con.mono{Y}{f}{b}{h}{Q d:V->Heap->Prop}(c:Con Y f b h Q)(g: ∀v e,Q v e->d v e):Con Y f b h d:=⟨c.body,c.tr.mono g⟩
inductive Ef where
 |skip
 |q (q:Q)
 |box (cs:List V)
 |st (s:Nat) (cs:List V)
 |hp (h:Heap) (v:V)
 |al (i:Nat) (o:YObj) (v:V)
 |nw (i:Nat) (o:YObj) (v:V)
 deriving Inhabited
def Heap.putAt(h:Heap)(i:Nat)(o:YObj):Heap:= {h with t:=Tr.set (i+1) h.t i (some o),nx:=i+1}
def Heap.putM(h:Heap)(i:Nat)(o:YObj):Heap:= {h with t:=Tr.set (i+1) h.t i (some o),nx:=max h.nx (i+1)}
theorem Heap.putM_nx(h:Heap)(o:YObj):h.putM h.nx o=h.push o:=by unfold Heap.putM Heap.push;rw[Nat.max_eq_right (Nat.le_succ _)]
theorem Heap.putM_raw(h:Heap)(i j:Nat)(o:YObj):(h.putM i o).raw j=if j=i then some (some o)else h.raw j:=Tr.raw_set _ _ _ _ _ (Zha i)
theorem Heap.putM_get(h:Heap)(i j:Nat)(o:YObj):(h.putM i o).get j=if j=i then some o else h.get j:=Tr.get_set _ _ _ _ _ (Zha i)
theorem PushH.putM(h:Heap)(i:Nat)(o:YObj):PushH h (h.putM i o) i o:=⟨λj=>h.putM_raw i j o,⟨Nat.le_max_left _ _,Nat.lt_of_lt_of_le (Nat.lt_succ_self i) (Nat.le_max_right _ _)⟩,rfl⟩
def Zd3(σ:St)(s:Nat)(b:List V):St:=match σ.env.getD s .undef with
 | .lb _=> {σ with env:=σ.env.set s (.lb b)}
 |_=>σ
def Ef.app(d:Option Tmp)(e:Ef)(σ:St):St:=
 match e with
 | .skip=>putV σ d (.tup [])
 | .q (.val v)=>putV σ d v
 | .q (.ref s o)=>match d with
  |some d=> {σ with env:=σ.env.set d .rf,refs:=(d,s,o)::σ.refs}
  |none=>σ
 | .box b=>match d with
  |some d=> {σ with env:=σ.env.set d (.lb b)}
  |none=>σ
 | .st s b=>putV (Zd3 σ s b) d .undef
 | .hp h v=>putV {σ with h:=h} d v
 | .al i o v=>putV {σ with h:=σ.h.putAt i o} d v
 | .nw i o v=>putV {σ with h:=σ.h.putM i o} d v
def Ef.appL(d:Option Tmp)(e:Ef)(σ:St):St:=
 match e with
 | .nw _ o v=>putV {σ with h:=σ.h.push o} d v
 |e=>e.app d σ
def Vb(Y:YP)(g:Nat->Bool)(σ:St)(o:Oper):Option (Heap×V):=
 match o.op with
 | .alloc t=>match Y.ty t,o.dst with
  |some m,some d=>if g d then none else some (σ.h.pushT (Y.tag t) (.arr m.zero true), .p (some (σ.h.nx,0)))
  |_,_=>none
 | .box t x=>match Y.ty t,o.dst with
  |some m,some d=>if g d then none else if(ev σ.env x).cells.length=m.size/\Zp (ev σ.env x).cells then some (σ.h.push (.arr (ev σ.env x).cells true), .p (some (σ.h.nx,0)))else none
  |_,_=>none
 | .store t a x=>match Y.ty t,addr σ a with
  |some m,some (.hp y k)=>if(ev σ.env x).cells.length=m.size/\Zp (ev σ.env x).cells then
    match σ.h.get y with
    |some (.arr q true)=>if k+(ev σ.env x).cells.length<=q.length then some (σ.h.set y (some (.arr (splice q k (ev σ.env x).cells) true)), .undef)else none
    |_=>none
   else none
  |_,_=>none
 | .buildSlice t n e=>
  match Y.kd t with
  |some (.slice f)=>match Y.ty f with
   |some b=>
    if b.size=0\/n*b.size>2 ^ 20 then none else
    match Wb (ev σ.env) (λj=>some (j*b.size,b.size)) e.toList (List.replicate n b.zero).flatten with
    |some q=>some (σ.h.push (.arr q true), .sl (some (σ.h.nx,0)) n (some n) b.size)
    |none=>none
   |none=>none
  |_=>none
 | .makeSlice t l c=>
  match Y.kd t,ev σ.env l,ev σ.env c with
  |some (.slice f), .i _ l, .i _ c=>match Y.ty f with
   |some b=>
    if b.size≠0/\0<=l/\l<=c/\c<=most/\c*b.bytes<=most then
     some (σ.h.push (.arr (List.replicate c.toNat b.zero).flatten true), .sl (some (σ.h.nx,0)) l.toNat (some c.toNat) b.size)
    else none
   |none=>none
  |_,_,_=>none
 | .convert u r x=>
  match Y.kd u,Y.kd r,ev σ.env x with
  |some .str,some (.slice f), .s l=>match Y.ty f with
   |some b=>match b.kd with
    | .int .u8=>some (σ.h.push (.arr (l.map λc=> .i .u8 c.toNat) true), .sl (some (σ.h.nx,0)) l.length none 1)
    |_=>none
   |none=>none
  |_,_,_=>none
 | .call {callee:= .builtin .append,args,argTypes} =>
  match args.toList,argTypes.toList with
  | [s,x],[st,z]=>match Xd Y σ st z (ev σ.env s) (ev σ.env x) with
   |some (v,h)=>some (h,v)
   |none=>none
  |_,_=>none
 |_=>none
theorem Zz2{Y}{k}{σ}{o:Oper}{h:Heap}{v}(b:Vb Y k σ o=some (h,v)):Qo Y k σ o=some (.st (putV {σ with h:=h} o.dst v)):=by
 unfold Vb at b;split at b;rename_i t e;split at b;rename_i F d g p;split at b;cases b;rename_i j;simp only[uB,uL]at b;obtain⟨rfl,rfl⟩:=b;simp[Qo,opQ,e,g,p,Vc,j,putV];cases b;rename_i t x e;split at b;rename_i F d g p;split at b;cases b;rename_i j;split at b;rename_i i;simp only[uB,uL]at b;obtain⟨rfl,rfl⟩:=b;simp[Qo,opQ,e,g,p,Vc,j,putV,i];cases b;cases b
 .rename_i t a x e;split at b
  .rename_i F id a0 g m;split at b
   .rename_i i;split at b
    .rename_i H Z;split at b
     .rename_i P;simp only[uB,uL]at b;obtain⟨rfl,rfl⟩:=b;simp only[Qo,opQ,e,g,m,storeAt,Z];rw[uF i,uF P]
      rfl
     .cases b
    .cases b
   .cases b
  .cases b
 .rename_i t n B e;split at b;rename_i D r;split at b;rename_i E f;split at b;cases b;rename_i A;split at b;rename_i H X;simp only[uB,uL]at b;obtain⟨rfl,rfl⟩:=b;simp only[Qo,opQ,e,r,f,X];rw[uE A];cases b;cases b;cases b
 .rename_i t l c e;split at b;rename_i D kl l' kc c' r j i;split at b;rename_i E f;split at b;rename_i q;simp only[uB,uL]at b;obtain⟨rfl,rfl⟩:=b;simp only[Qo,opQ,e,r,f,j,i];rw[uF q];cases b;cases b;cases b
 .rename_i a1 K x e;split at b;rename_i D l z u hx;split at b;rename_i E f;split at b;rename_i y;simp only[uB,uL]at b;obtain⟨rfl,rfl⟩:=b;simp[Qo,opQ,e,z,u,hx,f,y];cases b;cases b;cases b
 .rename_i C G e;split at b;rename_i s x st xt L N;split at b;rename_i v' h' O;simp only[uB,uL]at b;obtain⟨rfl,rfl⟩:=b;simp[Qo,opQ,e,L,N,O];cases b;cases b
 .cases b
inductive StepE (Y:YP) (loc:Nat->Bool) (σ:St) (o:Oper):Ef->Prop
 |quiet (q:Q) (h:opQ Y σ o=some q):StepE Y loc σ o (.q q)
 |alloc (t:TypeId) (ti:TI) (d:Nat) (hop:o.op= .alloc t) (hti:Y.ty t=some ti) (hd:o.dst=some d) (hl:loc d=true):StepE Y loc σ o (.box ti.zero)
 |boxl (t:TypeId) (x:Operand) (ti:TI) (d:Nat) (hop:o.op= .box t x) (hti:Y.ty t=some ti) (hd:o.dst=some d) (hl:loc d=true)
   (hs:(ev σ.env x).cells.length=ti.size) (hc:Zp (ev σ.env x).cells=true):StepE Y loc σ o (.box (ev σ.env x).cells)
 |stl (t:TypeId) (a x:Operand) (ti:TI) (s off:Nat) (cs:List V) (hop:o.op= .store t a x) (hti:Y.ty t=some ti) (ha:addr σ a=some (.lb s off)) (hcs:σ.env.getD s .undef= .lb cs)
   (hs:(ev σ.env x).cells.length=ti.size) (hc:Zp (ev σ.env x).cells=true) (hb:off+(ev σ.env x).cells.length<=cs.length):StepE Y loc σ o (.st s (splice cs off (ev σ.env x).cells))
 |bs (t:TypeId) (n:Nat) (parts:Array (Nat×Operand)) (et:TypeId) (te:TI) (cs:List V) (hop:o.op= .buildSlice t n parts) (hk:Y.kd t=some (.slice et)) (hte:Y.ty et=some te)
   (hsz: ¬(te.size=0∨n*te.size>2 ^ 20)) (hf:Wb (ev σ.env) (fun j=>some (j*te.size,te.size)) parts.toList (List.replicate n te.zero).flatten=some cs) (hc:Cold cs):StepE Y loc σ o (.q (.val (.ts cs n (some n))))
 |pcall (f:FuncId) (args args':List V) (r:V) (hs:Qo Y loc σ o=some (.call f args)) (hf:FrzL σ.h args args') (hc:Cold args∧args'=args∨Zi7 r=true) (hp:PCon Y f args' (· =r)):StepE Y loc σ o (.q (.val r))
 |exq (v:V) (hs:exoQ Y σ o=some v):StepE Y loc σ o (.q (.val v))
 |exh (h:Heap) (v:V) (hs:exoH Y σ o=some (h,v)):StepE Y loc σ o (.hp h v)
 |heap (h:Heap) (v:V) (hs:Vb Y loc σ o=some (h,v)):StepE Y loc σ o (.hp h v)
 |icall (f:FuncId) (args:List V) (h:Heap) (v:V) (hs:Qo Y loc σ o=some (.call f args)) (hc:Con Y f args σ.h fun v' h'=>v'=v∧h'=h):StepE Y loc σ o (.hp h v)
 |icallA (f:FuncId) (args:List V) (x:YObj) (v:V) (hs:Qo Y loc σ o=some (.call f args)) (hc:Con Y f args σ.h fun v' h'=>v'=v∧h'=σ.h.push x):StepE Y loc σ o (.al σ.h.nx x v)
 |icallR (f:FuncId) (args:List V) (l:Nat) (h1 hN:Heap) (v r:V) (hs:Qo Y loc σ o=some (.call f args)) (hcold:Xp args=false) (hc:Con Y f args {σ.h with lo:=l} fun v' h'=>v'=v∧h'=h1)
   (hsame: ∀i,i<σ.h.nx->h1.get i=σ.h.get i) (htg: ∀p,p∈σ.h.tg->p∈h1.tg) (hN1: ∀i o,hN.get i=some o->h1.get i=some o∧σ.h.nx<=i) (hf:Frz hN v r):StepE Y loc σ o (.q (.val r))
 |round (id:Nat) (h:Heap) (v:V) (fo:Operand) (ops:Array Operand) (ats:Array TypeId) (hop:o.op= .call ⟨.value fo,ops,ats⟩) (hf:ev σ.env fo= .yl id) (hc:RdCon Y id (ops.toList.map (ev σ.env)) σ.h fun v' h'=>v'=v∧h'=h):StepE Y loc σ o (.hp h v)
 |lkq (v:V) (hs:Zg2 Y σ o=some v):StepE Y loc σ o (.q (.val v))
 |mph (h:Heap) (v:V) (hs:mapH Y σ o=some (h,v)):StepE Y loc σ o (.hp h v)
 |nwp (x:YObj) (vf:Nat->V) (hs:newO Y σ o=some (x,vf)):StepE Y loc σ o (.hp (σ.h.push x) (vf σ.h.nx))
 |nw (x:YObj) (vf:Nat->V) (hs:newO Y σ o=some (x,vf)):StepE Y loc σ o (.nw σ.h.nx x (vf σ.h.nx))
 |icallz (f:FuncId) (args args':List V) (D:List Nat) (h:Heap) (v:V) (hs:Qo Y loc σ o=some (.call f args)) (hf:FrzAL (Vi σ.h D) args args') (hc:Con Y f args' (XP σ.h D) fun v' h'=>v'=v∧h'=h):StepE Y loc σ o (.hp h v)
section
variable {Y:YP} {σ σ':St} {W:Vw} {a:Act} {w:World}
theorem Zu3(σ)(d:Option Tmp)(v):putQ σ d (.val v)=some (putV σ d v):=by cases d<;>rfl
theorem Zfc{b:Type}{p:b->Bool}{l:List b}(h: ∀x∈l,p x=true):l.filter p=l:=List.filter_eq_self.2 h
theorem Ql(i:YOK Y){f}(j:Jo Y f)(h:Array Value)(w:World):(callFunc f h).run Y.P w= .ok (.enter f h) w:=by
 obtain⟨e,d,g,b⟩:=j;have c: ¬e.name="runtime.NumGoroutine":=su (i.name f e g);simp[callFunc,g,c,b]
theorem VK{ro}{P:Program}{o:Oper}{K:Act->World->Prop}{Q:Exit->Act->World->Prop}(e: ∀c,o.op≠ .defer c)(h:o.wp P a w K Q):o.wpIn (FrR ro) 0 P a w K Q:=by
 refine⟨λ_ _=>trivial,?_⟩;rw[Oper.semAt_eq _ _ _ e];unfold Oper.wp at h;generalize (execOp a.eval o).run P w=r at h
 cases r with
 |halt x b=>cases x<;>first|exact h|exact h.elim
 |ok n b=>
  cases n<;>first
   |exact h
   |exact⟨λh=>by simp[FrR,Fence.wide]at h,(callsIn_wide (n:=0)).2 h⟩
   |exact⟨λh=>by simp[FrR,Fence.wide]at h,λc d _=>let ⟨v,b,r,s⟩:=h c d;⟨v,b,r,stepsIn_wide.2 s⟩⟩
   |exact h.elim
theorem Zp5{ro:Option Nat}(h:Rel W σ a w){o:Oper}{q:Operand}{b:Array Operand}{s:Array TypeId}{A:Nat}(k:o.op= .call ⟨.value q,b,s⟩)(E:ev σ.env q= .yl A){B:V->Heap->Prop}
  (t:RdCon Y A (b.toList.map (ev σ.env)) σ.h B) {K:Act->World->Prop} {Q:Exit->Act->World->Prop}
  (D: ∀(v:V) (r:Heap) (i:Vw) (u:Value) (p:World),B v r->HRel i r p->VR i v u->Stp W W.own w i i.own p->K (a.put o.dst u) p):o.wpIn (FrR ro) 0 Y.P a w K Q:=by
 have g:=h.ev q;rw[E]at g;generalize x:a.eval q=uf at g
 cases g with
 |yl _ l G H=>
  obtain⟨z,f,n,d,j,N,L⟩:=t.tr W w _ h.heap (h.evs b.toList);have y:=H z;subst y;refine⟨λ_ _=>trivial,?_⟩;rw[Oper.semAt_eq _ _ _ (by rw[k];intro c t;cases t)];have C:(#[]++b.map a.eval)=(b.toList.map a.eval).toArray:=by apply Array.ext';simp
  have m:(execOp a.eval o).run Y.P w= .ok (.round (W.mu A).1 f n d j) w:=by
   simp only[execOp,k,resolve,x,Deferred.ofValue,uC,uD,uA,invoke,C];exact N
  rw[m];refine⟨λh=>by simp[FrR,Fence.wide]at h,?_⟩;refine RoundIn.mono (F:=Fence.wide) L ?_;rintro e p ⟨v,r,i,u,O,rfl,X,Z,q4⟩;exact D v r i u p O X Z q4
theorem XI{o}{σ'}(h:StepR Y W σ a w o σ'){K:Act->World->Prop}{Q:Exit->Act->World->Prop}
  (i: ∀b g f,Rel b σ' g f->Stp W (mine W σ a) w b (mine b σ' g) f->K g f):o.wp Y.P a w K Q:=by
 obtain⟨b,f,u,n,d,j,c,e⟩:=h;unfold Oper.wp;rw[d];rcases j with rfl|⟨rfl,rfl⟩;exact i b _ _ c e;exact i b _ _ c e
theorem ZP1(C:YOK Y)(h:Rel W σ a w){o:Oper}{t f:TypeId}{n:Nat}{e:Array (Nat×Operand)}{g}{l:List V}(p:o.op= .buildSlice t n e)(G:Y.kd t=some (.slice f))(v:Y.ty f=some g)
  (r: ¬(g.size=0\/n*g.size>2 ^ 20)) (E:Wb (ev σ.env) (λj=>some (j*g.size,g.size)) e.toList (List.replicate n g.zero).flatten=some l) (m:Cold l):StepR Y W σ a w o (putV σ o.dst (.ts l n (some n))):=by
 obtain⟨i,B,x,k⟩:=ZCt C h p G v r E;have q: ∀b ob,W.snap b=some ob->(if b=w.heap.size then some (Obj.cells i.toArray f)else W.snap b)=some ob:=λb ob d=>by
  have:=Zt (h.heap.snap b ob d);rw[uE om];exact d
 obtain⟨z,A⟩:=h.more (w':=w.alloc (.cells i.toArray f)) (s:=λb=>if b=w.heap.size then some (.cells i.toArray f)else W.snap b) q sm (λb d=>Jl _ _ _ om) (λb ob d=>by
  split at d;rename_i D;subst D;rw[JJ];exact d
  .rw[Jl _ _ _ (by assumption)];exact h.heap.snap b ob d) ⟨rfl,rfl,rfl⟩
 have y:VR (W.more w.heap.size λb=>if b=w.heap.size then some (.cells i.toArray f)else W.snap b) (.ts l n (some n)) (.slice (some ⟨w.heap.size,0,none⟩) n n):=by
  refine .ts _ _ _ _ _ _ i.toArray f (0,0) i (Nat.le_refl _) (λc m=>su m) (by simp[Vw.more]) (λj u F=>su F) (m.vrs (λb ob d=> ?_) B);simp only[Vw.dead,Vw.more];have:=Zt (h.heap.snap b ob d);rw[uE om];exact d
 exact⟨_,_,_,_,k, .inl rfl,z.putV y o.dst,A.weaken λb d=>Xq y o.dst d⟩
theorem StepE.nwI{d}{o:Oper}{i:Nat}{x:YObj}{v:V}(c:StepE Y d σ o (.nw i x v)):i=σ.h.nx/\ ∃b,v=b i/\newO Y σ o=some (x,b):=by
 cases c with
 |nw x b c=>exact⟨rfl,b,rfl,c⟩
theorem StepE.appL{b}{o}{e:Ef}(c:StepE Y b σ o e)(d:Option Tmp):e.appL d σ=e.app d σ:=by
 cases e with
 |nw i x v=>
  obtain⟨rfl,_⟩:=c.nwI;simp only[Ef.appL,Ef.app,Heap.putM_nx]
 |_=>rfl
theorem StepE.nd{g}{o:Oper}{e:Ef}(b:StepE Y g σ o e): ∀c,o.op≠ .defer c:=by
 intro c f
 cases b with
 |quiet q h=>simp[opQ,f]at h
 |alloc _ _ _ d|boxl _ _ _ _ d|stl _ _ _ _ _ _ _ d|bs _ _ _ _ _ _ d|round _ _ _ _ _ _ d=>rw[f]at d;cases d
 |pcall _ _ _ _ b|icall _ _ _ _ b|icallA _ _ _ _ b|icallR _ _ _ _ _ _ _ b|icallz _ _ _ _ _ _ b=>simp[Qo,opQ,f]at b
 |exq _ b=>simp[exoQ,f]at b
 |exh _ _ b=>simp[exoH,f]at b
 |heap _ _ b=>simp[Vb,f]at b
 |nw _ _ b|nwp _ _ b=>simp[newO,f]at b
 |mph _ _ b=>simp[mapH,f]at b
 |lkq _ b=>simp[Zg2,f]at b
theorem Zu4(z:YOK Y){A}(h:Rel W σ a w){o:Oper}{e:Ef}(i:StepE Y A σ o e)(hk: ∀s f,e= .q (.ref s f)-> ∀x∈σ.refs,o.dst≠some x.1)(E: ∀C,e= .box C-> ∀x∈σ.refs,o.dst≠some x.2.1)
  {K:Act->World->Prop} {Q:Exit->Act->World->Prop} (p: ∀O a' w',Rel O (e.app o.dst σ) a' w'->Stp W (mine W σ a) w O (mine O (e.app o.dst σ) a') w'->K a' w') 
  (b1: ∀fo a2 a0,o.op= .call ⟨.value fo,a2,a0⟩-> ∀id,ev σ.env fo≠ .yl id):o.wp Y.P a w K Q:=by
 have X: ∀C d tg,e= .box C->o.dst=some d->Vc A σ o.dst C tg=(if A d then some (e.app o.dst σ)else Vc A σ o.dst C tg):=by
  intro C d tg he Z;split;rename_i hl;subst he;simp only[Vc,Z,hl,vG,Ef.app];rw[Zfc];intro x hx;have:=E C rfl x hx;rw[Z]at this;simp only[bne_iff_ne,ne_eq];exact λhe=>this (by rw[he]);rfl
 cases i with
 |quiet q hq=>
  cases q with
  |val v=>exact XI (StepR.quiet z h hq (Zu3 σ o.dst v)) p
  |ref s N=>
   refine XI (StepR.quiet z h hq (σ':=(Ef.q (.ref s N)).app o.dst σ) ?_) p
   cases Z:o.dst with
   |none=>rfl
   |some d=>
    simp only[putQ,Ef.app];rw[Zfc];intro x hx;have:=hk s N rfl x hx;rw[Z]at this;simp only[bne_iff_ne,ne_eq];exact λhe=>this (by rw[he])
 |alloc t ti d m H Z hl=>
  refine XI (Zhd z h m H (loc:=A) ?_) p;rw[X _ d _ rfl Z,uF hl]
 |boxl t x ti d m H Z hl i k=>
  refine XI (Zpw z h m k (loc:=A) ?_) p;rw[X _ d _ rfl Z,uF hl]
 |stl t y x ti s N C m H ha a8 i k a6=>
  refine XI (Zhe z h m H ha i k (σ':=Zd3 σ s (splice C N (ev σ.env x).cells)) ?_) p;have a3:σ.env.getD s .undef= .lb C:=a8;simp only[storeAt,Zd3,a3,a6,vG]
 |bs t n b5 et te C m a9 b3 b2 F k=>exact XI (ZP1 z h m a9 b3 b2 F k) p
 |pcall f B args' r i F k hp=>
  obtain⟨us,L,c⟩:=Jf h i;unfold Oper.wp;rw[c,Ql z hp.body];simp only[Oper.upon];refine(pcall h hp.tr F (k.imp id λhr x hx=>by rw[hx];exact hr) L).mono ?_;rintro e w' ⟨x,O,u,rfl,rfl,b0,a4,G,_⟩;exact p _ _ _ (b0.putV a4 o.dst) (G.weaken λb E=>Xq a4 o.dst E)
 |round id h' v fo a2 a0 m F k=>exact absurd F (b1 fo a2 a0 m id)
 |exq v i=>exact XI (ZEp z h i) p
 |exh h' v i=>exact XI (ZEr z h i) p
 |heap h' v i=>exact XI (Zzt z h (Zz2 i)) p
 |mph h' v i=>exact XI (Zu2 z h i) p
 |lkq v i=>exact XI (Zz1 z h i) p
 |nw x vf i=>exact XI (Zn7 z h i (h.heap.new (Nat.le_refl _)) (.putM _ _ _)) p
 |nwp x vf i=>exact XI (Zn7 z h i (h.heap.new (Nat.le_refl _)) (.push _ _)) p
 |icall f B h' v i k=>
  obtain⟨us,L,c⟩:=Jf h i;unfold Oper.wp;rw[c,Ql z k.body];simp only[Oper.upon];refine(k.tr W w us h.heap L).mono ?_;rintro e w' ⟨v',h2,O,u,⟨rfl,rfl⟩,rfl,hh,j,g⟩;exact p _ _ _ ((h.call g hh).putV j o.dst) ((g.frame h).weaken λb E=>Xq j o.dst E)
 |icallA f B x v i k=>
  obtain⟨us,L,c⟩:=Jf h i;unfold Oper.wp;rw[c,Ql z k.body];simp only[Oper.upon];refine(k.tr W w us h.heap L).mono ?_;rintro e w' ⟨v',h2,O,u,⟨rfl,rfl⟩,rfl,hh,j,g⟩;exact p _ _ _ ((h.call g hh).putV j o.dst) ((g.frame h).weaken λb E=>Xq j o.dst E)
 |icallR f B l h1 hN v r i a7 k a1 b4 a5 F=>
  obtain⟨us,L,c⟩:=Jf h i;unfold Oper.wp;rw[c,Ql z k.body];simp only[Oper.upon];refine(k.tr W w us (h.heap.ext (λ_=>rfl) rfl rfl) L).mono ?_;rintro e w' ⟨v',h2,O,u,⟨rfl,rfl⟩,rfl,hh,j,g⟩;obtain⟨g1,g2,g3,g4⟩:=ZP0 h hh g a1 b4 j a5 F;exact p _ _ _ (g1.putV g2 o.dst) (g3.weaken λb E=>Xq g2 o.dst E)
 |icallz f B args' D h' v i F k=>
  obtain⟨us,L,c⟩:=Jf h i;unfold Oper.wp;rw[c,Ql z k.body];simp only[Oper.upon];obtain⟨g1,g2⟩:=h.heap.frzD D;refine(k.tr (W.frzD D w) w us g1 (F.vr (Fz.of h.heap D) (Vj h.heap D) L)).mono ?_;rintro e w' ⟨v',h2,O,u,⟨rfl,rfl⟩,rfl,hh,j,g⟩;have G:=g2.trans g;exact p _ _ _ ((h.call G hh).putV j o.dst) ((G.frame h).weaken λb E=>Xq j o.dst E)
theorem Zp6{ro:Option Nat}(hY:YOK Y){r}(h:Rel W σ a w){o:Oper}{e:Ef}(g:StepE Y r σ o e)(hk: ∀s f,e= .q (.ref s f)-> ∀x∈σ.refs,o.dst≠some x.1)(C: ∀N,e= .box N-> ∀x∈σ.refs,o.dst≠some x.2.1)
  {K:Act->World->Prop} {Q:Exit->Act->World->Prop} (H: ∀t B A,Rel t (e.app o.dst σ) B A->Stp W (mine W σ a) w t (mine t (e.app o.dst σ) B) A->K B A):o.wpIn (FrR ro) 0 Y.P a w K Q:=by
 by_cases n: ∃m j i z,o.op= .call ⟨.value m,j,i⟩/\ev σ.env m= .yl z
 .obtain⟨m,j,i,z,c,y⟩:=n;have E: ∀ {f:FuncId} {k:List V},Qo Y r σ o≠some (.call f k):=by
   intro f k F;simp[Qo,opQ,c,y]at F
  cases g with
  |round a0 h' v Z L G d D hc=>
   refine Zp5 h d D hc λv' h2 t u A ⟨O,X⟩ hh p l=> ?_;subst O X;exact H _ _ _ ((h.call l hh).putV p o.dst) ((l.frame h).weaken λb C=>Xq p o.dst C)
  |quiet q hq=>simp[opQ,c]at hq
  |alloc _ _ _ d|boxl _ _ _ _ d|stl _ _ _ _ _ _ _ d|bs _ _ _ _ _ _ d=>rw[c]at d;cases d
  |pcall _ _ _ _ g|icall _ _ _ _ g|icallA _ _ _ _ g|icallR _ _ _ _ _ _ _ g|icallz _ _ _ _ _ _ g=>exact absurd g E
  |exq _ g=>simp[exoQ,c,y]at g
  |exh _ _ g=>simp[exoH,c]at g
  |heap _ _ g=>simp[Vb,c]at g
  |nw _ _ g|nwp _ _ g=>simp[newO,c]at g
  |mph _ _ g=>simp[mapH,c]at g
  |lkq _ g=>simp[Zg2,c]at g
 .exact VK g.nd (Zu4 hY h g hk C H λm j i c z y=>n ⟨m,j,i,z,c,y⟩)
end
def Agr(v b:V):Prop:=v=b\/ ∃c a,v= .lb c/\b= .lb a
theorem Agr.refl(v):Agr v v:= .inl rfl
theorem Agr.plain{v a:V}(h:Agr v a):v.plain=a.plain:=by
 rcases h with rfl|⟨_,_,rfl,rfl⟩<;>rfl
structure AgT(σ σ':St)(t:Nat):Prop where
 env:Agr (σ.env.getD t .undef) (σ'.env.getD t .undef)
 ref:Jg σ.refs t=Jg σ'.refs t
def Zlc(o:Oper):List Nat:=o.op.operands.toList.filterMap fun| .tmp t=>some t|_=>none
theorem Zc3{o:Oper}{t:Nat}(h:Operand.tmp t∈o.op.operands):t∈Zlc o:=List.mem_filterMap.2 ⟨.tmp t,su h,rfl⟩
def ZEv(σ:St)(t:Nat):Option Nat:=match σ.env.getD t .undef with
 | .rf=>(Jg σ.refs t).map (·.1)
 |_=>none
def boxR(σ:St)(o:Oper):List Nat:=match o.op with
 | .load _ a| .store _ a _=>match addr σ a with
  |some (.lb s _)=> [s]
  |_=> []
 |_=> []
def objR(σ:St)(o:Oper):List Nat:=match o.op with
 | .load _ a=>match addr σ a with
  |some (.hp k _)=> [k]
  |_=> []
 | .lookup _ m _ _=>match ev σ.env m with
  | .mp (some r)=> [r]
  |_=> []
 |_=> []
def Zu5(σ:St)(o:Oper):Bool:=match o.op with
 | .convert _ _ x=>match ev σ.env x with
  | .sl (some _) _ _ _=>true
  |_=>false
 | .call {callee:= .builtin .len,args, ..} =>match args.toList.map (ev σ.env) with
  | [.mp (some _)]=>true
  |_=>false
 | .call {callee:= .value f,args, ..} =>match ev σ.env f with
  | .fn _ a c=> !(Xp a&&Xp (args.toList.map (ev σ.env))&&Xp c)
  |_=>true
 |_=>false
structure AgO(σ σ':St)(o:Oper):Prop where
 t: ∀t∈Zlc o,AgT σ σ' t
 s: ∀t∈Zlc o,∀s,ZEv σ t=some s->Agr (σ.env.getD s .undef) (σ'.env.getD s .undef)
 b: ∀s∈boxR σ o,σ.env.getD s .undef=σ'.env.getD s .undef
 h:Zu5 σ o=true->σ.h=σ'.h
 o: ∀k∈objR σ o,σ.h.get k=σ'.h.get k
section
variable {Y:YP} {σ σ':St} {o:Oper}
theorem AgO.ev(h:AgO σ σ' o){x:Operand}(a:x∈o.op.operands):ev σ'.env x=ev σ.env x:=by
 cases x with
 |tmp t=>exact(h.t t (Zc3 a)).env.plain.symm
 |_=>rfl
theorem AgO.addr(h:AgO σ σ' o){x:Operand}(f:x∈o.op.operands):addr σ' x=addr σ x:=by
 cases x with
 |tmp t=>
  have e:=h.t t (Zc3 f);have c:=h.s t (Zc3 f);simp only[Go.Y.addr];rcases e.env with i|⟨n,g,a,b⟩
  .simp only[ZEv]at c;rw[<-i,<-e.ref];split;rfl;rfl;rfl
   .rename_i k;rw[k]at c
    cases j:Jg σ.refs t with
    |none=>rfl
    |some m=>
     obtain⟨s,l⟩:=m;have d:=c s (by simp[j]);simp only;rcases d with d|⟨_,_,a,b⟩;rw[d];rw[a,b]
   .rfl
  .rw[a,b]
 |_=>rfl
theorem WD{e e':Operand->V}{a:Nat->Option (Nat×Nat)} : ∀ {l:List (Nat×Operand)} {b:List V},(∀p∈l,e' p.2=e p.2)->Wb e' a l b=Wb e a l b
 | [],_,_=>rfl
 |p::r,b,h=>by
  simp only[Wb];rw[h p sm];split;split;exact WD λq c=>h q (by simp[c]);rfl;rfl
theorem Wh{e e':Operand->V}{l:List Operand}(h: ∀x∈l,e' x=e x):l.map e'=l.map e:=List.map_congr_left h
theorem Zn9{k:Nat}{v:V}(b: ∀p l c a,v= .sl (some p) l c a->σ.h=σ'.h):XS σ' k v=XS σ k v:=by
 unfold XS;split;rfl;rename_i f e d cap a;have:=b _ _ _ _ rfl;simp only[Xt,this];rfl;rfl
theorem Zld(h:AgO σ σ' o){t}{x:Operand}{f:Nat}(a:x∈o.op.operands):Zg7 Y σ' t x f=Zg7 Y σ t x f:=by
 unfold Zg7;rw[h.addr a]
theorem Zle(h:AgO σ σ' o){t}{x:Operand}{v:V}(a:x∈o.op.operands):Zbj Y σ' t x v=Zbj Y σ t x v:=by
 unfold Zbj;rw[h.addr a,h.ev a]
theorem Zu6(h:AgO σ σ' o):opQ Y σ' o=opQ Y σ o:=by
 have i:= @AgO.ev σ σ' o h;have q:= @AgO.addr σ σ' o h;have D:=h.b;have A:=h.h;have F:=h.o;unfold boxR at D;unfold Zu5 at A;unfold objR at F;unfold opQ
 cases j:o.op with
 |move x=>rw[j]at i;simp only[i (x:=x) (by simp[Op.operands])]
 |assign x=>rw[j]at i;simp only[i (x:=x) (by simp[Op.operands])]
 |pick c x y=>rw[j]at i;simp only[i (x:=c) (by simp[Op.operands]),i (x:=x) (by simp[Op.operands]),i (x:=y) (by simp[Op.operands])]
 |nilCheck x=>rw[j]at i q;simp only[i (x:=x) (by simp[Op.operands]),q (x:=x) (by simp[Op.operands])]
 |binOp op t x y g=>rw[j]at i;simp only[i (x:=x) (by simp[Op.operands]),i (x:=y) (by simp[Op.operands])]
 |unOp op t x=>rw[j]at i;simp only[i (x:=x) (by simp[Op.operands])]
 |makeFunc f a c=>
  rw[j]at i;simp only;rw[Wh (e':=Go.Y.ev σ'.env) (e:=Go.Y.ev σ.env) (l:=a.toList) λx w=>i (by simp at w;simp[Op.operands,w]),Wh (e':=Go.Y.ev σ'.env) (e:=Go.Y.ev σ.env) (l:=c.toList) λx w=>i (by simp at w;simp[Op.operands,w])]
 |makeInterface t x=>rw[j]at i;simp only[i (x:=x) (by simp[Op.operands])]
 |build t z=>
  rw[j]at i;have hp: ∀p∈z.toList,Go.Y.ev σ'.env p.2=Go.Y.ev σ.env p.2:=λp hp=>i (by simp only[Op.operands,List.mem_toArray,uW];exact⟨p,hp,rfl⟩);simp only[WD (e':=Go.Y.ev σ'.env) (e:=Go.Y.ev σ.env) hp]
 |load t x=>
  rw[j]at q D F;simp only[q (x:=x) (by simp[Op.operands])]
  cases N:Go.Y.addr σ x with
  |none=>cases Y.ty t<;>rfl
  |some ad=>
   cases ad with
   |lb s L=>
    simp only[N]at D;have:=D s sm
    cases Y.ty t with
    |none=>rfl
    |some ti=>simp only[Xt,this]
   |hp id L=>
    simp only[N]at F;have:=F id sm
    cases Y.ty t with
    |none=>rfl
    |some ti=>simp only[Xt,this]
   |ro cs=>cases Y.ty t<;>rfl
 |fieldAddr t x f=>simp only[Zld (Y:=Y) h (t:=t) (x:=x) (f:=f) (by simp[j,Op.operands])]
 |indexAddr t x B=>
  have n:Go.Y.ev σ'.env B=Go.Y.ev σ.env B:=h.ev (by simp[j,Op.operands]);simp only[n,Zle (Y:=Y) h (t:=t) (x:=x) (by simp[j,Op.operands])]
 |field t x f=>rw[j]at i;simp only[i (x:=x) (by simp[Op.operands])]
 |index t x B=>rw[j]at i;simp only[i (x:=x) (by simp[Op.operands]),i (x:=B) (by simp[Op.operands])]
 |extract t B=>rw[j]at i;simp only[i (x:=t) (by simp[Op.operands])]
 |slice t x H G K=>
  rw[j]at i;have n:H.map (Go.Y.ev σ'.env)=H.map (Go.Y.ev σ.env):=by cases H with|none=>rfl|some y=>simp only[uw,i (x:=y) (by simp[Op.operands])]
  have P:G.map (Go.Y.ev σ'.env)=G.map (Go.Y.ev σ.env):=by cases G with|none=>rfl|some y=>simp only[uw,i (x:=y) (by simp[Op.operands])]
  have W:K.map (Go.Y.ev σ'.env)=K.map (Go.Y.ev σ.env):=by cases K with|none=>rfl|some y=>simp only[uw,i (x:=y) (by simp[Op.operands])]
  simp only[i (x:=x) (by simp[Op.operands]),n,P,W]
 |convert s d x=>
  rw[j]at i A;have n: ∀k v,v=Go.Y.ev σ.env x->XS σ' k v=XS σ k v:=λk v hv=>Zn9 λp l c k' Z=>A (by simp only[<-hv,Z]);simp only[i (x:=x) (by simp[Op.operands])];split<;>try rfl
  rename_i hk hd _ _ _ _;split;rw[n _ _ rfl];rfl
 |call c=>
  obtain⟨m,u,O⟩:=c;rw[j]at i A
  cases m with
  |builtin b=>
   have E:u.toList.map (Go.Y.ev σ'.env)=u.toList.map (Go.Y.ev σ.env):=Wh λx w=>i (by simp at w;simp[Op.operands,Call.operands,w])
   cases b with
   |len=>
    simp only;split
    .rename_i t x X C;have n:Go.Y.ev σ'.env x=Go.Y.ev σ.env x:=by
      have:=E;rw[C]at this;simpa using this
     rw[n];split<;>try rfl
     rename_i r _ hr;have:=A (by simp only[C,List.map_cons,List.map_nil,hr]);rw[this]
    .rfl
   |cap=>
    simp only;split
    .rename_i t x X C;have n:Go.Y.ev σ'.env x=Go.Y.ev σ.env x:=by
      have:=E;rw[C]at this;simpa using this
     rw[n]
    .rfl
   |max=>simp only[E]
   |min=>simp only[E]
   |_=>rfl
  |_=>rfl
 |_=>rfl
/-! ### Calls -/
theorem Zay{l}{f}{e}(d:Qo Y l σ o=some (.call f e)):
  ∃(j:Operand) (b:Array Operand) (h:Array TypeId) (a c:List V),o.op= .call ⟨.value j,b,h⟩/\ev σ.env j= .fn (.func f) a c/\e=a++b.toList.map (ev σ.env)++c:=by
 unfold Qo at d;split at d;simp only[uG]at d;obtain⟨_,_,i⟩:=d;cases i
 .split at d;split at d;simp only[uG]at d;obtain⟨_,_,i⟩:=d;cases i;cases d;split at d;split at d;simp only[uG]at d;obtain⟨_,_,i⟩:=d;cases i;cases d;cases d;split at d;split at d;simp only[uG]at d;obtain⟨_,_,i⟩:=d;cases i;cases d;cases d
  .split at d
   .split at d
    .split at d;cases d
     .split at d<;>cases d
    .cases d
   .cases d
  .split at d
   .split at d
    .split at d<;>cases d
    .cases d
   .cases d
  .split at d
   .split at d
    .split at d<;>cases d
    .cases d
   .cases d
  .split at d
   .split at d<;>cases d
   .cases d
  .rename_i j m h k;split at d;rename_i g fa n p;simp only[uB,R.call.injEq]at d;obtain⟨rfl,rfl⟩:=d;exact⟨j,m,h,fa,n,k,p,rfl⟩;cases d
  .cases d
theorem Zfd{g:Nat->Bool}{f}{h:Operand}{b:Array Operand}{d:Array TypeId}{a c}(e:o.op= .call ⟨.value h,b,d⟩)(i:ev σ.env h= .fn (.func f) a c):
  Qo Y g σ o=some (.call f (a++b.toList.map (ev σ.env)++c)):=by
 simp[Qo,opQ,e,i]
theorem Wi(h:AgO σ σ' o){j}{f}{d}(q:Qo Y j σ o=some (.call f d)):Qo Y j σ' o=some (.call f d):=by
 obtain⟨n,b,m,a,c,i,p,rfl⟩:=Zay q;have g:= @AgO.ev σ σ' o h;rw[i]at g;rw[<-Wh (e':=Go.Y.ev σ'.env) (e:=Go.Y.ev σ.env) (l:=b.toList) λx k=>g (by simp at k;simp[Op.operands,Call.operands,k])];exact Zfd i (by rw[g (x:=n) (by simp[Op.operands,Call.operands])];exact p)
theorem Zu7{v d:V}(h:Zi6 v=true){a c}(f:Frz a v d):Frz c v d:=by
 unfold Zi6 at h;split at h<;>first
  |(cases f<;>first|exact .b _|exact .i _ _|exact .s _|exact .pn|exact .mpn|exact .nilfn|exact .nilifc|(rename_i a c;cases a;cases c;exact .fn _ _ _ _ _ .nil .nil)|exact .sln _ _ _ (by assumption)|exact .sln0 _ _)
  |cases h
theorem Zlf{v a:V}(h:Ze8 v=true){b c}(f:Frz b v a):Frz c v a:=by
 unfold Ze8 at h;split at h
 .cases f with|ts _ _ _ _ d=>exact .ts _ _ _ _ d
 .cases f;exact .tp _
 .exact Zu7 h f
theorem Zc4{b c} : ∀ {l a:List V},ZZ l=true->FrzL b l a->FrzL c l a
 | [],_,_,f=>by cases f;exact .nil
 |v::r,_,h,f=>by
  simp only[ZZ,uH]at h
  cases f with|cons _ _ _ _ e d=>exact .cons _ _ _ _ (Zlf h.1 e) (Zc4 h.2 d)
theorem Zu8{v a:V}(h:Zg4 v=true){b c}(f:Frz b v a):Frz c v a:=by
 unfold Zg4 at h;split at h
 .cases f with|agg _ _ d=>exact .agg _ _ (Zc4 h d)
 .exact Zlf h f
theorem Zfe{b c} : ∀ {l a:List V},Xp l=true->FrzL b l a->FrzL c l a
 | [],_,_,f=>by cases f;exact .nil
 |v::r,_,h,f=>by
  simp only[Xp,uH]at h
  cases f with|cons _ _ _ _ e d=>exact .cons _ _ _ _ (Zu8 h.1 e) (Zfe h.2 d)
theorem Zp7{v:V}(h:Ze8 v=true)(a):Frz a v v:=by unfold Ze8 at h;split at h;exact .ts _ _ _ _ λ_ h=>h;exact .tp _;exact Zi8 h a
theorem Xa(a): ∀ {l:List V},ZZ l=true->FrzL a l l
 | [],_=> .nil
 |v::r,h=>by simp only[ZZ,uH]at h;exact .cons _ _ _ _ (Zp7 h.1 a) (Xa a h.2)
theorem Zz3{v:V}(h:Zg4 v=true)(a):Frz a v v:=by unfold Zg4 at h;split at h;exact .agg _ _ (Xa a h);exact Zp7 h a
theorem Zc5(a): ∀ {l:List V},Xp l=true->FrzL a l l
 | [],_=> .nil
 |v::r,h=>by simp only[Xp,uH]at h;exact .cons _ _ _ _ (Zz3 h.1 a) (Zc5 a h.2)
theorem Vl{l:List V}(h:Xp l=true):Cold l:=Zc5 _ h
theorem QF{l m:List V} :Xp (l++m)=(Xp l&&Xp m):=by
 induction l with
 |nil=>rfl
 |cons v r a=>simp only[List.cons_append,Xp,a,Bool.and_assoc]
theorem Zoa(h:AgO σ σ' o)(j:σ.h=σ'.h){m} :Vb Y m σ' o=Vb Y m σ o:=by
 have a:= @AgO.ev σ σ' o h;have l:= @AgO.addr σ σ' o h;unfold Vb
 cases f:o.op with
 |alloc t=>simp only[j]
 |box t x=>rw[f]at a;simp only[a (x:=x) (by simp[Op.operands]),j]
 |store t x y=>rw[f]at a l;simp only[a (x:=y) (by simp[Op.operands]),l (x:=x) (by simp[Op.operands]),j]
 |buildSlice t n k=>
  rw[f]at a;have r: ∀p∈k.toList,Go.Y.ev σ'.env p.2=Go.Y.ev σ.env p.2:=λp r=>a (by simp only[Op.operands,List.mem_toArray,uW];exact⟨p,r,rfl⟩);simp only[WD (e':=Go.Y.ev σ'.env) (e:=Go.Y.ev σ.env) r,j]
 |makeSlice t x y=>rw[f]at a;simp only[a (x:=x) (by simp[Op.operands]),a (x:=y) (by simp[Op.operands]),j]
 |convert s d x=>rw[f]at a;simp only[a (x:=x) (by simp[Op.operands]),j]
 |call c=>
  obtain⟨g,i,v⟩:=c;rw[f]at a
  cases g with
  |builtin b=>
   cases b with
   |append=>
    simp only;split
    .rename_i s x st q u B;have w:Go.Y.ev σ'.env s=Go.Y.ev σ.env s:=a (by
      have:s∈i.toList:=by rw[u];simp
      simp at this;simp[Op.operands,Call.operands,this])
     have z:Go.Y.ev σ'.env x=Go.Y.ev σ.env x:=a (by
      have:x∈i.toList:=by rw[u];simp
      simp at this;simp[Op.operands,Call.operands,this])
     have A: ∀s x,Xd Y σ' st q s x=Xd Y σ st q s x:=λs x=>by
      show Xd Y ⟨[],[],σ'.h⟩ st q s x=Xd Y ⟨[],[],σ.h⟩ st q s x;rw[j]
     rw[w,z,A]
    .rfl
   |_=>rfl
  |_=>rfl
 |_=>rfl
theorem Zso(h:AgO σ σ' o):exoQ Y σ' o=exoQ Y σ o:=by
 have a:= @AgO.ev σ σ' o h;unfold exoQ
 cases g:o.op with
 |slice t x p n q=>rw[g]at a;cases p<;>cases n<;>cases q<;>first|rfl|simp only[a (x:=x) (by simp[Op.operands])]
 |call c=>
  obtain⟨d,f,j⟩:=c;rw[g]at a
  cases d with
  |value k=>
   simp only[a (x:=k) (by simp[Op.operands,Call.operands])];rw[<-Wh (e':=Go.Y.ev σ'.env) (e:=Go.Y.ev σ.env) (l:=f.toList) λx i=>a (by simp at i;simp[Op.operands,Call.operands,i])]
  |builtin b=>
   cases b with
   |unsafeSliceData=>
    simp only;split
    .rename_i x m;rw[a (x:=x) (by
      have:x∈f.toList:=by rw[m];simp
      simp at this;simp[Op.operands,Call.operands,this])]
    .rfl
   |_=>rfl
  |_=>rfl
 |_=>rfl
theorem Zsp(h:AgO σ σ' o)(i:σ.h=σ'.h):exoH Y σ' o=exoH Y σ o:=by
 have a:= @AgO.ev σ σ' o h;unfold exoH
 cases f:o.op with
 |slice t x q p r=>rw[f]at a;cases q<;>cases p<;>cases r<;>first|rfl|simp only[a (x:=x) (by simp[Op.operands]),i]
 |convert s d x=>rw[f]at a;simp only[a (x:=x) (by simp[Op.operands]),i]
 |binOp w t x y z=>rw[f]at a;simp only[a (x:=x) (by simp[Op.operands]),a (x:=y) (by simp[Op.operands]),i]
 |call c=>
  obtain⟨e,g,k⟩:=c;rw[f]at a
  cases e with
  |builtin b=>
   cases b with
   |unsafeString=>
    simp only;split
    .rename_i x n A v j u;have l:Go.Y.ev σ'.env x=Go.Y.ev σ.env x:=a (by
      have:x∈g.toList:=by rw[j];simp
      simp at this;simp[Op.operands,Call.operands,this])
     have m:Go.Y.ev σ'.env n=Go.Y.ev σ.env n:=a (by
      have:n∈g.toList:=by rw[j];simp
      simp at this;simp[Op.operands,Call.operands,this])
     rw[l,m,i]
    .rfl
   |_=>rfl
  |_=>rfl
 |_=>rfl
theorem Zsq(h:AgO σ σ' o)(j:σ.h=σ'.h):mapH Y σ' o=mapH Y σ o:=by
 have e:= @AgO.ev σ σ' o h;have q: ∀k v,QS σ' k v=QS σ k v:=λk v=>by
  cases v<;>first|rfl|(rename_i a l c y;cases a<;>first|rfl|simp only[QS,XS,Xt,j])
 unfold mapH
 cases i:o.op with
 |lookup t m k ok=>rw[i]at e;simp only[e (x:=m) (by simp[Op.operands]),e (x:=k) (by simp[Op.operands]),j]
 |mapUpdate t m k x=>rw[i]at e;simp only[e (x:=m) (by simp[Op.operands]),e (x:=k) (by simp[Op.operands]),e (x:=x) (by simp[Op.operands]),j]
 |insert t m k x=>rw[i]at e;simp only[e (x:=m) (by simp[Op.operands]),e (x:=k) (by simp[Op.operands]),e (x:=x) (by simp[Op.operands]),j]
 |call c=>
  obtain⟨g,f,s⟩:=c;rw[i]at e
  cases g with
  |builtin b=>
   cases b with
   |clear=>
    simp only;split
    .rename_i x t n w;have p:Go.Y.ev σ'.env x=Go.Y.ev σ.env x:=e (by
      have:x∈f.toList:=by rw[n];simp
      simp at this;simp[Op.operands,Call.operands,this])
     rw[p,j]
    .rfl
   |copy=>
    simp only;split
    .rename_i d x st r n w;have p:Go.Y.ev σ'.env d=Go.Y.ev σ.env d:=e (by
      have:d∈f.toList:=by rw[n];simp
      simp at this;simp[Op.operands,Call.operands,this])
     have u:Go.Y.ev σ'.env x=Go.Y.ev σ.env x:=e (by
      have:x∈f.toList:=by rw[n];simp
      simp at this;simp[Op.operands,Call.operands,this])
     simp only[p,u,q,j]
    .rfl
   |_=>rfl
  |_=>rfl
 |_=>rfl
theorem Zob(h:AgO σ σ' o):Zg2 Y σ' o=Zg2 Y σ o:=by
 have a:= @AgO.ev σ σ' o h;have d:=h.o;unfold Zg2
 cases b:o.op with
 |lookup t m k ok=>
  rw[b]at a;simp only[objR,b]at d;have f:=a (x:=m) (by simp[Op.operands]);have g:=a (x:=k) (by simp[Op.operands]);have i: ∀r,ev σ.env m= .mp r->Zbl σ'.h r=Zbl σ.h r:=λr c=>by
   cases r with
   |none=>rfl
   |some r=>
    have:σ.h.get r=σ'.h.get r:=d r (by rw[c];simp);simp only[Zbl,this]
  simp only[mapH,b,f,g]
  cases p:Y.kd t with
  |none=>rfl
  |some e=>
   cases c:ev σ.env m with
   |mp r=>
    cases e with
    |map j n=>
     simp only[i r c]
     cases Y.kd j with
     |none=>rfl
     |some q=>
      cases Zbl σ.h r with
      |none=>rfl
      |some l=>
       simp only;split
       .split<;>rfl
       .rfl
    |_=>rfl
   |_=>cases e<;>rfl
 |_=>rfl
theorem Zhi(h:AgO σ σ' o):newO Y σ' o=newO Y σ o:=by
 have a:= @AgO.ev σ σ' o h;unfold newO
 cases b:o.op with
 |makeSlice t x y=>rw[b]at a;simp only[a (x:=x) (by simp[Op.operands]),a (x:=y) (by simp[Op.operands])]
 |makeMap t r=>cases r<;>rfl
 |_=>rfl
theorem StepE.local(h:AgO σ σ' o){W}{e:Ef}(F: ∀h v,e= .hp h v->σ.h=σ'.h)(a1: ∀i x v,e= .al i x v->σ.h=σ'.h)(a4: ∀i x v,e≠ .nw i x v)(s:StepE Y W σ o e):StepE Y W σ' o e:=by
 have z:= @AgO.ev σ σ' o h;have O:= @AgO.addr σ σ' o h
 cases s with
 |quiet q hq=>exact .quiet q (by rw[Zu6 h];exact hq)
 |alloc t Z d j B hd hl=>exact .alloc t Z d j B hd hl
 |boxl t x Z d j B hd hl k w=>
  rw[j]at z;have N:=z (x:=x) (by simp[Op.operands]);rw[<-N]at k w ⊢;exact .boxl t x Z d j B hd hl k w
 |stl t y x Z s a8 cs j B ha a3 k w hb=>
  have a2:=h.b s (by simp[boxR,j,ha]);rw[j]at z O;have N:=z (x:=x) (by simp[Op.operands]);have e2:=O (x:=y) (by simp[Op.operands]);rw[<-N]at k w hb ⊢;exact .stl t y x Z s a8 cs j B (by rw[e2];exact ha) (by rw[<-a2];exact a3) k w hb
 |bs t n C et te cs j hk a6 a5 E w=>
  rw[j]at z;have P: ∀p∈C.toList,Go.Y.ev σ'.env p.2=Go.Y.ev σ.env p.2:=λp P=>z (by simp only[Op.operands,List.mem_toArray,uW];exact⟨p,P,rfl⟩);exact .bs t n C et te cs j hk a6 a5 (by rw[WD (e':=Go.Y.ev σ'.env) (e:=Go.Y.ev σ.env) P];exact E) w
 |pcall f u args' r k E w P=>
  refine .pcall f u args' r (Wi h k) ?_ w P;obtain⟨fo,g,G,a,c,j,K,rfl⟩:=Zay k;have H:=h.h;simp only[Zu5,j,K]at H
  cases m:(Xp a&&Xp (g.toList.map (ev σ.env))&&Xp c) with
  |true=>
   refine Zfe ?_ E;rw[QF,QF];exact m
  |false=>rw[<-H (by simp[m])];exact E
 |exq v k=>exact .exq v (by rw[Zso h];exact k)
 |exh A v k=>exact .exh A v (by rw[Zsp h (F _ _ rfl)];exact k)
 |heap A v k=>exact .heap A v (by rw[Zoa h (F _ _ rfl)];exact k)
 |nw x vf k=>exact absurd rfl (a4 _ _ _)
 |nwp x vf k=>rw[F _ _ rfl];exact .nwp x vf (by rw[Zhi h];exact k)
 |lkq v k=>exact .lkq v (by rw[Zob h];exact k)
 |mph A v k=>exact .mph A v (by rw[Zsq h (F _ _ rfl)];exact k)
 |icall f u A v k w=>exact .icall f u A v (Wi h k) (by rw[<-F _ _ rfl];exact w)
 |icallA f u x v k w=>
  have e:=a1 _ _ _ rfl;rw[e];exact .icallA f u x v (Wi h k) (by rw[<-e];exact w)
 |icallR f u l h1 hN v r k m w L a7 a0 E=>
  obtain⟨fo,g,G,a,c,j,K,rfl⟩:=Zay k;have H:σ.h=σ'.h:=by
   refine h.h ?_;rw[QF,QF]at m;simp only[Zu5,j,K,m,Bool.not_false]
  refine .icallR f _ l h1 hN v r (Wi h k) m (by rw[<-H];exact w) (by rw[<-H];exact L) (by rw[<-H];exact a7) (by rw[<-H];exact a0) E
 |round id A v fo X G j E w=>
  rw[j]at z;have N:=F _ _ rfl;refine .round id A v fo X G j (by rw[z (x:=fo) (by simp[Op.operands,Call.operands])];exact E) ?_;rw[<-N,Wh (e':=Go.Y.ev σ'.env) (e:=Go.Y.ev σ.env) (l:=X.toList) λx hx=>z (by simp at hx;simp[Op.operands,Call.operands,hx])];exact w
 |icallz f u args' D A v k E w=>exact .icallz f u args' D A v (Wi h k) (by rw[<-F _ _ rfl];exact E) (by rw[<-F _ _ rfl];exact w)
end
end Go.Y
