/- A part of the proof. -/
import Derived.Test.YteennilbmmlikaaGreatDoorYExo
import Derived.Orders
namespace Go.Y
set_option maxRecDepth 1000000
set_option maxHeartbeats 0
structure Con(Y:YP)(f:FuncId)(args:List V)(h:Heap)(Q:V->Heap->Prop):Prop where
 body:Jq Y f
 tr:CallTr Y f args h Q
theorem Con.mono{Y}{f:FuncId}{d}{h}{Q e:V->Heap->Prop}(c:Con Y f d h Q)(j: ∀v g,Q v g->e v g):Con Y f d h e:=⟨c.body,c.tr.mono j⟩
inductive Ef where
 |skip
 |q (q:Q)
 |box (cs:List V)
 |st (s:Nat) (cs:List V)
 |hp (h:Heap) (v:V)
 |al (i:Nat) (o:YObj) (v:V)
 |nw (i:Nat) (o:YObj) (v:V)
 deriving Inhabited
def Heap.putAt(h:Heap)(i:Nat)(o:YObj):Heap:= {h with t:=Tr.set (i+1) h.t i (some o),nx:=i+1}
def Heap.putM(h:Heap)(i:Nat)(o:YObj):Heap:= {h with t:=Tr.set (i+1) h.t i (some o),nx:=max h.nx (i+1)}
theorem Heap.putM_nx(h:Heap)(o:YObj):h.putM h.nx o=h.push o:=by
 unfold Heap.putM Heap.push;rw[Nat.max_eq_right (Nat.le_succ _)]
theorem Heap.putM_raw(h:Heap)(i j:Nat)(o:YObj):(h.putM i o).raw j=if j=i then some (some o)else h.raw j:=Tr.raw_set _ _ _ _ _ (Zg1 i)
theorem Heap.putM_get(h:Heap)(i j:Nat)(o:YObj):(h.putM i o).get j=if j=i then some o else h.get j:=Tr.get_set _ _ _ _ _ (Zg1 i)
theorem PushH.putM(h:Heap)(i:Nat)(o:YObj):PushH h (h.putM i o) i o:=⟨λj=>h.putM_raw i j o,⟨Nat.le_max_left _ _,Nat.lt_of_lt_of_le (Nat.lt_succ_self i) (Nat.le_max_right _ _)⟩,rfl⟩
def Zdu(σ:St)(s:Nat)(c:List V):St:=match σ.env.getD s .undef with
 | .lb _=> {σ with env:=σ.env.set s (.lb c)}
 |_=>σ
def Ef.app(d:Option Tmp)(e:Ef)(σ:St):St:=
 match e with
 | .skip=>putV σ d (.tup [])
 | .q (.val v)=>putV σ d v
 | .q (.ref s o)=>match d with
  |some d=> {σ with env:=σ.env.set d .rf,refs:=(d,s,o)::σ.refs}
  |none=>σ
 | .box c=>match d with
  |some d=> {σ with env:=σ.env.set d (.lb c)}
  |none=>σ
 | .st s c=>putV (Zdu σ s c) d .undef
 | .hp h v=>putV {σ with h:=h} d v
 | .al i o v=>putV {σ with h:=σ.h.putAt i o} d v
 | .nw i o v=>putV {σ with h:=σ.h.putM i o} d v
def Ef.appL(d:Option Tmp)(e:Ef)(σ:St):St:=
 match e with
 | .nw _ o v=>putV {σ with h:=σ.h.push o} d v
 |e=>e.app d σ
def WW(Y:YP)(loc:Nat->Bool)(σ:St)(o:Oper):Option (Heap×V):=
 match o.op with
 | .alloc t=>match Y.ty t,o.dst with
  |some g,some d=>if loc d then none else some (σ.h.pushT (Y.tag t) (.arr g.zero true), .p (some (σ.h.nx,0)))
  |_,_=>none
 | .box t x=>match Y.ty t,o.dst with
  |some g,some d=>if loc d then none else if(ev σ.env x).cells.length=g.size/\Zp (ev σ.env x).cells then some (σ.h.push (.arr (ev σ.env x).cells true), .p (some (σ.h.nx,0)))else none
  |_,_=>none
 | .store t a x=>match Y.ty t,addr σ a with
  |some g,some (.hp y off)=>if(ev σ.env x).cells.length=g.size/\Zp (ev σ.env x).cells then
    match σ.h.get y with
    |some (.arr m true)=>if off+(ev σ.env x).cells.length<=m.length then some (σ.h.set y (some (.arr (splice m off (ev σ.env x).cells) true)), .undef)else none
    |_=>none
   else none
  |_,_=>none
 | .buildSlice t n f=>
  match Y.kd t with
  |some (.slice k)=>match Y.ty k with
   |some e=>
    if e.size=0\/n*e.size>2 ^ 20 then none else
    match Wa (ev σ.env) (λj=>some (j*e.size,e.size)) f.toList (List.replicate n e.zero).flatten with
    |some m=>some (σ.h.push (.arr m true), .sl (some (σ.h.nx,0)) n (some n) e.size)
    |none=>none
   |none=>none
  |_=>none
 | .makeSlice t l c=>
  match Y.kd t,ev σ.env l,ev σ.env c with
  |some (.slice k), .i _ l, .i _ c=>match Y.ty k with
   |some e=>
    if e.size≠0/\0<=l/\l<=c/\c<=most/\c*e.bytes<=most then
     some (σ.h.push (.arr (List.replicate c.toNat e.zero).flatten true), .sl (some (σ.h.nx,0)) l.toNat (some c.toNat) e.size)
    else none
   |none=>none
  |_,_,_=>none
 | .convert r u x=>
  match Y.kd r,Y.kd u,ev σ.env x with
  |some .str,some (.slice k), .s l=>match Y.ty k with
   |some e=>match e.kd with
    | .int .u8=>some (σ.h.push (.arr (l.map λc=> .i .u8 c.toNat) true), .sl (some (σ.h.nx,0)) l.length none 1)
    |_=>none
   |none=>none
  |_,_,_=>none
 | .call {callee:= .builtin .append,args,argTypes} =>
  match args.toList,argTypes.toList with
  | [s,x],[st,z]=>match Xe Y σ st z (ev σ.env s) (ev σ.env x) with
   |some (v,h)=>some (h,v)
   |none=>none
  |_,_=>none
 |_=>none
theorem Zyv{Y}{loc:Nat->Bool}{σ}{o:Oper}{h:Heap}{v}(e:WW Y loc σ o=some (h,v)):Qp Y loc σ o=some (.st (putV {σ with h:=h} o.dst v)):=by
 unfold WW at e;split at e
 .rename_i t f;split at e
  .rename_i H d j r;split at e
   .cases e
   .rename_i m;simp only[uB,uL]at e;obtain⟨rfl,rfl⟩:=e;simp[Qp,opQ,f,j,r,WY,m,putV]
  .cases e
 .rename_i t x f;split at e
  .rename_i H d j r;split at e
   .cases e
   .rename_i m;split at e
    .rename_i k;simp only[uB,uL]at e;obtain⟨rfl,rfl⟩:=e;simp[Qp,opQ,f,j,r,WY,m,putV,k]
    .cases e
  .cases e
 .rename_i t a x f;split at e
  .rename_i H id off j E;split at e
   .rename_i k;split at e
    .rename_i cs Z;split at e
     .rename_i P;simp only[uB,uL]at e;obtain⟨rfl,rfl⟩:=e;simp only[Qp,opQ,f,j,E,storeAt,Z];rw[uF k,uF P]
      rfl
     .cases e
    .cases e
   .cases e
  .cases e
 .rename_i t n B f;split at e
  .rename_i K D;split at e
   .rename_i F g;split at e
    .cases e
    .rename_i A;split at e
     .rename_i cs N;simp only[uB,uL]at e;obtain⟨rfl,rfl⟩:=e;simp only[Qp,opQ,f,D,g,N];rw[uE A]
     .cases e
   .cases e
  .cases e
 .rename_i t l c f;split at e
  .rename_i K kl l' kc c' D m k;split at e
   .rename_i F g;split at e
    .rename_i z;simp only[uB,uL]at e;obtain⟨rfl,rfl⟩:=e;simp only[Qp,opQ,f,D,g,m,k];rw[uF z]
    .cases e
   .cases e
  .cases e
 .rename_i a1 a0 x f;split at e
  .rename_i K l C y O;split at e
   .rename_i F g;split at e
    .rename_i u;simp only[uB,uL]at e;obtain⟨rfl,rfl⟩:=e;simp[Qp,opQ,f,C,y,O,g,u]
    .cases e
   .cases e
  .cases e
 .rename_i G L f;split at e
  .rename_i s x st xt h1 h2;split at e
   .rename_i v' h' X;simp only[uB,uL]at e;obtain⟨rfl,rfl⟩:=e;simp[Qp,opQ,f,h1,h2,X]
   .cases e
  .cases e
 .cases e
inductive StepE (Y:YP) (loc:Nat->Bool) (σ:St) (o:Oper):Ef->Prop
 |quiet (q:Q) (h:opQ Y σ o=some q):StepE Y loc σ o (.q q)
 |alloc (t:TypeId) (ti:TI) (d:Nat) (hop:o.op= .alloc t) (hti:Y.ty t=some ti) (hd:o.dst=some d) (hl:loc d=true):StepE Y loc σ o (.box ti.zero)
 |boxl (t:TypeId) (x:Operand) (ti:TI) (d:Nat) (hop:o.op= .box t x) (hti:Y.ty t=some ti) (hd:o.dst=some d) (hl:loc d=true)
   (hs:(ev σ.env x).cells.length=ti.size) (hc:Zp (ev σ.env x).cells=true):StepE Y loc σ o (.box (ev σ.env x).cells)
 |stl (t:TypeId) (a x:Operand) (ti:TI) (s off:Nat) (cs:List V) (hop:o.op= .store t a x) (hti:Y.ty t=some ti) (ha:addr σ a=some (.lb s off)) (hcs:σ.env.getD s .undef= .lb cs)
   (hs:(ev σ.env x).cells.length=ti.size) (hc:Zp (ev σ.env x).cells=true) (hb:off+(ev σ.env x).cells.length<=cs.length):StepE Y loc σ o (.st s (splice cs off (ev σ.env x).cells))
 |bs (t:TypeId) (n:Nat) (parts:Array (Nat×Operand)) (et:TypeId) (te:TI) (cs:List V) (hop:o.op= .buildSlice t n parts) (hk:Y.kd t=some (.slice et)) (hte:Y.ty et=some te)
   (hsz: ¬(te.size=0∨n*te.size>2 ^ 20)) (hf:Wa (ev σ.env) (fun j=>some (j*te.size,te.size)) parts.toList (List.replicate n te.zero).flatten=some cs) (hc:Cold cs):StepE Y loc σ o (.q (.val (.ts cs n (some n))))
 |pcall (f:FuncId) (args args':List V) (r:V) (hs:Qp Y loc σ o=some (.call f args)) (hf:FrzL σ.h args args') (hc:Cold args∧args'=args∨Zit r=true) (hp:PCon Y f args' (· =r)):StepE Y loc σ o (.q (.val r))
 |exq (v:V) (hs:exoQ Y σ o=some v):StepE Y loc σ o (.q (.val v))
 |exh (h:Heap) (v:V) (hs:exoH Y σ o=some (h,v)):StepE Y loc σ o (.hp h v)
 |heap (h:Heap) (v:V) (hs:WW Y loc σ o=some (h,v)):StepE Y loc σ o (.hp h v)
 |icall (f:FuncId) (args:List V) (h:Heap) (v:V) (hs:Qp Y loc σ o=some (.call f args)) (hc:Con Y f args σ.h fun v' h'=>v'=v∧h'=h):StepE Y loc σ o (.hp h v)
 |icallA (f:FuncId) (args:List V) (x:YObj) (v:V) (hs:Qp Y loc σ o=some (.call f args)) (hc:Con Y f args σ.h fun v' h'=>v'=v∧h'=σ.h.push x):StepE Y loc σ o (.al σ.h.nx x v)
 |icallR (f:FuncId) (args:List V) (l:Nat) (h1 hN:Heap) (v r:V) (hs:Qp Y loc σ o=some (.call f args)) (hcold:Xo args=false) (hc:Con Y f args {σ.h with lo:=l} fun v' h'=>v'=v∧h'=h1)
   (hsame: ∀i,i<σ.h.nx->h1.get i=σ.h.get i) (htg: ∀p,p∈σ.h.tg->p∈h1.tg) (hN1: ∀i o,hN.get i=some o->h1.get i=some o∧σ.h.nx<=i) (hf:Frz hN v r):StepE Y loc σ o (.q (.val r))
 |round (id:Nat) (h:Heap) (v:V) (fo:Operand) (ops:Array Operand) (ats:Array TypeId) (hop:o.op= .call ⟨.value fo,ops,ats⟩) (hf:ev σ.env fo= .yl id) (hc:RdCon Y id (ops.toList.map (ev σ.env)) σ.h fun v' h'=>v'=v∧h'=h):StepE Y loc σ o (.hp h v)
 |lkq (v:V) (hs:Zgr Y σ o=some v):StepE Y loc σ o (.q (.val v))
 |mph (h:Heap) (v:V) (hs:mapH Y σ o=some (h,v)):StepE Y loc σ o (.hp h v)
 |nwp (x:YObj) (vf:Nat->V) (hs:newO Y σ o=some (x,vf)):StepE Y loc σ o (.hp (σ.h.push x) (vf σ.h.nx))
 |nw (x:YObj) (vf:Nat->V) (hs:newO Y σ o=some (x,vf)):StepE Y loc σ o (.nw σ.h.nx x (vf σ.h.nx))
 |icallz (f:FuncId) (args args':List V) (D:List Nat) (h:Heap) (v:V) (hs:Qp Y loc σ o=some (.call f args)) (hf:FrzAL (Ve σ.h D) args args') (hc:Con Y f args' (XO σ.h D) fun v' h'=>v'=v∧h'=h):StepE Y loc σ o (.hp h v)
section
variable {Y:YP} {σ σ':St} {W:Vw} {a:Act} {w:World}
theorem Zt4(σ)(d:Option Tmp)(v):putQ σ d (.val v)=some (putV σ d v):=by cases d<;>rfl
theorem Zey{c:Type}{p:c->Bool}{l:List c}(h: ∀x∈l,p x=true):l.filter p=l:=List.filter_eq_self.2 h
theorem Qm(j:YOK Y){f:FuncId}(k:Jq Y f)(e:Array Value)(w:World):(callFunc f e).run Y.P w= .ok (.enter f e) w:=by
 obtain⟨fn,g,h,c⟩:=k;have d: ¬fn.name="runtime.NumGoroutine":=by simpa using j.name f fn h
 simp[callFunc,h,d,c]
theorem VH{ro}{P:Program}{o:Oper}{K:Act->World->Prop}{Q:Exit->Act->World->Prop}(e: ∀c,o.op≠ .defer c)(h:o.wp P a w K Q):o.wpIn (FrR ro) 0 P a w K Q:=by
 refine⟨λ_ _=>trivial,?_⟩;rw[Oper.semAt_eq _ _ _ e];unfold Oper.wp at h;generalize (execOp a.eval o).run P w=r at h
 cases r with
 |halt x d=>cases x<;>first|exact h|exact h.elim
 |ok n d=>
  cases n<;>first
   |exact h
   |exact⟨λh=>by simp[FrR,Fence.wide]at h,(callsIn_wide (n:=0)).2 h⟩
   |exact⟨λh=>by simp[FrR,Fence.wide]at h,λc f _=>let ⟨v,d,r,s⟩:=h c f;⟨v,d,r,stepsIn_wide.2 s⟩⟩
   |exact h.elim
theorem Zpk{ro:Option Nat}(h:Rel W σ a w){o:Oper}{z:Operand}{d:Array Operand}{B:Array TypeId}{D:Nat}(n:o.op= .call ⟨.value z,d,B⟩)(N:ev σ.env z= .yl D){H:V->Heap->Prop}
  (C:RdCon Y D (d.toList.map (ev σ.env)) σ.h H) {K:Act->World->Prop} {Q:Exit->Act->World->Prop}
  (hK: ∀(v:V) (y:Heap) (k:Vw) (u:Value) (t:World),H v y->HRel k y t->VR k v u->Stp W W.own w k k.own t->K (a.put o.dst u) t):o.wpIn (FrR ro) 0 Y.P a w K Q:=by
 have j:=h.ev z;rw[N]at j;generalize A:a.eval z=uf at j
 cases j with
 |yl _ l a0 Z=>
  obtain⟨E,f,x,g,m,hy,hr⟩:=C.tr W w _ h.heap (h.evs d.toList);have G:=Z E;subst G;refine⟨λ_ _=>trivial,?_⟩;rw[Oper.semAt_eq _ _ _ (by rw[n];intro c C;cases C)];have e1:(#[]++d.map a.eval)=(d.toList.map a.eval).toArray:=by apply Array.ext';simp
  have r:(execOp a.eval o).run Y.P w= .ok (.round (W.mu D).1 f x g m) w:=by
   simp only[execOp,n,resolve,A,Deferred.ofValue,uC,uD,uA,invoke,e1];exact hy
  rw[r];refine⟨λh=>by simp[FrR,Fence.wide]at h,?_⟩;refine RoundIn.mono (F:=Fence.wide) hr ?_;rintro e t ⟨v,y,k,u,O,rfl,L,X,q4⟩;exact hK v y k u t O L X q4
theorem XH{o}{σ'}(h:StepR Y W σ a w o σ'){K:Act->World->Prop}{Q:Exit->Act->World->Prop}
  (k: ∀c j g,Rel c σ' j g->Stp W (mine W σ a) w c (mine c σ' j) g->K j g):o.wp Y.P a w K Q:=by
 obtain⟨c,g,u,n,e,l,f,d⟩:=h;unfold Oper.wp;rw[e];rcases l with rfl|⟨rfl,rfl⟩
 .exact k c _ _ f d
 .exact k c _ _ f d
theorem ZOu(K:YOK Y)(h:Rel W σ a w){o:Oper}{t f:TypeId}{n:Nat}{e:Array (Nat×Operand)}{k}{m:List V}(z:o.op= .buildSlice t n e)(H:Y.kd t=some (.slice f))(y:Y.ty f=some k)
  (x: ¬(k.size=0\/n*k.size>2 ^ 20)) (E:Wa (ev σ.env) (λj=>some (j*k.size,k.size)) e.toList (List.replicate n k.zero).flatten=some m) (r:Cold m):StepR Y W σ a w o (putV σ o.dst (.ts m n (some n))):=by
 obtain⟨g,L,B,l⟩:=ZBm K h z H y x E;have v: ∀b ob,W.snap b=some ob->(if b=w.heap.size then some (Obj.cells g.toArray f)else W.snap b)=some ob:=λb ob d=>by
  have:=Zt (h.heap.snap b ob d);rw[uE om];exact d
 obtain⟨C,D⟩:=h.more (w':=w.alloc (.cells g.toArray f)) (s:=λb=>if b=w.heap.size then some (.cells g.toArray f)else W.snap b) v sm (λb d=>Jn _ _ _ om) (λb ob d=>by
  split at d
  .rename_i G;subst G;rw[JJ];exact d
  .rw[Jn _ _ _ (by assumption)];exact h.heap.snap b ob d) ⟨rfl,rfl,rfl⟩
 have A:VR (W.more w.heap.size λb=>if b=w.heap.size then some (.cells g.toArray f)else W.snap b) (.ts m n (some n)) (.slice (some ⟨w.heap.size,0,none⟩) n n):=by
  refine .ts _ _ _ _ _ _ g.toArray f (0,0) g (Nat.le_refl _) (λc r=>by simpa using r) (by simp[Vw.more]) (λj u F=>by simpa using F) (r.vrs (λb ob d=> ?_) L);simp only[Vw.dead,Vw.more];have:=Zt (h.heap.snap b ob d);rw[uE om];exact d
 exact⟨_,_,_,_,l, .inl rfl,C.putV A o.dst,D.weaken λb d=>Xq A o.dst d⟩
theorem StepE.nwI{loc:Nat->Bool}{o:Oper}{i:Nat}{x:YObj}{v:V}(d:StepE Y loc σ o (.nw i x v)):i=σ.h.nx/\ ∃c,v=c i/\newO Y σ o=some (x,c):=by
 cases d with
 |nw x c d=>exact⟨rfl,c,rfl,d⟩
theorem StepE.appL{loc:Nat->Bool}{o}{e:Ef}(c:StepE Y loc σ o e)(d:Option Tmp):e.appL d σ=e.app d σ:=by
 cases e with
 |nw i x v=>
  obtain⟨rfl,_⟩:=c.nwI;simp only[Ef.appL,Ef.app,Heap.putM_nx]
 |_=>rfl
theorem StepE.nd{loc:Nat->Bool}{o:Oper}{e:Ef}(d:StepE Y loc σ o e): ∀c,o.op≠ .defer c:=by
 intro c g
 cases d with
 |quiet q h=>simp[opQ,g]at h
 |alloc _ _ _ f|boxl _ _ _ _ f|stl _ _ _ _ _ _ _ f|bs _ _ _ _ _ _ f|round _ _ _ _ _ _ f=>rw[g]at f;cases f
 |pcall _ _ _ _ d|icall _ _ _ _ d|icallA _ _ _ _ d|icallR _ _ _ _ _ _ _ d|icallz _ _ _ _ _ _ d=>simp[Qp,opQ,g]at d
 |exq _ d=>simp[exoQ,g]at d
 |exh _ _ d=>simp[exoH,g]at d
 |heap _ _ d=>simp[WW,g]at d
 |nw _ _ d|nwp _ _ d=>simp[newO,g]at d
 |mph _ _ d=>simp[mapH,g]at d
 |lkq _ d=>simp[Zgr,g]at d
theorem Zt5(A:YOK Y){loc:Nat->Bool}(h:Rel W σ a w){o:Oper}{e:Ef}(j:StepE Y loc σ o e)(hk: ∀s f,e= .q (.ref s f)-> ∀x∈σ.refs,o.dst≠some x.1)(E: ∀F,e= .box F-> ∀x∈σ.refs,o.dst≠some x.2.1)
  {K:Act->World->Prop} {Q:Exit->Act->World->Prop} (B: ∀W' a' Z,Rel W' (e.app o.dst σ) a' Z->Stp W (mine W σ a) w W' (mine W' (e.app o.dst σ) a') Z->K a' Z) 
  (b5: ∀fo a2 a1,o.op= .call ⟨.value fo,a2,a1⟩-> ∀id,ev σ.env fo≠ .yl id):o.wp Y.P a w K Q:=by
 have a0: ∀F d tg,e= .box F->o.dst=some d->WY loc σ o.dst F tg=(if loc d then some (e.app o.dst σ)else WY loc σ o.dst F tg):=by
  intro F d tg he X;split
  .rename_i hl;subst he;simp only[WY,X,hl,vG,Ef.app];rw[Zey];intro x hx;have:=E F rfl x hx;rw[X]at this;simp only[bne_iff_ne,ne_eq];exact λhe=>this (by rw[he])
  .rfl
 cases j with
 |quiet q hq=>
  cases q with
  |val v=>exact XH (StepR.quiet A h hq (Zt4 σ o.dst v)) B
  |ref s off=>
   refine XH (StepR.quiet A h hq (σ':=(Ef.q (.ref s off)).app o.dst σ) ?_) B
   cases X:o.dst with
   |none=>rfl
   |some d=>
    simp only[putQ,Ef.app];rw[Zey];intro x hx;have:=hk s off rfl x hx;rw[X]at this;simp only[bne_iff_ne,ne_eq];exact λhe=>this (by rw[he])
 |alloc t ti d z N X hl=>
  refine XH (Zg4 A h z N (loc:=loc) ?_) B;rw[a0 _ d _ rfl X,uF hl]
 |boxl t x ti d z N X hl j m=>
  refine XH (Zpb A h z m (loc:=loc) ?_) B;rw[a0 _ d _ rfl X,uF hl]
 |stl t y x ti s off F z N ha b4 j m b2=>
  refine XH (Zg5 A h z N ha j m (σ':=Zdu σ s (splice F off (ev σ.env x).cells)) ?_) B;have a5:σ.env.getD s .undef= .lb F:=b4;simp only[storeAt,Zdu,a5,b2,vG]
 |bs t n b0 et te F z a6 a8 b1 G m=>exact XH (ZOu A h z a6 a8 b1 G m) B
 |pcall f C args' r j G m hp=>
  obtain⟨O,L,g⟩:=Jg h j;unfold Oper.wp;rw[g,Qm A hp.body];simp only[Oper.upon];refine(pcall h hp.tr G (m.imp id λhr x hx=>by rw[hx];exact hr) L).mono ?_;rintro e Z ⟨x,W',u,rfl,rfl,b6,a4,H,_⟩;exact B _ _ _ (b6.putV a4 o.dst) (H.weaken λb E=>Xq a4 o.dst E)
 |round id h' v fo a2 a1 z G m=>exact absurd G (b5 fo a2 a1 z id)
 |exq v j=>exact XH (ZDl A h j) B
 |exh h' v j=>exact XH (ZDn A h j) B
 |heap h' v j=>exact XH (Zym A h (Zyv j)) B
 |mph h' v j=>exact XH (Zt3 A h j) B
 |lkq v j=>exact XH (Zyu A h j) B
 |nw x vf j=>exact XH (Znf A h j (h.heap.new (Nat.le_refl _)) (.putM _ _ _)) B
 |nwp x vf j=>exact XH (Znf A h j (h.heap.new (Nat.le_refl _)) (.push _ _)) B
 |icall f C h' v j m=>
  obtain⟨O,L,g⟩:=Jg h j;unfold Oper.wp;rw[g,Qm A m.body];simp only[Oper.upon];refine(m.tr W w O h.heap L).mono ?_;rintro e Z ⟨v',h2,W',u,⟨rfl,rfl⟩,rfl,hh,k,c⟩;exact B _ _ _ ((h.call c hh).putV k o.dst) ((c.frame h).weaken λb E=>Xq k o.dst E)
 |icallA f C x v j m=>
  obtain⟨O,L,g⟩:=Jg h j;unfold Oper.wp;rw[g,Qm A m.body];simp only[Oper.upon];refine(m.tr W w O h.heap L).mono ?_;rintro e Z ⟨v',h2,W',u,⟨rfl,rfl⟩,rfl,hh,k,c⟩;exact B _ _ _ ((h.call c hh).putV k o.dst) ((c.frame h).weaken λb E=>Xq k o.dst E)
 |icallR f C l h1 hN v r j b3 m a3 a7 a9 G=>
  obtain⟨O,L,g⟩:=Jg h j;unfold Oper.wp;rw[g,Qm A m.body];simp only[Oper.upon];refine(m.tr W w O (h.heap.ext (λ_=>rfl) rfl rfl) L).mono ?_;rintro e Z ⟨v',h2,W',u,⟨rfl,rfl⟩,rfl,hh,k,c⟩;obtain⟨g1,g2,g3,g4⟩:=ZOt h hh c a3 a7 k a9 G;exact B _ _ _ (g1.putV g2 o.dst) (g3.weaken λb E=>Xq g2 o.dst E)
 |icallz f C args' D h' v j G m=>
  obtain⟨O,L,g⟩:=Jg h j;unfold Oper.wp;rw[g,Qm A m.body];simp only[Oper.upon];obtain⟨g1,g2⟩:=h.heap.frzD D;refine(m.tr (W.frzD D w) w O g1 (G.vr (Fz.of h.heap D) (Vf h.heap D) L)).mono ?_;rintro e Z ⟨v',h2,W',u,⟨rfl,rfl⟩,rfl,hh,k,c⟩;have H:=g2.trans c;exact B _ _ _ ((h.call H hh).putV k o.dst) ((H.frame h).weaken λb E=>Xq k o.dst E)
theorem Zpl{ro:Option Nat}(hY:YOK Y){loc:Nat->Bool}(h:Rel W σ a w){o:Oper}{e:Ef}(g:StepE Y loc σ o e)(hk: ∀s f,e= .q (.ref s f)-> ∀x∈σ.refs,o.dst≠some x.1)(D: ∀cs,e= .box cs-> ∀x∈σ.refs,o.dst≠some x.2.1)
  {K:Act->World->Prop} {Q:Exit->Act->World->Prop} (N: ∀A G B,Rel A (e.app o.dst σ) G B->Stp W (mine W σ a) w A (mine A (e.app o.dst σ) G) B->K G B):o.wpIn (FrR ro) 0 Y.P a w K Q:=by
 by_cases r: ∃t k j y,o.op= .call ⟨.value t,k,j⟩/\ev σ.env t= .yl y
 .obtain⟨t,k,j,y,d,z⟩:=r;have C: ∀ {f:FuncId} {m:List V},Qp Y loc σ o≠some (.call f m):=by
   intro f m E;simp[Qp,opQ,d,z]at E
  cases g with
  |round Z h' v a0 H L c F X=>
   refine Zpk h c F X λv' h2 A u B ⟨e1,e2⟩ hh n l=> ?_;subst e1 e2;exact N _ _ _ ((h.call l hh).putV n o.dst) ((l.frame h).weaken λb D=>Xq n o.dst D)
  |quiet q O=>simp[opQ,d]at O
  |alloc _ _ _ c|boxl _ _ _ _ c|stl _ _ _ _ _ _ _ c|bs _ _ _ _ _ _ c=>rw[d]at c;cases c
  |pcall _ _ _ _ g|icall _ _ _ _ g|icallA _ _ _ _ g|icallR _ _ _ _ _ _ _ g|icallz _ _ _ _ _ _ g=>exact absurd g C
  |exq _ g=>simp[exoQ,d,z]at g
  |exh _ _ g=>simp[exoH,d]at g
  |heap _ _ g=>simp[WW,d]at g
  |nw _ _ g|nwp _ _ g=>simp[newO,d]at g
  |mph _ _ g=>simp[mapH,d]at g
  |lkq _ g=>simp[Zgr,d]at g
 .exact VH g.nd (Zt5 hY h g hk D N λt k j d y z=>r ⟨t,k,j,y,d,z⟩)
end
def Agr(v c:V):Prop:=v=c\/ ∃d a,v= .lb d/\c= .lb a
theorem Agr.refl(v):Agr v v:= .inl rfl
theorem Agr.plain{v a:V}(h:Agr v a):v.plain=a.plain:=by
 rcases h with rfl|⟨_,_,rfl,rfl⟩<;>rfl
structure AgT(σ σ':St)(t:Nat):Prop where
 env:Agr (σ.env.getD t .undef) (σ'.env.getD t .undef)
 ref:Ji σ.refs t=Ji σ'.refs t
def Zkq(o:Oper):List Nat:=o.op.operands.toList.filterMap fun| .tmp t=>some t|_=>none
theorem Zcv{o:Oper}{t:Nat}(h:Operand.tmp t∈o.op.operands):t∈Zkq o:=List.mem_filterMap.2 ⟨.tmp t,by simpa using h,rfl⟩
def ZDr(σ:St)(t:Nat):Option Nat:=match σ.env.getD t .undef with
 | .rf=>(Ji σ.refs t).map (·.1)
 |_=>none
def boxR(σ:St)(o:Oper):List Nat:=match o.op with
 | .load _ a| .store _ a _=>match addr σ a with
  |some (.lb s _)=> [s]
  |_=> []
 |_=> []
def objR(σ:St)(o:Oper):List Nat:=match o.op with
 | .load _ a=>match addr σ a with
  |some (.hp k _)=> [k]
  |_=> []
 | .lookup _ m _ _=>match ev σ.env m with
  | .mp (some r)=> [r]
  |_=> []
 |_=> []
def Zt6(σ:St)(o:Oper):Bool:=match o.op with
 | .convert _ _ x=>match ev σ.env x with
  | .sl (some _) _ _ _=>true
  |_=>false
 | .call {callee:= .builtin .len,args, ..} =>match args.toList.map (ev σ.env) with
  | [.mp (some _)]=>true
  |_=>false
 | .call {callee:= .value f,args, ..} =>match ev σ.env f with
  | .fn _ a c=> !(Xo a&&Xo (args.toList.map (ev σ.env))&&Xo c)
  |_=>true
 |_=>false
structure AgO(σ σ':St)(o:Oper):Prop where
 t: ∀t∈Zkq o,AgT σ σ' t
 s: ∀t∈Zkq o,∀s,ZDr σ t=some s->Agr (σ.env.getD s .undef) (σ'.env.getD s .undef)
 b: ∀s∈boxR σ o,σ.env.getD s .undef=σ'.env.getD s .undef
 h:Zt6 σ o=true->σ.h=σ'.h
 o: ∀k∈objR σ o,σ.h.get k=σ'.h.get k
section
variable {Y:YP} {σ σ':St} {o:Oper}
theorem AgO.ev(h:AgO σ σ' o){x:Operand}(a:x∈o.op.operands):ev σ'.env x=ev σ.env x:=by
 cases x with
 |tmp t=>exact(h.t t (Zcv a)).env.plain.symm
 |_=>rfl
theorem AgO.addr(h:AgO σ σ' o){x:Operand}(f:x∈o.op.operands):addr σ' x=addr σ x:=by
 cases x with
 |tmp t=>
  have g:=h.t t (Zcv f);have e:=h.s t (Zcv f);simp only[Go.Y.addr];rcases g.env with l|⟨n,j,d,c⟩
  .simp only[ZDr]at e;rw[<-l,<-g.ref];split
   .rfl
   .rfl
   .rfl
   .rename_i hr;rw[hr]at e
    cases m:Ji σ.refs t with
    |none=>rfl
    |some k=>
     obtain⟨s,off⟩:=k;have a:=e s (by simp[m]);simp only;rcases a with a|⟨_,_,d,c⟩
     .rw[a]
     .rw[d,c]
   .rfl
  .rw[d,c]
 |_=>rfl
theorem WA{e e':Operand->V}{a:Nat->Option (Nat×Nat)} : ∀ {l:List (Nat×Operand)} {c:List V},(∀p∈l,e' p.2=e p.2)->Wa e' a l c=Wa e a l c
 | [],_,_=>rfl
 |p::r,c,h=>by
  simp only[Wa];rw[h p sm];split
  .split
   .exact WA λq d=>h q (by simp[d])
   .rfl
  .rfl
theorem Wg{e e':Operand->V}{l:List Operand}(h: ∀x∈l,e' x=e x):l.map e'=l.map e:=List.map_congr_left h
theorem Znh{k:Nat}{v:V}(d: ∀p l c a,v= .sl (some p) l c a->σ.h=σ'.h):XQ σ' k v=XQ σ k v:=by
 unfold XQ;split
 .rfl
 .rename_i e off len cap a;have:=d _ _ _ _ rfl;simp only[Xu,this]
 .rfl
 .rfl
theorem Zkr(h:AgO σ σ' o){t:TypeId}{x:Operand}{f:Nat}(a:x∈o.op.operands):Zgy Y σ' t x f=Zgy Y σ t x f:=by
 unfold Zgy;rw[h.addr a]
theorem Zks(h:AgO σ σ' o){t:TypeId}{x:Operand}{v:V}(a:x∈o.op.operands):Zbe Y σ' t x v=Zbe Y σ t x v:=by
 unfold Zbe;rw[h.addr a,h.ev a]
theorem Zt7(h:AgO σ σ' o):opQ Y σ' o=opQ Y σ o:=by
 have j:= @AgO.ev σ σ' o h;have u:= @AgO.addr σ σ' o h;have E:=h.b;have D:=h.h;have H:=h.o;unfold boxR at E;unfold Zt6 at D;unfold objR at H;unfold opQ
 cases m:o.op with
 |move x=>rw[m]at j;simp only[j (x:=x) (by simp[Op.operands])]
 |assign x=>rw[m]at j;simp only[j (x:=x) (by simp[Op.operands])]
 |pick c x y=>rw[m]at j;simp only[j (x:=c) (by simp[Op.operands]),j (x:=x) (by simp[Op.operands]),j (x:=y) (by simp[Op.operands])]
 |nilCheck x=>rw[m]at j u;simp only[j (x:=x) (by simp[Op.operands]),u (x:=x) (by simp[Op.operands])]
 |binOp X t x y g=>rw[m]at j;simp only[j (x:=x) (by simp[Op.operands]),j (x:=y) (by simp[Op.operands])]
 |unOp X t x=>rw[m]at j;simp only[j (x:=x) (by simp[Op.operands])]
 |makeFunc f a c=>
  rw[m]at j;simp only;rw[Wg (e':=Go.Y.ev σ'.env) (e:=Go.Y.ev σ.env) (l:=a.toList) λx z=>j (by simp at z;simp[Op.operands,z]),Wg (e':=Go.Y.ev σ'.env) (e:=Go.Y.ev σ.env) (l:=c.toList) λx z=>j (by simp at z;simp[Op.operands,z])]
 |makeInterface t x=>rw[m]at j;simp only[j (x:=x) (by simp[Op.operands])]
 |build t B=>
  rw[m]at j;have hp: ∀p∈B.toList,Go.Y.ev σ'.env p.2=Go.Y.ev σ.env p.2:=λp hp=>j (by simp only[Op.operands,List.mem_toArray,uW];exact⟨p,hp,rfl⟩);simp only[WA (e':=Go.Y.ev σ'.env) (e:=Go.Y.ev σ.env) hp]
 |load t x=>
  rw[m]at u E H;simp only[u (x:=x) (by simp[Op.operands])]
  cases O:Go.Y.addr σ x with
  |none=>cases Y.ty t<;>rfl
  |some ad=>
   cases ad with
   |lb s off=>
    simp only[O]at E;have:=E s sm
    cases Y.ty t with
    |none=>rfl
    |some ti=>simp only[Xu,this]
   |hp id off=>
    simp only[O]at H;have:=H id sm
    cases Y.ty t with
    |none=>rfl
    |some ti=>simp only[Xu,this]
   |ro cs=>cases Y.ty t<;>rfl
 |fieldAddr t x f=>simp only[Zkr (Y:=Y) h (t:=t) (x:=x) (f:=f) (by simp[m,Op.operands])]
 |indexAddr t x C=>
  have w:Go.Y.ev σ'.env C=Go.Y.ev σ.env C:=h.ev (by simp[m,Op.operands]);simp only[w,Zks (Y:=Y) h (t:=t) (x:=x) (by simp[m,Op.operands])]
 |field t x f=>rw[m]at j;simp only[j (x:=x) (by simp[Op.operands])]
 |index t x C=>rw[m]at j;simp only[j (x:=x) (by simp[Op.operands]),j (x:=C) (by simp[Op.operands])]
 |extract t C=>rw[m]at j;simp only[j (x:=t) (by simp[Op.operands])]
 |slice t x N L K=>
  rw[m]at j;have w:N.map (Go.Y.ev σ'.env)=N.map (Go.Y.ev σ.env):=by cases N with|none=>rfl|some y=>simp only[uw,j (x:=y) (by simp[Op.operands])]
  have W:L.map (Go.Y.ev σ'.env)=L.map (Go.Y.ev σ.env):=by cases L with|none=>rfl|some y=>simp only[uw,j (x:=y) (by simp[Op.operands])]
  have e3:K.map (Go.Y.ev σ'.env)=K.map (Go.Y.ev σ.env):=by cases K with|none=>rfl|some y=>simp only[uw,j (x:=y) (by simp[Op.operands])]
  simp only[j (x:=x) (by simp[Op.operands]),w,W,e3]
 |convert s d x=>
  rw[m]at j D;have w: ∀k v,v=Go.Y.ev σ.env x->XQ σ' k v=XQ σ k v:=λk v Z=>Znh λp l c k' P=>D (by simp only[<-Z,P]);simp only[j (x:=x) (by simp[Op.operands])];split<;>try rfl
  rename_i hk hd _ _ _ _;split
  .rw[w _ _ rfl]
  .rfl
 |call c=>
  obtain⟨n,A,a0⟩:=c;rw[m]at j D
  cases n with
  |builtin b=>
   have G:A.toList.map (Go.Y.ev σ'.env)=A.toList.map (Go.Y.ev σ.env):=Wg λx z=>j (by simp at z;simp[Op.operands,Call.operands,z])
   cases b with
   |len=>
    simp only;split
    .rename_i t x h1 F;have w:Go.Y.ev σ'.env x=Go.Y.ev σ.env x:=by
      have:=G;rw[F]at this;simpa using this
     rw[w];split<;>try rfl
     rename_i r _ hr;have:=D (by simp only[F,List.map_cons,List.map_nil,hr]);rw[this]
    .rfl
   |cap=>
    simp only;split
    .rename_i t x h1 F;have w:Go.Y.ev σ'.env x=Go.Y.ev σ.env x:=by
      have:=G;rw[F]at this;simpa using this
     rw[w]
    .rfl
   |max=>simp only[G]
   |min=>simp only[G]
   |_=>rfl
  |_=>rfl
 |_=>rfl
/-! ### Calls -/
theorem Zau{loc:Nat->Bool}{f:FuncId}{e}(d:Qp Y loc σ o=some (.call f e)):
  ∃(k:Operand) (n:Array Operand) (h:Array TypeId) (a c:List V),o.op= .call ⟨.value k,n,h⟩/\ev σ.env k= .fn (.func f) a c/\e=a++n.toList.map (ev σ.env)++c:=by
 unfold Qp at d;split at d
 .simp only[uG]at d;obtain⟨_,_,j⟩:=d;cases j
 .split at d
  .split at d
   .simp only[uG]at d;obtain⟨_,_,j⟩:=d;cases j
   .cases d
  .split at d
   .split at d
    .simp only[uG]at d;obtain⟨_,_,j⟩:=d;cases j
    .cases d
   .cases d
  .split at d
   .split at d
    .simp only[uG]at d;obtain⟨_,_,j⟩:=d;cases j
    .cases d
   .cases d
  .split at d
   .split at d
    .split at d
     .cases d
     .split at d<;>cases d
    .cases d
   .cases d
  .split at d
   .split at d
    .split at d<;>cases d
    .cases d
   .cases d
  .split at d
   .split at d
    .split at d<;>cases d
    .cases d
   .cases d
  .split at d
   .split at d<;>cases d
   .cases d
  .rename_i k l h m;split at d
   .rename_i g u r t;simp only[uB,R.call.injEq]at d;obtain⟨rfl,rfl⟩:=d;exact⟨k,l,h,u,r,m,t,rfl⟩
   .cases d
  .cases d
theorem Zez{loc:Nat->Bool}{f:FuncId}{h:Operand}{g:Array Operand}{d:Array TypeId}{a c}(e:o.op= .call ⟨.value h,g,d⟩)(j:ev σ.env h= .fn (.func f) a c):
  Qp Y loc σ o=some (.call f (a++g.toList.map (ev σ.env)++c)):=by
 simp[Qp,opQ,e,j]
theorem Wh(h:AgO σ σ' o){loc:Nat->Bool}{f:FuncId}{d}(m:Qp Y loc σ o=some (.call f d)):Qp Y loc σ' o=some (.call f d):=by
 obtain⟨t,r,n,a,c,j,u,rfl⟩:=Zau m;have g:= @AgO.ev σ σ' o h;rw[j]at g;rw[<-Wg (e':=Go.Y.ev σ'.env) (e:=Go.Y.ev σ.env) (l:=r.toList) λx k=>g (by simp at k;simp[Op.operands,Call.operands,k])];exact Zez j (by rw[g (x:=t) (by simp[Op.operands,Call.operands])];exact u)
theorem Zt8{v d:V}(h:Zis v=true){a c}(f:Frz a v d):Frz c v d:=by
 unfold Zis at h;split at h<;>first
  |(cases f<;>first|exact .b _|exact .i _ _|exact .s _|exact .pn|exact .mpn|exact .nilfn|exact .nilifc|(rename_i a c;cases a;cases c;exact .fn _ _ _ _ _ .nil .nil)|exact .sln _ _ _ (by assumption)|exact .sln0 _ _)
  |cases h
theorem Zkt{v a:V}(h:Zeu v=true){c d}(f:Frz c v a):Frz d v a:=by
 unfold Zeu at h;split at h
 .cases f with|ts _ _ _ _ hp=>exact .ts _ _ _ _ hp
 .cases f;exact .tp _
 .exact Zt8 h f
theorem Zcw{c g} : ∀ {l a:List V},Xb l=true->FrzL c l a->FrzL g l a
 | [],_,_,f=>by cases f;exact .nil
 |v::r,_,h,f=>by
  simp only[Xb,uH]at h
  cases f with|cons _ _ _ _ e d=>exact .cons _ _ _ _ (Zkt h.1 e) (Zcw h.2 d)
theorem Zt9{v a:V}(h:Zgt v=true){c e}(f:Frz c v a):Frz e v a:=by
 unfold Zgt at h;split at h
 .cases f with|agg _ _ d=>exact .agg _ _ (Zcw h d)
 .exact Zkt h f
theorem Ze0{c g} : ∀ {l a:List V},Xo l=true->FrzL c l a->FrzL g l a
 | [],_,_,f=>by cases f;exact .nil
 |v::r,_,h,f=>by
  simp only[Xo,uH]at h
  cases f with|cons _ _ _ _ e d=>exact .cons _ _ _ _ (Zt9 h.1 e) (Ze0 h.2 d)
theorem Zpm{v:V}(h:Zeu v=true)(a):Frz a v v:=by
 unfold Zeu at h;split at h
 .exact .ts _ _ _ _ λ_ h=>h
 .exact .tp _
 .exact Ziu h a
theorem Xc(a): ∀ {l:List V},Xb l=true->FrzL a l l
 | [],_=> .nil
 |v::r,h=>by simp only[Xb,uH]at h;exact .cons _ _ _ _ (Zpm h.1 a) (Xc a h.2)
theorem Zyw{v:V}(h:Zgt v=true)(a):Frz a v v:=by
 unfold Zgt at h;split at h
 .exact .agg _ _ (Xc a h)
 .exact Zpm h a
theorem Zcx(a): ∀ {l:List V},Xo l=true->FrzL a l l
 | [],_=> .nil
 |v::r,h=>by simp only[Xo,uH]at h;exact .cons _ _ _ _ (Zyw h.1 a) (Zcx a h.2)
theorem Vh{l:List V}(h:Xo l=true):Cold l:=Zcx _ h
theorem QG{l m:List V} :Xo (l++m)=(Xo l&&Xo m):=by
 induction l with
 |nil=>rfl
 |cons v r a=>simp only[List.cons_append,Xo,a,Bool.and_assoc]
theorem Zni(h:AgO σ σ' o)(l:σ.h=σ'.h){loc:Nat->Bool} :WW Y loc σ' o=WW Y loc σ o:=by
 have a:= @AgO.ev σ σ' o h;have m:= @AgO.addr σ σ' o h;unfold WW
 cases f:o.op with
 |alloc t=>simp only[l]
 |box t x=>rw[f]at a;simp only[a (x:=x) (by simp[Op.operands]),l]
 |store t x y=>rw[f]at a m;simp only[a (x:=y) (by simp[Op.operands]),m (x:=x) (by simp[Op.operands]),l]
 |buildSlice t n k=>
  rw[f]at a;have hp: ∀p∈k.toList,Go.Y.ev σ'.env p.2=Go.Y.ev σ.env p.2:=λp hp=>a (by simp only[Op.operands,List.mem_toArray,uW];exact⟨p,hp,rfl⟩);simp only[WA (e':=Go.Y.ev σ'.env) (e:=Go.Y.ev σ.env) hp,l]
 |makeSlice t x y=>rw[f]at a;simp only[a (x:=x) (by simp[Op.operands]),a (x:=y) (by simp[Op.operands]),l]
 |convert s d x=>rw[f]at a;simp only[a (x:=x) (by simp[Op.operands]),l]
 |call c=>
  obtain⟨g,j,v⟩:=c;rw[f]at a
  cases g with
  |builtin b=>
   cases b with
   |append=>
    simp only;split
    .rename_i s x st r u B;have z:Go.Y.ev σ'.env s=Go.Y.ev σ.env s:=a (by
      have:s∈j.toList:=by rw[u];simp
      simp at this;simp[Op.operands,Call.operands,this])
     have w:Go.Y.ev σ'.env x=Go.Y.ev σ.env x:=a (by
      have:x∈j.toList:=by rw[u];simp
      simp at this;simp[Op.operands,Call.operands,this])
     have A: ∀s x,Xe Y σ' st r s x=Xe Y σ st r s x:=λs x=>by
      show Xe Y ⟨[],[],σ'.h⟩ st r s x=Xe Y ⟨[],[],σ.h⟩ st r s x;rw[l]
     rw[z,w,A]
    .rfl
   |_=>rfl
  |_=>rfl
 |_=>rfl
theorem Zrp(h:AgO σ σ' o):exoQ Y σ' o=exoQ Y σ o:=by
 have a:= @AgO.ev σ σ' o h;unfold exoQ
 cases g:o.op with
 |slice t x k v n=>rw[g]at a;cases k<;>cases v<;>cases n<;>first|rfl|simp only[a (x:=x) (by simp[Op.operands])]
 |call c=>
  obtain⟨d,f,m⟩:=c;rw[g]at a
  cases d with
  |value r=>
   simp only[a (x:=r) (by simp[Op.operands,Call.operands])];rw[<-Wg (e':=Go.Y.ev σ'.env) (e:=Go.Y.ev σ.env) (l:=f.toList) λx j=>a (by simp at j;simp[Op.operands,Call.operands,j])]
  |builtin b=>
   cases b with
   |unsafeSliceData=>
    simp only;split
    .rename_i x u;rw[a (x:=x) (by
      have:x∈f.toList:=by rw[u];simp
      simp at this;simp[Op.operands,Call.operands,this])]
    .rfl
   |_=>rfl
  |_=>rfl
 |_=>rfl
theorem Zrq(h:AgO σ σ' o)(j:σ.h=σ'.h):exoH Y σ' o=exoH Y σ o:=by
 have a:= @AgO.ev σ σ' o h;unfold exoH
 cases f:o.op with
 |slice t x w m u=>rw[f]at a;cases w<;>cases m<;>cases u<;>first|rfl|simp only[a (x:=x) (by simp[Op.operands]),j]
 |convert s d x=>rw[f]at a;simp only[a (x:=x) (by simp[Op.operands]),j]
 |binOp C t x y z=>rw[f]at a;simp only[a (x:=x) (by simp[Op.operands]),a (x:=y) (by simp[Op.operands]),j]
 |call c=>
  obtain⟨e,g,l⟩:=c;rw[f]at a
  cases e with
  |builtin b=>
   cases b with
   |unsafeString=>
    simp only;split
    .rename_i x n B A k D;have v:Go.Y.ev σ'.env x=Go.Y.ev σ.env x:=a (by
      have:x∈g.toList:=by rw[k];simp
      simp at this;simp[Op.operands,Call.operands,this])
     have r:Go.Y.ev σ'.env n=Go.Y.ev σ.env n:=a (by
      have:n∈g.toList:=by rw[k];simp
      simp at this;simp[Op.operands,Call.operands,this])
     rw[v,r,j]
    .rfl
   |_=>rfl
  |_=>rfl
 |_=>rfl
theorem Zrr(h:AgO σ σ' o)(n:σ.h=σ'.h):mapH Y σ' o=mapH Y σ o:=by
 have e:= @AgO.ev σ σ' o h;have u: ∀k v,QT σ' k v=QT σ k v:=λk v=>by
  cases v<;>first|rfl|(rename_i a l c C;cases a<;>first|rfl|simp only[QT,XQ,Xu,n])
 unfold mapH
 cases j:o.op with
 |lookup t m k ok=>rw[j]at e;simp only[e (x:=m) (by simp[Op.operands]),e (x:=k) (by simp[Op.operands]),n]
 |mapUpdate t m k x=>rw[j]at e;simp only[e (x:=m) (by simp[Op.operands]),e (x:=k) (by simp[Op.operands]),e (x:=x) (by simp[Op.operands]),n]
 |insert t m k x=>rw[j]at e;simp only[e (x:=m) (by simp[Op.operands]),e (x:=k) (by simp[Op.operands]),e (x:=x) (by simp[Op.operands]),n]
 |call c=>
  obtain⟨g,f,z⟩:=c;rw[j]at e
  cases g with
  |builtin b=>
   cases b with
   |clear=>
    simp only;split
    .rename_i x t r B;have w:Go.Y.ev σ'.env x=Go.Y.ev σ.env x:=e (by
      have:x∈f.toList:=by rw[r];simp
      simp at this;simp[Op.operands,Call.operands,this])
     rw[w,n]
    .rfl
   |copy=>
    simp only;split
    .rename_i d x st y r B;have w:Go.Y.ev σ'.env d=Go.Y.ev σ.env d:=e (by
      have:d∈f.toList:=by rw[r];simp
      simp at this;simp[Op.operands,Call.operands,this])
     have A:Go.Y.ev σ'.env x=Go.Y.ev σ.env x:=e (by
      have:x∈f.toList:=by rw[r];simp
      simp at this;simp[Op.operands,Call.operands,this])
     simp only[w,A,u,n]
    .rfl
   |_=>rfl
  |_=>rfl
 |_=>rfl
theorem Znj(h:AgO σ σ' o):Zgr Y σ' o=Zgr Y σ o:=by
 have a:= @AgO.ev σ σ' o h;have e:=h.o;unfold Zgr
 cases c:o.op with
 |lookup t m k ok=>
  rw[c]at a;simp only[objR,c]at e;have l:=a (x:=m) (by simp[Op.operands]);have j:=a (x:=k) (by simp[Op.operands]);have g: ∀r,ev σ.env m= .mp r->Zbg σ'.h r=Zbg σ.h r:=λr d=>by
   cases r with
   |none=>rfl
   |some r=>
    have:σ.h.get r=σ'.h.get r:=e r (by rw[d];simp);simp only[Zbg,this]
  simp only[mapH,c,l,j]
  cases v:Y.kd t with
  |none=>rfl
  |some kd=>
   cases d:ev σ.env m with
   |mp r=>
    cases kd with
    |map f u=>
     simp only[g r d]
     cases Y.kd f with
     |none=>rfl
     |some n=>
      cases Zbg σ.h r with
      |none=>rfl
      |some w=>
       simp only;split
       .split<;>rfl
       .rfl
    |_=>rfl
   |_=>cases kd<;>rfl
 |_=>rfl
theorem Zg9(h:AgO σ σ' o):newO Y σ' o=newO Y σ o:=by
 have a:= @AgO.ev σ σ' o h;unfold newO
 cases c:o.op with
 |makeSlice t x y=>rw[c]at a;simp only[a (x:=x) (by simp[Op.operands]),a (x:=y) (by simp[Op.operands])]
 |makeMap t r=>cases r<;>rfl
 |_=>rfl
theorem StepE.local(h:AgO σ σ' o){loc:Nat->Bool}{e:Ef}(E: ∀h v,e= .hp h v->σ.h=σ'.h)(a6: ∀i x v,e= .al i x v->σ.h=σ'.h)(a4: ∀i x v,e≠ .nw i x v)(s:StepE Y loc σ o e):StepE Y loc σ' o e:=by
 have w:= @AgO.ev σ σ' o h;have P:= @AgO.addr σ σ' o h
 cases s with
 |quiet q hq=>exact .quiet q (by rw[Zt7 h];exact hq)
 |alloc t L d g A X hl=>exact .alloc t L d g A X hl
 |boxl t x L d g A X hl j u=>
  rw[g]at w;have O:=w (x:=x) (by simp[Op.operands]);rw[<-O]at j u ⊢;exact .boxl t x L d g A X hl j u
 |stl t y x L s off cs g A ha a5 j u hb=>
  have a2:=h.b s (by simp[boxR,g,ha]);rw[g]at w P;have O:=w (x:=x) (by simp[Op.operands]);have e2:=P (x:=y) (by simp[Op.operands]);rw[<-O]at j u hb ⊢;exact .stl t y x L s off cs g A (by rw[e2];exact ha) (by rw[<-a2];exact a5) j u hb
 |bs t n B et te cs g hk a0 a3 C u=>
  rw[g]at w;have hp: ∀p∈B.toList,Go.Y.ev σ'.env p.2=Go.Y.ev σ.env p.2:=λp hp=>w (by simp only[Op.operands,List.mem_toArray,uW];exact⟨p,hp,rfl⟩);exact .bs t n B et te cs g hk a0 a3 (by rw[WA (e':=Go.Y.ev σ'.env) (e:=Go.Y.ev σ.env) hp];exact C) u
 |pcall f m args' r j C u hp=>
  refine .pcall f m args' r (Wh h j) ?_ u hp;obtain⟨W,aa,H,a,c,g,F,rfl⟩:=Zau j;have G:=h.h;simp only[Zt6,g,F]at G
  cases k:(Xo a&&Xo (aa.toList.map (ev σ.env))&&Xo c) with
  |true=>
   refine Ze0 ?_ C;rw[QG,QG];exact k
  |false=>rw[<-G (by simp[k])];exact C
 |exq v j=>exact .exq v (by rw[Zrp h];exact j)
 |exh z v j=>exact .exh z v (by rw[Zrq h (E _ _ rfl)];exact j)
 |heap z v j=>exact .heap z v (by rw[Zni h (E _ _ rfl)];exact j)
 |nw x vf j=>exact absurd rfl (a4 _ _ _)
 |nwp x vf j=>rw[E _ _ rfl];exact .nwp x vf (by rw[Zg9 h];exact j)
 |lkq v j=>exact .lkq v (by rw[Znj h];exact j)
 |mph z v j=>exact .mph z v (by rw[Zrr h (E _ _ rfl)];exact j)
 |icall f m z v j u=>exact .icall f m z v (Wh h j) (by rw[<-E _ _ rfl];exact u)
 |icallA f m x v j u=>
  have e:=a6 _ _ _ rfl;rw[e];exact .icallA f m x v (Wh h j) (by rw[<-e];exact u)
 |icallR f m l h1 hN v r j k u K Z a1 C=>
  obtain⟨W,aa,H,a,c,g,F,rfl⟩:=Zau j;have G:σ.h=σ'.h:=by
   refine h.h ?_;rw[QG,QG]at k;simp only[Zt6,g,F,k,Bool.not_false]
  refine .icallR f _ l h1 hN v r (Wh h j) k (by rw[<-G];exact u) (by rw[<-G];exact K) (by rw[<-G];exact Z) (by rw[<-G];exact a1) C
 |round id z v W N H g C u=>
  rw[g]at w;have O:=E _ _ rfl;refine .round id z v W N H g (by rw[w (x:=W) (by simp[Op.operands,Call.operands])];exact C) ?_;rw[<-O,Wg (e':=Go.Y.ev σ'.env) (e:=Go.Y.ev σ.env) (l:=N.toList) λx hx=>w (by simp at hx;simp[Op.operands,Call.operands,hx])];exact u
 |icallz f m args' D z v j C u=>exact .icallz f m args' D z v (Wh h j) (by rw[<-E _ _ rfl];exact C) (by rw[<-E _ _ rfl];exact u)
end
end Go.Y
