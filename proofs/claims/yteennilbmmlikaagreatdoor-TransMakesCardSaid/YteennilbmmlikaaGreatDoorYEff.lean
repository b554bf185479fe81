/- A part of the proof. -/
import Derived.Test.YteennilbmmlikaaGreatDoorYMap
import Derived.Orders
namespace Go.Y
set_option maxRecDepth 1000000
set_option maxHeartbeats 0
structure Con(Y:YP)(f:FuncId)(args:List V)(h:Heap)(Q:V->Heap->Prop):Prop where
 body:QV Y f
 tr:CallTr Y f args h Q

theorem Con.mono{Y:YP}{f:FuncId}{args:List V}{h:Heap}{Q Q':V->Heap->Prop}(c:Con Y f args h Q)(hq: ∀v h',Q v h'->Q' v h'):Con Y f args h Q':=⟨c.body,c.tr.mono hq⟩

inductive Ef where
 |skip
 |q (q:Q)
 |box (cs:List V)
 |st (s:Nat) (cs:List V)
 |hp (h:Heap) (v:V)
 |al (i:Nat) (o:YObj) (v:V)
 |nw (i:Nat) (o:YObj) (v:V)
 deriving Inhabited

def Heap.putAt(h:Heap)(i:Nat)(o:YObj):Heap:= {h with t:=Tr.set (i+1) h.t i (some o),nx:=i+1}
def Heap.putM(h:Heap)(i:Nat)(o:YObj):Heap:= {h with t:=Tr.set (i+1) h.t i (some o),nx:=max h.nx (i+1)}
theorem Heap.putM_nx(h:Heap)(o:YObj):h.putM h.nx o=h.push o:=by
 unfold Heap.putM Heap.push
 rw[Nat.max_eq_right (Nat.le_succ _)]
theorem Heap.putM_raw(h:Heap)(i j:Nat)(o:YObj):(h.putM i o).raw j=if j=i then some (some o)else h.raw j:=Tr.raw_set _ _ _ _ _ (Zev i)
theorem Heap.putM_get(h:Heap)(i j:Nat)(o:YObj):(h.putM i o).get j=if j=i then some o else h.get j:=Tr.get_set _ _ _ _ _ (Zev i)
theorem PushH.putM(h:Heap)(i:Nat)(o:YObj):PushH h (h.putM i o) i o:=⟨fun j=>h.putM_raw i j o,⟨Nat.le_max_left _ _,Nat.lt_of_lt_of_le (Nat.lt_succ_self i) (Nat.le_max_right _ _)⟩,rfl⟩

def Zb9(σ:St)(s:Nat)(cs:List V):St:=match σ.env.getD s .undef with
 | .lb _=> {σ with env:=σ.env.set s (.lb cs)}
 |_=>σ

def Ef.app(d:Option Tmp)(e:Ef)(σ:St):St:=
 match e with
 | .skip=>putV σ d (.tup [])
 | .q (.val v)=>putV σ d v
 | .q (.ref s o)=>match d with
  |some d=> {σ with env:=σ.env.set d .rf,refs:=(d,s,o)::σ.refs}
  |none=>σ
 | .box cs=>match d with
  |some d=> {σ with env:=σ.env.set d (.lb cs)}
  |none=>σ
 | .st s cs=>putV (Zb9 σ s cs) d .undef
 | .hp h v=>putV {σ with h:=h} d v
 | .al i o v=>putV {σ with h:=σ.h.putAt i o} d v
 | .nw i o v=>putV {σ with h:=σ.h.putM i o} d v
def Ef.appL(d:Option Tmp)(e:Ef)(σ:St):St:=
 match e with
 | .nw _ o v=>putV {σ with h:=σ.h.push o} d v
 |e=>e.app d σ

def Wm(Y:YP)(loc:Nat->Bool)(σ:St)(o:Oper):Option (Heap×V):=
 match o.op with
 | .alloc t=>match Y.ty t,o.dst with
  |some ti,some d=>if loc d then none else some (σ.h.pushT (Y.tag t) (.arr ti.zero true), .p (some (σ.h.nx,0)))
  |_,_=>none
 | .box t x=>match Y.ty t,o.dst with
  |some ti,some d=>if loc d then none else if(ev σ.env x).cells.length=ti.size∧Zk (ev σ.env x).cells then some (σ.h.push (.arr (ev σ.env x).cells true), .p (some (σ.h.nx,0)))else none
  |_,_=>none
 | .store t a x=>match Y.ty t,addr σ a with
  |some ti,some (.hp id off)=>if(ev σ.env x).cells.length=ti.size∧Zk (ev σ.env x).cells then
    match σ.h.get id with
    |some (.arr cs true)=>if off+(ev σ.env x).cells.length<=cs.length then some (σ.h.set id (some (.arr (splice cs off (ev σ.env x).cells) true)), .undef)else none
    |_=>none
   else none
  |_,_=>none
 | .buildSlice t n parts=>
  match Y.kd t with
  |some (.slice et)=>match Y.ty et with
   |some te=>
    if te.size=0∨n*te.size>2 ^ 20 then none else
    match Ju (ev σ.env) (fun j=>some (j*te.size,te.size)) parts.toList (List.replicate n te.zero).flatten with
    |some cs=>some (σ.h.push (.arr cs true), .sl (some (σ.h.nx,0)) n (some n) te.size)
    |none=>none
   |none=>none
  |_=>none
 | .makeSlice t l c=>
  match Y.kd t,ev σ.env l,ev σ.env c with
  |some (.slice et), .i _ l, .i _ c=>match Y.ty et with
   |some te=>
    if te.size≠0∧0<=l∧l<=c∧c<=most∧c*te.bytes<=most then
     some (σ.h.push (.arr (List.replicate c.toNat te.zero).flatten true), .sl (some (σ.h.nx,0)) l.toNat (some c.toNat) te.size)
    else none
   |none=>none
  |_,_,_=>none
 | .convert src dst x=>
  match Y.kd src,Y.kd dst,ev σ.env x with
  |some .str,some (.slice et), .s l=>match Y.ty et with
   |some te=>match te.kd with
    | .int .u8=>some (σ.h.push (.arr (l.map fun c=> .i .u8 c.toNat) true), .sl (some (σ.h.nx,0)) l.length none 1)
    |_=>none
   |none=>none
  |_,_,_=>none
 | .call {callee:= .builtin .append,args,argTypes} =>
  match args.toList,argTypes.toList with
  | [s,x],[st,xt]=>match ZR Y σ st xt (ev σ.env s) (ev σ.env x) with
   |some (v,h)=>some (h,v)
   |none=>none
  |_,_=>none
 |_=>none

theorem Ztz{Y:YP}{loc:Nat->Bool}{σ:St}{o:Oper}{h:Heap}{v:V}(hs:Wm Y loc σ o=some (h,v)):XZ Y loc σ o=some (.st (putV {σ with h:=h} o.dst v)):=by
 unfold Wm at hs
 split at hs
 ·rename_i t hop
  split at hs
  ·rename_i ti d hti hd
   split at hs
   ·cases hs
   ·rename_i hl
    simp only[Option.some.injEq,Prod.mk.injEq]at hs
    obtain⟨rfl,rfl⟩:=hs
    simp[XZ,opQ,hop,hti,hd,Wo,hl,putV]
  ·cases hs
 ·rename_i t x hop
  split at hs
  ·rename_i ti d hti hd
   split at hs
   ·cases hs
   ·rename_i hl
    split at hs
    ·rename_i hc
     simp only[Option.some.injEq,Prod.mk.injEq]at hs
     obtain⟨rfl,rfl⟩:=hs
     simp[XZ,opQ,hop,hti,hd,Wo,hl,putV,hc]
    ·cases hs
  ·cases hs
 ·rename_i t a x hop
  split at hs
  ·rename_i ti id off hti had
   split at hs
   ·rename_i hc
    split at hs
    ·rename_i cs hg
     split at hs
     ·rename_i hb
      simp only[Option.some.injEq,Prod.mk.injEq]at hs
      obtain⟨rfl,rfl⟩:=hs
      simp only[XZ,opQ,hop,hti,had,storeAt,hg]
      rw[if_pos hc,if_pos hb]
      rfl
     ·cases hs
    ·cases hs
   ·cases hs
  ·cases hs
 ·rename_i t n parts hop
  split at hs
  ·rename_i et hk
   split at hs
   ·rename_i te hte
    split at hs
    ·cases hs
    ·rename_i hsz
     split at hs
     ·rename_i cs hf
      simp only[Option.some.injEq,Prod.mk.injEq]at hs
      obtain⟨rfl,rfl⟩:=hs
      simp only[XZ,opQ,hop,hk,hte,hf]
      rw[if_neg hsz]
     ·cases hs
   ·cases hs
  ·cases hs
 ·rename_i t l c hop
  split at hs
  ·rename_i et kl l' kc c' hk hl hc
   split at hs
   ·rename_i te hte
    split at hs
    ·rename_i hin
     simp only[Option.some.injEq,Prod.mk.injEq]at hs
     obtain⟨rfl,rfl⟩:=hs
     simp only[XZ,opQ,hop,hk,hte,hl,hc]
     rw[if_pos hin]
    ·cases hs
   ·cases hs
  ·cases hs
 ·rename_i src dst x hop
  split at hs
  ·rename_i et l hks hkd hx
   split at hs
   ·rename_i te hte
    split at hs
    ·rename_i hke
     simp only[Option.some.injEq,Prod.mk.injEq]at hs
     obtain⟨rfl,rfl⟩:=hs
     simp[XZ,opQ,hop,hks,hkd,hx,hte,hke]
    ·cases hs
   ·cases hs
  ·cases hs
 ·rename_i args ats hop
  split at hs
  ·rename_i s x st xt h1 h2
   split at hs
   ·rename_i v' h' ha
    simp only[Option.some.injEq,Prod.mk.injEq]at hs
    obtain⟨rfl,rfl⟩:=hs
    simp[XZ,opQ,hop,h1,h2,ha]
   ·cases hs
  ·cases hs
 ·cases hs

inductive StepE (Y:YP) (loc:Nat->Bool) (σ:St) (o:Oper):Ef->Prop
 |quiet (q:Q) (h:opQ Y σ o=some q):StepE Y loc σ o (.q q)
 |alloc (t:TypeId) (ti:TI) (d:Nat) (hop:o.op= .alloc t) (hti:Y.ty t=some ti) (hd:o.dst=some d) (hl:loc d=true):StepE Y loc σ o (.box ti.zero)
 |boxl (t:TypeId) (x:Operand) (ti:TI) (d:Nat) (hop:o.op= .box t x) (hti:Y.ty t=some ti) (hd:o.dst=some d) (hl:loc d=true)
   (hs:(ev σ.env x).cells.length=ti.size) (hc:Zk (ev σ.env x).cells=true):StepE Y loc σ o (.box (ev σ.env x).cells)
 |stl (t:TypeId) (a x:Operand) (ti:TI) (s off:Nat) (cs:List V) (hop:o.op= .store t a x) (hti:Y.ty t=some ti) (ha:addr σ a=some (.lb s off)) (hcs:σ.env.getD s .undef= .lb cs)
   (hs:(ev σ.env x).cells.length=ti.size) (hc:Zk (ev σ.env x).cells=true) (hb:off+(ev σ.env x).cells.length<=cs.length):StepE Y loc σ o (.st s (splice cs off (ev σ.env x).cells))
 |bs (t:TypeId) (n:Nat) (parts:Array (Nat×Operand)) (et:TypeId) (te:TI) (cs:List V) (hop:o.op= .buildSlice t n parts) (hk:Y.kd t=some (.slice et)) (hte:Y.ty et=some te)
   (hsz: ¬(te.size=0∨n*te.size>2 ^ 20)) (hf:Ju (ev σ.env) (fun j=>some (j*te.size,te.size)) parts.toList (List.replicate n te.zero).flatten=some cs) (hc:Cold cs):StepE Y loc σ o (.q (.val (.ts cs n (some n))))
 |pcall (f:FuncId) (args args':List V) (r:V) (hs:XZ Y loc σ o=some (.call f args)) (hf:FrzL σ.h args args') (hc:Cold args∧args'=args∨Zgf r=true) (hp:PCon Y f args' (· =r)):StepE Y loc σ o (.q (.val r))
 |exq (v:V) (hs:exoQ Y σ o=some v):StepE Y loc σ o (.q (.val v))
 |exh (h:Heap) (v:V) (hs:exoH Y σ o=some (h,v)):StepE Y loc σ o (.hp h v)
 |heap (h:Heap) (v:V) (hs:Wm Y loc σ o=some (h,v)):StepE Y loc σ o (.hp h v)
 |icall (f:FuncId) (args:List V) (h:Heap) (v:V) (hs:XZ Y loc σ o=some (.call f args)) (hc:Con Y f args σ.h fun v' h'=>v'=v∧h'=h):StepE Y loc σ o (.hp h v)
 |icallA (f:FuncId) (args:List V) (x:YObj) (v:V) (hs:XZ Y loc σ o=some (.call f args)) (hc:Con Y f args σ.h fun v' h'=>v'=v∧h'=σ.h.push x):StepE Y loc σ o (.al σ.h.nx x v)
 |icallR (f:FuncId) (args:List V) (l:Nat) (h1 hN:Heap) (v r:V) (hs:XZ Y loc σ o=some (.call f args)) (hcold:Xc args=false) (hc:Con Y f args {σ.h with lo:=l} fun v' h'=>v'=v∧h'=h1)
   (hsame: ∀i,i<σ.h.nx->h1.get i=σ.h.get i) (htg: ∀p,p∈σ.h.tg->p∈h1.tg) (hN1: ∀i o,hN.get i=some o->h1.get i=some o∧σ.h.nx<=i) (hf:Frz hN v r):StepE Y loc σ o (.q (.val r))
 |round (id:Nat) (h:Heap) (v:V) (fo:Operand) (ops:Array Operand) (ats:Array TypeId) (hop:o.op= .call ⟨.value fo,ops,ats⟩) (hf:ev σ.env fo= .yl id) (hc:RdCon Y id (ops.toList.map (ev σ.env)) σ.h fun v' h'=>v'=v∧h'=h):StepE Y loc σ o (.hp h v)
 |lkq (v:V) (hs:Zel Y σ o=some v):StepE Y loc σ o (.q (.val v))
 |mph (h:Heap) (v:V) (hs:mapH Y σ o=some (h,v)):StepE Y loc σ o (.hp h v)
 |nwp (x:YObj) (vf:Nat->V) (hs:newO Y σ o=some (x,vf)):StepE Y loc σ o (.hp (σ.h.push x) (vf σ.h.nx))
 |nw (x:YObj) (vf:Nat->V) (hs:newO Y σ o=some (x,vf)):StepE Y loc σ o (.nw σ.h.nx x (vf σ.h.nx))
 |icallz (f:FuncId) (args args':List V) (D:List Nat) (h:Heap) (v:V) (hs:XZ Y loc σ o=some (.call f args)) (hf:FrzAL (VW σ.h D) args args') (hc:Con Y f args' (XT σ.h D) fun v' h'=>v'=v∧h'=h):StepE Y loc σ o (.hp h v)

section
variable {Y:YP} {σ σ':St} {W:Vw} {a:Act} {w:World}

theorem Zp4(σ:St)(d:Option Tmp)(v:V):putQ σ d (.val v)=some (putV σ d v):=by cases d<;>rfl

theorem Zc6{α:Type}{p:α->Bool}{l:List α}(h: ∀x∈l,p x=true):l.filter p=l:=List.filter_eq_self.2 h

theorem XW(hY:YOK Y){f:FuncId}(hb:QV Y f)(us:Array Value)(w:World):(callFunc f us).run Y.P w= .ok (.enter f us) w:=by
 obtain⟨fn,body,hf,hbd⟩:=hb
 have hnm: ¬fn.name="runtime.NumGoroutine":=by simpa using hY.name f fn hf
 simp[callFunc,hf,hnm,hbd]

theorem WP{ro:Option Nat}{P:Program}{o:Oper}{K:Act->World->Prop}{Q:Exit->Act->World->Prop}(hd: ∀c,o.op≠ .defer c)(h:o.wp P a w K Q):o.wpIn (FrR ro) 0 P a w K Q:=by
 refine⟨fun _ _=>trivial,?_⟩
 rw[Oper.semAt_eq _ _ _ hd]
 unfold Oper.wp at h
 generalize (execOp a.eval o).run P w=r at h
 cases r with
 |halt x w'=>cases x<;>first|exact h|exact h.elim
 |ok n w'=>
  cases n<;>first
   |exact h
   |exact⟨fun h=>by simp[FrR,Fence.wide]at h,(callsIn_wide (n:=0)).2 h⟩
   |exact⟨fun h=>by simp[FrR,Fence.wide]at h,fun c cs _=>let ⟨v,w',r,s⟩:=h c cs;⟨v,w',r,stepsIn_wide.2 s⟩⟩
   |exact h.elim

theorem Zl4{ro:Option Nat}(h:Rel W σ a w){o:Oper}{fo:Operand}{ops:Array Operand}{ats:Array TypeId}{id:Nat}(hop:o.op= .call ⟨.value fo,ops,ats⟩)(hf:ev σ.env fo= .yl id){QQ:V->Heap->Prop}
  (hc:RdCon Y id (ops.toList.map (ev σ.env)) σ.h QQ) {K:Act->World->Prop} {Q:Exit->Act->World->Prop}
  (hK: ∀(v:V) (h':Heap) (W':Vw) (u:Value) (w':World),QQ v h'->HRel W' h' w'->VR W' v u->Stp W W.own w W' W'.own w'->K (a.put o.dst u) w'):o.wpIn (FrR ro) 0 Y.P a w K Q:=by
 have hfo:=h.ev fo
 rw[hf]at hfo
 generalize hfe:a.eval fo=uf at hfo
 cases hfo with
 |yl _ l hid hl=>
  obtain⟨hlv,f,tmps,assign,body,hy,hr⟩:=hc.tr W w _ h.heap (h.evs ops.toList)
  have hll:=hl hlv
  subst hll
  refine⟨fun _ _=>trivial,?_⟩
  rw[Oper.semAt_eq _ _ _ (by rw[hop];intro c hc;cases hc)]
  have e1:(#[]++ops.map a.eval)=(ops.toList.map a.eval).toArray:=by apply Array.ext';simp
  have hrun:(execOp a.eval o).run Y.P w= .ok (.round (W.mu id).1 f tmps assign body) w:=by
   simp only[execOp,hop,resolve,hfe,Deferred.ofValue,Sem.run_bind,Sem.run_pure,Result.andThen_ok,invoke,e1]
   exact hy
  rw[hrun]
  refine⟨fun h=>by simp[FrR,Fence.wide]at h,?_⟩
  refine RoundIn.mono (F:=Fence.wide) hr ?_
  rintro e w' ⟨v,h',W',u,q1,rfl,q2,q3,q4⟩
  exact hK v h' W' u w' q1 q2 q3 q4

theorem Xy{o:Oper}{σ':St}(h:StepR Y W σ a w o σ'){K:Act->World->Prop}{Q:Exit->Act->World->Prop}
  (hK: ∀W' a' w',Rel W' σ' a' w'->Stp W (mine W σ a) w W' (mine W' σ' a') w'->K a' w'):o.wp Y.P a w K Q:=by
 obtain⟨W',w',u,n,hrun,hn,hr',hs'⟩:=h
 unfold Oper.wp
 rw[hrun]
 rcases hn with rfl|⟨rfl,rfl⟩
 ·exact hK W' _ _ hr' hs'
 ·exact hK W' _ _ hr' hs'

theorem ZH1(hY:YOK Y)(h:Rel W σ a w){o:Oper}{t et:TypeId}{n:Nat}{parts:Array (Nat×Operand)}{te:TI}{cs:List V}(hop:o.op= .buildSlice t n parts)(hk:Y.kd t=some (.slice et))(hte:Y.ty et=some te)
  (hsz: ¬(te.size=0∨n*te.size>2 ^ 20)) (hf:Ju (ev σ.env) (fun j=>some (j*te.size,te.size)) parts.toList (List.replicate n te.zero).flatten=some cs) (hc:Cold cs):StepR Y W σ a w o (putV σ o.dst (.ts cs n (some n))):=by
 obtain⟨us,h1,hlen,hrun⟩:=Zwe hY h hop hk hte hsz hf
 have hsn: ∀b ob,W.snap b=some ob->(if b=w.heap.size then some (Obj.cells us.toArray et)else W.snap b)=some ob:=fun b ob hb=>by
  have:=Zq (h.heap.snap b ob hb)
  rw[if_neg (by omega)];exact hb
 obtain⟨g1,g2⟩:=h.more (w':=w.alloc (.cells us.toArray et)) (s:=fun b=>if b=w.heap.size then some (.cells us.toArray et)else W.snap b) hsn (by simp) (fun b hb=>QS _ _ _ (by omega)) (fun b ob hb=>by
  split at hb
  ·rename_i he;subst he;rw[Jh];exact hb
  ·rw[QS _ _ _ (by assumption)];exact h.heap.snap b ob hb) ⟨rfl,rfl,rfl⟩
 have hv:VR (W.more w.heap.size fun b=>if b=w.heap.size then some (.cells us.toArray et)else W.snap b) (.ts cs n (some n)) (.slice (some ⟨w.heap.size,0,none⟩) n n):=by
  refine .ts _ _ _ _ _ _ us.toArray et (0,0) us (Nat.le_refl _) (fun c hc=>by simpa using hc) (by simp[Vw.more]) (fun j u hj=>by simpa using hj) (hc.vrs (fun b ob hb=> ?_) h1)
  simp only[Vw.dead,Vw.more]
  have:=Zq (h.heap.snap b ob hb)
  rw[if_neg (by omega)];exact hb
 exact⟨_,_,_,_,hrun, .inl rfl,g1.putV hv o.dst,g2.weaken fun b hb=>Xd hv o.dst hb⟩

theorem StepE.nwI{loc:Nat->Bool}{o:Oper}{i:Nat}{x:YObj}{v:V}(hs:StepE Y loc σ o (.nw i x v)):i=σ.h.nx∧ ∃vf,v=vf i∧newO Y σ o=some (x,vf):=by
 cases hs with
 |nw x vf hs=>exact⟨rfl,vf,rfl,hs⟩
theorem StepE.appL{loc:Nat->Bool}{o:Oper}{e:Ef}(hs:StepE Y loc σ o e)(d:Option Tmp):e.appL d σ=e.app d σ:=by
 cases e with
 |nw i x v=>
  obtain⟨rfl,_⟩:=hs.nwI
  simp only[Ef.appL,Ef.app,Heap.putM_nx]
 |_=>rfl

theorem StepE.nd{loc:Nat->Bool}{o:Oper}{e:Ef}(hs:StepE Y loc σ o e): ∀c,o.op≠ .defer c:=by
 intro c hc
 cases hs with
 |quiet q h=>simp[opQ,hc]at h
 |alloc _ _ _ hop|boxl _ _ _ _ hop|stl _ _ _ _ _ _ _ hop|bs _ _ _ _ _ _ hop|round _ _ _ _ _ _ hop=>rw[hc]at hop;cases hop
 |pcall _ _ _ _ hs|icall _ _ _ _ hs|icallA _ _ _ _ hs|icallR _ _ _ _ _ _ _ hs|icallz _ _ _ _ _ _ hs=>simp[XZ,opQ,hc]at hs
 |exq _ hs=>simp[exoQ,hc]at hs
 |exh _ _ hs=>simp[exoH,hc]at hs
 |heap _ _ hs=>simp[Wm,hc]at hs
 |nw _ _ hs|nwp _ _ hs=>simp[newO,hc]at hs
 |mph _ _ hs=>simp[mapH,hc]at hs
 |lkq _ hs=>simp[Zel,hc]at hs

theorem Zp5(hY:YOK Y){loc:Nat->Bool}(h:Rel W σ a w){o:Oper}{e:Ef}(hs:StepE Y loc σ o e)(hk: ∀s f,e= .q (.ref s f)-> ∀x∈σ.refs,o.dst≠some x.1)(hb: ∀cs,e= .box cs-> ∀x∈σ.refs,o.dst≠some x.2.1)
  {K:Act->World->Prop} {Q:Exit->Act->World->Prop} (hK: ∀W' a' w',Rel W' (e.app o.dst σ) a' w'->Stp W (mine W σ a) w W' (mine W' (e.app o.dst σ) a') w'->K a' w') 
  (hro: ∀fo ops ats,o.op= .call ⟨.value fo,ops,ats⟩-> ∀id,ev σ.env fo≠ .yl id):o.wp Y.P a w K Q:=by
 have hbox: ∀cs d tg,e= .box cs->o.dst=some d->Wo loc σ o.dst cs tg=(if loc d then some (e.app o.dst σ)else Wo loc σ o.dst cs tg):=by
  intro cs d tg he hd
  split
  ·rename_i hl
   subst he
   simp only[Wo,hd,hl,if_true,Ef.app]
   rw[Zc6]
   intro x hx
   have:=hb cs rfl x hx
   rw[hd]at this
   simp only[bne_iff_ne,ne_eq]
   exact fun he=>this (by rw[he])
  ·rfl
 cases hs with
 |quiet q hq=>
  cases q with
  |val v=>exact Xy (StepR.quiet hY h hq (Zp4 σ o.dst v)) hK
  |ref s off=>
   refine Xy (StepR.quiet hY h hq (σ':=(Ef.q (.ref s off)).app o.dst σ) ?_) hK
   cases hd:o.dst with
   |none=>rfl
   |some d=>
    simp only[putQ,Ef.app]
    rw[Zc6]
    intro x hx
    have:=hk s off rfl x hx
    rw[hd]at this
    simp only[bne_iff_ne,ne_eq]
    exact fun he=>this (by rw[he])
 |alloc t ti d hop hti hd hl=>
  refine Xy (Zey hY h hop hti (loc:=loc) ?_) hK
  rw[hbox _ d _ rfl hd,if_pos hl]
 |boxl t x ti d hop hti hd hl hs hc=>
  refine Xy (Zlv hY h hop hc (loc:=loc) ?_) hK
  rw[hbox _ d _ rfl hd,if_pos hl]
 |stl t y x ti s off cs hop hti ha hcs hs hc hbd=>
  refine Xy (Zez hY h hop hti ha hs hc (σ':=Zb9 σ s (splice cs off (ev σ.env x).cells)) ?_) hK
  have hcs':σ.env.getD s .undef= .lb cs:=hcs
  simp only[storeAt,Zb9,hcs',hbd,if_true]
 |bs t n parts et te cs hop hk' hte hsz hf hc=>exact Xy (ZH1 hY h hop hk' hte hsz hf hc) hK
 |pcall f args args' r hs hf hc hp=>
  obtain⟨us,hv,hrun⟩:=QG h hs
  unfold Oper.wp
  rw[hrun,XW hY hp.body]
  simp only[Oper.upon]
  refine(pcall h hp.tr hf (hc.imp id fun hr x hx=>by rw[hx];exact hr) hv).mono ?_
  rintro e w' ⟨x,W',u,rfl,rfl,hr',hvr,hst,_⟩
  exact hK _ _ _ (hr'.putV hvr o.dst) (hst.weaken fun b hb=>Xd hvr o.dst hb)
 |round id h' v fo ops ats hop hf hc=>exact absurd hf (hro fo ops ats hop id)
 |exq v hs=>exact Xy (Zx6 hY h hs) hK
 |exh h' v hs=>exact Xy (Zx8 hY h hs) hK
 |heap h' v hs=>exact Xy (Ztq hY h (Ztz hs)) hK
 |mph h' v hs=>exact Xy (Zp3 hY h hs) hK
 |lkq v hs=>exact Xy (Zty hY h hs) hK
 |nw x vf hs=>exact Xy (Zkf hY h hs (h.heap.new (Nat.le_refl _)) (.putM _ _ _)) hK
 |nwp x vf hs=>exact Xy (Zkf hY h hs (h.heap.new (Nat.le_refl _)) (.push _ _)) hK
 |icall f args h' v hs hc=>
  obtain⟨us,hv,hrun⟩:=QG h hs
  unfold Oper.wp
  rw[hrun,XW hY hc.body]
  simp only[Oper.upon]
  refine(hc.tr W w us h.heap hv).mono ?_
  rintro e w' ⟨v',h2,W',u,⟨rfl,rfl⟩,rfl,hh,hvu,hstp⟩
  exact hK _ _ _ ((h.call hstp hh).putV hvu o.dst) ((hstp.frame h).weaken fun b hb=>Xd hvu o.dst hb)
 |icallA f args x v hs hc=>
  obtain⟨us,hv,hrun⟩:=QG h hs
  unfold Oper.wp
  rw[hrun,XW hY hc.body]
  simp only[Oper.upon]
  refine(hc.tr W w us h.heap hv).mono ?_
  rintro e w' ⟨v',h2,W',u,⟨rfl,rfl⟩,rfl,hh,hvu,hstp⟩
  exact hK _ _ _ ((h.call hstp hh).putV hvu o.dst) ((hstp.frame h).weaken fun b hb=>Xd hvu o.dst hb)
 |icallR f args l h1 hN v r hs hcold hc hsame htg hN1 hf=>
  obtain⟨us,hv,hrun⟩:=QG h hs
  unfold Oper.wp
  rw[hrun,XW hY hc.body]
  simp only[Oper.upon]
  refine(hc.tr W w us (h.heap.ext (fun _=>rfl) rfl rfl) hv).mono ?_
  rintro e w' ⟨v',h2,W',u,⟨rfl,rfl⟩,rfl,hh,hvu,hstp⟩
  obtain⟨g1,g2,g3,g4⟩:=ZH0 h hh hstp hsame htg hvu hN1 hf
  exact hK _ _ _ (g1.putV g2 o.dst) (g3.weaken fun b hb=>Xd g2 o.dst hb)
 |icallz f args args' D h' v hs hf hc=>
  obtain⟨us,hv,hrun⟩:=QG h hs
  unfold Oper.wp
  rw[hrun,XW hY hc.body]
  simp only[Oper.upon]
  obtain⟨g1,g2⟩:=h.heap.frzD D
  refine(hc.tr (W.frzD D w) w us g1 (hf.vr (Fz.of h.heap D) (Vv h.heap D) hv)).mono ?_
  rintro e w' ⟨v',h2,W',u,⟨rfl,rfl⟩,rfl,hh,hvu,hstp⟩
  have hst:=g2.trans hstp
  exact hK _ _ _ ((h.call hst hh).putV hvu o.dst) ((hst.frame h).weaken fun b hb=>Xd hvu o.dst hb)

theorem Zl5{ro:Option Nat}(hY:YOK Y){loc:Nat->Bool}(h:Rel W σ a w){o:Oper}{e:Ef}(hs:StepE Y loc σ o e)(hk: ∀s f,e= .q (.ref s f)-> ∀x∈σ.refs,o.dst≠some x.1)(hb: ∀cs,e= .box cs-> ∀x∈σ.refs,o.dst≠some x.2.1)
  {K:Act->World->Prop} {Q:Exit->Act->World->Prop} (hK: ∀W' a' w',Rel W' (e.app o.dst σ) a' w'->Stp W (mine W σ a) w W' (mine W' (e.app o.dst σ) a') w'->K a' w'):o.wpIn (FrR ro) 0 Y.P a w K Q:=by
 by_cases hro: ∃fo ops ats id,o.op= .call ⟨.value fo,ops,ats⟩∧ev σ.env fo= .yl id
 ·obtain⟨fo,ops,ats,id,hop,hf⟩:=hro
  have hno: ∀ {f:FuncId} {args:List V},XZ Y loc σ o≠some (.call f args):=by
   intro f args hst
   simp[XZ,opQ,hop,hf]at hst
  cases hs with
  |round id' h' v fo' ops' ats' hop' hf' hc=>
   refine Zl4 h hop' hf' hc fun v' h2 W' u w' ⟨e1,e2⟩ hh hvu hstp=> ?_
   subst e1 e2
   exact hK _ _ _ ((h.call hstp hh).putV hvu o.dst) ((hstp.frame h).weaken fun b hb=>Xd hvu o.dst hb)
  |quiet q hq=>simp[opQ,hop]at hq
  |alloc _ _ _ hop'|boxl _ _ _ _ hop'|stl _ _ _ _ _ _ _ hop'|bs _ _ _ _ _ _ hop'=>rw[hop]at hop';cases hop'
  |pcall _ _ _ _ hs|icall _ _ _ _ hs|icallA _ _ _ _ hs|icallR _ _ _ _ _ _ _ hs|icallz _ _ _ _ _ _ hs=>exact absurd hs hno
  |exq _ hs=>simp[exoQ,hop,hf]at hs
  |exh _ _ hs=>simp[exoH,hop]at hs
  |heap _ _ hs=>simp[Wm,hop]at hs
  |nw _ _ hs|nwp _ _ hs=>simp[newO,hop]at hs
  |mph _ _ hs=>simp[mapH,hop]at hs
  |lkq _ hs=>simp[Zel,hop]at hs
 ·exact WP hs.nd (Zp5 hY h hs hk hb hK fun fo ops ats hop id hf=>hro ⟨fo,ops,ats,id,hop,hf⟩)
end
def Agr(v v':V):Prop:=v=v'∨ ∃cs cs',v= .lb cs∧v'= .lb cs'

theorem Agr.refl(v:V):Agr v v:= .inl rfl
theorem Agr.plain{v v':V}(h:Agr v v'):v.plain=v'.plain:=by
 rcases h with rfl|⟨_,_,rfl,rfl⟩<;>rfl

structure AgT(σ σ':St)(t:Nat):Prop where
 env:Agr (σ.env.getD t .undef) (σ'.env.getD t .undef)
 ref:QJ σ.refs t=QJ σ'.refs t

def Zh9(o:Oper):List Nat:=o.op.operands.toList.filterMap fun| .tmp t=>some t|_=>none

theorem Zbe{o:Oper}{t:Nat}(h:Operand.tmp t∈o.op.operands):t∈Zh9 o:=List.mem_filterMap.2 ⟨.tmp t,by simpa using h,rfl⟩

def Zyc(σ:St)(t:Nat):Option Nat:=match σ.env.getD t .undef with
 | .rf=>(QJ σ.refs t).map (·.1)
 |_=>none

def boxR(σ:St)(o:Oper):List Nat:=match o.op with
 | .load _ a| .store _ a _=>match addr σ a with
  |some (.lb s _)=> [s]
  |_=> []
 |_=> []

def objR(σ:St)(o:Oper):List Nat:=match o.op with
 | .load _ a=>match addr σ a with
  |some (.hp k _)=> [k]
  |_=> []
 | .lookup _ m _ _=>match ev σ.env m with
  | .mp (some r)=> [r]
  |_=> []
 |_=> []

def Zp6(σ:St)(o:Oper):Bool:=match o.op with
 | .convert _ _ x=>match ev σ.env x with
  | .sl (some _) _ _ _=>true
  |_=>false
 | .call {callee:= .builtin .len,args, ..} =>match args.toList.map (ev σ.env) with
  | [.mp (some _)]=>true
  |_=>false
 | .call {callee:= .value f,args, ..} =>match ev σ.env f with
  | .fn _ a c=> !(Xc a&&Xc (args.toList.map (ev σ.env))&&Xc c)
  |_=>true
 |_=>false

structure AgO(σ σ':St)(o:Oper):Prop where
 t: ∀t∈Zh9 o,AgT σ σ' t
 s: ∀t∈Zh9 o,∀s,Zyc σ t=some s->Agr (σ.env.getD s .undef) (σ'.env.getD s .undef)
 b: ∀s∈boxR σ o,σ.env.getD s .undef=σ'.env.getD s .undef
 h:Zp6 σ o=true->σ.h=σ'.h
 o: ∀k∈objR σ o,σ.h.get k=σ'.h.get k

section
variable {Y:YP} {σ σ':St} {o:Oper}

theorem AgO.ev(h:AgO σ σ' o){x:Operand}(hx:x∈o.op.operands):ev σ'.env x=ev σ.env x:=by
 cases x with
 |tmp t=>exact(h.t t (Zbe hx)).env.plain.symm
 |_=>rfl

theorem AgO.addr(h:AgO σ σ' o){x:Operand}(hx:x∈o.op.operands):addr σ' x=addr σ x:=by
 cases x with
 |tmp t=>
  have h1:=h.t t (Zbe hx)
  have h2:=h.s t (Zbe hx)
  simp only[Go.Y.addr]
  rcases h1.env with he|⟨cs,cs',e1,e2⟩
  ·simp only[Zyc]at h2
   rw[<-he,<-h1.ref]
   split
   ·rfl
   ·rfl
   ·rfl
   ·rename_i hr
    rw[hr]at h2
    cases hl:QJ σ.refs t with
    |none=>rfl
    |some so=>
     obtain⟨s,off⟩:=so
     have h3:=h2 s (by simp[hl])
     simp only
     rcases h3 with h3|⟨_,_,e1,e2⟩
     ·rw[h3]
     ·rw[e1,e2]
   ·rfl
  ·rw[e1,e2]
 |_=>rfl

theorem JT{e e':Operand->V}{place:Nat->Option (Nat×Nat)} : ∀ {l:List (Nat×Operand)} {cs:List V},(∀p∈l,e' p.2=e p.2)->Ju e' place l cs=Ju e place l cs
 | [],_,_=>rfl
 |p::r,cs,h=>by
  simp only[Ju]
  rw[h p (by simp)]
  split
  ·split
   ·exact JT fun q hq=>h q (by simp[hq])
   ·rfl
  ·rfl

theorem JA{e e':Operand->V}{l:List Operand}(h: ∀x∈l,e' x=e x):l.map e'=l.map e:=List.map_congr_left h

theorem Zkh{k:Nat}{v:V}(hh: ∀p l c k',v= .sl (some p) l c k'->σ.h=σ'.h):XE σ' k v=XE σ k v:=by
 unfold XE
 split
 ·rfl
 ·rename_i id off len cap k'
  have:=hh _ _ _ _ rfl
  simp only[Xg,this]
 ·rfl
 ·rfl

theorem Zia(h:AgO σ σ' o){t:TypeId}{x:Operand}{f:Nat}(hx:x∈o.op.operands):Zes Y σ' t x f=Zes Y σ t x f:=by
 unfold Zes;rw[h.addr hx]

theorem Zib(h:AgO σ σ' o){t:TypeId}{x:Operand}{v:V}(hx:x∈o.op.operands):VO Y σ' t x v=VO Y σ t x v:=by
 unfold VO;rw[h.addr hx,h.ev hx]

theorem Zp7(h:AgO σ σ' o):opQ Y σ' o=opQ Y σ o:=by
 have hev:= @AgO.ev σ σ' o h
 have had:= @AgO.addr σ σ' o h
 have hb:=h.b
 have hh:=h.h
 have ho:=h.o
 unfold boxR at hb
 unfold Zp6 at hh
 unfold objR at ho
 unfold opQ
 cases hop:o.op with
 |move x=>rw[hop]at hev;simp only[hev (x:=x) (by simp[Op.operands])]
 |assign x=>rw[hop]at hev;simp only[hev (x:=x) (by simp[Op.operands])]
 |pick c x y=>rw[hop]at hev;simp only[hev (x:=c) (by simp[Op.operands]),hev (x:=x) (by simp[Op.operands]),hev (x:=y) (by simp[Op.operands])]
 |nilCheck x=>rw[hop]at hev had;simp only[hev (x:=x) (by simp[Op.operands]),had (x:=x) (by simp[Op.operands])]
 |binOp op t x y g=>rw[hop]at hev;simp only[hev (x:=x) (by simp[Op.operands]),hev (x:=y) (by simp[Op.operands])]
 |unOp op t x=>rw[hop]at hev;simp only[hev (x:=x) (by simp[Op.operands])]
 |makeFunc f a c=>
  rw[hop]at hev
  simp only
  rw[JA (e':=Go.Y.ev σ'.env) (e:=Go.Y.ev σ.env) (l:=a.toList) fun x hx=>hev (by simp at hx;simp[Op.operands,hx]),JA (e':=Go.Y.ev σ'.env) (e:=Go.Y.ev σ.env) (l:=c.toList) fun x hx=>hev (by simp at hx;simp[Op.operands,hx])]
 |makeInterface t x=>rw[hop]at hev;simp only[hev (x:=x) (by simp[Op.operands])]
 |build t parts=>
  rw[hop]at hev
  have hp: ∀p∈parts.toList,Go.Y.ev σ'.env p.2=Go.Y.ev σ.env p.2:=fun p hp=>hev (by simp only[Op.operands,List.mem_toArray,List.mem_map];exact⟨p,hp,rfl⟩)
  simp only[JT (e':=Go.Y.ev σ'.env) (e:=Go.Y.ev σ.env) hp]
 |load t x=>
  rw[hop]at had hb ho
  simp only[had (x:=x) (by simp[Op.operands])]
  cases ha:Go.Y.addr σ x with
  |none=>cases Y.ty t<;>rfl
  |some ad=>
   cases ad with
   |lb s off=>
    simp only[ha]at hb
    have:=hb s (by simp)
    cases Y.ty t with
    |none=>rfl
    |some ti=>simp only[Xg,this]
   |hp id off=>
    simp only[ha]at ho
    have:=ho id (by simp)
    cases Y.ty t with
    |none=>rfl
    |some ti=>simp only[Xg,this]
   |ro cs=>cases Y.ty t<;>rfl
 |fieldAddr t x f=>simp only[Zia (Y:=Y) h (t:=t) (x:=x) (f:=f) (by simp[hop,Op.operands])]
 |indexAddr t x ix=>
  have e1:Go.Y.ev σ'.env ix=Go.Y.ev σ.env ix:=h.ev (by simp[hop,Op.operands])
  simp only[e1,Zib (Y:=Y) h (t:=t) (x:=x) (by simp[hop,Op.operands])]
 |field t x f=>rw[hop]at hev;simp only[hev (x:=x) (by simp[Op.operands])]
 |index t x ix=>rw[hop]at hev;simp only[hev (x:=x) (by simp[Op.operands]),hev (x:=ix) (by simp[Op.operands])]
 |extract t ix=>rw[hop]at hev;simp only[hev (x:=t) (by simp[Op.operands])]
 |slice t x lo hi mx=>
  rw[hop]at hev
  have e1:lo.map (Go.Y.ev σ'.env)=lo.map (Go.Y.ev σ.env):=by cases lo with|none=>rfl|some y=>simp only[Option.map_some,hev (x:=y) (by simp[Op.operands])]
  have e2:hi.map (Go.Y.ev σ'.env)=hi.map (Go.Y.ev σ.env):=by cases hi with|none=>rfl|some y=>simp only[Option.map_some,hev (x:=y) (by simp[Op.operands])]
  have e3:mx.map (Go.Y.ev σ'.env)=mx.map (Go.Y.ev σ.env):=by cases mx with|none=>rfl|some y=>simp only[Option.map_some,hev (x:=y) (by simp[Op.operands])]
  simp only[hev (x:=x) (by simp[Op.operands]),e1,e2,e3]
 |convert s d x=>
  rw[hop]at hev hh
  have e1: ∀k v,v=Go.Y.ev σ.env x->XE σ' k v=XE σ k v:=fun k v hv=>Zkh fun p l c k' he=>hh (by simp only[<-hv,he])
  simp only[hev (x:=x) (by simp[Op.operands])]
  split<;>try rfl
  rename_i hk hd _ _ _ _
  split
  ·rw[e1 _ _ rfl]
  ·rfl
 |call c=>
  obtain⟨callee,args,ats⟩:=c
  rw[hop]at hev hh
  cases callee with
  |builtin b=>
   have hm:args.toList.map (Go.Y.ev σ'.env)=args.toList.map (Go.Y.ev σ.env):=JA fun x hx=>hev (by simp at hx;simp[Op.operands,Call.operands,hx])
   cases b with
   |len=>
    simp only
    split
    ·rename_i t x h1 h2
     have e1:Go.Y.ev σ'.env x=Go.Y.ev σ.env x:=by
      have:=hm
      rw[h2]at this
      simpa using this
     rw[e1]
     split<;>try rfl
     rename_i r _ hr
     have:=hh (by simp only[h2,List.map_cons,List.map_nil,hr])
     rw[this]
    ·rfl
   |cap=>
    simp only
    split
    ·rename_i t x h1 h2
     have e1:Go.Y.ev σ'.env x=Go.Y.ev σ.env x:=by
      have:=hm
      rw[h2]at this
      simpa using this
     rw[e1]
    ·rfl
   |max=>simp only[hm]
   |min=>simp only[hm]
   |_=>rfl
  |_=>rfl
 |_=>rfl

/-! ### Calls -/
theorem Vy{loc:Nat->Bool}{f:FuncId}{args:List V}(hs:XZ Y loc σ o=some (.call f args)):
  ∃(fo:Operand) (as:Array Operand) (ats:Array TypeId) (a c:List V),o.op= .call ⟨.value fo,as,ats⟩∧ev σ.env fo= .fn (.func f) a c∧args=a++as.toList.map (ev σ.env)++c:=by
 unfold XZ at hs
 split at hs
 ·simp only[Option.map_eq_some_iff]at hs
  obtain⟨_,_,he⟩:=hs
  cases he
 ·split at hs
  ·split at hs
   ·simp only[Option.map_eq_some_iff]at hs;obtain⟨_,_,he⟩:=hs;cases he
   ·cases hs
  ·split at hs
   ·split at hs
    ·simp only[Option.map_eq_some_iff]at hs;obtain⟨_,_,he⟩:=hs;cases he
    ·cases hs
   ·cases hs
  ·split at hs
   ·split at hs
    ·simp only[Option.map_eq_some_iff]at hs;obtain⟨_,_,he⟩:=hs;cases he
    ·cases hs
   ·cases hs
  ·split at hs
   ·split at hs
    ·split at hs
     ·cases hs
     ·split at hs<;>cases hs
    ·cases hs
   ·cases hs
  ·split at hs
   ·split at hs
    ·split at hs<;>cases hs
    ·cases hs
   ·cases hs
  ·split at hs
   ·split at hs
    ·split at hs<;>cases hs
    ·cases hs
   ·cases hs
  ·split at hs
   ·split at hs<;>cases hs
   ·cases hs
  ·rename_i fo ops ats hop
   split at hs
   ·rename_i g fa fc hf
    simp only[Option.some.injEq,R.call.injEq]at hs
    obtain⟨rfl,rfl⟩:=hs
    exact⟨fo,ops,ats,fa,fc,hop,hf,rfl⟩
   ·cases hs
  ·cases hs

theorem Zc7{loc:Nat->Bool}{f:FuncId}{fo:Operand}{as:Array Operand}{ats:Array TypeId}{a c:List V}(hop:o.op= .call ⟨.value fo,as,ats⟩)(hf:ev σ.env fo= .fn (.func f) a c):
  XZ Y loc σ o=some (.call f (a++as.toList.map (ev σ.env)++c)):=by
 simp[XZ,opQ,hop,hf]

theorem JB(h:AgO σ σ' o){loc:Nat->Bool}{f:FuncId}{args:List V}(hs:XZ Y loc σ o=some (.call f args)):XZ Y loc σ' o=some (.call f args):=by
 obtain⟨fo,as,ats,a,c,hop,hf,rfl⟩:=Vy hs
 have hev:= @AgO.ev σ σ' o h
 rw[hop]at hev
 rw[<-JA (e':=Go.Y.ev σ'.env) (e:=Go.Y.ev σ.env) (l:=as.toList) fun x hx=>hev (by simp at hx;simp[Op.operands,Call.operands,hx])]
 exact Zc7 hop (by rw[hev (x:=fo) (by simp[Op.operands,Call.operands])];exact hf)

theorem Zp8{v v':V}(h:Zge v=true){h1 h2:Heap}(f:Frz h1 v v'):Frz h2 v v':=by
 unfold Zge at h
 split at h<;>first
  |(cases f<;>first|exact .b _|exact .i _ _|exact .s _|exact .pn|exact .mpn|exact .nilfn|exact .nilifc|(rename_i h1 h2;cases h1;cases h2;exact .fn _ _ _ _ _ .nil .nil)|exact .sln _ _ _ (by assumption)|exact .sln0 _ _)
  |cases h
theorem Zic{v v':V}(h:Zc1 v=true){h1 h2:Heap}(f:Frz h1 v v'):Frz h2 v v':=by
 unfold Zc1 at h
 split at h
 ·cases f with|ts _ _ _ _ hp=>exact .ts _ _ _ _ hp
 ·cases f;exact .tp _
 ·exact Zp8 h f
theorem Zbf{h1 h2:Heap} : ∀ {l l':List V},ZQ l=true->FrzL h1 l l'->FrzL h2 l l'
 | [],_,_,f=>by cases f;exact .nil
 |v::r,_,h,f=>by
  simp only[ZQ,Bool.and_eq_true]at h
  cases f with|cons _ _ _ _ hv hl=>exact .cons _ _ _ _ (Zic h.1 hv) (Zbf h.2 hl)
theorem Zp9{v v':V}(h:Zen v=true){h1 h2:Heap}(f:Frz h1 v v'):Frz h2 v v':=by
 unfold Zen at h
 split at h
 ·cases f with|agg _ _ hc=>exact .agg _ _ (Zbf h hc)
 ·exact Zic h f
theorem Zc8{h1 h2:Heap} : ∀ {l l':List V},Xc l=true->FrzL h1 l l'->FrzL h2 l l'
 | [],_,_,f=>by cases f;exact .nil
 |v::r,_,h,f=>by
  simp only[Xc,Bool.and_eq_true]at h
  cases f with|cons _ _ _ _ hv hl=>exact .cons _ _ _ _ (Zp9 h.1 hv) (Zc8 h.2 hl)

theorem Zl6{v:V}(h:Zc1 v=true)(h0:Heap):Frz h0 v v:=by
 unfold Zc1 at h
 split at h
 ·exact .ts _ _ _ _ fun _ h=>h
 ·exact .tp _
 ·exact Zgg h h0
theorem ZU(h0:Heap): ∀ {l:List V},ZQ l=true->FrzL h0 l l
 | [],_=> .nil
 |v::r,h=>by simp only[ZQ,Bool.and_eq_true]at h;exact .cons _ _ _ _ (Zl6 h.1 h0) (ZU h0 h.2)
theorem Zt0{v:V}(h:Zen v=true)(h0:Heap):Frz h0 v v:=by
 unfold Zen at h
 split at h
 ·exact .agg _ _ (ZU h0 h)
 ·exact Zl6 h h0
theorem Zbg(h0:Heap): ∀ {l:List V},Xc l=true->FrzL h0 l l
 | [],_=> .nil
 |v::r,h=>by simp only[Xc,Bool.and_eq_true]at h;exact .cons _ _ _ _ (Zt0 h.1 h0) (Zbg h0 h.2)
theorem Wu{l:List V}(h:Xc l=true):Cold l:=Zbg _ h
theorem Qn{l m:List V} :Xc (l++m)=(Xc l&&Xc m):=by
 induction l with
 |nil=>rfl
 |cons v r ih=>simp only[List.cons_append,Xc,ih,Bool.and_assoc]

theorem Zki(h:AgO σ σ' o)(hh:σ.h=σ'.h){loc:Nat->Bool} :Wm Y loc σ' o=Wm Y loc σ o:=by
 have hev:= @AgO.ev σ σ' o h
 have had:= @AgO.addr σ σ' o h
 unfold Wm
 cases hop:o.op with
 |alloc t=>simp only[hh]
 |box t x=>rw[hop]at hev;simp only[hev (x:=x) (by simp[Op.operands]),hh]
 |store t x y=>rw[hop]at hev had;simp only[hev (x:=y) (by simp[Op.operands]),had (x:=x) (by simp[Op.operands]),hh]
 |buildSlice t n parts=>
  rw[hop]at hev
  have hp: ∀p∈parts.toList,Go.Y.ev σ'.env p.2=Go.Y.ev σ.env p.2:=fun p hp=>hev (by simp only[Op.operands,List.mem_toArray,List.mem_map];exact⟨p,hp,rfl⟩)
  simp only[JT (e':=Go.Y.ev σ'.env) (e:=Go.Y.ev σ.env) hp,hh]
 |makeSlice t x y=>rw[hop]at hev;simp only[hev (x:=x) (by simp[Op.operands]),hev (x:=y) (by simp[Op.operands]),hh]
 |convert s d x=>rw[hop]at hev;simp only[hev (x:=x) (by simp[Op.operands]),hh]
 |call c=>
  obtain⟨callee,args,ats⟩:=c
  rw[hop]at hev
  cases callee with
  |builtin b=>
   cases b with
   |append=>
    simp only
    split
    ·rename_i s x st xt h1 h2
     have e1:Go.Y.ev σ'.env s=Go.Y.ev σ.env s:=hev (by
      have:s∈args.toList:=by rw[h1];simp
      simp at this;simp[Op.operands,Call.operands,this])
     have e2:Go.Y.ev σ'.env x=Go.Y.ev σ.env x:=hev (by
      have:x∈args.toList:=by rw[h1];simp
      simp at this;simp[Op.operands,Call.operands,this])
     have e3: ∀s x,ZR Y σ' st xt s x=ZR Y σ st xt s x:=fun s x=>by
      show ZR Y ⟨[],[],σ'.h⟩ st xt s x=ZR Y ⟨[],[],σ.h⟩ st xt s x
      rw[hh]
     rw[e1,e2,e3]
    ·rfl
   |_=>rfl
  |_=>rfl
 |_=>rfl

theorem Zn0(h:AgO σ σ' o):exoQ Y σ' o=exoQ Y σ o:=by
 have hev:= @AgO.ev σ σ' o h
 unfold exoQ
 cases hop:o.op with
 |slice t x lo hi mx=>rw[hop]at hev;cases lo<;>cases hi<;>cases mx<;>first|rfl|simp only[hev (x:=x) (by simp[Op.operands])]
 |call c=>
  obtain⟨callee,args,ats⟩:=c
  rw[hop]at hev
  cases callee with
  |value fo=>
   simp only[hev (x:=fo) (by simp[Op.operands,Call.operands])]
   rw[<-JA (e':=Go.Y.ev σ'.env) (e:=Go.Y.ev σ.env) (l:=args.toList) fun x hx=>hev (by simp at hx;simp[Op.operands,Call.operands,hx])]
  |builtin b=>
   cases b with
   |unsafeSliceData=>
    simp only
    split
    ·rename_i x h1
     rw[hev (x:=x) (by
      have:x∈args.toList:=by rw[h1];simp
      simp at this;simp[Op.operands,Call.operands,this])]
    ·rfl
   |_=>rfl
  |_=>rfl
 |_=>rfl

theorem Zn1(h:AgO σ σ' o)(hh:σ.h=σ'.h):exoH Y σ' o=exoH Y σ o:=by
 have hev:= @AgO.ev σ σ' o h
 unfold exoH
 cases hop:o.op with
 |slice t x lo hi mx=>rw[hop]at hev;cases lo<;>cases hi<;>cases mx<;>first|rfl|simp only[hev (x:=x) (by simp[Op.operands]),hh]
 |convert s d x=>rw[hop]at hev;simp only[hev (x:=x) (by simp[Op.operands]),hh]
 |binOp op t x y z=>rw[hop]at hev;simp only[hev (x:=x) (by simp[Op.operands]),hev (x:=y) (by simp[Op.operands]),hh]
 |call c=>
  obtain⟨callee,args,ats⟩:=c
  rw[hop]at hev
  cases callee with
  |builtin b=>
   cases b with
   |unsafeString=>
    simp only
    split
    ·rename_i x n pt it h1 h2
     have e1:Go.Y.ev σ'.env x=Go.Y.ev σ.env x:=hev (by
      have:x∈args.toList:=by rw[h1];simp
      simp at this;simp[Op.operands,Call.operands,this])
     have e2:Go.Y.ev σ'.env n=Go.Y.ev σ.env n:=hev (by
      have:n∈args.toList:=by rw[h1];simp
      simp at this;simp[Op.operands,Call.operands,this])
     rw[e1,e2,hh]
    ·rfl
   |_=>rfl
  |_=>rfl
 |_=>rfl

theorem Zn2(h:AgO σ σ' o)(hh:σ.h=σ'.h):mapH Y σ' o=mapH Y σ o:=by
 have hev:= @AgO.ev σ σ' o h
 have hel: ∀k v,QL σ' k v=QL σ k v:=fun k v=>by
  cases v<;>first|rfl|(rename_i a l c k';cases a<;>first|rfl|simp only[QL,XE,Xg,hh])
 unfold mapH
 cases hop:o.op with
 |lookup t m k ok=>rw[hop]at hev;simp only[hev (x:=m) (by simp[Op.operands]),hev (x:=k) (by simp[Op.operands]),hh]
 |mapUpdate t m k x=>rw[hop]at hev;simp only[hev (x:=m) (by simp[Op.operands]),hev (x:=k) (by simp[Op.operands]),hev (x:=x) (by simp[Op.operands]),hh]
 |insert t m k x=>rw[hop]at hev;simp only[hev (x:=m) (by simp[Op.operands]),hev (x:=k) (by simp[Op.operands]),hev (x:=x) (by simp[Op.operands]),hh]
 |call c=>
  obtain⟨callee,args,ats⟩:=c
  rw[hop]at hev
  cases callee with
  |builtin b=>
   cases b with
   |clear=>
    simp only
    split
    ·rename_i x t h1 h2
     have e1:Go.Y.ev σ'.env x=Go.Y.ev σ.env x:=hev (by
      have:x∈args.toList:=by rw[h1];simp
      simp at this;simp[Op.operands,Call.operands,this])
     rw[e1,hh]
    ·rfl
   |copy=>
    simp only
    split
    ·rename_i d x st rest h1 h2
     have e1:Go.Y.ev σ'.env d=Go.Y.ev σ.env d:=hev (by
      have:d∈args.toList:=by rw[h1];simp
      simp at this;simp[Op.operands,Call.operands,this])
     have e2:Go.Y.ev σ'.env x=Go.Y.ev σ.env x:=hev (by
      have:x∈args.toList:=by rw[h1];simp
      simp at this;simp[Op.operands,Call.operands,this])
     simp only[e1,e2,hel,hh]
    ·rfl
   |_=>rfl
  |_=>rfl
 |_=>rfl

theorem Zkj(h:AgO σ σ' o):Zel Y σ' o=Zel Y σ o:=by
 have hev:= @AgO.ev σ σ' o h
 have ho:=h.o
 unfold Zel
 cases hop:o.op with
 |lookup t m k ok=>
  rw[hop]at hev
  simp only[objR,hop]at ho
  have e1:=hev (x:=m) (by simp[Op.operands])
  have e2:=hev (x:=k) (by simp[Op.operands])
  have e3: ∀r,ev σ.env m= .mp r->VS σ'.h r=VS σ.h r:=fun r hm=>by
   cases r with
   |none=>rfl
   |some r=>
    have:σ.h.get r=σ'.h.get r:=ho r (by rw[hm];simp)
    simp only[VS,this]
  simp only[mapH,hop,e1,e2]
  cases hk:Y.kd t with
  |none=>rfl
  |some kd=>
   cases hm:ev σ.env m with
   |mp r=>
    cases kd with
    |map kt et=>
     simp only[e3 r hm]
     cases Y.kd kt with
     |none=>rfl
     |some kk=>
      cases VS σ.h r with
      |none=>rfl
      |some es=>
       simp only
       split
       ·split<;>rfl
       ·rfl
    |_=>rfl
   |_=>cases kd<;>rfl
 |_=>rfl

theorem Ze3(h:AgO σ σ' o):newO Y σ' o=newO Y σ o:=by
 have hev:= @AgO.ev σ σ' o h
 unfold newO
 cases hop:o.op with
 |makeSlice t x y=>rw[hop]at hev;simp only[hev (x:=x) (by simp[Op.operands]),hev (x:=y) (by simp[Op.operands])]
 |makeMap t r=>cases r<;>rfl
 |_=>rfl

theorem StepE.local(h:AgO σ σ' o){loc:Nat->Bool}{e:Ef}(hh: ∀h v,e= .hp h v->σ.h=σ'.h)(hal: ∀i x v,e= .al i x v->σ.h=σ'.h)(hnw: ∀i x v,e≠ .nw i x v)(s:StepE Y loc σ o e):StepE Y loc σ' o e:=by
 have hev:= @AgO.ev σ σ' o h
 have had:= @AgO.addr σ σ' o h
 cases s with
 |quiet q hq=>exact .quiet q (by rw[Zp7 h];exact hq)
 |alloc t ti d hop hti hd hl=>exact .alloc t ti d hop hti hd hl
 |boxl t x ti d hop hti hd hl hs hc=>
  rw[hop]at hev
  have e1:=hev (x:=x) (by simp[Op.operands])
  rw[<-e1]at hs hc ⊢
  exact .boxl t x ti d hop hti hd hl hs hc
 |stl t y x ti s off cs hop hti ha hcs hs hc hb=>
  have hbx:=h.b s (by simp[boxR,hop,ha])
  rw[hop]at hev had
  have e1:=hev (x:=x) (by simp[Op.operands])
  have e2:=had (x:=y) (by simp[Op.operands])
  rw[<-e1]at hs hc hb ⊢
  exact .stl t y x ti s off cs hop hti (by rw[e2];exact ha) (by rw[<-hbx];exact hcs) hs hc hb
 |bs t n parts et te cs hop hk hte hsz hf hc=>
  rw[hop]at hev
  have hp: ∀p∈parts.toList,Go.Y.ev σ'.env p.2=Go.Y.ev σ.env p.2:=fun p hp=>hev (by simp only[Op.operands,List.mem_toArray,List.mem_map];exact⟨p,hp,rfl⟩)
  exact .bs t n parts et te cs hop hk hte hsz (by rw[JT (e':=Go.Y.ev σ'.env) (e:=Go.Y.ev σ.env) hp];exact hf) hc
 |pcall f args args' r hs hf hc hp=>
  refine .pcall f args args' r (JB h hs) ?_ hc hp
  obtain⟨fo,as,ats,a,c,hop,hfe,rfl⟩:=Vy hs
  have h3:=h.h
  simp only[Zp6,hop,hfe]at h3
  cases hcold:(Xc a&&Xc (as.toList.map (ev σ.env))&&Xc c) with
  |true=>
   refine Zc8 ?_ hf
   rw[Qn,Qn]
   exact hcold
  |false=>rw[<-h3 (by simp[hcold])];exact hf
 |exq v hs=>exact .exq v (by rw[Zn0 h];exact hs)
 |exh h' v hs=>exact .exh h' v (by rw[Zn1 h (hh _ _ rfl)];exact hs)
 |heap h' v hs=>exact .heap h' v (by rw[Zki h (hh _ _ rfl)];exact hs)
 |nw x vf hs=>exact absurd rfl (hnw _ _ _)
 |nwp x vf hs=>rw[hh _ _ rfl];exact .nwp x vf (by rw[Ze3 h];exact hs)
 |lkq v hs=>exact .lkq v (by rw[Zkj h];exact hs)
 |mph h' v hs=>exact .mph h' v (by rw[Zn2 h (hh _ _ rfl)];exact hs)
 |icall f args h' v hs hc=>exact .icall f args h' v (JB h hs) (by rw[<-hh _ _ rfl];exact hc)
 |icallA f args x v hs hc=>
  have e:=hal _ _ _ rfl
  rw[e]
  exact .icallA f args x v (JB h hs) (by rw[<-e];exact hc)
 |icallR f args l h1 hN v r hs hcold hc hsame htg hN1 hf=>
  obtain⟨fo,as,ats,a,c,hop,hfe,rfl⟩:=Vy hs
  have h3:σ.h=σ'.h:=by
   refine h.h ?_
   rw[Qn,Qn]at hcold
   simp only[Zp6,hop,hfe,hcold,Bool.not_false]
  refine .icallR f _ l h1 hN v r (JB h hs) hcold (by rw[<-h3];exact hc) (by rw[<-h3];exact hsame) (by rw[<-h3];exact htg) (by rw[<-h3];exact hN1) hf
 |round id h' v fo ops ats hop hf hc=>
  rw[hop]at hev
  have e1:=hh _ _ rfl
  refine .round id h' v fo ops ats hop (by rw[hev (x:=fo) (by simp[Op.operands,Call.operands])];exact hf) ?_
  rw[<-e1,JA (e':=Go.Y.ev σ'.env) (e:=Go.Y.ev σ.env) (l:=ops.toList) fun x hx=>hev (by simp at hx;simp[Op.operands,Call.operands,hx])]
  exact hc
 |icallz f args args' D h' v hs hf hc=>exact .icallz f args args' D h' v (JB h hs) (by rw[<-hh _ _ rfl];exact hf) (by rw[<-hh _ _ rfl];exact hc)
end
end Go.Y
