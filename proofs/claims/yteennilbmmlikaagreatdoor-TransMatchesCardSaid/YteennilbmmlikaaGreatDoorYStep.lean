/- A part of the proof. -/
import Derived.Test.YteennilbmmlikaaGreatDoorYQuiet6
import Derived.Laws.Append
import Derived.Laws.AppendOwn
import Derived.Laws.MakeOwn
import Derived.Laws.IdiomStrings
import Derived.Great.BuildSlice
namespace Go.Y
set_option maxRecDepth 1000000
set_option maxHeartbeats 0
section
variable {Y:YP} {W W':Vw} {σ σ':St} {a:Act} {w w':World}
def StepR(Y:YP)(W:Vw)(σ:St)(a:Act)(w:World)(o:Oper)(σ':St):Prop:=
 ∃(W':Vw) (w':World) (u:Value) (n:Next),(execOp a.eval o).run Y.P w= .ok n w'/\(n= .value u\/(n= .skip/\u=Go.undef))/\
  Rel W' σ' (a.put o.dst u) w'/\Stp W (mine W σ a) w W' (mine W' σ' (a.put o.dst u)) w'
theorem Stp.weaken{own d c:Nat->Prop}(h:Stp W own w W' d w')(e: ∀b,c b->d b):Stp W own w W' c w':=
 ⟨h.le,h.size,h.keep,λb f=>h.owns b (e b f),h.new,h.str⟩
theorem StepR.heap{o:Oper}(h:Rel W σ a w){e}(g:HRel W' e w')(d:Stp W W.own w W' W'.own w'){v}{u:Value}(f:VR W' v u){n:Next}
  (c:(execOp a.eval o).run Y.P w= .ok n w') (j:n= .value u\/(n= .skip/\u=Go.undef)):StepR Y W σ a w o (putV {σ with h:=e} o.dst v):=by
 have k:=h.call d g;exact⟨W',w',u,n,c,j,k.putV f o.dst,(d.frame h).weaken λb l=>Xq f o.dst l⟩
theorem StepR.quiet(m:YOK Y)(h:Rel W σ a w){o:Oper}{q:Q}(k:opQ Y σ o=some q){σ'}(hp:putQ σ o.dst q=some σ'):StepR Y W σ a w o σ':=by
 obtain⟨u,g,n⟩:=ZHs m h k;refine⟨W,w,u,_,n w (.refl w), .inl rfl,?_⟩
 cases q with
 |val v=>
  have f:σ'=putV σ o.dst v:=by cases e:o.dst<;>simp[putQ,e]at hp<;>simp[putV,hp]
  subst f;exact⟨h.putV g o.dst,(Stp.refl W _ w).weaken λb j=>Xq g o.dst j⟩
 |ref s off=>
  obtain⟨b,j,rfl⟩:=g
  cases e:o.dst with
  |none=>simp[putQ,e]at hp;subst hp;exact⟨h,Stp.refl W _ w⟩
  |some d=>
   simp[putQ,e]at hp;subst hp;exact⟨h.putRef j d,(Stp.refl W _ w).weaken λc l=>Znb d _ l⟩
theorem Rel.allocL(h:Rel W σ a w)(d:Nat){D}{B:List Value}(hr:VRs W D B)(e:TypeId):
  Rel W {σ with env:=σ.env.set d (.lb D),refs:=σ.refs.filter λr=>r.2.1 !=d} (a.put (some d) (.pointer (some ⟨w.heap.size,0,none⟩))) (w.alloc (.cells B.toArray e))/\
  Stp W (mine W σ a) w W (mine W {σ with env:=σ.env.set d (.lb D),refs:=σ.refs.filter λr=>r.2.1 !=d} (a.put (some d) (.pointer (some ⟨w.heap.size,0,none⟩)))) (w.alloc (.cells B.toArray e)):=by
 have f:Same w (w.alloc (.cells B.toArray e)):=Zcp _ _;have C: ∀t b,QJ σ a t b->b<w.heap.size:=by
  rintro t b ⟨⟨y,l⟩,g⟩;obtain⟨c,e',P,_⟩:=h.boxCells l ⟨⟨y,l⟩,g⟩;exact Zt P
 have n: ∀t b,QJ {σ with env:=σ.env.set d (.lb D),refs:=σ.refs.filter λr=>r.2.1 !=d} (a.put (some d) (.pointer (some ⟨w.heap.size,0,none⟩))) t b->
   (t=d/\b=w.heap.size)\/(t≠d/\QJ σ a t b):=by
  rintro t b ⟨⟨y,l⟩,g⟩;simp only[Qc]at l;rw[Qs]at g;split at l
  .rename_i k;subst k
   left
   rw[uF rfl]at g;split at g
   .simp at g;exact⟨rfl,g.symm⟩
   .cases g
  .rename_i k;rw[uE k]at g;exact .inr ⟨λe=>k e.symm,⟨y,l⟩,g⟩
 have G:W.snap w.heap.size=none:=by
  cases O:W.snap w.heap.size with
  |none=>rfl
  |some o=>have:=Zt (h.heap.snap _ _ O);omega
 have F: ¬W.own w.heap.size:=by
  rintro⟨id,X,he⟩;have:=h.heap.blk X;omega
 refine⟨⟨h.heap.same f,by simp[Act.put,h.size],λt v m=> ?_,λt t' b l g=> ?_,λZ s o z j b A=> ?_,(h.defers.same f).act (Jf _ _ _)⟩,
  ⟨.refl W,sm,λb A _=>Jn _ _ _ om,λb A=> ?_,λb A=> .inl A,⟨rfl,rfl,rfl⟩⟩⟩
 .simp only[Qc]at m;rw[Qs];split at m
  .rename_i k;subst k;split at m
   .rename_i L;simp at m;subst m;rw[uF rfl,uF (by rw[h.size];exact L)];exact⟨_,rfl,w.heap.size,B.toArray,e,rfl,JJ _ _,by simpa using hr,G,F⟩
   .cases m
  .rename_i k;rw[uE k];obtain⟨u,l,g⟩:=h.env t v m;exact⟨u,l,g.same f⟩
 .rcases n _ _ l with ⟨E,x⟩|⟨E,x⟩<;>rcases n _ _ g with ⟨N,K⟩|⟨N,K⟩
  .rw[E,N]
  .have:=C _ _ K;omega
  .have:=C _ _ x;omega
  .exact h.box t t' b x K
 .simp only[List.mem_filter,bne_iff_ne,ne_eq]at z;obtain⟨z,H⟩:=z;simp only[Qc]at j;rw[Qs];split at j
  .split at j<;>simp at j
  .rename_i k;rw[uE k];rcases n _ _ A with ⟨E,_⟩|⟨_,x⟩
   .exact absurd E H
   .exact h.refs Z s o z j b x
 .rcases A with ho|⟨t,m⟩|z
  .exact .inl (.inl ho)
  .rcases n _ _ m with ⟨_,x⟩|⟨_,x⟩
   .exact .inr om
   .exact .inl (.inr (.inl ⟨t,x⟩))
  .rw[Jf]at z;exact .inl (.inr (.inr z))
theorem Rel.storeL(h:Rel W σ a w){s b:Nat}{X n}(L:σ.env[s]? =some (.lb X))(C:QJ σ a s b){c':Array Value}{e:TypeId}(hr:VRs W n c'.toList):
  Rel W {σ with env:=σ.env.set s (.lb n)} a (w.putB b (.cells c' e (0,0)))/\
  Stp W (mine W σ a) w W (mine W {σ with env:=σ.env.set s (.lb n)} a) (w.putB b (.cells c' e (0,0))):=by
 obtain⟨c,e0,N,_,B,k⟩:=h.boxCells L C;have K:=Zt N;have z: ∀x,x≠b->(w.putB b (.cells c' e (0,0))).heap[x]? =w.heap[x]? :=λx f=>Zco _ _ _ _ (λe=>f e.symm);have y: ∀t x,QJ {σ with env:=σ.env.set s (.lb n)} a t x->QJ σ a t x:=by
  rintro t x ⟨⟨q,g⟩,l⟩;simp only[Qc]at g;split at g
  .rename_i A;subst A;exact⟨⟨X,L⟩,l⟩
  .exact⟨⟨q,g⟩,l⟩
 have E: ∀p∈σ.h.tg,TagR W (w.putB b (.cells c' e (0,0))) p:=λp hp P=>by
  obtain⟨g,c1,fr,l,G⟩:=(h.heap.tg p hp).2 P;exact⟨g,c1,fr,by rw[z _ (λhe=>k ⟨p.1,P,he⟩)];exact l,G⟩
 refine⟨⟨⟨h.heap.kn,h.heap.lk,h.heap.lv,h.heap.lt,λx o f=> ?_,λO o D=> ?_,h.heap.inj,h.heap.apart,λp hp=>⟨(h.heap.tg p hp).1,E p hp⟩,h.heap.gl⟩,by simp[h.size],λt v m=> ?_,λt t' x g l=>h.box t t' x (y _ _ g) (y _ _ l),λd s' o H j x f=> ?_,h.defers.turn λr hr g l=>⟨z r (λe=>by rw[e,N]at hr;cases hr),g,l⟩⟩,
  ⟨.refl W,sm,λx f hn=>z x (λe=>hn (.inr (.inl ⟨s,e▸C⟩))),λx f=> ?_,λx f=> .inl f,⟨rfl,rfl,rfl⟩⟩⟩
 .rw[z x (λe=>by rw[e,B]at f;cases f)];exact h.heap.snap x o f
 .exact h.heap.others z D (λe=>k ⟨O,(h.heap.lv O).2 (by simp[D]),e⟩)
 .simp only[Qc]at m;split at m
  .rename_i A;subst A;split at m
   .simp at m;subst m;exact⟨_,C.2,b,c',e,rfl,Jm _ _ _ K,hr,B,k⟩
   .cases m
  .rename_i A;obtain⟨u,g,l⟩:=h.env t v m;refine⟨u,g,?_⟩
   cases v with
   |lb q=>
    obtain⟨x,cx,ex,Z,f,G⟩:=l;have F:x≠b:=λe=>A (h.box s t b C ⟨⟨q,m⟩,by rw[g,Z,e]⟩);exact⟨x,cx,ex,Z,by rw[z x F];exact f,G⟩
   |_=>exact l
 .simp only[Qc]at j;split at j
  .split at j<;>simp at j
  .exact h.refs d s' o H j x (y _ _ f)
 .rcases f with D|⟨t,m⟩|H
  .exact .inl (.inl D)
  .exact .inl (.inr (.inl ⟨t,y _ _ m⟩))
  .exact .inl (.inr (.inr H))
theorem Zg2(e:TypeId)(c:Array Value)(P:Program)(w:World):(newRow e c).run P w= .ok ⟨w.heap.size,0,none⟩ (w.alloc (.cells c e)):=rfl
theorem HRel.newRowF{h}(hr:HRel W h w){w1:World}(f:w1.heap=w.heap)(g:Str w w1){n}{d:List Value}(c:List Value)(z:VRs W n d)(e:TypeId)(wr:Bool)(fr:Nat×Nat)
  (x: ∀j,(if wr then 0 else n.length)<=j->j<d.length+c.length-> ¬(fr.1<=j/\j<fr.2)):
  HRel (W.push h.nx w.heap.size (d.length+c.length)) (h.push (.arr n wr)) (w1.alloc (.cells (d++c).toArray e fr))/\
  Stp W W.own w (W.push h.nx w.heap.size (d.length+c.length)) (W.push h.nx w.heap.size (d.length+c.length)).own (w1.alloc (.cells (d++c).toArray e fr)):=by
 have k:(w1.alloc (.cells (d++c).toArray e fr)).heap[w.heap.size]? =some (.cells (d++c).toArray e fr):=by
  have:=JJ w1 (.cells (d++c).toArray e fr);rw[f]at this;exact this
 refine hr.push (ob:= .cells (d++c).toArray e fr) (g.trans ⟨rfl,rfl,rfl⟩) (λb o k=> ?_) (by rw[Zrh,f]) k ?_
 .rw[Jn _ _ _ (by have:=Zt k;rw[f];omega),f];exact k
 .have A:=z.length;refine⟨(d++c).toArray,e,fr,by simpa[Vw.push]using k,by simp[Vw.push],by simp[Vw.push];omega,λj v m=> ?_,λj m l=>x j (by simpa[Vw.push]using m) (by simpa using l)⟩;obtain⟨u,y,r⟩:=z.get m;refine⟨u,?_,r.mono (W.push_le (hr.new (Nat.le_refl _)) _ _)⟩;have t:j<d.length:=(List.getElem?_eq_some_iff.1 y).1;simp[Vw.push,vC t,y]
theorem HRel.newRow{h}(hr:HRel W h w){w1:World}(g:w1.heap=w.heap)(f:Str w w1){k}{d:List Value}(c:List Value)(l:VRs W k d)(e:TypeId)(wr:Bool):
  HRel (W.push h.nx w.heap.size (d.length+c.length)) (h.push (.arr k wr)) (w1.alloc (.cells (d++c).toArray e))/\
  Stp W W.own w (W.push h.nx w.heap.size (d.length+c.length)) (W.push h.nx w.heap.size (d.length+c.length)).own (w1.alloc (.cells (d++c).toArray e)):=
 hr.newRowF g f c l e wr (0,0) (λj _ _=>sm)
theorem HRel.newRowT{h}(hr:HRel W h w){w1:World}(f:w1.heap=w.heap)(g:Str w w1){k}{d:List Value}(c:List Value)(r:VRs W k d)(e:TypeId)(wr:Bool){j:Option TypeId}(m:j=none\/j=some e):
  HRel (W.push h.nx w.heap.size (d.length+c.length)) (h.pushT j (.arr k wr)) (w1.alloc (.cells (d++c).toArray e))/\
  Stp W W.own w (W.push h.nx w.heap.size (d.length+c.length)) (W.push h.nx w.heap.size (d.length+c.length)).own (w1.alloc (.cells (d++c).toArray e)):=by
 obtain⟨n,t⟩:=hr.newRow f g c r e wr;refine⟨n.tagIf (.inr rfl) λx l=> ?_,t⟩;rcases m with rfl|rfl
 .cases l
 .cases l;intro _;have o:(w1.alloc (.cells (d++c).toArray e)).heap[w.heap.size]? =some (.cells (d++c).toArray e (0,0)):=by
   have:=JJ w1 (.cells (d++c).toArray e);rw[f]at this;exact this
  refine⟨by simp[Vw.push],(d++c).toArray,(0,0),?_,Nat.le_refl _,Nat.zero_le _⟩;simp only[Vw.push,vG];exact o
theorem Zg3(h:Rel W σ a w){o:Oper}{loc:Nat->Bool}{t:TypeId}{r}{l:List Value}(u:VRs W r l){σ'}{n:Option TypeId}(m:n=none\/n=some t)(e:WY loc σ o.dst r n=some σ')
  (c:(execOp a.eval o).run Y.P w= .ok (.value (.pointer (some ⟨w.heap.size,0,none⟩))) (w.alloc (.cells l.toArray t))):StepR Y W σ a w o σ':=by
 unfold WY at e
 cases f:o.dst with
 |none=>simp[f]at e
 |some d=>
  simp only[f]at e;split at e
  .simp at e;subst e;obtain⟨j,k⟩:=h.allocL d u t;exact⟨W,_,_,_,c, .inl rfl,by rw[f];exact j,by rw[f];exact k⟩
  .simp at e;subst e;obtain⟨j,k⟩:=h.heap.newRowT (w1:=w) rfl (.refl w) [] u t true m;simp only[List.append_nil,List.length_nil,Nat.add_zero]at j k;have g:VR (W.push σ.h.nx w.heap.size l.length) (.p (some (σ.h.nx,0))) (.pointer (some ⟨w.heap.size,0,none⟩)):=by
    refine .ps _ _ _ (.inr rfl) (λ_=> ?_);simp[Vw.at,Vw.push]
   have:=StepR.heap (Y:=Y) (o:=o) h j k g c (.inl rfl);rw[f]at this;exact this
theorem Zg4(k:YOK Y)(h:Rel W σ a w){o:Oper}{loc:Nat->Bool}{t:TypeId}(g:o.op= .alloc t){j:TI}(f:Y.ty t=some j){σ'}(l:WY loc σ o.dst j.zero (Y.tag t)=some σ'):
  StepR Y W σ a w o σ':=by
 obtain⟨i,d,z,c⟩:=k.ty t j f;refine Zg3 (t:=t) h (c.zr W) (by unfold YP.tag;split<;>simp) l ?_
 have e:z.cells.toList.toArray=z.cells:=sm;rw[e];simp only[execOp,g,Instr.alloc,uC,Qq c.info c.zero,uA,newVar,Zg2,uD]
theorem Zpb(_hY:YOK Y)(h:Rel W σ a w){o:Oper}{loc:Nat->Bool}{t:TypeId}{x:Operand}(c:o.op= .box t x)(d:Zp (ev σ.env x).cells=true){σ':St}
  (f:WY loc σ o.dst (ev σ.env x).cells none=some σ'):StepR Y W σ a w o σ':=by
 refine Zg3 (t:=t) h (Zin (h.ev x) d) (.inl rfl) f ?_;have e:(a.eval x).cells.toList.toArray=(a.eval x).cells:=sm;rw[e];simp only[execOp,c,Instr.box,uC,newVar,Zg2,uA,uD]
theorem Zaq(w:World)(b:Nat)(o:Obj): ∀x,x≠b->(w.putB b o).heap[x]? =w.heap[x]? :=λ_ c=>Zco _ _ _ _ (λe=>c e.symm)
theorem HRel.spliceAt{h:Heap}(hr:HRel W h w){d off:Nat}{A new:List V}{m:List Value}(E:h.get d=some (.arr A true))(C:off+new.length<=A.length)(D:VRs W new m)
  (G: ∀u∈m,u.oneCell'=true) (P:Program):
  ∃w',(storeCells (W.at d off) m).run P w= .ok () w'/\HRel W (h.set d (some (.arr (splice A off new) true))) w'/\Stp W W.own w W W.own w':=by
 have r:W.lv d:=(hr.lv d).2 (by simp[E]);obtain⟨c,e,fr,o,K,F,H,x⟩:=hr.obj d _ E;simp only[vG]at x;have O:=D.length;refine⟨_,?_,hr.write (w':=w.putB (W.mu d).1 (.cells (splice c.toList ((W.mu d).2+off+0) m).toArray e fr)) ⟨rfl,rfl,rfl⟩ r (Zaq _ _ _) (Zeq _ _ _) ?hty ?_⟩
 case hty=>
  intro c0 N L t z y;rw[o]at t;simp only[uB,Obj.cells.injEq]at t;obtain⟨rfl,rfl,rfl⟩:=t;refine⟨_,_,Jm _ _ _ (Zt o),z,?_⟩;rw[List.size_toArray,XA _ _ _ (by simp;omega)];simpa using y
 .exact Qr (W.mu d).1 ((W.mu d).2+off) e fr m 0 c w o om (λj f k=>x j om om) G
 .have l:(splice c.toList ((W.mu d).2+off+0) m).length=c.size:=by rw[XA _ _ _ (by simp;omega)];simp
  refine⟨_,e,fr,Jm _ _ _ (Zt o),by rw[List.size_toArray,l];exact K,by rw[List.size_toArray,l,XA _ _ _ C];exact F,λj v f=> ?_,λj f k=> ?_⟩
  .rw[Xt _ _ _ _ C]at f;simp only[Nat.add_zero,List.getElem?_toArray];rw[Xt _ _ _ _ (by simp;omega)];by_cases n:off<=j/\j<off+new.length
   .rw[uF n]at f;obtain⟨u,B,g⟩:=D.get f;refine⟨u,?_,g⟩;rw[uF om];rw[show(W.mu d).2+j-((W.mu d).2+off)=j-off from om];exact B
   .rw[uE n]at f;obtain⟨u,B,g⟩:=H j v f;refine⟨u,?_,g⟩;rw[uE om];simpa using B
  .simp only[vG]at f;rw[List.size_toArray,l]at k;exact x j f k
theorem Zg5(hY:YOK Y)(h:Rel W σ a w){o:Oper}{t:TypeId}{x y:Operand}(D:o.op= .store t x y){G}(F:Y.ty t=some G){ad:Ad}(K:addr σ x=some ad)
  (hl:(ev σ.env y).cells.length=G.size) (N:Zp (ev σ.env y).cells=true) {σ':St} (f:storeAt σ (ev σ.env y).cells ad=some σ'):StepR Y W σ a w o (putV σ' o.dst .undef):=by
 obtain⟨i,d,z,L⟩:=hY.ty t G F;obtain⟨p,hp,hr⟩:=Zcq h K;have n:=Zin (h.ev y) N;have h1:=Jo n N;have l:=n.length;have g: ∀w',(storeCells p (a.eval y).cells.toList).run Y.P w= .ok () w'->(execOp a.eval o).run Y.P w= .ok .skip w':=by
  intro w' hw;have e1: ¬((a.eval y).cells.size≠i.size):=by rw[L.size,<-hl,l];simp
  simp only[execOp,D,hp,Instr.storeAt,Instr.sureAddr,uC,uD,uA,storeVar,ZV L.info,Sem.run_ite,e1,vF,hw]
 cases ad with
 |lb s off=>
  obtain⟨b,X,rfl⟩:=hr;simp only[storeAt]at f
  cases k:σ.env[s]? with
  |none=>simp[List.getD,k]at f
  |some v=>
   cases v with
   |lb Z=>
    simp only[List.getD,k,uq]at f;split at f
    .rename_i A;simp at f;subst f;obtain⟨c,e,C,m,_,_⟩:=h.boxCells k X;have H:=m.length;simp at H;have E:=Qr (P:=Y.P) b off e (0,0) (a.eval y).cells.toList 0 c w C om (λj _ _=>sm) h1;obtain⟨r,B⟩:=h.storeL (c':=(splice c.toList (off+0) (a.eval y).cells.toList).toArray) (e:=e) k X (by simpa using m.splice n off A);exact⟨W,_,Go.undef, .skip,g _ E, .inr ⟨rfl,rfl⟩,r.putV (.undef _) o.dst,B.weaken λx hx=>Xq (.undef _) o.dst hx⟩
    .cases f
   |_=>simp[List.getD,k]at f
 |hp O off=>
  obtain⟨a0,ha⟩:=hr;simp only[storeAt]at f;split at f
  .rename_i Z ho;split at f
   .rename_i A;simp at f;subst f;have u:W.lv O:=(h.heap.lv O).2 (by simp[ho]);obtain⟨w',r,B,g3⟩:=h.heap.spliceAt ho A n h1 Y.P;rw[<-ha u]at r;exact StepR.heap h B g3 (.undef Go.undef) (g _ r) (.inr ⟨rfl,rfl⟩)
   .cases f
  .cases f
 |ro Z=>simp[storeAt]at f
end
section
variable {Y:YP} {W W':Vw} {σ σ':St} {a:Act} {w w':World}
theorem Zpc(l:List V): ∀(n j:Nat),j<n*l.length->(List.replicate n l).flatten[j]? =l[j % l.length]?
 |0,j,h=>by simp at h
 |n+1,j,h=>by
  rw[uZ,List.flatten_cons];by_cases c:j<l.length
  .rw[vC c,Nat.mod_eq_of_lt c]
  .have d:l.length<=j:=Nat.le_of_not_lt c;rw[vB d,Zpc l n (j-l.length) (by rw[Nat.succ_mul]at h;omega)];rw[Nat.mod_eq_sub_mod d]
theorem Zar(l:List V)(n:Nat):(List.replicate n l).flatten.length=n*l.length:=sm
theorem Vc{c:Type}(k:Nat)(f:Nat->c):(Array.range k).map f=((List.range k).map f).toArray:=by
 apply Array.ext';simp
theorem Zbh{l}{m:Array Value}(h:VRs W l m.toList)(n:Nat):
  VRs W (List.replicate n l).flatten ((List.range (n*m.size)).map λi=>m[i % m.size]!):=by
 have c:=h.length;simp at c;refine VRs.of_get (by simp[c]) λj v u f e=> ?_;have g:j<n*m.size:=by
  have:=(List.getElem?_eq_some_iff.1 f).1;rw[Zar,c]at this;exact this
 rw[Zpc l n j (by rw[c];exact g),c]at f;obtain⟨k,d,hr⟩:=h.get f;have:u=k:=by
  rw[List.getElem?_map,List.getElem?_range g]at e;simp only[uw,uB]at e;rw[<-e];rw[Array.getElem?_toList]at d;rw[Array.getElem!_eq_getD,Array.getD_eq_getD_getElem?,d]
  rfl
 rw[this];exact hr
theorem ZBm(hY:YOK Y)(h:Rel W σ a w){o:Oper}{t E:TypeId}{n:Nat}{e:Array (Nat×Operand)}(B:o.op= .buildSlice t n e)(hk:Y.kd t=some (.slice E)){g}(L:Y.ty E=some g)
  (a0: ¬(g.size=0\/n*g.size>2 ^ 20)) {cs:List V} (Z:Wa (ev σ.env) (λj=>some (j*g.size,g.size)) e.toList (List.replicate n g.zero).flatten=some cs):
  ∃k:List Value,VRs W cs k/\k.length=n*g.size/\(execOp a.eval o).run Y.P w= .ok (.value (.slice (some ⟨w.heap.size,0,none⟩) n n)) (w.alloc (.cells k.toArray E)):=by
 obtain⟨ti,N,K⟩:=XG hk;obtain⟨i,d,z,G⟩:=hY.ty t ti N;have y:=G.kd;rw[K]at y;cases y;obtain⟨A,de,ze,f⟩:=hY.ty E g L;have H:=(f.zr W).length;have l:=f.zl;have x:ze.cells.size=g.size:=by rw[<-Array.length_toList,<-H,l]
 have X:0<ze.cells.size:=om;have v:=Zbh (f.zr W) n;obtain⟨k,h1,O⟩:=Zio h e.toList _ _ _ v Z;have C:k.length=n*g.size:=by
  have h3:=h1.length;have h4: ∀(ps:List (Nat×Operand)) (c r:List V),Wa (ev σ.env) (λj=>some (j*g.size,g.size)) ps c=some r->r.length=c.length:=by
   intro ps
   induction ps with
   |nil=>intro c r u;simp[Wa]at u;rw[u]
   |cons p ps ih=>
    intro c r u;simp only[Wa]at u;split at u
    .rename_i hc;rw[ih _ _ u,XA _ _ _ hc.2.1]
    .cases u
  rw[<-h3,h4 _ _ _ Z,Zar,l]
 refine⟨k,h1,C,?_⟩;have e1: ¬(n*A.size>2 ^ 24):=by rw[f.size];omega
 have F:(e.map λp=>(p.1,a.eval p.2)).toList=e.toList.map λp=>(p.1,a.eval p.2):=sm;by_cases D:n*g.size=0
 .have:n=0:=by
   rcases Nat.mul_eq_zero.1 D with h0|h0
   .exact h0
   .omega
  subst this;have m:Instr.fill (λj=>some (j*g.size,g.size)) #[] (e.toList.map λp=>(p.1,a.eval p.2))=some k.toArray:=by simpa using O
  simp[execOp,B,Instr.buildSlice,Zg G.und,ZV f.info,f.size,m,newRow,Array.range_zero']
 .have m:Instr.fill (λj=>some (j*A.size,A.size)) ((Array.range (n*A.size)).map λi=>ze.cells[i % ze.cells.size]!) (e.map λp=>(p.1,a.eval p.2)).toList=some k.toArray:=by
   rw[F,f.size,<-x];rw[<-x]at O;rw[Vc];simpa using O
  have hr:=run_buildSlice w t E n (e.map λp=>(p.1,a.eval p.2)) k.toArray A ze G.und f.info f.zero e1 (by rw[f.size];exact D) m;simp only[execOp,B,uC,hr,uA,uD]
theorem Zet(D:YOK Y)(h:Rel W σ a w){o:Oper}{t r:TypeId}{n:Nat}{d:Array (Nat×Operand)}(v:o.op= .buildSlice t n d)(C:Y.kd t=some (.slice r)){e}(u:Y.ty r=some e)
  (m: ¬(e.size=0\/n*e.size>2 ^ 20)) {z:List V} (B:Wa (ev σ.env) (λj=>some (j*e.size,e.size)) d.toList (List.replicate n e.zero).flatten=some z):
  StepR Y W σ a w o (putV {σ with h:=σ.h.push (.arr z true)} o.dst (.sl (some (σ.h.nx,0)) n (some n) e.size)):=by
 obtain⟨A,E,k,g⟩:=ZBm D h v C u m B;obtain⟨x,y⟩:=h.heap.newRow (w1:=w) rfl (.refl w) [] E r true;simp only[List.append_nil,List.length_nil,Nat.add_zero]at x y;have f:VR (W.push σ.h.nx w.heap.size A.length) (.sl (some (σ.h.nx,0)) n (some n) e.size) (.slice (some ⟨w.heap.size,0,none⟩) n n):=by
  refine .sls _ _ _ _ _ _ n (.inr rfl) (Nat.le_refl _) (λc l=>by simpa using l) (λ_ _=> ?_) (λ_ l=>nomatch l) (λ_=> ?_)
  .simp[Vw.at,Vw.push]
  .simp[Vw.push,k]
 exact StepR.heap h x y f g (.inl rfl)
theorem VF{n:Int}(d:0<=n)(f:n<=2 ^ 60):IntKind.i64.wrap n=n:=by
 have e:(2:Int) ^ IntKind.i64.bits=18446744073709551616:=dc;have c:(2:Int) ^ (IntKind.i64.bits-1)=9223372036854775808:=dc;unfold IntKind.wrap;simp only[e,c,IntKind.signed,uT];have:n % 18446744073709551616=n:=Int.emod_eq_of_lt d om;rw[this];rw[uE (by simp;omega)]
theorem Zgs(hY:YOK Y)(h:Rel W σ a w){o:Oper}{t y:TypeId}{E D:Operand}{kl kc:IntKind}{l c:Int}(N:o.op= .makeSlice t E D)(hk:Y.kd t=some (.slice y))(hl:ev σ.env E= .i kl l)
  (r:ev σ.env D= .i kc c) {f:TI} (K:Y.ty y=some f) (H:f.size≠0/\0<=l/\l<=c/\c<=most/\c*f.bytes<=most):
  StepR Y W σ a w o (putV {σ with h:=σ.h.push (.arr (List.replicate c.toNat f.zero).flatten true)} o.dst (.sl (some (σ.h.nx,0)) l.toNat (some c.toNat) f.size)):=by
 obtain⟨ti,X,G⟩:=XG hk;obtain⟨i,d,z,Z⟩:=hY.ty t ti X;have n:=Z.kd;rw[G]at n;cases n;obtain⟨L,de,ze,e⟩:=hY.ty y f K;obtain⟨i0,i1,i2,i3,i4⟩:=H;have F:=(e.zr W).length;have v:=e.zl;have m:ze.cells.size=f.size:=by rw[<-Array.length_toList,<-F,v]
 have k:=Zbh (e.zr W) c.toNat;obtain⟨g1,g2⟩:=h.heap.newRow (w1:=w) rfl (.refl w) [] k y true;have O:((List.range (c.toNat*ze.cells.size)).map λi=>ze.cells[i % ze.cells.size]!).length=c.toNat*f.size:=by simp[m]
 simp only[List.append_nil,List.length_nil,Nat.add_zero,O]at g1 g2;have A:VR (W.push σ.h.nx w.heap.size (c.toNat*f.size)) (.sl (some (σ.h.nx,0)) l.toNat (some c.toNat) f.size) (.slice (some ⟨w.heap.size,0,none⟩) l.toNat c.toNat):=by
  refine .sls _ _ _ _ _ _ _ (.inr rfl) om (λc' r=>by simpa using r) (λ_ _=> ?_) (λ_ r=>nomatch r) (λ_=> ?_)
  .simp[Vw.at,Vw.push]
  .simp[Vw.push]
 refine StepR.heap h g1 g2 A ?_ (.inl rfl);have g:=h.ev E;have j:=h.ev D;rw[hl]at g;rw[r]at j;generalize B:a.eval E=ul at g;generalize u:a.eval D=uc at j;cases g;cases j;have hb:(L.bytes:Int)*c<=281474976710656:=by
  rw[e.bytes,Int.mul_comm];have:(most:Int)<=281474976710656:=dc;omega
 have x:c<=9223372036854775807:=by
  have:(most:Int)<=9223372036854775807:=dc;omega
 have C:=run_make (P:=Y.P) w t y L ze Z.und e.info e.zero kl kc l c i1 i2 hb x;have Zb:madeCells ze.cells (c.toNat*L.size)=((List.range (c.toNat*ze.cells.size)).map λi=>ze.cells[i % ze.cells.size]!).toArray:=by
  rw[<-Vc,madeCells,e.size,m]
 simp only[execOp,N,B,u,uC,C,uA,uD,Zb]
theorem Zkb(K:YOK Y)(h:Rel W σ a w){o:Oper}{e f m:TypeId}{x:Operand}{l:List UInt8}(F:o.op= .convert e f x)(H:Y.kd e=some .str)(C:Y.kd f=some (.slice m))
  (hx:ev σ.env x= .s l) {A:TI} (E:Y.ty m=some A) (B:A.kd= .int .u8):
  StepR Y W σ a w o (putV {σ with h:=σ.h.push (.arr (l.map λc=> .i .u8 c.toNat) true)} o.dst (.sl (some (σ.h.nx,0)) l.length none 1)):=by
 obtain⟨ts,D,v⟩:=XG H;obtain⟨is,ds,zs,L⟩:=K.ty e ts D;obtain⟨td,G,t⟩:=XG C;obtain⟨id,dd,zd,O⟩:=K.ty f td G;obtain⟨ie,de,ze,r⟩:=K.ty m A E;have N:=L.kd;have X:=O.kd;have Z:=r.kd;rw[v]at N;rw[t]at X;rw[B]at Z;cases N;cases X;cases Z;have k:=h.ev x;rw[hx]at k;generalize z:a.eval x=ux at k;cases k;have hv: ∀l:List UInt8,VRs W (l.map λc=>V.i .u8 c.toNat) (l.map λc:UInt8=>Value.int .u8 c.toNat):=by
  intro l
  induction l with
  |nil=>exact .nil
  |cons c l ih=>exact .cons _ _ _ _ (.i _ _) ih
 have d:=run_bytes_of_string (P:=Y.P) w e f m ⟨l.toArray⟩ L.und O.und r.und;have u:(⟨l.toArray⟩:ByteArray).size=l.length:=rfl;rw[u]at d;have g:=grownCap_ge w l.length 0 m;generalize grownCap w l.length 0 m=cap at d g;have n:bytesRow ⟨l.toArray⟩ cap=((l.map λc:UInt8=>Value.int .u8 c.toNat)++List.replicate (cap-l.length) (Value.int .u8 0)).toArray:=by
  apply Array.ext';simp[bytesRow,u]
 rw[n]at d;obtain⟨g1,g2⟩:=h.heap.newRowF (w1:=w.drew) rfl ⟨rfl,rfl,rfl⟩ (List.replicate (cap-l.length) (Value.int .u8 0)) (hv l) m true
  (((l.map λc:UInt8=>Value.int .u8 c.toNat)++List.replicate (cap-l.length) (Value.int .u8 0)).toArray.size,((l.map λc:UInt8=>Value.int .u8 c.toNat)++List.replicate (cap-l.length) (Value.int .u8 0)).toArray.size+1) (λj _ hj=>by simp at hj ⊢;omega)
 have y:VR (W.push σ.h.nx w.heap.size ((l.map λc:UInt8=>Value.int .u8 c.toNat).length+(List.replicate (cap-l.length) (Value.int .u8 0)).length)) (.sl (some (σ.h.nx,0)) l.length none 1) (.slice (some ⟨w.heap.size,0,none⟩) l.length cap):=by
  refine .sls _ _ _ _ _ _ _ (.inr rfl) g (λc' hc=>nomatch hc) (λ_ _=> ?_) (λ_ _=> ?_) (λ_=> ?_)
  .simp[Vw.at,Vw.push]
  .simp[Vw.push];omega
  .simp[Vw.push];omega
 refine StepR.heap h g1 g2 y ?_ (.inl rfl);simp only[execOp,F,z,uC,d,uA,uD]
end
end Go.Y
