/- A part of the proof. -/
import Derived.Test.YteennilbmmlikaaGreatDoorYQuiet6
import Derived.Laws.Append
import Derived.Laws.AppendOwn
import Derived.Laws.MakeOwn
import Derived.Laws.IdiomStrings
import Derived.Great.BuildSlice
namespace Go.Y
set_option maxRecDepth 1000000
set_option maxHeartbeats 0
section
variable {Y:YP} {W W':Vw} {σ σ':St} {a:Act} {w w':World}
def StepR(Y:YP)(W:Vw)(σ:St)(a:Act)(w:World)(o:Oper)(σ':St):Prop:=
 ∃(W':Vw) (w':World) (u:Value) (n:Next),(execOp a.eval o).run Y.P w= .ok n w'/\(n= .value u\/(n= .skip/\u=Go.undef))/\
  Rel W' σ' (a.put o.dst u) w'/\Stp W (mine W σ a) w W' (mine W' σ' (a.put o.dst u)) w'
theorem Stp.weaken{own d c:Nat->Prop}(h:Stp W own w W' d w')(f: ∀b,c b->d b):Stp W own w W' c w':=
 ⟨h.le,h.size,h.keep,λb e=>h.owns b (f b e),h.new,h.str⟩
theorem StepR.heap{o:Oper}(h:Rel W σ a w){d}(j:HRel W' d w')(e:Stp W W.own w W' W'.own w'){v}{u}(f:VR W' v u){n:Next}
  (c:(execOp a.eval o).run Y.P w= .ok n w') (k:n= .value u\/(n= .skip/\u=Go.undef)):StepR Y W σ a w o (putV {σ with h:=d} o.dst v):=by
 have g:=h.call e j;exact⟨W',w',u,n,c,k,g.putV f o.dst,(e.frame h).weaken λb i=>Xq f o.dst i⟩
theorem StepR.quiet(l:YOK Y)(h:Rel W σ a w){o:Oper}{q:Q}(n:opQ Y σ o=some q){σ'}(e:putQ σ o.dst q=some σ'):StepR Y W σ a w o σ':=by
 obtain⟨u,g,k⟩:=ZIz l h n;refine⟨W,w,u,_,k w (.refl w), .inl rfl,?_⟩
 cases q with
 |val v=>
  have j:σ'=putV σ o.dst v:=by cases f:o.dst<;>simp[putQ,f]at e<;>simp[putV,e]
  subst j;exact⟨h.putV g o.dst,(Stp.refl W _ w).weaken λb i=>Xq g o.dst i⟩
 |ref s p=>
  obtain⟨b,i,rfl⟩:=g
  cases f:o.dst with
  |none=>simp[putQ,f]at e;subst e;exact⟨h,Stp.refl W _ w⟩
  |some d=>
   simp[putQ,f]at e;subst e;exact⟨h.putRef i d,(Stp.refl W _ w).weaken λc m=>Zn3 d _ m⟩
theorem Rel.allocL(h:Rel W σ a w)(d:Nat){A}{z:List Value}(P:VRs W A z)(e:TypeId):
  Rel W {σ with env:=σ.env.set d (.lb A),refs:=σ.refs.filter λr=>r.2.1 !=d} (a.put (some d) (.pointer (some ⟨w.heap.size,0,none⟩))) (w.alloc (.cells z.toArray e))/\
  Stp W (mine W σ a) w W (mine W {σ with env:=σ.env.set d (.lb A),refs:=σ.refs.filter λr=>r.2.1 !=d} (a.put (some d) (.pointer (some ⟨w.heap.size,0,none⟩)))) (w.alloc (.cells z.toArray e)):=by
 have f:Same w (w.alloc (.cells z.toArray e)):=Zcx _ _;have y: ∀t b,QJ σ a t b->b<w.heap.size:=by
  rintro t b ⟨⟨p,j⟩,g⟩;obtain⟨c,e',L,_⟩:=h.boxCells j ⟨⟨p,j⟩,g⟩;exact Zt L
 have l: ∀t b,QJ {σ with env:=σ.env.set d (.lb A),refs:=σ.refs.filter λr=>r.2.1 !=d} (a.put (some d) (.pointer (some ⟨w.heap.size,0,none⟩))) t b->
   (t=d/\b=w.heap.size)\/(t≠d/\QJ σ a t b):=by
  rintro t b ⟨⟨p,j⟩,g⟩;simp only[Qd]at j;rw[Qr]at g;split at j
  .rename_i k;subst k
   left
   rw[uF rfl]at g;split at g;simp at g;exact⟨rfl,g.symm⟩;cases g
  .rename_i k;rw[uE k]at g;exact .inr ⟨λe=>k e.symm,⟨p,j⟩,g⟩
 have F:W.snap w.heap.size=none:=by
  cases X:W.snap w.heap.size with
  |none=>rfl
  |some o=>have:=Zt (h.heap.snap _ _ X);omega
 have E: ¬W.own w.heap.size:=by
  rintro⟨id,N,he⟩;have:=h.heap.blk N;omega
 refine⟨⟨h.heap.same f,by simp[Act.put,h.size],λt v m=> ?_,λt Z b j g=> ?_,λK s o q i b x=> ?_,(h.defers.same f).act (Je _ _ _)⟩,
  ⟨.refl W,sm,λb x _=>Jl _ _ _ om,λb x=> ?_,λb x=> .inl x,⟨rfl,rfl,rfl⟩⟩⟩
 .simp only[Qd]at m;rw[Qr];split at m;rename_i k;subst k;split at m;rename_i D;simp at m;subst m;rw[uF rfl,uF (by rw[h.size];exact D)];exact⟨_,rfl,w.heap.size,z.toArray,e,rfl,JJ _ _,su P,F,E⟩;cases m;rename_i k;rw[uE k];obtain⟨u,j,g⟩:=h.env t v m;exact⟨u,j,g.same f⟩
 .rcases l _ _ j with ⟨B,n⟩|⟨B,n⟩<;>rcases l _ _ g with ⟨H,C⟩|⟨H,C⟩
  .rw[B,H]
  .have:=y _ _ C;omega
  .have:=y _ _ n;omega
  .exact h.box t Z b n C
 .simp only[List.mem_filter,bne_iff_ne,ne_eq]at q;obtain⟨q,G⟩:=q;simp only[Qd]at i;rw[Qr];split at i
  .split at i<;>simp at i
  .rename_i k;rw[uE k];rcases l _ _ x with ⟨B,_⟩|⟨_,n⟩;exact absurd B G;exact h.refs K s o q i b n
 .rcases x with O|⟨t,m⟩|q;exact .inl (.inl O);rcases l _ _ m with ⟨_,n⟩|⟨_,n⟩;exact .inr om;exact .inl (.inr (.inl ⟨t,n⟩));rw[Je]at q;exact .inl (.inr (.inr q))
theorem Rel.storeL(h:Rel W σ a w){s b:Nat}{N m}(X:σ.env[s]? =some (.lb N))(B:QJ σ a s b){c':Array Value}{e:TypeId}(E:VRs W m c'.toList):
  Rel W {σ with env:=σ.env.set s (.lb m)} a (w.putB b (.cells c' e (0,0)))/\
  Stp W (mine W σ a) w W (mine W {σ with env:=σ.env.set s (.lb m)} a) (w.putB b (.cells c' e (0,0))):=by
 obtain⟨c,e0,O,_,A,j⟩:=h.boxCells X B;have G:=Zt O;have y: ∀x,x≠b->(w.putB b (.cells c' e (0,0))).heap[x]? =w.heap[x]? :=λx f=>Zcw _ _ _ _ (λe=>f e.symm);have n: ∀t x,QJ {σ with env:=σ.env.set s (.lb m)} a t x->QJ σ a t x:=by
  rintro t x ⟨⟨q,g⟩,i⟩;simp only[Qd]at g;split at g;rename_i z;subst z;exact⟨⟨N,X⟩,i⟩;exact⟨⟨q,g⟩,i⟩
 have K: ∀p∈σ.h.tg,TagR W (w.putB b (.cells c' e (0,0))) p:=λp D P=>by
  obtain⟨g,c1,fr,i,F⟩:=(h.heap.tg p D).2 P;exact⟨g,c1,fr,by rw[y _ (λhe=>j ⟨p.1,P,he⟩)];exact i,F⟩
 refine⟨⟨⟨h.heap.kn,h.heap.lk,h.heap.lv,h.heap.lt,λx o f=> ?_,λid o C=> ?_,h.heap.inj,h.heap.apart,λp D=>⟨(h.heap.tg p D).1,K p D⟩,h.heap.gl⟩,by simp[h.size],λt v l=> ?_,λt t' x g i=>h.box t t' x (n _ _ g) (n _ _ i),λd s' o H k x f=> ?_,h.defers.turn λr E g i=>⟨y r (λe=>by rw[e,O]at E;cases E),g,i⟩⟩,
  ⟨.refl W,sm,λx f hn=>y x (λe=>hn (.inr (.inl ⟨s,e▸B⟩))),λx f=> ?_,λx f=> .inl f,⟨rfl,rfl,rfl⟩⟩⟩
 .rw[y x (λe=>by rw[e,A]at f;cases f)];exact h.heap.snap x o f
 .exact h.heap.others y C (λe=>j ⟨id,(h.heap.lv id).2 (by simp[C]),e⟩)
 .simp only[Qd]at l;split at l;rename_i z;subst z;split at l;simp at l;subst l;exact⟨_,B.2,b,c',e,rfl,Jk _ _ _ G,E,A,j⟩;cases l
  .rename_i z;obtain⟨u,g,i⟩:=h.env t v l;refine⟨u,g,?_⟩
   cases v with
   |lb q=>
    obtain⟨x,cx,ex,Z,f,F⟩:=i;have L:x≠b:=λe=>z (h.box s t b B ⟨⟨q,l⟩,by rw[g,Z,e]⟩);exact⟨x,cx,ex,Z,by rw[y x L];exact f,F⟩
   |_=>exact i
 .simp only[Qd]at k;split at k
  .split at k<;>simp at k
  .exact h.refs d s' o H k x (n _ _ f)
 .rcases f with C|⟨t,l⟩|H;exact .inl (.inl C);exact .inl (.inr (.inl ⟨t,n _ _ l⟩));exact .inl (.inr (.inr H))
theorem Zhb(e)(c:Array Value)(P:Program)(w:World):(newRow e c).run P w= .ok ⟨w.heap.size,0,none⟩ (w.alloc (.cells c e)):=rfl
theorem HRel.newRowF{h}(s:HRel W h w){w1:World}(g:w1.heap=w.heap)(k:Str w w1){l}{d:List Value}(c:List Value)(x:VRs W l d)(e:TypeId)(wr:Bool)(f:Nat×Nat)
  (m: ∀j,(if wr then 0 else l.length)<=j->j<d.length+c.length-> ¬(f.1<=j/\j<f.2)):
  HRel (W.push h.nx w.heap.size (d.length+c.length)) (h.push (.arr l wr)) (w1.alloc (.cells (d++c).toArray e f))/\
  Stp W W.own w (W.push h.nx w.heap.size (d.length+c.length)) (W.push h.nx w.heap.size (d.length+c.length)).own (w1.alloc (.cells (d++c).toArray e f)):=by
 have i:(w1.alloc (.cells (d++c).toArray e f)).heap[w.heap.size]? =some (.cells (d++c).toArray e f):=by
  have:=JJ w1 (.cells (d++c).toArray e f);rw[g]at this;exact this
 refine s.push (ob:= .cells (d++c).toArray e f) (k.trans ⟨rfl,rfl,rfl⟩) (λb o i=> ?_) (by rw[Zsg,g]) i ?_;rw[Jl _ _ _ (by have:=Zt i;rw[g];omega),g];exact i;have y:=x.length;refine⟨(d++c).toArray,e,f,by simpa[Vw.push]using i,by simp[Vw.push],by simp[Vw.push];omega,λj v n=> ?_,λj n p=>m j (by simpa[Vw.push]using n) (su p)⟩;obtain⟨u,t,r⟩:=x.get n;refine⟨u,?_,r.mono (W.push_le (s.new (Nat.le_refl _)) _ _)⟩;have q:j<d.length:=(List.getElem?_eq_some_iff.1 t).1;simp[Vw.push,vC q,t]
theorem HRel.newRow{h}(i:HRel W h w){w1:World}(f:w1.heap=w.heap)(d:Str w w1){g}{c:List Value}(b:List Value)(k:VRs W g c)(e:TypeId)(wr:Bool):
  HRel (W.push h.nx w.heap.size (c.length+b.length)) (h.push (.arr g wr)) (w1.alloc (.cells (c++b).toArray e))/\
  Stp W W.own w (W.push h.nx w.heap.size (c.length+b.length)) (W.push h.nx w.heap.size (c.length+b.length)).own (w1.alloc (.cells (c++b).toArray e)):=
 i.newRowF f d b k e wr (0,0) (λj _ _=>sm)
theorem HRel.newRowT{h}(n:HRel W h w){w1:World}(f:w1.heap=w.heap)(d:Str w w1){i}{c:List Value}(b:List Value)(p:VRs W i c)(e)(wr:Bool){g:Option TypeId}(o:g=none\/g=some e):
  HRel (W.push h.nx w.heap.size (c.length+b.length)) (h.pushT g (.arr i wr)) (w1.alloc (.cells (c++b).toArray e))/\
  Stp W W.own w (W.push h.nx w.heap.size (c.length+b.length)) (W.push h.nx w.heap.size (c.length+b.length)).own (w1.alloc (.cells (c++b).toArray e)):=by
 obtain⟨k,l⟩:=n.newRow f d b p e wr;refine⟨k.tagIf (.inr rfl) λx j=> ?_,l⟩;rcases o with rfl|rfl;cases j
 .cases j;intro _;have m:(w1.alloc (.cells (c++b).toArray e)).heap[w.heap.size]? =some (.cells (c++b).toArray e (0,0)):=by
   have:=JJ w1 (.cells (c++b).toArray e);rw[f]at this;exact this
  refine⟨by simp[Vw.push],(c++b).toArray,(0,0),?_,Nat.le_refl _,Nat.zero_le _⟩;simp only[Vw.push,vG];exact m
theorem Zhc(h:Rel W σ a w){o:Oper}{k}{t}{n}{m:List Value}(q:VRs W n m){σ'}{l:Option TypeId}(j:l=none\/l=some t)(b:Vc k σ o.dst n l=some σ')
  (c:(execOp a.eval o).run Y.P w= .ok (.value (.pointer (some ⟨w.heap.size,0,none⟩))) (w.alloc (.cells m.toArray t))):StepR Y W σ a w o σ':=by
 unfold Vc at b
 cases e:o.dst with
 |none=>simp[e]at b
 |some d=>
  simp only[e]at b;split at b;simp at b;subst b;obtain⟨g,i⟩:=h.allocL d q t;exact⟨W,_,_,_,c, .inl rfl,by rw[e];exact g,by rw[e];exact i⟩
  .simp at b;subst b;obtain⟨g,i⟩:=h.heap.newRowT (w1:=w) rfl (.refl w) [] q t true j;simp only[List.append_nil,List.length_nil,Nat.add_zero]at g i;have f:VR (W.push σ.h.nx w.heap.size m.length) (.p (some (σ.h.nx,0))) (.pointer (some ⟨w.heap.size,0,none⟩)):=by
    refine .ps _ _ _ (.inr rfl) (λ_=> ?_);simp[Vw.at,Vw.push]
   have:=StepR.heap (Y:=Y) (o:=o) h g i f c (.inl rfl);rw[e]at this;exact this
theorem Zhd(j:YOK Y)(h:Rel W σ a w){o:Oper}{loc}{t:TypeId}(b:o.op= .alloc t){g:TI}(f:Y.ty t=some g){σ'}(k:Vc loc σ o.dst g.zero (Y.tag t)=some σ'):
  StepR Y W σ a w o σ':=by
 obtain⟨i,d,z,c⟩:=j.ty t g f;refine Zhc (t:=t) h (c.zr W) (by unfold YP.tag;split<;>simp) k ?_
 have e:z.cells.toList.toArray=z.cells:=sm;rw[e];simp only[execOp,b,Instr.alloc,uC,Qp c.info c.zero,uA,newVar,Zhb,uD]
theorem Zpw(_hY:YOK Y)(h:Rel W σ a w){o:Oper}{loc:Nat->Bool}{t}{x}(b:o.op= .box t x)(d:Zp (ev σ.env x).cells=true){σ':St}
  (c:Vc loc σ o.dst (ev σ.env x).cells none=some σ'):StepR Y W σ a w o σ':=by
 refine Zhc (t:=t) h (Zi1 (h.ev x) d) (.inl rfl) c ?_;have e:(a.eval x).cells.toList.toArray=(a.eval x).cells:=sm;rw[e];simp only[execOp,b,Instr.box,uC,newVar,Zhb,uA,uD]
theorem Zau(w:World)(b:Nat)(o:Obj): ∀x,x≠b->(w.putB b o).heap[x]? =w.heap[x]? :=λ_ c=>Zcw _ _ _ _ (λe=>c e.symm)
theorem HRel.spliceAt{h:Heap}(x:HRel W h w){b off:Nat}{n new:List V}{k:List Value}(A:h.get b=some (.arr n true))(z:off+new.length<=n.length)(B:VRs W new k)
  (D: ∀u∈k,u.oneCell'=true) (P:Program):
  ∃w',(storeCells (W.at b off) k).run P w= .ok () w'/\HRel W (h.set b (some (.arr (splice n off new) true))) w'/\Stp W W.own w W W.own w':=by
 have t:W.lv b:=(x.lv b).2 (by simp[A]);obtain⟨c,e,o,m,E,F,G,s⟩:=x.obj b _ A;simp only[vG]at s;have K:=B.length;refine⟨_,?_,x.write (w':=w.putB (W.mu b).1 (.cells (splice c.toList ((W.mu b).2+off+0) k).toArray e o)) ⟨rfl,rfl,rfl⟩ t (Zau _ _ _) (Ze4 _ _ _) ?hty ?_⟩
 case hty=>
  intro c0 H C p q r;rw[m]at p;simp only[uB,Obj.cells.injEq]at p;obtain⟨rfl,rfl,rfl⟩:=p;refine⟨_,_,Jk _ _ _ (Zt m),q,?_⟩;rw[List.size_toArray,XB _ _ _ (by simp;omega)];simpa using r
 .exact Qq (W.mu b).1 ((W.mu b).2+off) e o k 0 c w m om (λj d f=>s j om om) D
 .have i:(splice c.toList ((W.mu b).2+off+0) k).length=c.size:=by rw[XB _ _ _ (by simp;omega)];simp
  refine⟨_,e,o,Jk _ _ _ (Zt m),by rw[List.size_toArray,i];exact E,by rw[List.size_toArray,i,XB _ _ _ z];exact F,λj v d=> ?_,λj d f=> ?_⟩;rw[Xs _ _ _ _ z]at d;simp only[Nat.add_zero,List.getElem?_toArray];rw[Xs _ _ _ _ (by simp;omega)];by_cases l:off<=j/\j<off+new.length;rw[uF l]at d;obtain⟨u,y,g⟩:=B.get d;refine⟨u,?_,g⟩;rw[uF om];rw[show(W.mu b).2+j-((W.mu b).2+off)=j-off from om];exact y;rw[uE l]at d;obtain⟨u,y,g⟩:=G j v d;refine⟨u,?_,g⟩;rw[uE om];simpa using y;simp only[vG]at d;rw[List.size_toArray,i]at f;exact s j d f
theorem Zhe(hY:YOK Y)(h:Rel W σ a w){o:Oper}{t:TypeId}{x y:Operand}(F:o.op= .store t x y){K}(H:Y.ty t=some K){ad:Ad}(A:addr σ x=some ad)
  (hl:(ev σ.env y).cells.length=K.size) (X:Zp (ev σ.env y).cells=true) {σ':St} (f:storeAt σ (ev σ.env y).cells ad=some σ'):StepR Y W σ a w o (putV σ' o.dst .undef):=by
 obtain⟨i,d,z,ht⟩:=hY.ty t K H;obtain⟨p,hp,hr⟩:=Zcy h A;have r:=Zi1 (h.ev y) X;have N:=Jm r X;have m:=r.length;have k: ∀w',(storeCells p (a.eval y).cells.toList).run Y.P w= .ok () w'->(execOp a.eval o).run Y.P w= .ok .skip w':=by
  intro w' hw;have e1: ¬((a.eval y).cells.size≠i.size):=by rw[ht.size,<-hl,m];simp
  simp only[execOp,F,hp,Instr.storeAt,Instr.sureAddr,uC,uD,uA,storeVar,ZS ht.info,Sem.run_ite,e1,vF,hw]
 cases ad with
 |lb s g=>
  obtain⟨b,O,rfl⟩:=hr;simp only[storeAt]at f
  cases l:σ.env[s]? with
  |none=>simp[List.getD,l]at f
  |some v=>
   cases v with
   |lb L=>
    simp only[List.getD,l,uq]at f;split at f;rename_i D;simp at f;subst f;obtain⟨c,e,B,n,_,_⟩:=h.boxCells l O;have C:=n.length;simp at C;have G:=Qq (P:=Y.P) b g e (0,0) (a.eval y).cells.toList 0 c w B om (λj _ _=>sm) N;obtain⟨q,u⟩:=h.storeL (c':=(splice c.toList (g+0) (a.eval y).cells.toList).toArray) (e:=e) l O (su (n.splice r g D));exact⟨W,_,Go.undef, .skip,k _ G, .inr ⟨rfl,rfl⟩,q.putV (.undef _) o.dst,u.weaken λx hx=>Xq (.undef _) o.dst hx⟩;cases f
   |_=>simp[List.getD,l]at f
 |hp id g=>
  obtain⟨a0,ha⟩:=hr;simp only[storeAt]at f;split at f;rename_i L Z;split at f;rename_i D;simp at f;subst f;have E:W.lv id:=(h.heap.lv id).2 (by simp[Z]);obtain⟨w',q,u,g3⟩:=h.heap.spliceAt Z D r N Y.P;rw[<-ha E]at q;exact StepR.heap h u g3 (.undef Go.undef) (k _ q) (.inr ⟨rfl,rfl⟩);cases f;cases f
 |ro L=>simp[storeAt]at f
end
section
variable {Y:YP} {W W':Vw} {σ σ':St} {a:Act} {w w':World}
theorem Zpx(l:List V): ∀(n j:Nat),j<n*l.length->(List.replicate n l).flatten[j]? =l[j % l.length]?
 |0,j,h=>by simp at h
 |n+1,j,h=>by
  rw[uZ,List.flatten_cons];by_cases b:j<l.length;rw[vC b,Nat.mod_eq_of_lt b];have c:l.length<=j:=Nat.le_of_not_lt b;rw[vB c,Zpx l n (j-l.length) (by rw[Nat.succ_mul]at h;omega)];rw[Nat.mod_eq_sub_mod c]
theorem Zav(l:List V)(n:Nat):(List.replicate n l).flatten.length=n*l.length:=sm
theorem Vg{b:Type}(k:Nat)(f:Nat->b):(Array.range k).map f=((List.range k).map f).toArray:=by
 apply Array.ext';simp
theorem Zbm{l}{m:Array Value}(h:VRs W l m.toList)(n:Nat):
  VRs W (List.replicate n l).flatten ((List.range (n*m.size)).map λi=>m[i % m.size]!):=by
 have b:=h.length;simp at b;refine VRs.of_get (by simp[b]) λj v u e d=> ?_;have f:j<n*m.size:=by
  have:=(List.getElem?_eq_some_iff.1 e).1;rw[Zav,b]at this;exact this
 rw[Zpx l n j (by rw[b];exact f),b]at e;obtain⟨k,c,g⟩:=h.get e;have:u=k:=by
  rw[vH,List.getElem?_range f]at d;simp only[uw,uB]at d;rw[<-d];rw[Array.getElem?_toList]at c;rw[Array.getElem!_eq_getD,Array.getD_eq_getD_getElem?,c]
  rfl
 rw[this];exact g
theorem ZCt(hY:YOK Y)(h:Rel W σ a w){o:Oper}{t q:TypeId}{n:Nat}{b:Array (Nat×Operand)}(x:o.op= .buildSlice t n b)(hk:Y.kd t=some (.slice q)){f}(K:Y.ty q=some f)
  (a1: ¬(f.size=0\/n*f.size>2 ^ 20)) {O:List V} (hf:Wb (ev σ.env) (λj=>some (j*f.size,f.size)) b.toList (List.replicate n f.zero).flatten=some O):
  ∃g:List Value,VRs W O g/\g.length=n*f.size/\(execOp a.eval o).run Y.P w= .ok (.value (.slice (some ⟨w.heap.size,0,none⟩) n n)) (w.alloc (.cells g.toArray q)):=by
 obtain⟨ti,L,F⟩:=XH hk;obtain⟨i,d,z,H⟩:=hY.ty t ti L;have s:=H.kd;rw[F]at s;cases s;obtain⟨B,de,C,e⟩:=hY.ty q f K;have N:=(e.zr W).length;have k:=e.zl;have A:C.cells.size=f.size:=by rw[<-Array.length_toList,<-N,k]
 have a0:0<C.cells.size:=om;have y:=Zbm (e.zr W) n;obtain⟨g,Z,E⟩:=Zi2 h b.toList _ _ _ y hf;have u:g.length=n*f.size:=by
  have h3:=Z.length;have h4: ∀(D:List (Nat×Operand)) (c r:List V),Wb (ev σ.env) (λj=>some (j*f.size,f.size)) D c=some r->r.length=c.length:=by
   intro D
   induction D with
   |nil=>intro c r m;simp[Wb]at m;rw[m]
   |cons p D ih=>
    intro c r m;simp only[Wb]at m;split at m;rename_i hc;rw[ih _ _ m,XB _ _ _ hc.2.1];cases m
  rw[<-h3,h4 _ _ _ hf,Zav,k]
 refine⟨g,Z,u,?_⟩;have e1: ¬(n*B.size>2 ^ 24):=by rw[e.size];omega
 have G:(b.map λp=>(p.1,a.eval p.2)).toList=b.toList.map λp=>(p.1,a.eval p.2):=sm;by_cases v:n*f.size=0
 .have:n=0:=by
   rcases Nat.mul_eq_zero.1 v with X|X;exact X;omega
  subst this;have l:Instr.fill (λj=>some (j*f.size,f.size)) #[] (b.toList.map λp=>(p.1,a.eval p.2))=some g.toArray:=su E;simp[execOp,x,Instr.buildSlice,Zg H.und,ZS e.info,e.size,l,newRow,Array.range_zero']
 .have l:Instr.fill (λj=>some (j*B.size,B.size)) ((Array.range (n*B.size)).map λi=>C.cells[i % C.cells.size]!) (b.map λp=>(p.1,a.eval p.2)).toList=some g.toArray:=by
   rw[G,e.size,<-A];rw[<-A]at E;rw[Vg];simpa using E
  have hr:=run_buildSlice w t q n (b.map λp=>(p.1,a.eval p.2)) g.toArray B C H.und e.info e.zero e1 (by rw[e.size];exact v) l;simp only[execOp,x,uC,hr,uA,uD]
theorem Ze7(v:YOK Y)(h:Rel W σ a w){o:Oper}{t i:TypeId}{n:Nat}{b:Array (Nat×Operand)}(l:o.op= .buildSlice t n b)(y:Y.kd t=some (.slice i)){d}(p:Y.ty i=some d)
  (m: ¬(d.size=0\/n*d.size>2 ^ 20)) {q:List V} (x:Wb (ev σ.env) (λj=>some (j*d.size,d.size)) b.toList (List.replicate n d.zero).flatten=some q):
  StepR Y W σ a w o (putV {σ with h:=σ.h.push (.arr q true)} o.dst (.sl (some (σ.h.nx,0)) n (some n) d.size)):=by
 obtain⟨z,u,e,f⟩:=ZCt v h l y p m x;obtain⟨r,s⟩:=h.heap.newRow (w1:=w) rfl (.refl w) [] u i true;simp only[List.append_nil,List.length_nil,Nat.add_zero]at r s;have g:VR (W.push σ.h.nx w.heap.size z.length) (.sl (some (σ.h.nx,0)) n (some n) d.size) (.slice (some ⟨w.heap.size,0,none⟩) n n):=by
  refine .sls _ _ _ _ _ _ n (.inr rfl) (Nat.le_refl _) (λc k=>su k) (λ_ _=> ?_) (λ_ k=>nomatch k) (λ_=> ?_);simp[Vw.at,Vw.push];simp[Vw.push,e]
 exact StepR.heap h r s g f (.inl rfl)
theorem VI{n:Int}(c:0<=n)(d:n<=2 ^ 60):IntKind.i64.wrap n=n:=by
 have e:(2:Int) ^ IntKind.i64.bits=18446744073709551616:=dc;have b:(2:Int) ^ (IntKind.i64.bits-1)=9223372036854775808:=dc;unfold IntKind.wrap;simp only[e,b,IntKind.signed,uT];have:n % 18446744073709551616=n:=Int.emod_eq_of_lt c om;rw[this];rw[uE (by simp;omega)]
theorem Zg3(X:YOK Y)(h:Rel W σ a w){o:Oper}{t k:TypeId}{B A:Operand}{kl kc:IntKind}{l c:Int}(E:o.op= .makeSlice t B A)(hk:Y.kd t=some (.slice k))(hl:ev σ.env B= .i kl l)
  (m:ev σ.env A= .i kc c) {e:TI} (F:Y.ty k=some e) (C:e.size≠0/\0<=l/\l<=c/\c<=most/\c*e.bytes<=most):
  StepR Y W σ a w o (putV {σ with h:=σ.h.push (.arr (List.replicate c.toNat e.zero).flatten true)} o.dst (.sl (some (σ.h.nx,0)) l.toNat (some c.toNat) e.size)):=by
 obtain⟨ti,G,D⟩:=XH hk;obtain⟨i,d,z,Z⟩:=X.ty t ti G;have n:=Z.kd;rw[D]at n;cases n;obtain⟨L,de,f,b⟩:=X.ty k e F;obtain⟨i0,i1,i2,i3,i4⟩:=C;have K:=(b.zr W).length;have x:=b.zl;have y:f.cells.size=e.size:=by rw[<-Array.length_toList,<-K,x]
 have q:=Zbm (b.zr W) c.toNat;obtain⟨N,O⟩:=h.heap.newRow (w1:=w) rfl (.refl w) [] q k true;have H:((List.range (c.toNat*f.cells.size)).map λi=>f.cells[i % f.cells.size]!).length=c.toNat*e.size:=by simp[y]
 simp only[List.append_nil,List.length_nil,Nat.add_zero,H]at N O;have v:VR (W.push σ.h.nx w.heap.size (c.toNat*e.size)) (.sl (some (σ.h.nx,0)) l.toNat (some c.toNat) e.size) (.slice (some ⟨w.heap.size,0,none⟩) l.toNat c.toNat):=by
  refine .sls _ _ _ _ _ _ _ (.inr rfl) om (λc' m=>su m) (λ_ _=> ?_) (λ_ m=>nomatch m) (λ_=> ?_);simp[Vw.at,Vw.push];simp[Vw.push]
 refine StepR.heap h N O v ?_ (.inl rfl);have j:=h.ev B;have g:=h.ev A;rw[hl]at j;rw[m]at g;generalize u:a.eval B=ul at j;generalize s:a.eval A=uc at g;cases j;cases g;have hb:(L.bytes:Int)*c<=281474976710656:=by
  rw[b.bytes,Int.mul_comm];have:(most:Int)<=281474976710656:=dc;omega
 have p:c<=9223372036854775807:=by
  have:(most:Int)<=9223372036854775807:=dc;omega
 have r:=run_make (P:=Y.P) w t k L f Z.und b.info b.zero kl kc l c i1 i2 hb p;have Zb:madeCells f.cells (c.toNat*L.size)=((List.range (c.toNat*f.cells.size)).map λi=>f.cells[i % f.cells.size]!).toArray:=by
  rw[<-Vg,madeCells,b.size,y]
 simp only[execOp,E,u,s,uC,r,uA,uD,Zb]
theorem Zkx(u:YOK Y)(h:Rel W σ a w){o:Oper}{e d g:TypeId}{x}{l:List UInt8}(A:o.op= .convert e d x)(z:Y.kd e=some .str)(v:Y.kd d=some (.slice g))
  (hx:ev σ.env x= .s l) {F:TI} (C:Y.ty g=some F) (y:F.kd= .int .u8):
  StepR Y W σ a w o (putV {σ with h:=σ.h.push (.arr (l.map λc=> .i .u8 c.toNat) true)} o.dst (.sl (some (σ.h.nx,0)) l.length none 1)):=by
 obtain⟨ts,D,p⟩:=XH z;obtain⟨is,ds,zs,H⟩:=u.ty e ts D;obtain⟨td,B,n⟩:=XH v;obtain⟨id,dd,zd,G⟩:=u.ty d td B;obtain⟨ie,de,ze,m⟩:=u.ty g F C;have K:=H.kd;have L:=G.kd;have N:=m.kd;rw[p]at K;rw[n]at L;rw[y]at N;cases K;cases L;cases N;have k:=h.ev x;rw[hx]at k;generalize E:a.eval x=ux at k;cases k;have hv: ∀l:List UInt8,VRs W (l.map λc=>V.i .u8 c.toNat) (l.map λc:UInt8=>Value.int .u8 c.toNat):=by
  intro l
  induction l with
  |nil=>exact .nil
  |cons c l ih=>exact .cons _ _ _ _ (.i _ _) ih
 have b:=run_bytes_of_string (P:=Y.P) w e d g ⟨l.toArray⟩ H.und G.und m.und;have r:(⟨l.toArray⟩:ByteArray).size=l.length:=rfl;rw[r]at b;have f:=grownCap_ge w l.length 0 g;generalize grownCap w l.length 0 g=cap at b f;have q:bytesRow ⟨l.toArray⟩ cap=((l.map λc:UInt8=>Value.int .u8 c.toNat)++List.replicate (cap-l.length) (Value.int .u8 0)).toArray:=by
  apply Array.ext';simp[bytesRow,r]
 rw[q]at b;obtain⟨O,X⟩:=h.heap.newRowF (w1:=w.drew) rfl ⟨rfl,rfl,rfl⟩ (List.replicate (cap-l.length) (Value.int .u8 0)) (hv l) g true
  (((l.map λc:UInt8=>Value.int .u8 c.toNat)++List.replicate (cap-l.length) (Value.int .u8 0)).toArray.size,((l.map λc:UInt8=>Value.int .u8 c.toNat)++List.replicate (cap-l.length) (Value.int .u8 0)).toArray.size+1) (λj _ hj=>by simp at hj ⊢;omega)
 have t:VR (W.push σ.h.nx w.heap.size ((l.map λc:UInt8=>Value.int .u8 c.toNat).length+(List.replicate (cap-l.length) (Value.int .u8 0)).length)) (.sl (some (σ.h.nx,0)) l.length none 1) (.slice (some ⟨w.heap.size,0,none⟩) l.length cap):=by
  refine .sls _ _ _ _ _ _ _ (.inr rfl) f (λc' Z=>nomatch Z) (λ_ _=> ?_) (λ_ _=> ?_) (λ_=> ?_);simp[Vw.at,Vw.push];simp[Vw.push];omega;simp[Vw.push];omega
 refine StepR.heap h O X t ?_ (.inl rfl);simp only[execOp,A,E,uC,b,uA,uD]
end
end Go.Y
