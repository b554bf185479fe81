/- A part of the proof. -/
import Derived.Test.YteennilbmmlikaaGreatDoorYQuiet6
import Derived.Laws.Append
import Derived.Laws.AppendOwn
import Derived.Laws.MakeOwn
import Derived.Laws.IdiomStrings
import Derived.Great.BuildSlice
namespace Go.Y
set_option maxRecDepth 1000000
set_option maxHeartbeats 0
section
variable {Y:YP} {W W':Vw} {σ σ':St} {a:Act} {w w':World}

def StepR(Y:YP)(W:Vw)(σ:St)(a:Act)(w:World)(o:Oper)(σ':St):Prop:=
 ∃(W':Vw) (w':World) (u:Value) (n:Next),(execOp a.eval o).run Y.P w= .ok n w'∧(n= .value u∨(n= .skip∧u=Go.undef))∧
  Rel W' σ' (a.put o.dst u) w'∧Stp W (mine W σ a) w W' (mine W' σ' (a.put o.dst u)) w'

theorem Stp.weaken{own own' own'':Nat->Prop}(h:Stp W own w W' own' w')(hs: ∀b,own'' b->own' b):Stp W own w W' own'' w':=
 ⟨h.le,h.size,h.keep,fun b hb=>h.owns b (hs b hb),h.new,h.str⟩

theorem StepR.heap{o:Oper}(h:Rel W σ a w){h':Heap}(hh:HRel W' h' w')(hs:Stp W W.own w W' W'.own w'){v:V}{u:Value}(hv:VR W' v u){n:Next}
  (hrun:(execOp a.eval o).run Y.P w= .ok n w') (hn:n= .value u∨(n= .skip∧u=Go.undef)):StepR Y W σ a w o (putV {σ with h:=h'} o.dst v):=by
 have h1:=h.call hs hh
 exact⟨W',w',u,n,hrun,hn,h1.putV hv o.dst,(hs.frame h).weaken fun b hb=>Xd hv o.dst hb⟩

theorem StepR.quiet(hY:YOK Y)(h:Rel W σ a w){o:Oper}{q:Q}(hq:opQ Y σ o=some q){σ':St}(hp:putQ σ o.dst q=some σ'):StepR Y W σ a w o σ':=by
 obtain⟨u,h1,h2⟩:=ZBw hY h hq
 refine⟨W,w,u,_,h2 w (.refl w), .inl rfl,?_⟩
 cases q with
 |val v=>
  have hσ:σ'=putV σ o.dst v:=by cases hd:o.dst<;>simp[putQ,hd]at hp<;>simp[putV,hp]
  subst hσ
  exact⟨h.putV h1 o.dst,(Stp.refl W _ w).weaken fun b hb=>Xd h1 o.dst hb⟩
 |ref s off=>
  obtain⟨b,hb,rfl⟩:=h1
  cases hd:o.dst with
  |none=>simp[putQ,hd]at hp;subst hp;exact⟨h,Stp.refl W _ w⟩
  |some d=>
   simp[putQ,hd]at hp;subst hp
   exact⟨h.putRef hb d,(Stp.refl W _ w).weaken fun c hc=>Zkb d _ hc⟩

theorem Rel.allocL(h:Rel W σ a w)(d:Nat){cs:List V}{us:List Value}(hr:VRs W cs us)(e:TypeId):
  Rel W {σ with env:=σ.env.set d (.lb cs),refs:=σ.refs.filter fun r=>r.2.1 !=d} (a.put (some d) (.pointer (some ⟨w.heap.size,0,none⟩))) (w.alloc (.cells us.toArray e))∧
  Stp W (mine W σ a) w W (mine W {σ with env:=σ.env.set d (.lb cs),refs:=σ.refs.filter fun r=>r.2.1 !=d} (a.put (some d) (.pointer (some ⟨w.heap.size,0,none⟩)))) (w.alloc (.cells us.toArray e)):=by
 have hsame:Same w (w.alloc (.cells us.toArray e)):=Za7 _ _
 have hnb: ∀t b,QC σ a t b->b<w.heap.size:=by
  rintro t b ⟨⟨cs',h1⟩,h2⟩
  obtain⟨c,e',hc,_⟩:=h.boxCells h1 ⟨⟨cs',h1⟩,h2⟩
  exact Zq hc
 have hbx: ∀t b,QC {σ with env:=σ.env.set d (.lb cs),refs:=σ.refs.filter fun r=>r.2.1 !=d} (a.put (some d) (.pointer (some ⟨w.heap.size,0,none⟩))) t b->
   (t=d∧b=w.heap.size)∨(t≠d∧QC σ a t b):=by
  rintro t b ⟨⟨cs',h1⟩,h2⟩
  simp only[XN]at h1
  rw[Qc]at h2
  split at h1
  ·rename_i hd;subst hd
   left
   rw[if_pos rfl]at h2
   split at h2
   ·simp at h2;exact⟨rfl,h2.symm⟩
   ·cases h2
  ·rename_i hd
   rw[if_neg hd]at h2
   exact .inr ⟨fun e=>hd e.symm,⟨cs',h1⟩,h2⟩
 have hns:W.snap w.heap.size=none:=by
  cases hs:W.snap w.heap.size with
  |none=>rfl
  |some o=>have:=Zq (h.heap.snap _ _ hs);omega
 have hno: ¬W.own w.heap.size:=by
  rintro⟨id,hl,he⟩
  have:=h.heap.blk hl;omega
 refine⟨⟨h.heap.same hsame,by simp[Act.put,h.size],fun t v ht=> ?_,fun t t' b h1 h2=> ?_,fun d' s o hm hrf b hb=> ?_,(h.defers.same hsame).act (QF _ _ _)⟩,
  ⟨.refl W,by simp,fun b hb _=>QS _ _ _ (by omega),fun b hb=> ?_,fun b hb=> .inl hb,⟨rfl,rfl,rfl⟩⟩⟩
 ·simp only[XN]at ht
  rw[Qc]
  split at ht
  ·rename_i hd;subst hd
   split at ht
   ·rename_i hlt
    simp at ht;subst ht
    rw[if_pos rfl,if_pos (by rw[h.size];exact hlt)]
    exact⟨_,rfl,w.heap.size,us.toArray,e,rfl,Jh _ _,by simpa using hr,hns,hno⟩
   ·cases ht
  ·rename_i hd
   rw[if_neg hd]
   obtain⟨u,h1,h2⟩:=h.env t v ht
   exact⟨u,h1,h2.same hsame⟩
 ·rcases hbx _ _ h1 with ⟨e1,e2⟩|⟨e1,e2⟩<;>rcases hbx _ _ h2 with ⟨e3,e4⟩|⟨e3,e4⟩
  ·rw[e1,e3]
  ·have:=hnb _ _ e4;omega
  ·have:=hnb _ _ e2;omega
  ·exact h.box t t' b e2 e4
 ·simp only[List.mem_filter,bne_iff_ne,ne_eq]at hm
  obtain⟨hm,hsd⟩:=hm
  simp only[XN]at hrf
  rw[Qc]
  split at hrf
  ·split at hrf<;>simp at hrf
  ·rename_i hd
   rw[if_neg hd]
   rcases hbx _ _ hb with ⟨e1,_⟩|⟨_,e2⟩
   ·exact absurd e1 hsd
   ·exact h.refs d' s o hm hrf b e2
 ·rcases hb with ho|⟨t,ht⟩|hm
  ·exact .inl (.inl ho)
  ·rcases hbx _ _ ht with ⟨_,e2⟩|⟨_,e2⟩
   ·exact .inr (by omega)
   ·exact .inl (.inr (.inl ⟨t,e2⟩))
  ·rw[QF]at hm;exact .inl (.inr (.inr hm))

theorem Rel.storeL(h:Rel W σ a w){s b:Nat}{cs cs':List V}(hs:σ.env[s]? =some (.lb cs))(hb:QC σ a s b){c':Array Value}{e:TypeId}(hr:VRs W cs' c'.toList):
  Rel W {σ with env:=σ.env.set s (.lb cs')} a (w.putB b (.cells c' e (0,0)))∧
  Stp W (mine W σ a) w W (mine W {σ with env:=σ.env.set s (.lb cs')} a) (w.putB b (.cells c' e (0,0))):=by
 obtain⟨c,e0,hc,_,hsn,hown⟩:=h.boxCells hs hb
 have hlt:=Zq hc
 have hk: ∀x,x≠b->(w.putB b (.cells c' e (0,0))).heap[x]? =w.heap[x]? :=fun x hx=>Za6 _ _ _ _ (fun e=>hx e.symm)
 have hbx: ∀t x,QC {σ with env:=σ.env.set s (.lb cs')} a t x->QC σ a t x:=by
  rintro t x ⟨⟨q,h1⟩,h2⟩
  simp only[XN]at h1
  split at h1
  ·rename_i hd;subst hd;exact⟨⟨cs,hs⟩,h2⟩
  ·exact⟨⟨q,h1⟩,h2⟩
 have htg: ∀p∈σ.h.tg,TagR W (w.putB b (.cells c' e (0,0))) p:=fun p hp hl=>by
  obtain⟨h1,c1,fr,h2,h3⟩:=(h.heap.tg p hp).2 hl
  exact⟨h1,c1,fr,by rw[hk _ (fun he=>hown ⟨p.1,hl,he⟩)];exact h2,h3⟩
 refine⟨⟨⟨h.heap.kn,h.heap.lk,h.heap.lv,h.heap.lt,fun x o hx=> ?_,fun id o ho=> ?_,h.heap.inj,h.heap.apart,fun p hp=>⟨(h.heap.tg p hp).1,htg p hp⟩,h.heap.gl⟩,by simp[h.size],fun t v ht=> ?_,fun t t' x h1 h2=>h.box t t' x (hbx _ _ h1) (hbx _ _ h2),fun d s' o hm hrf x hx=> ?_,h.defers.turn fun r hr h1 h2=>⟨hk r (fun e=>by rw[e,hc]at hr;cases hr),h1,h2⟩⟩,
  ⟨.refl W,by simp,fun x hx hn=>hk x (fun e=>hn (.inr (.inl ⟨s,e▸hb⟩))),fun x hx=> ?_,fun x hx=> .inl hx,⟨rfl,rfl,rfl⟩⟩⟩
 ·rw[hk x (fun e=>by rw[e,hsn]at hx;cases hx)];exact h.heap.snap x o hx
 ·exact h.heap.others hk ho (fun e=>hown ⟨id,(h.heap.lv id).2 (by simp[ho]),e⟩)
 ·simp only[XN]at ht
  split at ht
  ·rename_i hd;subst hd
   split at ht
   ·simp at ht;subst ht
    exact⟨_,hb.2,b,c',e,rfl,QO _ _ _ hlt,hr,hsn,hown⟩
   ·cases ht
  ·rename_i hd
   obtain⟨u,h1,h2⟩:=h.env t v ht
   refine⟨u,h1,?_⟩
   cases v with
   |lb q=>
    obtain⟨x,cx,ex,hu,hx,h3⟩:=h2
    have hxb:x≠b:=fun e=>hd (h.box s t b hb ⟨⟨q,ht⟩,by rw[h1,hu,e]⟩)
    exact⟨x,cx,ex,hu,by rw[hk x hxb];exact hx,h3⟩
   |_=>exact h2
 ·simp only[XN]at hrf
  split at hrf
  ·split at hrf<;>simp at hrf
  ·exact h.refs d s' o hm hrf x (hbx _ _ hx)
 ·rcases hx with ho|⟨t,ht⟩|hm
  ·exact .inl (.inl ho)
  ·exact .inl (.inr (.inl ⟨t,hbx _ _ ht⟩))
  ·exact .inl (.inr (.inr hm))

theorem Zew(e:TypeId)(c:Array Value)(P:Program)(w:World):(newRow e c).run P w= .ok ⟨w.heap.size,0,none⟩ (w.alloc (.cells c e)):=rfl

theorem HRel.newRowF{h:Heap}(hr:HRel W h w){w1:World}(hw1:w1.heap=w.heap)(hstr:Str w w1){cs:List V}{us:List Value}(rest:List Value)(hv:VRs W cs us)(e:TypeId)(wr:Bool)(fr:Nat×Nat)
  (hfr: ∀j,(if wr then 0 else cs.length)<=j->j<us.length+rest.length-> ¬(fr.1<=j∧j<fr.2)):
  HRel (W.push h.nx w.heap.size (us.length+rest.length)) (h.push (.arr cs wr)) (w1.alloc (.cells (us++rest).toArray e fr))∧
  Stp W W.own w (W.push h.nx w.heap.size (us.length+rest.length)) (W.push h.nx w.heap.size (us.length+rest.length)).own (w1.alloc (.cells (us++rest).toArray e fr)):=by
 have hb:(w1.alloc (.cells (us++rest).toArray e fr)).heap[w.heap.size]? =some (.cells (us++rest).toArray e fr):=by
  have:=Jh w1 (.cells (us++rest).toArray e fr)
  rw[hw1]at this
  exact this
 refine hr.push (ob:= .cells (us++rest).toArray e fr) (hstr.trans ⟨rfl,rfl,rfl⟩) (fun b o hb=> ?_) (by rw[Zns,hw1]) hb ?_
 ·rw[QS _ _ _ (by have:=Zq hb;rw[hw1];omega),hw1];exact hb
 ·have hl:=hv.length
  refine⟨(us++rest).toArray,e,fr,by simpa[Vw.push]using hb,by simp[Vw.push],by simp[Vw.push];omega,fun j v hj=> ?_,fun j hj hj'=>hfr j (by simpa[Vw.push]using hj) (by simpa using hj')⟩
  obtain⟨u,hu,hr'⟩:=hv.get hj
  refine⟨u,?_,hr'.mono (W.push_le (hr.new (Nat.le_refl _)) _ _)⟩
  have hlt:j<us.length:=(List.getElem?_eq_some_iff.1 hu).1
  simp[Vw.push,List.getElem?_append_left hlt,hu]

theorem HRel.newRow{h:Heap}(hr:HRel W h w){w1:World}(hw1:w1.heap=w.heap)(hstr:Str w w1){cs:List V}{us:List Value}(rest:List Value)(hv:VRs W cs us)(e:TypeId)(wr:Bool):
  HRel (W.push h.nx w.heap.size (us.length+rest.length)) (h.push (.arr cs wr)) (w1.alloc (.cells (us++rest).toArray e))∧
  Stp W W.own w (W.push h.nx w.heap.size (us.length+rest.length)) (W.push h.nx w.heap.size (us.length+rest.length)).own (w1.alloc (.cells (us++rest).toArray e)):=
 hr.newRowF hw1 hstr rest hv e wr (0,0) (fun j _ _=>by simp)

theorem HRel.newRowT{h:Heap}(hr:HRel W h w){w1:World}(hw1:w1.heap=w.heap)(hstr:Str w w1){cs:List V}{us:List Value}(rest:List Value)(hv:VRs W cs us)(e:TypeId)(wr:Bool){tg:Option TypeId}(ht:tg=none∨tg=some e):
  HRel (W.push h.nx w.heap.size (us.length+rest.length)) (h.pushT tg (.arr cs wr)) (w1.alloc (.cells (us++rest).toArray e))∧
  Stp W W.own w (W.push h.nx w.heap.size (us.length+rest.length)) (W.push h.nx w.heap.size (us.length+rest.length)).own (w1.alloc (.cells (us++rest).toArray e)):=by
 obtain⟨h1,h2⟩:=hr.newRow hw1 hstr rest hv e wr
 refine⟨h1.tagIf (.inr rfl) fun x hx=> ?_,h2⟩
 rcases ht with rfl|rfl
 ·cases hx
 ·cases hx
  intro _
  have hb:(w1.alloc (.cells (us++rest).toArray e)).heap[w.heap.size]? =some (.cells (us++rest).toArray e (0,0)):=by
   have:=Jh w1 (.cells (us++rest).toArray e)
   rw[hw1]at this
   exact this
  refine⟨by simp[Vw.push],(us++rest).toArray,(0,0),?_,Nat.le_refl _,Nat.zero_le _⟩
  simp only[Vw.push,if_true]
  exact hb

theorem Zex(h:Rel W σ a w){o:Oper}{loc:Nat->Bool}{t:TypeId}{cs:List V}{us:List Value}(hv:VRs W cs us){σ':St}{tg:Option TypeId}(htg:tg=none∨tg=some t)(ha:Wo loc σ o.dst cs tg=some σ')
  (hrun:(execOp a.eval o).run Y.P w= .ok (.value (.pointer (some ⟨w.heap.size,0,none⟩))) (w.alloc (.cells us.toArray t))):StepR Y W σ a w o σ':=by
 unfold Wo at ha
 cases hd:o.dst with
 |none=>simp[hd]at ha
 |some d=>
  simp only[hd]at ha
  split at ha
  ·simp at ha;subst ha
   obtain⟨h1,h2⟩:=h.allocL d hv t
   exact⟨W,_,_,_,hrun, .inl rfl,by rw[hd];exact h1,by rw[hd];exact h2⟩
  ·simp at ha;subst ha
   obtain⟨h1,h2⟩:=h.heap.newRowT (w1:=w) rfl (.refl w) [] hv t true htg
   simp only[List.append_nil,List.length_nil,Nat.add_zero]at h1 h2
   have hval:VR (W.push σ.h.nx w.heap.size us.length) (.p (some (σ.h.nx,0))) (.pointer (some ⟨w.heap.size,0,none⟩)):=by
    refine .ps _ _ _ (.inr rfl) (fun _=> ?_)
    simp[Vw.at,Vw.push]
   have:=StepR.heap (Y:=Y) (o:=o) h h1 h2 hval hrun (.inl rfl)
   rw[hd]at this
   exact this

theorem Zey(hY:YOK Y)(h:Rel W σ a w){o:Oper}{loc:Nat->Bool}{t:TypeId}(hop:o.op= .alloc t){ti:TI}(hti:Y.ty t=some ti){σ':St}(ha:Wo loc σ o.dst ti.zero (Y.tag t)=some σ'):
  StepR Y W σ a w o σ':=by
 obtain⟨i,d,z,ht⟩:=hY.ty t ti hti
 refine Zex (t:=t) h (ht.zr W) (by unfold YP.tag;split<;>simp) ha ?_
 have e:z.cells.toList.toArray=z.cells:=by simp
 rw[e]
 simp only[execOp,hop,Instr.alloc,Sem.run_bind,Qa ht.info ht.zero,Result.andThen_ok,newVar,Zew,Sem.run_pure]

theorem Zlv(_hY:YOK Y)(h:Rel W σ a w){o:Oper}{loc:Nat->Bool}{t:TypeId}{x:Operand}(hop:o.op= .box t x)(hc:Zk (ev σ.env x).cells=true){σ':St}
  (ha:Wo loc σ o.dst (ev σ.env x).cells none=some σ'):StepR Y W σ a w o σ':=by
 refine Zex (t:=t) h (Zf9 (h.ev x) hc) (.inl rfl) ha ?_
 have e:(a.eval x).cells.toList.toArray=(a.eval x).cells:=by simp
 rw[e]
 simp only[execOp,hop,Instr.box,Sem.run_bind,newVar,Zew,Result.andThen_ok,Sem.run_pure]

theorem Vs(w:World)(b:Nat)(o:Obj): ∀x,x≠b->(w.putB b o).heap[x]? =w.heap[x]? :=fun _ hc=>Za6 _ _ _ _ (fun e=>hc e.symm)

theorem HRel.spliceAt{h:Heap}(hr:HRel W h w){id off:Nat}{cs new:List V}{us:List Value}(ho:h.get id=some (.arr cs true))(hf:off+new.length<=cs.length)(hv:VRs W new us)
  (h1: ∀u∈us,u.oneCell'=true) (P:Program):
  ∃w',(storeCells (W.at id off) us).run P w= .ok () w'∧HRel W (h.set id (some (.arr (splice cs off new) true))) w'∧Stp W W.own w W W.own w':=by
 have hlv:W.lv id:=(hr.lv id).2 (by simp[ho])
 obtain⟨c,e,fr,hc,h2,h3,h4,h5⟩:=hr.obj id _ ho
 simp only[if_true]at h5
 have hl:=hv.length
 refine⟨_,?_,hr.write (w':=w.putB (W.mu id).1 (.cells (splice c.toList ((W.mu id).2+off+0) us).toArray e fr)) ⟨rfl,rfl,rfl⟩ hlv (Vs _ _ _) (Zcx _ _ _) ?hty ?_⟩
 case hty=>
  intro c0 e0 fr0 h0 h01 h02
  rw[hc]at h0
  simp only[Option.some.injEq,Obj.cells.injEq]at h0
  obtain⟨rfl,rfl,rfl⟩:=h0
  refine⟨_,_,QO _ _ _ (Zq hc),h01,?_⟩
  rw[List.size_toArray,Xp _ _ _ (by simp;omega)]
  simpa using h02
 ·exact Qb (W.mu id).1 ((W.mu id).2+off) e fr us 0 c w hc (by omega) (fun j hj hj'=>h5 j (by omega) (by omega)) h1
 ·have hsl:(splice c.toList ((W.mu id).2+off+0) us).length=c.size:=by rw[Xp _ _ _ (by simp;omega)];simp
  refine⟨_,e,fr,QO _ _ _ (Zq hc),by rw[List.size_toArray,hsl];exact h2,by rw[List.size_toArray,hsl,Xp _ _ _ hf];exact h3,fun j v hj=> ?_,fun j hj hj'=> ?_⟩
  ·rw[Xn _ _ _ _ hf]at hj
   simp only[Nat.add_zero,List.getElem?_toArray]
   rw[Xn _ _ _ _ (by simp;omega)]
   by_cases hin:off<=j∧j<off+new.length
   ·rw[if_pos hin]at hj
    obtain⟨u,hu,hru⟩:=hv.get hj
    refine⟨u,?_,hru⟩
    rw[if_pos (by omega)]
    rw[show(W.mu id).2+j-((W.mu id).2+off)=j-off by omega]
    exact hu
   ·rw[if_neg hin]at hj
    obtain⟨u,hu,hru⟩:=h4 j v hj
    refine⟨u,?_,hru⟩
    rw[if_neg (by omega)]
    simpa using hu
  ·simp only[if_true]at hj
   rw[List.size_toArray,hsl]at hj'
   exact h5 j hj hj'

theorem Zez(hY:YOK Y)(h:Rel W σ a w){o:Oper}{t:TypeId}{x y:Operand}(hop:o.op= .store t x y){ti:TI}(hti:Y.ty t=some ti){ad:Ad}(had:addr σ x=some ad)
  (hl:(ev σ.env y).cells.length=ti.size) (hc:Zk (ev σ.env y).cells=true) {σ':St} (hs:storeAt σ (ev σ.env y).cells ad=some σ'):StepR Y W σ a w o (putV σ' o.dst .undef):=by
 obtain⟨i,d,z,ht⟩:=hY.ty t ti hti
 obtain⟨p,hp,hr⟩:=Za8 h had
 have hv:=Zf9 (h.ev y) hc
 have h1:=QT hv hc
 have hlen:=hv.length
 have hrun: ∀w',(storeCells p (a.eval y).cells.toList).run Y.P w= .ok () w'->(execOp a.eval o).run Y.P w= .ok .skip w':=by
  intro w' hw
  have e1: ¬((a.eval y).cells.size≠i.size):=by rw[ht.size,<-hl,hlen];simp
  simp only[execOp,hop,hp,Instr.storeAt,Instr.sureAddr,Sem.run_bind,Sem.run_pure,Result.andThen_ok,storeVar,ZM ht.info,Sem.run_ite,e1,if_false,hw]
 cases ad with
 |lb s off=>
  obtain⟨b,hb,rfl⟩:=hr
  simp only[storeAt]at hs
  cases he:σ.env[s]? with
  |none=>simp[List.getD,he]at hs
  |some v=>
   cases v with
   |lb cs=>
    simp only[List.getD,he,Option.getD_some]at hs
    split at hs
    ·rename_i hf
     simp at hs;subst hs
     obtain⟨c,e,hcb,hrc,_,_⟩:=h.boxCells he hb
     have hcl:=hrc.length
     simp at hcl
     have hst:=Qb (P:=Y.P) b off e (0,0) (a.eval y).cells.toList 0 c w hcb (by omega) (fun j _ _=>by simp) h1
     obtain⟨g1,g2⟩:=h.storeL (c':=(splice c.toList (off+0) (a.eval y).cells.toList).toArray) (e:=e) he hb (by simpa using hrc.splice hv off hf)
     exact⟨W,_,Go.undef, .skip,hrun _ hst, .inr ⟨rfl,rfl⟩,g1.putV (.undef _) o.dst,g2.weaken fun x hx=>Xd (.undef _) o.dst hx⟩
    ·cases hs
   |_=>simp[List.getD,he]at hs
 |hp id off=>
  obtain⟨hid,ha⟩:=hr
  simp only[storeAt]at hs
  split at hs
  ·rename_i cs ho
   split at hs
   ·rename_i hf
    simp at hs;subst hs
    have hlv:W.lv id:=(h.heap.lv id).2 (by simp[ho])
    obtain⟨w',g1,g2,g3⟩:=h.heap.spliceAt ho hf hv h1 Y.P
    rw[<-ha hlv]at g1
    exact StepR.heap h g2 g3 (.undef Go.undef) (hrun _ g1) (.inr ⟨rfl,rfl⟩)
   ·cases hs
  ·cases hs
 |ro cs=>simp[storeAt]at hs
end
section
variable {Y:YP} {W W':Vw} {σ σ':St} {a:Act} {w w':World}

theorem Zlw(l:List V): ∀(n j:Nat),j<n*l.length->(List.replicate n l).flatten[j]? =l[j % l.length]?
 |0,j,h=>by simp at h
 |n+1,j,h=>by
  rw[List.replicate_succ,List.flatten_cons]
  by_cases hj:j<l.length
  ·rw[List.getElem?_append_left hj,Nat.mod_eq_of_lt hj]
  ·have hl:l.length<=j:=Nat.le_of_not_lt hj
   rw[List.getElem?_append_right hl,Zlw l n (j-l.length) (by rw[Nat.succ_mul]at h;omega)]
   rw[Nat.mod_eq_sub_mod hl]

theorem Vt(l:List V)(n:Nat):(List.replicate n l).flatten.length=n*l.length:=by simp

theorem Ws{α:Type}(k:Nat)(f:Nat->α):(Array.range k).map f=((List.range k).map f).toArray:=by
 apply Array.ext'
 simp

theorem VT{l:List V}{m:Array Value}(h:VRs W l m.toList)(n:Nat):
  VRs W (List.replicate n l).flatten ((List.range (n*m.size)).map fun i=>m[i % m.size]!):=by
 have hl:=h.length
 simp at hl
 refine VRs.of_get (by simp[hl]) fun j v u hv hu=> ?_
 have hj:j<n*m.size:=by
  have:=(List.getElem?_eq_some_iff.1 hv).1
  rw[Vt,hl]at this;exact this
 rw[Zlw l n j (by rw[hl];exact hj),hl]at hv
 obtain⟨u',hu',hr⟩:=h.get hv
 have:u=u':=by
  rw[List.getElem?_map,List.getElem?_range hj]at hu
  simp only[Option.map_some,Option.some.injEq]at hu
  rw[<-hu]
  rw[Array.getElem?_toList]at hu'
  rw[Array.getElem!_eq_getD,Array.getD_eq_getD_getElem?,hu']
  rfl
 rw[this];exact hr

theorem Zwe(hY:YOK Y)(h:Rel W σ a w){o:Oper}{t et:TypeId}{n:Nat}{parts:Array (Nat×Operand)}(hop:o.op= .buildSlice t n parts)(hk:Y.kd t=some (.slice et)){te:TI}(hte:Y.ty et=some te)
  (hsz: ¬(te.size=0∨n*te.size>2 ^ 20)) {cs:List V} (hf:Ju (ev σ.env) (fun j=>some (j*te.size,te.size)) parts.toList (List.replicate n te.zero).flatten=some cs):
  ∃us:List Value,VRs W cs us∧us.length=n*te.size∧(execOp a.eval o).run Y.P w= .ok (.value (.slice (some ⟨w.heap.size,0,none⟩) n n)) (w.alloc (.cells us.toArray et)):=by
 obtain⟨ti,hti,hk'⟩:=Xx hk
 obtain⟨i,d,z,ht⟩:=hY.ty t ti hti
 have hkd:=ht.kd
 rw[hk']at hkd
 cases hkd
 obtain⟨ie,de,ze,hee⟩:=hY.ty et te hte
 have hzl:=(hee.zr W).length
 have hzl2:=hee.zl
 have hzs:ze.cells.size=te.size:=by rw[<-Array.length_toList,<-hzl,hzl2]
 have hpos:0<ze.cells.size:=by omega
 have hrow:=VT (hee.zr W) n
 obtain⟨us,h1,h2⟩:=Zga h parts.toList _ _ _ hrow hf
 have hlen:us.length=n*te.size:=by
  have h3:=h1.length
  have h4: ∀(ps:List (Nat×Operand)) (c r:List V),Ju (ev σ.env) (fun j=>some (j*te.size,te.size)) ps c=some r->r.length=c.length:=by
   intro ps
   induction ps with
   |nil=>intro c r hh;simp[Ju]at hh;rw[hh]
   |cons p ps ih=>
    intro c r hh
    simp only[Ju]at hh
    split at hh
    ·rename_i hc
     rw[ih _ _ hh,Xp _ _ _ hc.2.1]
    ·cases hh
  rw[<-h3,h4 _ _ _ hf,Vt,hzl2]
 refine⟨us,h1,hlen,?_⟩
 have e1: ¬(n*ie.size>2 ^ 24):=by rw[hee.size];omega
 have hpt:(parts.map fun p=>(p.1,a.eval p.2)).toList=parts.toList.map fun p=>(p.1,a.eval p.2):=by simp
 by_cases hn0:n*te.size=0
 ·have:n=0:=by
   rcases Nat.mul_eq_zero.1 hn0 with h0|h0
   ·exact h0
   ·omega
  subst this
  have h2':Instr.fill (fun j=>some (j*te.size,te.size)) #[] (parts.toList.map fun p=>(p.1,a.eval p.2))=some us.toArray:=by simpa using h2
  simp[execOp,hop,Instr.buildSlice,Ze ht.und,ZM hee.info,hee.size,h2',newRow,Array.range_zero']
 ·have h2':Instr.fill (fun j=>some (j*ie.size,ie.size)) ((Array.range (n*ie.size)).map fun i=>ze.cells[i % ze.cells.size]!) (parts.map fun p=>(p.1,a.eval p.2)).toList=some us.toArray:=by
   rw[hpt,hee.size,<-hzs]
   rw[<-hzs]at h2
   rw[Ws]
   simpa using h2
  have hr:=run_buildSlice w t et n (parts.map fun p=>(p.1,a.eval p.2)) us.toArray ie ze ht.und hee.info hee.zero e1 (by rw[hee.size];exact hn0) h2'
  simp only[execOp,hop,Sem.run_bind,hr,Result.andThen_ok,Sem.run_pure]

theorem Zc0(hY:YOK Y)(h:Rel W σ a w){o:Oper}{t et:TypeId}{n:Nat}{parts:Array (Nat×Operand)}(hop:o.op= .buildSlice t n parts)(hk:Y.kd t=some (.slice et)){te:TI}(hte:Y.ty et=some te)
  (hsz: ¬(te.size=0∨n*te.size>2 ^ 20)) {cs:List V} (hf:Ju (ev σ.env) (fun j=>some (j*te.size,te.size)) parts.toList (List.replicate n te.zero).flatten=some cs):
  StepR Y W σ a w o (putV {σ with h:=σ.h.push (.arr cs true)} o.dst (.sl (some (σ.h.nx,0)) n (some n) te.size)):=by
 obtain⟨us,h1,hlen,hrun⟩:=Zwe hY h hop hk hte hsz hf
 obtain⟨g1,g2⟩:=h.heap.newRow (w1:=w) rfl (.refl w) [] h1 et true
 simp only[List.append_nil,List.length_nil,Nat.add_zero]at g1 g2
 have hval:VR (W.push σ.h.nx w.heap.size us.length) (.sl (some (σ.h.nx,0)) n (some n) te.size) (.slice (some ⟨w.heap.size,0,none⟩) n n):=by
  refine .sls _ _ _ _ _ _ n (.inr rfl) (Nat.le_refl _) (fun c hc=>by simpa using hc) (fun _ _=> ?_) (fun _ hc=>nomatch hc) (fun _=> ?_)
  ·simp[Vw.at,Vw.push]
  ·simp[Vw.push,hlen]
 exact StepR.heap h g1 g2 hval hrun (.inl rfl)

theorem Zbb{n:Int}(h0:0<=n)(h1:n<=2 ^ 60):IntKind.i64.wrap n=n:=by
 have e:(2:Int) ^ IntKind.i64.bits=18446744073709551616:=by decide
 have e2:(2:Int) ^ (IntKind.i64.bits-1)=9223372036854775808:=by decide
 unfold IntKind.wrap
 simp only[e,e2,IntKind.signed,Bool.true_and]
 have:n % 18446744073709551616=n:=Int.emod_eq_of_lt h0 (by omega)
 rw[this]
 rw[if_neg (by simp;omega)]

theorem Zem(hY:YOK Y)(h:Rel W σ a w){o:Oper}{t et:TypeId}{xl xc:Operand}{kl kc:IntKind}{l c:Int}(hop:o.op= .makeSlice t xl xc)(hk:Y.kd t=some (.slice et))(hl:ev σ.env xl= .i kl l)
  (hc:ev σ.env xc= .i kc c) {te:TI} (hte:Y.ty et=some te) (hin:te.size≠0∧0<=l∧l<=c∧c<=most∧c*te.bytes<=most):
  StepR Y W σ a w o (putV {σ with h:=σ.h.push (.arr (List.replicate c.toNat te.zero).flatten true)} o.dst (.sl (some (σ.h.nx,0)) l.toNat (some c.toNat) te.size)):=by
 obtain⟨ti,hti,hk'⟩:=Xx hk
 obtain⟨i,d,z,ht⟩:=hY.ty t ti hti
 have hkd:=ht.kd
 rw[hk']at hkd
 cases hkd
 obtain⟨ie,de,ze,hee⟩:=hY.ty et te hte
 obtain⟨i0,i1,i2,i3,i4⟩:=hin
 have hzl:=(hee.zr W).length
 have hzl2:=hee.zl
 have hzs:ze.cells.size=te.size:=by rw[<-Array.length_toList,<-hzl,hzl2]
 have hrow:=VT (hee.zr W) c.toNat
 obtain⟨g1,g2⟩:=h.heap.newRow (w1:=w) rfl (.refl w) [] hrow et true
 have hul:((List.range (c.toNat*ze.cells.size)).map fun i=>ze.cells[i % ze.cells.size]!).length=c.toNat*te.size:=by simp[hzs]
 simp only[List.append_nil,List.length_nil,Nat.add_zero,hul]at g1 g2
 have hval:VR (W.push σ.h.nx w.heap.size (c.toNat*te.size)) (.sl (some (σ.h.nx,0)) l.toNat (some c.toNat) te.size) (.slice (some ⟨w.heap.size,0,none⟩) l.toNat c.toNat):=by
  refine .sls _ _ _ _ _ _ _ (.inr rfl) (by omega) (fun c' hc=>by simpa using hc) (fun _ _=> ?_) (fun _ hc=>nomatch hc) (fun _=> ?_)
  ·simp[Vw.at,Vw.push]
  ·simp[Vw.push]
 refine StepR.heap h g1 g2 hval ?_ (.inl rfl)
 have hel:=h.ev xl
 have hec:=h.ev xc
 rw[hl]at hel
 rw[hc]at hec
 generalize hul2:a.eval xl=ul at hel
 generalize huc2:a.eval xc=uc at hec
 cases hel;cases hec
 have hb:(ie.bytes:Int)*c<=281474976710656:=by
  rw[hee.bytes,Int.mul_comm]
  have:(most:Int)<=281474976710656:=by decide
  omega
 have hm63:c<=9223372036854775807:=by
  have:(most:Int)<=9223372036854775807:=by decide
  omega
 have hrun:=run_make (P:=Y.P) w t et ie ze ht.und hee.info hee.zero kl kc l c i1 i2 hb hm63
 have Zb:madeCells ze.cells (c.toNat*ie.size)=((List.range (c.toNat*ze.cells.size)).map fun i=>ze.cells[i % ze.cells.size]!).toArray:=by
  rw[<-Ws,madeCells,hee.size,hzs]
 simp only[execOp,hop,hul2,huc2,Sem.run_bind,hrun,Result.andThen_ok,Sem.run_pure,Zb]

theorem Zhu(hY:YOK Y)(h:Rel W σ a w){o:Oper}{src dst et:TypeId}{x:Operand}{l:List UInt8}(hop:o.op= .convert src dst x)(hks:Y.kd src=some .str)(hkd:Y.kd dst=some (.slice et))
  (hx:ev σ.env x= .s l) {te:TI} (hte:Y.ty et=some te) (hke:te.kd= .int .u8):
  StepR Y W σ a w o (putV {σ with h:=σ.h.push (.arr (l.map fun c=> .i .u8 c.toNat) true)} o.dst (.sl (some (σ.h.nx,0)) l.length none 1)):=by
 obtain⟨ts,hts,hks'⟩:=Xx hks
 obtain⟨is,ds,zs,hs⟩:=hY.ty src ts hts
 obtain⟨td,htd,hkd'⟩:=Xx hkd
 obtain⟨id,dd,zd,hd⟩:=hY.ty dst td htd
 obtain⟨ie,de,ze,hee⟩:=hY.ty et te hte
 have k1:=hs.kd
 have k2:=hd.kd
 have k3:=hee.kd
 rw[hks']at k1
 rw[hkd']at k2
 rw[hke]at k3
 cases k1;cases k2;cases k3
 have hex:=h.ev x
 rw[hx]at hex
 generalize hux:a.eval x=ux at hex
 cases hex
 have hv: ∀l:List UInt8,VRs W (l.map fun c=>V.i .u8 c.toNat) (l.map fun c:UInt8=>Value.int .u8 c.toNat):=by
  intro l
  induction l with
  |nil=>exact .nil
  |cons c l ih=>exact .cons _ _ _ _ (.i _ _) ih
 have hrun:=run_bytes_of_string (P:=Y.P) w src dst et ⟨l.toArray⟩ hs.und hd.und hee.und
 have hsz:(⟨l.toArray⟩:ByteArray).size=l.length:=rfl
 rw[hsz]at hrun
 have hcap:=grownCap_ge w l.length 0 et
 generalize grownCap w l.length 0 et=cap at hrun hcap
 have hrow:bytesRow ⟨l.toArray⟩ cap=((l.map fun c:UInt8=>Value.int .u8 c.toNat)++List.replicate (cap-l.length) (Value.int .u8 0)).toArray:=by
  apply Array.ext'
  simp[bytesRow,hsz]
 rw[hrow]at hrun
 obtain⟨g1,g2⟩:=h.heap.newRowF (w1:=w.drew) rfl ⟨rfl,rfl,rfl⟩ (List.replicate (cap-l.length) (Value.int .u8 0)) (hv l) et true
  (((l.map fun c:UInt8=>Value.int .u8 c.toNat)++List.replicate (cap-l.length) (Value.int .u8 0)).toArray.size,((l.map fun c:UInt8=>Value.int .u8 c.toNat)++List.replicate (cap-l.length) (Value.int .u8 0)).toArray.size+1) (fun j _ hj=>by simp at hj ⊢;omega)
 have hval:VR (W.push σ.h.nx w.heap.size ((l.map fun c:UInt8=>Value.int .u8 c.toNat).length+(List.replicate (cap-l.length) (Value.int .u8 0)).length)) (.sl (some (σ.h.nx,0)) l.length none 1) (.slice (some ⟨w.heap.size,0,none⟩) l.length cap):=by
  refine .sls _ _ _ _ _ _ _ (.inr rfl) hcap (fun c' hc=>nomatch hc) (fun _ _=> ?_) (fun _ _=> ?_) (fun _=> ?_)
  ·simp[Vw.at,Vw.push]
  ·simp[Vw.push];omega
  ·simp[Vw.push];omega
 refine StepR.heap h g1 g2 hval ?_ (.inl rfl)
 simp only[execOp,hop,hux,Sem.run_bind,hrun,Result.andThen_ok,Sem.run_pure]
end
end Go.Y
