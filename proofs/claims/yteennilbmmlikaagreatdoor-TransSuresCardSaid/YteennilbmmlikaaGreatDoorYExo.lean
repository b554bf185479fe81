/- A part of the proof. -/
import Derived.Test.YteennilbmmlikaaGreatDoorYPure
import Derived.Lib.Bytealg
import Derived.Lib.Builder
import Derived.Lib.UnsafeStr
namespace Go.Y
set_option maxRecDepth 1000000
set_option maxHeartbeats 0
section
variable {Y:YP} {W W':Vw} {σ σ':St} {a:Act} {w w':World}
theorem ZI3(l)(c:UInt8): ∀k:Nat,Jj l c k=if Lib.indexByte l c= -1 then -1 else Lib.indexByte l c+k:=by
 induction l with
 |nil=>intro k;simp[Jj,Lib.indexByte]
 |cons b l i=>
  intro k;have h:=Lib.indexByte_ge l c;unfold Jj Lib.indexByte;by_cases f:(b==c)=true;simp[f];simp only[f,vF,uI];rw[i (k+1)];by_cases d:Lib.indexByte l c= -1;simp[d];simp only[d,vF];have e:(Lib.indexByte l c== -1)=false:=su d;rw[e];have g: ¬(Lib.indexByte l c+1= -1):=om;simp only[uI,vF,g];omega
theorem Zzy(l)(c:UInt8):Jj l c 0=Lib.indexByte l c:=by
 rw[ZI3];split;rename_i h;exact h.symm;simp
theorem ZI4{k:Nat}{h:List V}{v}(b:extV k h=some v){g:List Value}(f:VRs W h g): ∃u,VR W v u/\ ∀(P:Program) (w:World),(extE k g.toArray).run P w= .ok u w:=by
 unfold extV at b;split at b
 .rename_i a;simp at b;subst b
  cases f with
  |cons _ u _ _ d e=>cases e;exact⟨u,d,λP w=>rfl⟩
 .rename_i l c;simp at b;subst b
  cases f with
  |cons _ u _ _ d e=>
   cases e with
   |cons _ n _ _ j m=>
    cases m;cases d;cases j;refine⟨_, .i .i64 _,λP w=> ?_⟩;rw[Zzy];have:=run_indexByte_string (P:=P) ⟨l.toArray⟩ c w;rw[Lib.firstIdx_eq]at this;exact this
 .cases b
theorem Zn6(h:Rel W σ a w){o:Oper}{d:Operand}{b:Array Operand}{e:Array TypeId}{g}{fa l}(i:o.op= .call ⟨.value d,b,e⟩)(r:ev σ.env d= .fn (.func g) fa l):
  ∃m,VRs W (fa++b.toList.map (ev σ.env)++l) m/\(execOp a.eval o).run Y.P w=(callFunc g m.toArray).run Y.P w:=by
 have c:=h.ev d;rw[r]at c;generalize f:a.eval d=s at c
 cases c with
 |fn _ _ _ j k p q=>
  refine⟨j++b.toList.map a.eval++k,(p.append (h.evs b.toList)).append q,?_⟩;have n:(j.toArray++b.map a.eval)++k.toArray=(j++b.toList.map a.eval++k).toArray:=by
   apply Array.ext';simp
  simp only[execOp,i,resolve,f,Deferred.ofValue,uC,uD,uA,invoke,n]
theorem ZEp(F:YOK Y)(h:Rel W σ a w){o:Oper}{v}(j:exoQ Y σ o=some v):StepR Y W σ a w o (putV σ o.dst v):=by
 have m: ∀u,VR W v u->(execOp a.eval o).run Y.P w= .ok (.value u) w->StepR Y W σ a w o (putV σ o.dst v):=λu s f=>
  ⟨W,w,u,_,f, .inl rfl,h.putV s o.dst,(Stp.refl W _ w).weaken λb hb=>Xq s o.dst hb⟩
 unfold exoQ at j;split at j
 .rename_i fo a6 r p;split at j
  .rename_i g fa fc hf;split at j
   .rename_i k G;obtain⟨fn,h1,h2,h3,h4⟩:=F.ext _ (Wf G);obtain⟨us,hv,f⟩:=Zn6 (Y:=Y) h p hf;obtain⟨u,s,l⟩:=ZI4 j hv;refine m u s ?_;rw[f,run_callFunc_extern h1 (F.name _ _ h1) h2 h3 h4,l]
    rfl
   .cases j
  .cases j
 .rename_i A r p;split at j
  .rename_i x N;have D:A= #[x]:=by apply Array.ext';simpa using N
   subst D;have l:=h.ev x;have f: ∀u,(Builtin.unsafeSliceData_ r o.type #[a.eval x]).run Y.P w= .ok u w->(execOp a.eval o).run Y.P w= .ok (.value u) w:=by
    intro u s;have K:(resolve a.eval ⟨.builtin .unsafeSliceData,#[x],r⟩ o.type).run Y.P w= .ok {target:= .builtin .unsafeSliceData r o.type (#[x].map fun| .const _=>true|_=>false),args:= #[x].map a.eval} w:=rfl
    simp only[execOp,p,uC,K,uA,invoke,builtin];have e3:(#[x].map a.eval)= #[a.eval x]:=sm;rw[e3];simp only[s,uA,uD]
   split at j;rename_i q1 q2 q3 q;simp at j;subst j;rw[q]at l;generalize a.eval x=ux at l f;cases l;exact m _ .pn (f _ (Lib.run_unsafeSliceData_nil w _ _ _ _))
   .rename_i id B a5 q1 q2 q;split at j;cases j;rename_i a4;simp at j;subst j;rw[q]at l;generalize a.eval x=ux at l f
    cases l with
    |sls _ _ _ _ _ y a3 X hl C ha hn G=>
     exact m _ (.ps id B y X (λa0=>ha a0 om)) (f _ (Lib.run_unsafeSliceData_row w _ _ _ _ _ om))
   .cases j
  .cases j
 .rename_i t x p;split at j
  .rename_i n e cs G q;split at j
   .rename_i te a1;simp at j;subst j;obtain⟨ti,a2,Z⟩:=XH G;obtain⟨i,d,z,ht⟩:=F.ty t ti a2;obtain⟨ie,de,ze,O⟩:=F.ty e te a1;have E:=ht.kd;rw[Z]at E;obtain⟨rfl,_⟩:=E;have l:=h.ev x;rw[q]at l;have f: ∀ad,a.eval x= .pointer (some ad)->(execOp a.eval o).run Y.P w= .ok (.value (.slice (some ad) n n)) w:=by
     intro ad L;have K:(Instr.sliceAt t (.pointer (some ad)) none none none).run Y.P w= .ok (.slice (some ad) n n) w:=by
      simp only[Instr.sliceAt,Instr.sureAddr,uC,Zg ht.und,uA,Instr.sliceBounds,uD,ZS O.info];by_cases hn:n=0;subst hn;rfl
      .rw[uE hn,Nat.zero_mul];have:ad.add 0=ad:=by unfold Addr.add;simp
       rw[this];rfl
     simp only[execOp,p,L,Option.map_none,uC,K,uA,uD]
    generalize s:a.eval x=u at l
    cases l with
    |tpn ad=>exact m _ (.tsn _ _ _ _ (Nat.le_refl _) (λc C=>su C)) (f ad s)
    |tp _ H B c e' fr us j C hr=>exact m _ (.ts _ _ _ _ H B c e' fr us (Nat.le_refl _) (λc C=>su C) j C hr) (f _ s)
   .cases j
  .cases j
 .cases j
theorem Zzz(P:Program){t e:TypeId}(b:P.underlying t=some (.slice e))(u:Option Addr)(l c:Nat)(n:Nat)(w:World):(Op.equalIn (n+1) t (.slice u l c) (.slice none 0 0)).run P w= .ok u.isNone w:=by cases u<;>simp only[Op.equalIn,uC,Zg b,uA,uD]<;>rfl
theorem Zhh(P:Program){t e:TypeId}(b:P.underlying t=some (.slice e))(u:Option Addr)(l c:Nat)(w:World):(Op.equal t (.slice u l c) (.slice none 0 0)).run P w= .ok u.isNone w:=Zzz P b u l c 9999 w
theorem ZEq(hY:YOK Y)(h:Rel W σ a w){o:Oper}{n:Nat}{k:Bool}(j:nilT Y σ o=some (n,k)):StepR Y W σ a w o (putV σ o.dst (.b k))\/(n=0/\StepR Y W σ a w o (putV σ o.dst (.b !k))):=by
 have q: ∀b,(execOp a.eval o).run Y.P w= .ok (.value (.bool b)) w->StepR Y W σ a w o (putV σ o.dst (.b b)):=λb f=>
  ⟨W,w, .bool b,_,f, .inl rfl,h.putV (.b b) o.dst,(Stp.refl W _ w).weaken λx B=>Xq (.b b) o.dst B⟩
 unfold nilT at j;split at j
 .rename_i op t x y z u;split at j
  .rename_i e cs m c q1 q2 q3 hk H L;obtain⟨ti,G,E⟩:=XH hk;obtain⟨i,d,zz,ht⟩:=hY.ty t ti G;have s:=ht.kd;rw[E]at s;cases s;have l:=ht.und;have B:=h.ev x;have K:=h.ev y;rw[H]at B;rw[L]at K;generalize v:a.eval x=X at B;generalize A:a.eval y=Z at K;have N: ∃r:Bool,(r=true->m=0)/\((binOp .eql t X Z).run Y.P w= .ok (.bool r) w/\(binOp .neq t X Z).run Y.P w= .ok (.bool (!r)) w)/\ ∀g,(eqGuard g t x y X Z).run Y.P w= .ok () w:=by
    cases K
    cases B with
    |tsn O cap ad p hl hc=>
     refine⟨false,(λD=>Bool.noConfusion D),?_,λg=>by cases g<;>rfl⟩
     exact⟨by simp only[binOp,uC,Zhh Y.P l,uA,uD];rfl,by simp only[binOp,uC,Zhh Y.P l,uA,uD];rfl⟩
    |tsz cap hc=>
     refine⟨true,λ_=>rfl,?_,λg=>by cases g<;>rfl⟩
     exact⟨by simp only[binOp,uC,Zhh Y.P l,uA,uD];rfl,by simp only[binOp,uC,Zhh Y.P l,uA,uD];rfl⟩
    |ts cs O cap p a1 a2 c e fr us hl a0 j hc F=>
     refine⟨false,(λD=>Bool.noConfusion D),?_,λg=>by cases g<;>rfl⟩
     exact⟨by simp only[binOp,uC,Zhh Y.P l,uA,uD];rfl,by simp only[binOp,uC,Zhh Y.P l,uA,uD];rfl⟩
   obtain⟨r,F,⟨he,C⟩,hg⟩:=N;split at j
   .simp only[uB,uL]at j;obtain⟨rfl,rfl⟩:=j;have f:=q r (by simp only[execOp,u,v,A,uC,hg,he,uA,uD])
    cases r with
    |false=>exact .inl f
    |true=>exact .inr ⟨F rfl,f⟩
   .simp only[uB,uL]at j;obtain⟨rfl,rfl⟩:=j;have f:=q (!r) (by simp only[execOp,u,v,A,uC,hg,C,uA,uD])
    cases r with
    |false=>exact .inl f
    |true=>exact .inr ⟨F rfl,f⟩
   .cases j
  .cases j
 .cases j
theorem Zef(j:YOK Y){t e:TypeId}(h:Ze3 Y t e=true):Y.P.underlying t=some (.pointer e):=by unfold Ze3 at h;split at h;rename_i e' k;obtain⟨l,f,c⟩:=XH k;obtain⟨i,d,z,g⟩:=j.ty t l f;have b:=g.kd;rw[c]at b;have:e'=e:=su h;subst this;cases b;exact g.und;cases h
theorem ZCu{t:TypeId}(h:isU Y t=true):Y.P.underlying t=some .unsafePointer:=by
 unfold isU at h;split at h;assumption;cases h
theorem Zuz{P:Program}{e:TypeId}{s cells:Nat}(f:P.cellsOf e=s)(d:s≠0)(g:s<=cells):liesAt P P.depth e (cells / P.cellsOf e) 0 e 1=true:=by
 have c:P.depth=(2*(P.types.size+Made.depth)+1)+1:=rfl;rw[c];simp only[liesAt,uS]
 left
 rw[c];have b:1<=cells / s:=(Nat.le_div_iff_mul_le om).2 om;simp[rowAt,f,d,sameLayout,b]
theorem Zd2{P:Program}(w:World){c e:TypeId}{j:TypeInfo}(a:Addr)(f:P.underlying c=some (.pointer e))(b:P.info? e=some j):
  (binOp .eql c (.pointer (some a)) (.pointer (some a))).run P w= .ok (.bool true) w:=by
 have h: ∀d:Nat,(Op.equalIn (d+1) c (.pointer (some a)) (.pointer (some a))).run P w= .ok true w:=λd=>by
  simp[Op.equalIn,run_underlying f,sizeOf,typeInfo,b,run_sameAddr_same]
 simp only[binOp];simp[Op.equal,Op.maxDepth,h 9999]
theorem Zan{P:Program}(w:World): ∀(l:List Int) (a:Addr) (b:ByteArray),(∀j x,l[j]? =some x->w.cell? (a.add j)=some (.int .u8 x))->
  (loadBytes a b l.length).run P w= .ok ⟨b.data++(l.map λn=>n.toNat.toUInt8).toArray⟩ w
 | [],a,b,_=>by simp[loadBytes]
 |x::l,a,b,h=>by
  have d:w.cell? a=some (.int .u8 x):=by
   have:=h 0 x rfl;simpa[Addr.add]using this
  have g:=Zan (P:=P) w l (a.add 1) (b.push x.toNat.toUInt8) (λj y f=>by
   have:=h (j+1) y (su f);have e:(a.add 1).add j=a.add (j+1):=by
    unfold Addr.add;by_cases c:j=0;subst c;simp;simp[c];omega
   rw[e];exact this)
  simp only[List.length_cons,loadBytes,uC,run_load,d,Result.andThen];rw[g]
  congr 1
  apply ByteArray.ext;simp[ByteArray.push]
theorem Zc2{P:Program}(w:World)(k q ty e:TypeId)(y:P.underlying k=some (.pointer e))(p:P.cellsOf e=1)(g cells:Nat)(o:w.shape? g=some (e,cells))(l:List Int)(r:l≠ [])(v:l.length<=cells)(t:l.length<=9223372036854775807)
  (b: ∀j x,l[j]? =some x->w.cell? ((⟨g,0,none⟩:Addr).add j)=some (.int .u8 x)):
  (Builtin.unsafeString_ #[k,q] ty #[.pointer (some ⟨g,0,none⟩), .int .i64 l.length]).run P w= .ok (.string ⟨(l.map λn=>n.toNat.toUInt8).toArray⟩) (w.freeze ⟨g,0,none⟩ l.length):=by
 have u:l.length≠0:=su r;have m:=Zan (P:=P) w l ⟨g,0,none⟩ .empty b;have c:=Lib.liesAt_bytes (P:=P) p (cells / P.cellsOf e) l.length (by rw[p];simpa using v);have d: ¬(9223372036854775807:Int)<(l.length:Int):=om;have f:Builtin.unsafeString_ #[k,q] ty #[.pointer (some ⟨g,0,none⟩), .int .i64 l.length]=
   (do
    let n<-asInt (.int .i64 l.length)
    if n<0 then runtimePanic (.error "unsafe.String: len out of range")
    if n>IntKind.i64.max then unsupported (.unsafePointer "String: a length above the largest int")
    if n=0 then pure (.string .empty)
    else if<-variablesAt ⟨g,0,none⟩ (<-elemOf k) n.toNat then do
     let s<-loadBytes ⟨g,0,none⟩ .empty n.toNat
     freeze ⟨g,0,none⟩ n.toNat
     pure (.string s)
    else unsupported (.unsafePointer "String: not so many bytes at ptr")):=rfl
 rw[f];have h:IntKind.i64.max=9223372036854775807:=rfl;have i: ¬(l.length:Int)<0:=om;simp[asInt,asIntOf,h,d,i,u,variablesAt,o,elemOf,run_underlying y,c,m]
theorem HRel.freezeAll{h:Heap}(s:HRel W h w){f:Nat}{d:List V}{wr:Bool}{e}(E:h.get f=some (.arr d wr))(X:h.tagOf f=some e)(H:d≠ []):
  HRel W (h.set f (some (.arr d false))) (w.freeze ⟨(W.mu f).1,0,none⟩ d.length)/\Stp W W.own w W W.own (w.freeze ⟨(W.mu f).1,0,none⟩ d.length):=by
 have n:W.lv f:=(s.lv f).2 (by simp[E]);obtain⟨c,A,g,q,K,p,L,u⟩:=s.obj f _ E;obtain⟨B,Z,G,t,g3,g4⟩:=(s.tg _ (Wf X)).2 n;rw[q]at t;simp only[uB,Obj.cells.injEq]at t;obtain⟨rfl,rfl,rfl⟩:=t;have r:d.length≠0:=su H;have P:=Zt q
 let b:Nat×Nat:=if g.1==g.2 then(0,0+d.length)else(min g.1 0,max g.2 (0+d.length))
 have C:(w.freeze ⟨(W.mu f).1,0,none⟩ d.length).heap[(W.mu f).1]? =some (.cells c A b):=by
  unfold World.freeze;rw[uE r];simp only[Array.getElem?_modify,vG,q,uw]
  rfl
 have N: ∀x,x≠(W.mu f).1->(w.freeze ⟨(W.mu f).1,0,none⟩ d.length).heap[x]? =w.heap[x]? :=by
  intro x y;unfold World.freeze;rw[uE r];simp only[Array.getElem?_modify];rw[uE (λe=>y e.symm)]
 have v:(w.freeze ⟨(W.mu f).1,0,none⟩ d.length).heap.size=w.heap.size:=by
  unfold World.freeze;rw[uE r];simp
 have o:Str w (w.freeze ⟨(W.mu f).1,0,none⟩ d.length):=by
  unfold World.freeze;rw[uE r];exact⟨rfl,rfl,rfl⟩
 have k:b.1<=b.2/\b.2<=c.size/\ ∀j,d.length<=j->j<c.size-> ¬(b.1<=j/\j<b.2):=by
  rw[B]at p u;simp only[uJ]at p u;by_cases D:g.1=g.2
  .have:b=(0,d.length):=by simp[b,D]
   rw[this];exact⟨Nat.zero_le _,p,λj l _=>by simp;omega⟩
  .have:b=(0,max g.2 d.length):=by simp[b,D]
   rw[this];refine⟨Nat.zero_le _,by simp;omega,λj l m y=> ?_⟩;simp only[Nat.zero_le,true_and]at y;have O:j<g.2:=om;have i:(if wr=true then 0 else d.length)<=g.2-1:=by split<;>omega
   exact u (g.2-1) i om ⟨om,om⟩
 refine s.write o n N v ?_ ?_;intro c0 e0 F z q2 q3;rw[q]at z;simp only[uB,Obj.cells.injEq]at z;obtain⟨rfl,rfl,rfl⟩:=z;exact⟨_,_,C,k.1,k.2.1⟩;refine⟨c,A,b,C,K,p,L,λj l m=> ?_⟩;simp only[uI,vF]at l;rw[B,uJ]at l;exact k.2.2 j l m
theorem ZEr(hY:YOK Y)(h:Rel W σ a w){o:Oper}{v}{h':Heap}(f:exoH Y σ o=some (h',v)):StepR Y W σ a w o (putV {σ with h:=h'} o.dst v):=by
  have r: ∀u,VR W v u->(execOp a.eval o).run Y.P w= .ok (.value u) w->h'=σ.h->StepR Y W σ a w o (putV {σ with h:=h'} o.dst v):=λu Z g he=>by
    subst he;exact StepR.heap h h.heap (Stp.refl W _ w) Z g (.inl rfl)
  unfold exoH at f;split at f
  · rename_i t x D
    split at f
    · rename_i n e F c3 hk b1
      split at f
      · rename_i te cs wr a8 N
        split at f
        · rename_i L
          simp only[uB,uL]at f;obtain⟨rfl,rfl⟩:=f;obtain⟨ti,X,a5⟩:=XH hk;obtain⟨i,d,z,ht⟩:=hY.ty t ti X;obtain⟨ie,de,ze,a0⟩:=hY.ty e te a8;have b5:=ht.kd;rw[a5]at b5;obtain⟨rfl,_⟩:=b5;have E:=h.ev x;rw[b1]at E;have g: ∀ad,a.eval x= .pointer (some ad)->(execOp a.eval o).run Y.P w= .ok (.value (.slice (some ad) n n)) w:=by
            intro ad c7;have G:(Instr.sliceAt t (.pointer (some ad)) none none none).run Y.P w= .ok (.slice (some ad) n n) w:=by
              simp only[Instr.sliceAt,Instr.sureAddr,uC,Zg ht.und,uA,Instr.sliceBounds,uD,ZS a0.info];by_cases hn:n=0
              · subst hn;rfl
              · rw[uE hn,Nat.zero_mul]
                have:ad.add 0=ad:=by unfold Addr.add;simp
                rw[this];rfl
            simp only[execOp,D,c7,Option.map_none,uC,G,uA,uD]
          generalize Z:a.eval x=u at E
          cases E with
          |ps _ _ ad O ha=>
            refine r _ (.sls F c3 n (some n) te.size ad n O (Nat.le_refl _) (λc L=>su L) (λq _=>ha q) (λ_ hn=>by cases hn) (λq=> ?_)) (g ad Z) rfl;obtain⟨c,G,fr,h1,h2,h3,_⟩:=h.heap.obj F _ N;omega
        · cases f
      · cases f
    · cases f
  · rename_i d9 c5 x D
    split at f
    · rename_i F b1
      split at f
      · rename_i cs wr t N ht
        split at f
        · rename_i ti X
          split at f
          · rename_i L
            obtain⟨h0,e6,L⟩:=L;simp only[uB,uL]at f;obtain⟨rfl,rfl⟩:=f;have E:=h.ev x;rw[b1]at E;have q:W.lv F:=(h.heap.lv F).2 (by simp[N]);obtain⟨c,G,fr,H,h2,h3,_⟩:=h.heap.obj F _ N;obtain⟨g1,c2,c6,g2,g3,g4⟩:=(h.heap.tg _ (Wf ht)).2 q;rw[H]at g2;simp only[uB,Obj.cells.injEq]at g2;obtain⟨rfl,rfl,rfl⟩:=g2;obtain⟨i,d,z,k⟩:=hY.ty G ti X;have a2:w.shape? (W.mu F).1=some (G,c.size):=by simp[World.shape?,H]
            have d3:ti.size<=c.size:=om;generalize Z:a.eval x=u at E
            cases E with
            |ps _ _ ad O ha=>
              have K:=ha q;have B:ad=⟨(W.mu F).1,0,none⟩:=by rw[K];unfold Vw.at;rw[g1]
              refine r (.pointer (some ad)) (.ps _ _ _ O ha) ?_ rfl;simp only[uS,uH]at L;have g:(convert d9 c5 (.pointer (some ad))).run Y.P w= .ok (.pointer (some ad)) w:=by
                rcases L with ⟨c1,c2⟩|⟨c1,c2⟩
                · exact Lib.run_to_unsafe w ad (Zef hY c1) (ZCu c2) k.info (by rw[k.size];exact h0) (by rw[B];exact a2) (by rw[B];simp;omega)
                · refine Lib.run_from_unsafe w ad (ZCu c1) (Zef hY c2) k.info (by rw[B];exact a2) ?_
                  rw[B];exact Zuz (P:=Y.P) (s:=ti.size) (by rw[<-k.size];unfold Program.cellsOf;simp[k.info]) h0 d3
              simp only[execOp,D,Z,uC,g,uA,uD]
          · cases f
        · cases f
      · cases f
    · cases f
  · rename_i op t x y z D
    split at f
    · rename_i p1 p2 e b0 d8 hk
      split at f
      · rename_i L
        obtain⟨rfl,a6,d6⟩:=L;have E:=h.ev x;have hy:=h.ev y;rw[b0]at E;rw[d8]at hy;have q:W.lv p1.1:=(h.heap.lv _).2 a6;obtain⟨te,a8⟩:=Option.isSome_iff_exists.1 d6;obtain⟨ie,de,ze,a0⟩:=hY.ty e te a8;have a1:Y.P.underlying t=some (.pointer e):=Zef hY (by simp[Ze3,hk]);generalize a9:a.eval x=ux at E;generalize c0:a.eval y=uy at hy
        cases E with
        |ps _ _ ax e0 d0=>
          cases hy with
          |ps _ _ ay e4 d1=>
            have G:=d0 q;have e2:=d1 q;subst G;subst e2;have N: ∀b2 (A:Addr),(eqGuard b2 t x y (.pointer (some A)) (.pointer (some A))).run Y.P w= .ok () w:=λb2 A=>by cases b2<;>rfl
            split at f
            · simp only[uB,uL]at f
              obtain⟨rfl,rfl⟩:=f;refine r _ (.b true) ?_ rfl;simp only[execOp,D,a9,c0,uC,N,Zd2 w _ a1 a0.info,uA,uD]
            · simp only[uB,uL]at f
              obtain⟨rfl,rfl⟩:=f;refine r _ (.b false) ?_ rfl;simp only[execOp,D,a9,c0,uC,N,Lib.run_neq_ptr_same w _ a1 a0.info,uA,uD]
            · cases f
      · cases f
    · cases f
  · rename_i a4 c4 D
    split at f
    · rename_i x n pt it c8 c9
      have b3:a4= #[x,n]:=by apply Array.ext';simpa using c8
      have b4:c4= #[pt,it]:=by apply Array.ext';simpa using c9
      subst b3 b4;have g: ∀u w',(Builtin.unsafeString_ #[pt,it] o.type #[a.eval x,a.eval n]).run Y.P w= .ok u w'->(execOp a.eval o).run Y.P w= .ok (.value u) w':=by
        intro u w' Z;have G:(resolve a.eval ⟨.builtin .unsafeString,#[x,n],#[pt,it]⟩ o.type).run Y.P w= .ok {target:= .builtin .unsafeString #[pt,it] o.type (#[x,n].map fun| .const _=>true|_=>false),args:= #[x,n].map a.eval} w:=rfl
        simp only[execOp,D,uC,G,uA,invoke,builtin];have e3:(#[x,n].map a.eval)= #[a.eval x,a.eval n]:=sm;rw[e3];simp only[Z,uA,uD]
      split at f
      · rename_i p m b0 d5
        have E:=h.ev x;have hn:=h.ev n;rw[b0]at E;rw[d5]at hn;generalize a9:a.eval x=ux at E g;generalize a3:a.eval n=un at hn g;cases hn;split at f
        · rename_i hm
          simp only[uB,uL]at f;obtain⟨rfl,rfl⟩:=f;subst hm;have b9:VR W (.s []) (.string .empty):= .s []
          cases E with
          |pn=>exact r _ b9 (g _ _ (Lib.run_unsafeString_none w pt it o.type none)) rfl
          |ps F c3 ad O ha=>exact r _ b9 (g _ _ (Lib.run_unsafeString_none w pt it o.type (some ad))) rfl
        · rename_i hm
          split at f
          · rename_i F
            split at f
            · rename_i cs wr t N ht
              split at f
              · rename_i hk
                split at f
                · rename_i L
                  obtain⟨a1,a7,d4⟩:=L;simp only[uG,uL]at f;obtain⟨l,hl,rfl,rfl⟩:=f;have q:W.lv F:=(h.heap.lv F).2 (by simp[N]);obtain⟨c,G,fr,H,h2,h3,h4,_⟩:=h.heap.obj F _ N;obtain⟨g1,c2,c6,g2,g3,g4⟩:=(h.heap.tg _ (Wf ht)).2 q;rw[H]at g2;simp only[uB,Obj.cells.injEq]at g2;obtain⟨rfl,rfl,rfl⟩:=g2;rw[g1,uJ]at h3;rw[g1]at h4;simp only[uJ]at h4;have b6:cs≠ []:=by intro he;subst he;simp at a7;exact hm a7
                  obtain⟨ti,X,a5⟩:=XH hk;obtain⟨i,d,z,k⟩:=hY.ty G ti X;have b8:ti.size=1:=k.one (by rw[a5];rfl);have d2:Y.P.cellsOf G=1:=by rw[<-b8,<-k.size];unfold Program.cellsOf;simp[k.info]
                  have a2:w.shape? (W.mu F).1=some (G,c.size):=by simp[World.shape?,H]
                  -- the cells, as values
                  have d7:VRs W cs ((c.toList).take cs.length):=by
                    refine VRs.of_get (by simp;omega) λj v u hv Z=> ?_;obtain⟨u',q1,q2⟩:=h4 j v hv;have hj:=(List.getElem?_eq_some_iff.1 hv).1;rw[List.getElem?_take_of_lt hj]at Z;have:u=u':=by
                      have:c[j]? =some u:=su Z;rw[q1]at this;simpa using this.symm
                    rw[this];exact q2
                  obtain⟨ns,b7,rfl⟩:=Zcz d7 hl;have C:ns.length=cs.length:=by
                    have:=congrArg List.length b7;simp at this;omega
                  cases E with
                  |ps _ _ ad O ha=>
                    have K:ad=⟨(W.mu F).1,0,none⟩:=by rw[ha q];unfold Vw.at;rw[g1]
                    subst K;have a3:=Zc2 (P:=Y.P) w pt it o.type G (Zef hY a1) d2 (W.mu F).1 c.size a2 ns (by intro he;subst he;exact b6 (List.eq_nil_of_length_eq_zero C.symm)) om
                      (by have:most=1099511627776:= dc;omega) (λj n hj=>by
                        have e5:=(List.getElem?_eq_some_iff.1 hj).1;have:((c.toList).take cs.length)[j]? =some (.int .u8 n):=by rw[b7];simp[hj]
                        rw[List.getElem?_take_of_lt om]at this;rw[Wc,uJ];simp only[World.cell?,H];simpa using this)
                    rw[show((ns.length:Int))=m by rw[a7,C]]at a3;obtain⟨r1,r2⟩:=h.heap.freezeAll N ht b6;rw[C]at a3;exact StepR.heap h r1 r2 (.s _) (g _ _ a3) (.inl rfl)
                · cases f
              · cases f
            · cases f
          · cases f
      · cases f
    · cases f
  · cases f
end
structure PushH(h h':Heap)(i:Nat)(o:YObj):Prop where
 raw: ∀j,h'.raw j=if j=i then some (some o)else h.raw j
 nx:h.nx<=h'.nx∧i<h'.nx
 tg:h'.tg=h.tg
section
variable {Y:YP} {W W':Vw} {σ σ':St} {a:Act} {w w':World}
theorem HRel.newRowAt{h g}(n:HRel W h w){i:Nat}(k: ¬W.kn i){f}{b:List Value}(l:VRs W f b)(e:TypeId)(c:PushH h g i (.arr f true)):
  HRel (W.push i w.heap.size b.length) g (w.alloc (.cells b.toArray e))/\Stp W W.own w (W.push i w.heap.size b.length) (W.push i w.heap.size b.length).own (w.alloc (.cells b.toArray e)):=by
 refine n.pushAt k (ob:= .cells b.toArray e) ⟨rfl,rfl,rfl⟩ (Zcx _ _) sm (JJ _ _) c.raw c.nx c.tg ?_;have p:=l.length;refine⟨b.toArray,e,(0,0),by simpa[Vw.push]using JJ w (.cells b.toArray e),by simp[Vw.push],by simp[Vw.push];omega,λj v m=> ?_,λj _ _=>sm⟩;obtain⟨u,o,d⟩:=l.get m;exact⟨u,by simpa[Vw.push]using o,d.mono (W.push_le k _ _)⟩
theorem Zn7(hY:YOK Y)(h:Rel W σ a w){o:Oper}{x:YObj}{vf:Nat->V}(e:newO Y σ o=some (x,vf)){i:Nat}(hi: ¬W.kn i){h'}(F:PushH σ.h h' i x):
  StepR Y W σ a w o (putV {σ with h:=h'} o.dst (vf i)):=by
 unfold newO at e;split at e
 .rename_i t xl xc k;split at e
  .rename_i G kl l kc c hk hl m;split at e
   .rename_i C L;split at e
    .rename_i H;simp only[uB,uL]at e;obtain⟨rfl,rfl⟩:=e;obtain⟨ti,N,K⟩:=XH hk;obtain⟨ii,d,z,ht⟩:=hY.ty t ti N;have n:=ht.kd;rw[K]at n;cases n;obtain⟨Z,de,f,b⟩:=hY.ty G C L;obtain⟨i0,i1,i2,i3,i4⟩:=H;have X:=(b.zr W).length;have A:=b.zl;have B:f.cells.size=C.size:=by rw[<-Array.length_toList,<-X,A]
     have q:=Zbm (b.zr W) c.toNat;obtain⟨D,E⟩:=h.heap.newRowAt hi q G F;have O:((List.range (c.toNat*f.cells.size)).map λi=>f.cells[i % f.cells.size]!).length=c.toNat*C.size:=by simp[B]
     simp only[O]at D E;have y:VR (W.push i w.heap.size (c.toNat*C.size)) (.sl (some (i,0)) l.toNat (some c.toNat) C.size) (.slice (some ⟨w.heap.size,0,none⟩) l.toNat c.toNat):=by
      refine .sls _ _ _ _ _ _ _ (.inr rfl) om (λc' m=>su m) (λ_ _=> ?_) (λ_ m=>nomatch m) (λ_=> ?_);simp[Vw.at,Vw.push];simp[Vw.push]
     refine StepR.heap h D E y ?_ (.inl rfl);have j:=h.ev xl;have g:=h.ev xc;rw[hl]at j;rw[m]at g;generalize v:a.eval xl=ul at j;generalize s:a.eval xc=uc at g;cases j;cases g;have hb:(Z.bytes:Int)*c<=281474976710656:=by
      rw[b.bytes,Int.mul_comm];have:(most:Int)<=281474976710656:=dc;omega
     have p:c<=9223372036854775807:=by
      have:(most:Int)<=9223372036854775807:=dc;omega
     have r:=run_make (P:=Y.P) w t G Z f ht.und b.info b.zero kl kc l c i1 i2 hb p;have Zb:madeCells f.cells (c.toNat*Z.size)=((List.range (c.toNat*f.cells.size)).map λi=>f.cells[i % f.cells.size]!).toArray:=by
      rw[<-Vg,madeCells,b.size,B]
     simp only[execOp,k,v,s,uC,r,uA,uD,Zb]
    .cases e
   .cases e
  .cases e
 .rename_i t k;simp only[uB,uL]at e;obtain⟨rfl,rfl⟩:=e;obtain⟨D,E⟩:=h.heap.pushAt (w':=w.alloc (.map #[] 0)) hi (ob:= .map #[] 0) (sz:=0) ⟨rfl,rfl,rfl⟩ (Zcx _ _) sm (JJ _ _) F.raw F.nx F.tg
   ⟨#[],0,by simpa[Vw.push]using JJ w (.map #[] 0), .nil, .nil⟩
  refine StepR.heap h D E (u:= .map (some w.heap.size)) (.mps _ _ (.inr rfl) (λ_=>by simp[Vw.push])) ?_ (.inl rfl);have e1:(newObj (.map #[] 0)).run Y.P w= .ok w.heap.size (w.alloc (.map #[] 0)):=rfl;simp only[execOp,k,Option.map_none,Instr.makeMap,uC,uD,e1,uA]
 .cases e
theorem PushH.push(h:Heap)(o:YObj):PushH h (h.push o) h.nx o:=⟨λj=>sm,sm,rfl⟩
end
def PlainD:Kd->TypeDesc->Prop
 | .int k,d=>d= .int k
 | .str,d=>d= .string
 | .bool,d=>d= .bool
 |_,_=>False
theorem ZI5{Y}{t}{b:Kd}{d:TypeDesc}(h:KdOK Y t b d)(c:Vd b=true):PlainD b d:=by
 cases b<;>first|exact h|cases c
theorem Zk6(j:IntKind)(a:Int):Instr.sameBits 10000 (.int j a) (.int j a)=true:=by simp[Instr.sameBits]
theorem ZI6(x y:Array UInt8):((⟨x⟩:ByteArray)==⟨y⟩)=(x==y):=rfl
theorem Zk7(a:ByteArray):Instr.sameBits 10000 (.string a) (.string a)=true:=by
 have:(a==a)=true:=by cases a;rw[ZI6];simp
 simp[Instr.sameBits,this]
theorem Zi9(a:Bool):Instr.sameBits 10000 (.bool a) (.bool a)=true:=by simp[Instr.sameBits]
theorem ZEs{W}{i:Kd}{d:TypeDesc}(b:PlainD i d){k e:V}{u g}{r:Bool}(h:WA i k e=some r)(f:VR W k u)(c:VR W e g):
  Instr.sameNow d u g=some r/\(r=true->Instr.sameBits 10000 g u=true):=by
 unfold WA at h;split at h;simp only[uB]at h;subst h;cases f;cases c;cases b;refine⟨rfl,λh=> ?_⟩;have:=eq_of_beq h;subst this;exact Zi9 _;split at h;rename_i l;simp only[uB]at h;subst h l;cases f;cases c;cases b;refine⟨by simp[Instr.sameNow],λh=> ?_⟩;have:=eq_of_beq h;subst this;exact Zk6 _ _;cases h
 .rename_i x y;simp only[uB]at h;subst h;cases f;cases c;cases b;have j:((⟨x.toArray⟩:ByteArray)==⟨y.toArray⟩)=(x==y):=by rw[ZI6];simp
  refine⟨by simp only[Instr.sameNow,j],λh=> ?_⟩;have:=eq_of_beq h;subst this;exact Zk7 _
 .cases h
theorem Zk8{b:Kd}(c:Vd b=true)(k e:V):Ze2 b k e=WA b k e:=by cases b<;>first|rfl|cases c
theorem PlainD.kind{b:Kd}{d:TypeDesc}(c:PlainD b d):Vd b=true:=by cases b<;>first|rfl|exact c.elim
theorem ZCv{W}{f:Kd}{d:TypeDesc}(y:PlainD f d){k v}{u x}(z:VR W k u)(E:VR W v x): ∀(b:List (V×V)) (m:List MapEntry) (i:Nat),VRs W (b.map (·.1)) (m.map (·.key))->VRs W (b.map (·.2)) (m.map (·.val))->ZY f k b=true->
  (XV f k b=none/\Instr.findNow d u m i=some none/\Xu f k v b=b++ [(k,v)])\/
  ∃j e p,XV f k b=some p/\VR W p e.val/\m[j]? =some e/\Instr.findNow d u m i=some (some (i+j,e.val))/\Instr.sameBits 10000 e.key u=true/\
   VRs W ((Xu f k v b).map (·.1)) ((m.modify j λe=> {e with key:=u,val:=x}).map (·.key))/\VRs W ((Xu f k v b).map (·.2)) ((m.modify j λe=> {e with key:=u,val:=x}).map (·.val))
 | [],m,i,g,_,_=>by
  cases m with
  |nil=>exact .inl ⟨rfl,rfl,rfl⟩
  |cons e m=>cases g
 |e::b,m,i,g,D,A=>by
  cases m with
  |nil=>cases g
  |cons e' m=>
   simp only[List.map_cons]at g D
   cases g with|cons _ _ _ _ h l=>
   cases D with|cons _ _ _ _ n o=>
   simp only[ZY,uH]at A;obtain⟨r,c⟩:=Option.isSome_iff_exists.1 A.1;have B:WA f k e.1=some r:=by rw[<-Zk8 y.kind];exact c
   obtain⟨C,N⟩:=ZEs y B z h
   cases r with
   |true=>
    refine .inr ⟨0,e',e.2,?_,n,rfl,?_,N rfl,?_,?_⟩;simp[XV,Ji,c];simp[Instr.findNow,C];simp only[Xu,Ji,c,vG,List.map_cons,List.modify_zero_cons];exact .cons _ _ _ _ z l;simp only[Xu,Ji,c,vG,List.map_cons,List.modify_zero_cons];exact .cons _ _ _ _ E o
   |false=>
    rcases ZCv y z E b m (i+1) l o A.2 with ⟨q,s,t⟩|⟨j,F,p,q,s,t,G,H,K,L⟩;refine .inl ⟨by simp[XV,Ji,c,q],by simp[Instr.findNow,C,s],by simp[Xu,Ji,c,t]⟩;refine .inr ⟨j+1,F,p,by simp[XV,Ji,c,q],s,su t,?_,H,?_,?_⟩;simp only[Instr.findNow,C,G];rw[show i+1+j=i+(j+1) from om];simp only[Xu,Ji,c,uI,vF,List.map_cons,List.modify_succ_cons];exact .cons _ _ _ _ h K;simp only[Xu,Ji,c,uI,vF,List.map_cons,List.modify_succ_cons];exact .cons _ _ _ _ n L
section
variable {Y:YP} {W W':Vw} {σ σ':St} {a:Act} {w w':World}
theorem Zn8{P:Program}{r:Nat}{b:Array MapEntry}{k:Nat}(h:w.heap[r]? =some (.map b k)):(getObj r).run P w= .ok (.map b k) w:=by simp[getObj,Sem.run,h]
theorem ZEt{P:Program}{r:Nat}{b:Array MapEntry}{k:Nat}(o:Obj)(h:w.heap[r]? =some (.map b k)):(setObj r o).run P w= .ok () (w.putB r o):=by simp[setObj,Sem.run,h,World.putB]
theorem Zk9: ∀l:List UInt8,VRs W (l.map λc=>V.i .u8 c.toNat) (l.map λc=>Value.int .u8 c.toNat)
 | []=> .nil
 |_::l=> .cons _ _ _ _ (.i _ _) (Zk9 l)
theorem Zla{P:Program}{b:Bool}{t:TypeId}{d:TypeDesc}(f:P.underlying t=some d){e:Kd}(c:PlainD e d)(u)(w:World):(Instr.checkKey b 10000 t u).run P w= .ok () w:=by
 have: ∀n,(Instr.checkKey b (n+1) t u).run P w= .ok () w:=λn=>by
  simp only[Instr.checkKey,uC,run_underlying f,uA];cases e<;>simp only[PlainD]at c<;>first|exact c.elim|(subst c;rfl)
 exact this 9999
theorem Zfa{P:Program}{t:TypeId}{d:TypeDesc}(b:P.underlying t=some d){u}{m:List MapEntry}{r:Option (Nat×Value)}(h:Instr.findNow d u m 0=some r)(w:World):(Instr.findKey t u m).run P w= .ok r w:=by
 simp only[Instr.findKey,uC,run_underlying b,uA,h,uD]
/-! ### Arrays of whole numbers as keys -/
theorem Zax: ∀ {b c:List V} {r:Bool},Qg b c=some r-> ∀ {x:V},x∈b-> ∃j a,x= .i j a
 | [],[],_,_,x,f=>by cases f
 |x::b,y::c,r,h,z,hz=>by
  cases x<;>cases y<;>simp only[Qg]at h<;>first|(cases h;done)|skip
  split at h
  .cases d:Qg b c with
   |none=>rw[d]at h;cases h
   |some q=>
    rcases List.mem_cons.1 hz with e|hz;exact⟨_,_,e⟩;exact Zax d hz
  .cases h
 | [],y::c,_,h,_,_=>by simp[Qg]at h
 |x::b,[],_,h,_,_=>by cases x<;>simp[Qg]at h
theorem Zfb{W} : ∀ {c d:List V} {b e:List Value},Qg c d=some true->VRs W c b->VRs W d e->b=e/\(b.zip b).all λp=>Instr.sameBits 9999 p.1 p.2
 | [],[],b,e,_,f,i=>by cases f;cases i;exact⟨rfl,rfl⟩
 |x::c,y::d,b,e,h,f,i=>by
  cases x<;>cases y<;>simp only[Qg]at h<;>first|(cases h;done)|skip
  split at h
  .rename_i r
   cases j:Qg c d with
   |none=>rw[j]at h;cases h
   |some q=>
    rw[j]at h;simp only[uw,uB,uH]at h;obtain⟨o,rfl⟩:=h
    cases f with|cons _ u _ s k l=>
    cases i with|cons _ v _ t m n=>
    cases k;cases m;obtain⟨rfl,g⟩:=Zfb j l n;have:=eq_of_beq o;subst this r;refine⟨rfl,?_⟩;simp only[List.zip_cons_cons,List.all_cons,g,Bool.and_true];simp[Instr.sameBits]
  .cases h
 | [],y::d,_,_,h,_,_=>by simp[Qg]at h
 |x::c,[],_,_,h,_,_=>by cases x<;>simp[Qg]at h
theorem ZEu{b:List V}{s:Nat}{x:V}{l:List V}(h:b.drop s=x::l):Zs 1 (b.drop (s*1))=some [x]:=by rw[uY,h];rfl
theorem Zlb{b:List V}{s:Nat}{x:V}{l:List V}(h:b.drop s=x::l):b.drop (s+1)=l:=by
 rw[<-vI,h];rfl
theorem Zp3{m:TI}{e}{O:TypeInfo}{N:TypeDesc}{X}(g:TIOK Y e m O N X)(f:m.size=1){k0:IntKind}(z:m.kd= .int k0){K L}{G H:List Value}(D:VRs W K G)(E:VRs W L H)(n:Nat)(w:World):
  ∀(c d:List V) (s:Nat) (r:Bool),K.drop s=c->L.drop s=d->Qg c d=some r->(WB (n+1) e m.size G.toArray H.toArray (List.range' s c.length)).run Y.P w= .ok r w
 | [],[],s,r,_,_,h=>by
  simp only[Qg,uB]at h;subst h;simp[WB]
 |x::c,y::d,s,r,B,C,h=>by
  have v:=Zax h (List.mem_cons_self ..);obtain⟨j,a,rfl⟩:=v;cases y<;>simp only[Qg]at h<;>first|(cases h;done)|skip
  split at h
  .rename_i k b hj;subst hj
   cases A:Qg c d with
   |none=>rw[A]at h;cases h
   |some q=>
    rw[A]at h;simp only[uw,uB]at h;obtain⟨ua,u',o,Z,p⟩:=Ve g D (off:=s*1) (l:= [.i j a]) (by rw[f];exact ZEu B);obtain⟨ub,v',t,g5,u⟩:=Ve g E (off:=s*1) (l:= [.i j b]) (by rw[f];exact ZEu C);rw[z]at p u;simp only[Kd.agg,uI,vF]at p u;subst p u
    cases o with|cons _ _ _ _ o _=>
    cases t with|cons _ _ _ _ t _=>
    have hq:(Op.equalIn (n+1) e u' v').run Y.P w= .ok (a==b) w:=Zg9 g (x:= .i j a) (y:= .i j b) (by rw[z];simp[WA]) o t n w;have F:=Zp3 g f z D E n w c d (s+1) q (Zlb B) (Zlb C) A;simp only[List.length_cons,List.range'_succ,WB,f,uC,Z,g5,hq,uA,Sem.run_ite];rw[f]at F;rw[<-h];cases a==b;simp;simpa using F
  .cases h
 | [],y::d,_,_,_,_,h=>by simp[Qg]at h
 |x::c,[],_,_,_,_,h=>by cases x<;>simp[Qg]at h
theorem Zu0{t e:TypeId}{c:Nat}{B:TI}{E:TypeInfo}{D:TypeDesc}{L}(X:Y.P.underlying t=some (.array c e))(h:TIOK Y e B E D L)(K:B.size=1){A:IntKind}(F:B.kd= .int A){f}{m:List Value}(y:VRs W f m)
  (H:f.length=c) (u: ∀x∈f,∃j a,x= .i j a) (b:Bool) (w:World):(Instr.checkKey b 10000 t (.agg m.toArray)).run Y.P w= .ok () w:=by
 have s:D= .int A:=by have:=h.kd;rw[F]at this;exact this
 have k:Y.P.underlying e=some (.int A):=by rw[<-s];exact h.und
 have v:E.size=1:=by rw[h.size];exact K
 have one: ∀i,i<c-> ∃o,(∀w,(part e m.toArray (i*1)).run Y.P w= .ok o w)/\ ∀n w,(Instr.checkKey b (n+1) e o).run Y.P w= .ok () w:=by
  intro i O;have d:i<f.length:=om;obtain⟨j,a,z⟩:=u f[i] (List.getElem_mem d);have N:f.drop i= .i j a::f.drop (i+1):=by rw[uM d,z]
  obtain⟨ua,o,g,q,r⟩:=Ve h y (off:=i*1) (l:= [.i j a]) (by rw[K];exact ZEu N);rw[F]at r;simp only[Kd.agg,uI,vF]at r;subst r
  cases g with|cons _ _ _ _ g _=>
  cases g;refine⟨_,q,λn w=> ?_⟩;simp only[Instr.checkKey,uC,run_underlying k,uA]
  rfl
 have p: ∀(l:List Nat) (n:Nat) (w:World),(∀i∈l,i<c)->((forIn l PUnit.unit λi (_:PUnit)=>(do Instr.checkKey b (n+1) e (<-part e m.toArray (i*(<-sizeOf e)));pure (ForInStep.yield PUnit.unit):Sem (ForInStep PUnit))):Sem PUnit).run Y.P w= .ok PUnit.unit w:=by
  intro l
  induction l with
  |nil=>intro n w _;simp
  |cons i l Z=>
   intro n w G;obtain⟨o,g,q⟩:=one i (G i (List.mem_cons_self ..));simp only[List.forIn_cons,uC,ZS h.info,uA,v,g,q,uD];exact Z n w λx y=>G x (uv _ y)
 have C: ∀n,(Instr.checkKey b (n+2) t (.agg m.toArray)).run Y.P w= .ok () w:=λn=>by
  rw[Instr.checkKey];simp only[uC,run_underlying X,uA,Std.Legacy.Range.forIn_eq_forIn_range',Std.Legacy.Range.size,Nat.sub_zero,Nat.add_sub_cancel,Nat.div_one];have:=p (List.range' 0 c) n w (λi u=>by rw[List.mem_range'_1]at u;omega);simp at this ⊢;rw[this];rfl
 exact C 9998
theorem Zz0(e:YOK Y){t:TypeId}{c}(h:Y.ty t=some c): ∃z,(∀w,(zeroValue t).run Y.P w= .ok z w)/\ ∀W,VR W (Znu Y t) z:=by
 obtain⟨i,d,z,b⟩:=e.ty t c h;refine⟨z,Qp b.info b.zero,λW=> ?_⟩;unfold Znu;simp only[b.info,Option.bind_some,b.zero];exact VR.ofC W z
theorem Zu1{c:Kd}{k:V} : ∀ {b:List (V×V)},ZY c k b=true->Znt c k=true
 | [],h=>h
 |e::b,h=>by
  simp only[ZY,uH]at h;exact Zu1 h.2
theorem Zp4{s e:TypeId}{b:Nat}{te:TI}{ei:TypeInfo}{ed:TypeDesc}{ez}(hu:Y.P.underlying s=some (.array b e))(E:TIOK Y e te ei ed ez)(hs:te.size=1){k0:IntKind}(A:te.kd= .int k0){h:List V}{k:List Value}(F:VRs W h k)(n:h.length=b)
  {v:V} {x:Value} (hv:VR W v x) (w:World): ∀(d:List (V×V)) (m:List MapEntry) (i:Nat),VRs W (d.map (·.1)) (m.map (·.key))->VRs W (d.map (·.2)) (m.map (·.val))->ZY (.arr b e) (.agg h) d=true->
  (XV (.arr b e) (.agg h) d=none/\(Instr.findAsking s (.agg k.toArray) m i).run Y.P w= .ok none w/\Xu (.arr b e) (.agg h) v d=d++ [(.agg h,v)])\/
  ∃j e' G,XV (.arr b e) (.agg h) d=some G/\VR W G e'.val/\m[j]? =some e'/\(Instr.findAsking s (.agg k.toArray) m i).run Y.P w= .ok (some (i+j,e'.val)) w/\Instr.sameBits 10000 e'.key (.agg k.toArray)=true/\
   VRs W ((Xu (.arr b e) (.agg h) v d).map (·.1)) ((m.modify j λe=> {e with key:= .agg k.toArray,val:=x}).map (·.key))/\VRs W ((Xu (.arr b e) (.agg h) v d).map (·.2)) ((m.modify j λe=> {e with key:= .agg k.toArray,val:=x}).map (·.val))
 | [],m,i,t,_,_=>by
  cases m with
  |nil=>exact .inl ⟨rfl,rfl,rfl⟩
  |cons e m=>cases t
 |c::d,m,i,t,h2,Z=>by
  cases m with
  |nil=>cases t
  |cons e' m=>
   simp only[List.map_cons]at t h2
   cases t with|cons _ _ _ _ o u=>
   cases h2 with|cons _ _ _ _ y z=>
   simp only[ZY,uH]at Z;obtain⟨r,l⟩:=Option.isSome_iff_exists.1 Z.1;obtain⟨H,C,B⟩: ∃H,c.1= .agg H/\Qg h H=some r:=by
    have g:=l;unfold Ze2 at g;simp only[]at g;generalize c.1=cv at g;cases cv<;>first|exact⟨_,rfl,g⟩|cases g
   rw[C]at o;generalize f:e'.key=ke at o
   cases o with|agg _ vs q=>
   have X:(Op.equal s (.agg k.toArray) (.agg vs.toArray)).run Y.P w= .ok r w:=by
    have h3:=Wd (Y:=Y) 9999 s e b k.toArray vs.toArray hu E.info w;have O:=Zp3 E hs A F q 9998 w h H 0 r rfl rfl B;rw[n,<-List.range_eq_range']at O;rw[<-E.size]at O;exact h3.trans O
   have p:(Instr.findAsking s (.agg k.toArray) (e'::m) i).run Y.P w=if r=true then .ok (some (i,e'.val)) w else(Instr.findAsking s (.agg k.toArray) m (i+1)).run Y.P w:=by
    rw[Instr.findAsking];simp only[uC,f,X,uA,Sem.run_ite,uD]
   cases r with
   |true=>
    obtain⟨a0,D⟩:=Zfb B F q;subst a0;refine .inr ⟨0,e',c.2,?_,y,rfl,?_,?_,?_,?_⟩;simp[XV,Ji,l];rw[p,uF rfl];rfl;rw[f];simp only[Instr.sameBits,beq_self_eq_true,uT];exact D;simp only[Xu,Ji,l,vG,List.map_cons,List.modify_zero_cons];exact .cons _ _ _ _ (.agg _ _ F) u;simp only[Xu,Ji,l,vG,List.map_cons,List.modify_zero_cons];exact .cons _ _ _ _ hv z
   |false=>
    rcases Zp4 hu E hs A F n hv w d m (i+1) u z Z.2 with ⟨K,L,N⟩|⟨j,e0,G,K,L,N,g4,g5,g6,g7⟩;refine .inl ⟨by simp[XV,Ji,l,K],by rw[p,uE dc];exact L,by simp[Xu,Ji,l,N]⟩;refine .inr ⟨j+1,e0,G,by simp[XV,Ji,l,K],L,su N,?_,g5,?_,?_⟩;rw[p,uE dc,g4,show i+1+j=i+(j+1) from om];simp only[Xu,Ji,l,uI,vF,List.map_cons,List.modify_succ_cons];refine .cons _ _ _ _ ?_ g6;rw[C,f];exact .agg _ _ q;simp only[Xu,Ji,l,uI,vF,List.map_cons,List.modify_succ_cons];exact .cons _ _ _ _ y g7
theorem ZCw(hY:YOK Y){p:TypeId}{i:Kd}{X:TI}(E:Y.ty p=some X)(D:X.kd=i)(l:QE Y p=true){k v}{u x}(hk:VR W k u)(hv:VR W v x){f:List (V×V)}{m:List MapEntry}
  (h1:VRs W (f.map (·.1)) (m.map (·.key))) (h2:VRs W (f.map (·.2)) (m.map (·.val))) (y:ZY i k f=true) (w:World):
  (∀b,(Instr.checkKey b 10000 p u).run Y.P w= .ok () w)/\
  ((XV i k f=none/\(Instr.findKey p u m).run Y.P w= .ok none w/\Xu i k v f=f++ [(k,v)])\/
  ∃j e G,XV i k f=some G/\VR W G e.val/\m[j]? =some e/\(Instr.findKey p u m).run Y.P w= .ok (some (j,e.val)) w/\Instr.sameBits 10000 e.key u=true/\
   VRs W ((Xu i k v f).map (·.1)) ((m.modify j λe=> {e with key:=u,val:=x}).map (·.key))/\VRs W ((Xu i k v f).map (·.2)) ((m.modify j λe=> {e with key:=u,val:=x}).map (·.val))):=by
 obtain⟨ik,dk,zk,d⟩:=hY.ty p X E;have g:=d.kd;rw[D]at g;have C:Y.kd p=some i:=by unfold YP.kd;rw[E,uw,D]
 unfold QE at l;rw[C]at l;by_cases q: ∃n e,i= .arr n e
 .obtain⟨n,e,rfl⟩:=q;simp only[]at l;split at l
  .rename_i F O;simp only[uH]at l;obtain⟨o,t⟩:=l;have o:F.size=1:=su o;obtain⟨k0,B⟩: ∃k0,F.kd= .int k0:=by
    revert t;cases F.kd<;>intro h<;>first|exact⟨_,rfl⟩|cases h
   obtain⟨ei,ed,ez,A⟩:=hY.ty e F O;obtain⟨rfl,_⟩:=g;have c:=Zu1 y;unfold Znt at c;simp only[]at c;split at c
   .rename_i xs;simp only[uH]at c;have r:xs.length=n:=su c.1;obtain⟨r0,N⟩:=Option.isSome_iff_exists.1 c.2
    cases hk with|agg _ us hx=>
    refine⟨λb=>Zu0 d.und A o B hx r (λz hz=>Zax N hz) b w,?_⟩;have s:(Instr.findKey p (.agg us.toArray) m).run Y.P w=(Instr.findAsking p (.agg us.toArray) m 0).run Y.P w:=by
     simp only[Instr.findKey,uC,run_underlying d.und,uA]
     cases m with
     |nil=>rfl
     |cons e' m=>rfl
    rw[s];have:=Zp4 d.und A o B hx r hv w f m 0 h1 h2 y;simpa only[uJ]using this
   .cases c
  .cases l
 .have l:Vd i=true:=by
   cases i<;>first|exact l|exact absurd ⟨_,_,rfl⟩ q
  have hd:=ZI5 g l;refine⟨λb=>Zla d.und hd u w,?_⟩;rcases ZCv hd hk hv f m 0 h1 h2 y with ⟨H,K,L⟩|⟨j,e,G,H,K,L,Z,g5,g6,g7⟩;exact .inl ⟨H,Zfa d.und K w,L⟩;rw[uJ]at Z;exact .inr ⟨j,e,G,H,K,L,Zfa d.und Z w,g5,g6,g7⟩
theorem Zu2(hY:YOK Y)(h:Rel W σ a w){o:Oper}{v}{h':Heap}(f:mapH Y σ o=some (h',v)):StepR Y W σ a w o (putV {σ with h:=h'} o.dst v):=by
 unfold mapH at f;have d1: ∀(t:TypeId) (m k x:Operand),(execOp a.eval o=do let _<-Instr.mapUpdate t (a.eval m) (a.eval k) (a.eval x);pure .skip)->
   ((match Y.kd t,ev σ.env m with
   |some (.map kt _), .mp (some r)=>match Y.kd kt,σ.h.get r with
    |some kk,some (.map es)=>if QE Y kt&&ZY kk (ev σ.env k) es then some (σ.h.set r (some (.map (Xu kk (ev σ.env k) (ev σ.env x) es))),V.undef)else none
    |_,_=>none
   |_,_=>none)=some (h',v))->StepR Y W σ a w o (putV {σ with h:=h'} o.dst v):=by
  intro t m k x c9 f;split at f
  .rename_i kt et r hk hm;split at f
   .rename_i kk es a1 hg;split at f
    .rename_i hc;simp only[uH]at hc;simp only[uB,uL]at f;obtain⟨rfl,rfl⟩:=f;obtain⟨ti,G,E⟩:=XH hk;obtain⟨i,d,z,N⟩:=hY.ty t ti G;have B:=N.kd;rw[E]at B;cases B;obtain⟨tk,b1,L⟩:=XH a1;obtain⟨ik,dk,zk,b2⟩:=hY.ty kt tk b1;have a8:=b2.kd;rw[L]at a8;have Z:=h.ev m;rw[hm]at Z;generalize e9:a.eval m=um at Z c9;have a3:W.lv r:=(h.heap.lv r).2 (by simp[hg]);obtain⟨me,D,hb,a2,a4⟩:=h.heap.obj r _ hg
     cases Z with
     |mps _ rr b5 hr=>
      have c5:=hr a3;subst c5;have c8:=Zt hb;have wr: ∀(C:Array MapEntry) (g:Nat),VRs W ((Xu kk (ev σ.env k) (ev σ.env x) es).map (·.1)) (C.toList.map (·.key))->VRs W ((Xu kk (ev σ.env k) (ev σ.env x) es).map (·.2)) (C.toList.map (·.val))->
        (Instr.mapUpdate t (.map (some (W.mu r).1)) (a.eval k) (a.eval x)).run Y.P w= .ok () (w.putB (W.mu r).1 (.map C g))->
        StepR Y W σ a w o (putV {σ with h:=σ.h.set r (some (.map (Xu kk (ev σ.env k) (ev σ.env x) es)))} o.dst .undef):=by
       intro C g q1 q2 q;obtain⟨g1,g2⟩:=h.heap.write (w':=w.putB (W.mu r).1 (.map C g)) ⟨rfl,rfl,rfl⟩ a3 (o:= .map (Xu kk (ev σ.env k) (ev σ.env x) es)) (Zau _ _ _) (Ze4 _ _ _) (λc e fr c2=>by rw[hb]at c2;cases c2)
        ⟨C,g,Jk _ _ _ c8,q1,q2⟩
       refine StepR.heap h g1 g2 (n:= .skip) (.undef Go.undef) ?_ (.inr ⟨rfl,rfl⟩);rw[c9];simp only[uC,q,uA,uD]
      have b7: ∀(C:Array MapEntry) (g:Nat),(setObj (W.mu r).1 (.map C g)).run Y.P w= .ok () (w.putB (W.mu r).1 (.map C g)):=λC g=>ZEt _ hb;obtain⟨A,c3⟩:=ZCw hY b1 L hc.1 (h.ev k) (h.ev x) a2 a4 hc.2 w;rcases c3 with ⟨g1,g2,g3⟩|⟨j,e,v0,g1,g2,g3,g4,g5,g6,g7⟩;refine wr (me.push {key:=a.eval k,val:=a.eval x,born:=D}) (D+1) ?_ ?_ ?_;rw[g3];simp only[uV,Array.toList_push];exact a2.append (.cons _ _ _ _ (h.ev k) .nil);rw[g3];simp only[uV,Array.toList_push];exact a4.append (.cons _ _ _ _ (h.ev x) .nil);simp only[Instr.mapUpdate,uC,run_underlying N.und,uA,Zn8 hb,A,g2,b7]
      .refine wr (me.modify j λe=> {e with key:=a.eval k,val:=a.eval x}) D (by rw[Array.toList_modify];exact g6) (by rw[Array.toList_modify];exact g7) ?_;have hj:me[j]? =some e:=su g3;have c4:(Instr.keyThatStays e.key (a.eval k)).run Y.P w= .ok (a.eval k) w:=by
        simp only[Instr.keyThatStays,g5,vG,uD]
       simp only[Instr.mapUpdate,uC,run_underlying N.und,uA,Zn8 hb,A,g4,hj,uw,uq,c4,b7]
    .cases f
   .cases f
  .cases f
 split at f
 .rename_i t m k ok F;split at f
  .rename_i kt et r hk hm;split at f
   .rename_i kk es a1 X;split at f
    .rename_i hc;simp only[uH]at hc;obtain⟨te,b0⟩:=Option.isSome_iff_exists.1 hc.2;obtain⟨z,hz,d0⟩:=Zz0 hY b0;obtain⟨ti,G,E⟩:=XH hk;obtain⟨i,d,zz,N⟩:=hY.ty t ti G;have B:=N.kd;rw[E]at B;cases B;obtain⟨tk,b1,L⟩:=XH a1;obtain⟨ik,dk,zk,b2⟩:=hY.ty kt tk b1;have a8:=b2.kd;rw[L]at a8;have Z:=h.ev m;rw[hm]at Z;have look: ∃me:Array MapEntry,VRs W (es.map (·.1)) (me.toList.map (·.key))/\VRs W (es.map (·.2)) (me.toList.map (·.val))/\ ∀r,(∀b,(Instr.checkKey b 10000 kt (a.eval k)).run Y.P w= .ok () w)->(Instr.findKey kt (a.eval k) me.toList).run Y.P w= .ok r w->
       (Instr.lookup t (a.eval m) (a.eval k) ok).run Y.P w=(match r with
        |some (_,v)=> .ok (if ok then .tuple #[v, .bool true]else v) w
        |none=> .ok (if ok then .tuple #[z, .bool false]else z) w):=by
      generalize a.eval m=um at Z
      cases Z with
      |mpn=>
       simp only[Zbl,uB]at X;subst X;refine⟨#[], .nil, .nil,λr A hr=> ?_⟩;simp only[Instr.lookup,uC,run_underlying N.und,uA,uD,A,hr]
       cases r with
       |none=>simp only[hz w,uC,uA,uD]
       |some p=>rfl
      |mps id rr b5 d7=>
       simp only[Zbl]at X;split at X
       .rename_i e7 hg;simp only[uB]at X;subst X;obtain⟨me,D,hb,a2,a4⟩:=h.heap.obj id _ hg;have c5:=d7 ((h.heap.lv id).2 (by simp[hg]));subst c5;refine⟨me,a2,a4,λr A hr=> ?_⟩;simp only[Instr.lookup,uC,run_underlying N.und,uA,uD,Zn8 hb,A,hr]
        cases r with
        |none=>simp only[hz w,uC,uA,uD]
        |some p=>rfl
       .cases X
     obtain⟨me,a2,a4,hl⟩:=look;have c6: ∀(x:V) (u:Value),VR W x u->h'=σ.h->v=x->(Instr.lookup t (a.eval m) (a.eval k) ok).run Y.P w= .ok u w->StepR Y W σ a w o (putV {σ with h:=h'} o.dst v):=by
      intro x u d9 e1 e2 q;subst e1 e2;refine StepR.heap h h.heap (Stp.refl W _ w) d9 ?_ (.inl rfl);simp only[execOp,F,uC,q,uA,uD]
     obtain⟨A,c3⟩:=ZCw hY b1 L hc.1.1 (h.ev k) (.undef Go.undef) a2 a4 hc.1.2 w;rcases c3 with ⟨g1,g2,_⟩|⟨j,e,v0,g1,g2,g3,g4,_⟩;rw[g1]at f;simp only[uB,uL]at f;refine c6 _ (if ok then .tuple #[z, .bool false]else z) ?_ f.1.symm f.2.symm (hl _ A g2);cases ok;exact d0 W;exact .tup _ [z, .bool false] (.cons _ _ _ _ (d0 W) (.cons _ _ _ _ (.b false) .nil));rw[g1]at f;simp only[uB,uL]at f;refine c6 _ (if ok then .tuple #[e.val, .bool true]else e.val) ?_ f.1.symm f.2.symm (hl _ A g4);cases ok;exact g2;exact .tup _ [e.val, .bool true] (.cons _ _ _ _ g2 (.cons _ _ _ _ (.b true) .nil))
    .cases f
   .cases f
  .cases f
 .rename_i t m k x F;exact d1 t m k x (by simp only[execOp,F]) f
 .rename_i t m k x F;exact d1 t m k x (by simp only[execOp,F]) f
 .rename_i H b8 F;split at f
  .rename_i x t c0 c1;have a6:H= #[x]:=by apply Array.ext';simpa using c0
   have a7:b8= #[t]:=by apply Array.ext';simpa using c1
   subst a6 a7;have q: ∀u w',(Builtin.clear_ #[t] o.type #[a.eval x]).run Y.P w= .ok u w'->(execOp a.eval o).run Y.P w= .ok (.value u) w':=by
    intro u w' hu;have e1:(resolve a.eval ⟨.builtin .clear,#[x],#[t]⟩ o.type).run Y.P w= .ok {target:= .builtin .clear #[t] o.type (#[x].map fun| .const _=>true|_=>false),args:= #[x].map a.eval} w:=rfl
    have e3:(#[x].map a.eval)= #[a.eval x]:=sm;simp only[execOp,F,uC,e1,uA,invoke,builtin];rw[e3];simp only[hu,uA,uD]
   split at f;rename_i e q1 q2 q3 hk b3;simp only[uB,uL]at f;obtain⟨rfl,rfl⟩:=f;obtain⟨ti,G,E⟩:=XH hk;obtain⟨i,d,zz,N⟩:=hY.ty t ti G;have hx:=h.ev x;rw[b3]at hx;generalize a.eval x=ux at hx q;cases hx;refine StepR.heap h h.heap (Stp.refl W _ w) (u:= .tuple #[]) (.tup [] [] .nil) (q _ _ ?_) (.inl rfl);have B:=N.kd;rw[E]at B;cases B;simp[Builtin.clear_,run_underlying N.und]
   .rename_i e id b4 s q1 k hk b3;obtain⟨ti,G,E⟩:=XH hk;obtain⟨i,d,zz,N⟩:=hY.ty t ti G;have B:=N.kd;rw[E]at B;cases B;have hx:=h.ev x;rw[b3]at hx;generalize a.eval x=ux at hx q;split at f
    .rename_i te b0;split at f
     .rename_i b6;subst b6;simp only[uB,uL]at f;obtain⟨rfl,rfl⟩:=f
      cases hx with
      |sls _ _ _ _ _ y a5 b5 hl hc ha hn a1=>
       refine StepR.heap h h.heap (Stp.refl W _ w) (u:= .tuple #[]) (.tup [] [] .nil) (q _ _ ?_) (.inl rfl);simp[Builtin.clear_,run_underlying N.und]
     .rename_i b6;split at f
      .rename_i c4;subst c4;split at f
       .rename_i cs hg;split at f
        .rename_i hb;simp only[uB,uL]at f;obtain⟨rfl,rfl⟩:=f;obtain⟨ie,de,ze,K⟩:=hY.ty e te b0;have a3:W.lv id:=(h.heap.lv id).2 (by simp[hg]);have a9:=Zbm (K.zr W) s;have b9:Zp (List.replicate s te.zero).flatten=true:=by
          clear hb a9;have hz:=K.zc;have c7: ∀l m:List V,Zp (l++m)=(Zp l&&Zp m):=λl m=>by
           induction l with
           |nil=>rfl
           |cons v r ih=>simp only[List.cons_append,Zp,ih,Bool.and_assoc]
          have: ∀n,Zp (List.replicate n te.zero).flatten=true:=λn=>by
           induction n with
           |zero=>rfl
           |succ n ih=>rw[uZ,List.flatten_cons,c7,hz,ih];rfl
          exact this s
         have h1:=Jm a9 b9;obtain⟨w',g1,g2,g3⟩:=h.heap.spliceAt hg (off:=b4) (new:=(List.replicate s te.zero).flatten) (by rw[Zav,K.zl];exact hb) a9 h1 Y.P
         cases hx with
         |sls _ _ _ _ _ y a5 b5 hl hc ha hn a1=>
          have hy:=ha a3 om;subst hy;refine StepR.heap h g2 g3 (u:= .tuple #[]) (.tup [] [] .nil) (q _ _ ?_) (.inl rfl);have e0:(Builtin.zeroCells ze.cells s).toList=(List.range (s*ze.cells.size)).map λi=>ze.cells[i % ze.cells.size]! :=by
           rw[Builtin.zeroCells,Vg]
          obtain⟨n,rfl⟩: ∃n,s=n+1:=⟨s-1,om⟩;simp only[Builtin.clear_,uC,run_underlying N.und,uA,Qp K.info K.zero,e0,g1,uD,List.getElem?_toArray,List.getElem?_cons_zero]
        .cases f
       .cases f
      .cases f
    .cases f
   .cases f
  .cases f
 .rename_i H b8 F;split at f
  .rename_i d x st a0 c0 c1;have a6:H= #[d,x]:=by apply Array.ext';simpa using c0
   have a7:b8=(st::a0).toArray:=by apply Array.ext';simpa using c1
   subst a6 a7;have q: ∀u w',(Builtin.copy_ (st::a0).toArray o.type #[a.eval d,a.eval x]).run Y.P w= .ok u w'->(execOp a.eval o).run Y.P w= .ok (.value u) w':=by
    intro u w' hu;have e1:(resolve a.eval ⟨.builtin .copy,#[d,x],(st::a0).toArray⟩ o.type).run Y.P w= .ok {target:= .builtin .copy (st::a0).toArray o.type (#[d,x].map fun| .const _=>true|_=>false),args:= #[d,x].map a.eval} w:=rfl
    have e3:(#[d,x].map a.eval)= #[a.eval d,a.eval x]:=sm;simp only[execOp,F,uC,e1,uA,invoke,builtin];rw[e3];simp only[hu,uA,uD]
   split at f
   .rename_i e id b4 s q1 k hk d3;obtain⟨ti,G,E⟩:=XH hk;obtain⟨i,dd,zz,N⟩:=hY.ty st ti G;have B:=N.kd;rw[E]at B;cases B;split at f
    .rename_i te b0;obtain⟨ie,de,ze,K⟩:=hY.ty e te b0;split at f
     .rename_i n cs O;split at f
      .rename_i hc;obtain⟨rfl,e8,b9⟩:=hc;split at f
       .rename_i e6 hg;split at f
        .rename_i hb;simp only[uB,uL]at f;obtain⟨rfl,rfl⟩:=f;have a3:W.lv id:=(h.heap.lv id).2 (by simp[hg])
         -- the XJ
         have e5: ∃us:List Value,VRs W cs us/\(Builtin.lenOf (a.eval x)).run Y.P w= .ok n w/\(Builtin.firstCells te.size (min n s) (a.eval x)).run Y.P w= .ok (us.take (min n s*te.size)).toArray w:=by
          have hx:=h.ev x;unfold QS at O;split at O
          .rename_i l b3;rw[b3]at hx;split at O
           .rename_i d5;simp only[uB,uL]at O;obtain⟨rfl,rfl⟩:=O;generalize a.eval x=ux at hx;cases hx;refine⟨l.map λc=>Value.int .u8 c.toNat,?_,rfl,?_⟩;exact Zk9 l
            .simp only[Builtin.firstCells,uD,d5,uY]
             congr 1
             apply Array.ext';simp[ByteArray.data_extract]
           .cases O
          .obtain⟨us,h1,h2,h3⟩:=Vf h O hx;refine⟨us,h1,?_,?_⟩
           .rcases h3 with ⟨he,rfl⟩|⟨y,cap,he,_,_⟩<;>rw[he]<;>rfl
           .rcases h3 with ⟨he,rfl⟩|⟨y,cap,he,_,d2⟩;rw[he];have:us= []:=su h2;subst this;simp[Builtin.firstCells];rw[he];refine run_firstCells_some w te.size (min n s) y n cap _ ?_ λj v hj=> ?_;rw[uO,h2];exact Nat.min_eq_left (Nat.mul_le_mul_right _ (Nat.min_le_left _ _));rw[List.getElem?_take]at hj;split at hj;exact d2 j v hj;cases hj
         obtain⟨us,hv,d6,d4⟩:=e5;have h1:=Jm hv b9;obtain⟨w',g1,g2,g3⟩:=h.heap.spliceAt hg (off:=b4) (new:=cs.take (min n s*te.size)) hb (hv.take _) (λu hu=>h1 u (List.mem_of_mem_take hu)) Y.P;have hd:=h.ev d;rw[d3]at hd;generalize a.eval d=ud at hd q
         cases hd with
         |sls _ _ _ _ _ y a5 b5 hl c2 ha hn a1=>
          have d8:(storeCells y (us.take (min n s*te.size))).run Y.P w= .ok () w':=by
           by_cases b6:0<a5;rw[ha a3 b6];exact g1;have:s=0:=om;subst this;simp only[Nat.min_zero,Nat.zero_mul,uQ]at g1 ⊢;have e1: ∀y,(storeCells y []).run Y.P w= .ok () w:=λy=>rfl;rw[e1]at g1 ⊢;exact g1
          refine StepR.heap h g2 g3 (u:= .int .i64 ((min n s:Nat):Int)) (.i _ _) (q _ _ ?_) (.inl rfl);have e4:Nat.min n s=min n s:=rfl;simp only[Builtin.copy_,List.getElem?_toArray,List.getElem?_cons_zero,List.getElem?_cons_succ,uC,run_underlying N.und,uA,d6,ZS K.info,K.size,e4,d4,d8,uD]
          rfl
        .cases f
       .cases f
      .cases f
     .cases f
    .cases f
   .cases f
  .cases f
 .cases f
theorem Zsn{o:Oper}{v}(c:Zg2 Y σ o=some v):mapH Y σ o=some (σ.h,v):=by
 unfold Zg2 at c;split at c
 .rename_i t m k ok d;simp only[uG]at c;obtain⟨⟨g,i⟩,e,f⟩:=c;simp only at f;subst f;have b:=e;unfold mapH at b;rw[d]at b;simp only at b
  repeat' (split at b<;>try (cases b;done))
  all_goals (simp only[uB,uL]at b;obtain⟨rfl,_⟩:=b;exact e)
 .cases c
theorem Zz1(b:YOK Y)(h:Rel W σ a w){o:Oper}{v}(c:Zg2 Y σ o=some v):StepR Y W σ a w o (putV σ o.dst v):=Zu2 b h (Zsn c)
end
end Go.Y
