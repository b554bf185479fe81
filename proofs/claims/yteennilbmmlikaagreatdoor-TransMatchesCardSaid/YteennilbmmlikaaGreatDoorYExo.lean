/- A part of the proof. -/
import Derived.Test.YteennilbmmlikaaGreatDoorYPure
import Derived.Lib.Bytealg
import Derived.Lib.Builder
import Derived.Lib.UnsafeStr
namespace Go.Y
set_option maxRecDepth 1000000
set_option maxHeartbeats 0
section
variable {Y:YP} {W W':Vw} {σ σ':St} {a:Act} {w w':World}
theorem ZHw(l)(c:UInt8): ∀k:Nat,Jl l c k=if Lib.indexByte l c= -1 then -1 else Lib.indexByte l c+k:=by
 induction l with
 |nil=>intro k;simp[Jl,Lib.indexByte]
 |cons b l g=>
  intro k;have h:=Lib.indexByte_ge l c;unfold Jl Lib.indexByte;by_cases f:(b==c)=true
  .simp[f]
  .simp only[f,vF,uI];rw[g (k+1)];by_cases e:Lib.indexByte l c= -1
   .simp[e]
   .simp only[e,vF];have d:(Lib.indexByte l c== -1)=false:=by simpa using e
    rw[d];have j: ¬(Lib.indexByte l c+1= -1):=om;simp only[uI,vF,j];omega
theorem Zyr(l)(c:UInt8):Jl l c 0=Lib.indexByte l c:=by
 rw[ZHw];split
 .rename_i h;exact h.symm
 .simp
theorem ZHx{k:Nat}{h:List V}{v}(d:extV k h=some v){g:List Value}(hr:VRs W h g): ∃u,VR W v u/\ ∀(P:Program) (w:World),(extE k g.toArray).run P w= .ok u w:=by
 unfold extV at d;split at d
 .rename_i a;simp at d;subst d
  cases hr with
  |cons _ u _ _ e f=>cases f;exact⟨u,e,λP w=>rfl⟩
 .rename_i l c;simp at d;subst d
  cases hr with
  |cons _ u _ _ e f=>
   cases f with
   |cons _ n _ _ m j=>
    cases j;cases e;cases m;refine⟨_, .i .i64 _,λP w=> ?_⟩;rw[Zyr];have:=run_indexByte_string (P:=P) ⟨l.toArray⟩ c w;rw[Lib.firstIdx_eq]at this;exact this
 .cases d
theorem Zne(h:Rel W σ a w){o:Oper}{e:Operand}{c:Array Operand}{j:Array TypeId}{g:FuncId}{t r}(m:o.op= .call ⟨.value e,c,j⟩)(v:ev σ.env e= .fn (.func g) t r):
  ∃n,VRs W (t++c.toList.map (ev σ.env)++r) n/\(execOp a.eval o).run Y.P w=(callFunc g n.toArray).run Y.P w:=by
 have d:=h.ev e;rw[v]at d;generalize f:a.eval e=z at d
 cases d with
 |fn _ _ _ l k x u=>
  refine⟨l++c.toList.map a.eval++k,(x.append (h.evs c.toList)).append u,?_⟩;have y:(l.toArray++c.map a.eval)++k.toArray=(l++c.toList.map a.eval++k).toArray:=by
   apply Array.ext';simp
  simp only[execOp,m,resolve,f,Deferred.ofValue,uC,uD,uA,invoke,y]
theorem ZDl(H:YOK Y)(h:Rel W σ a w){o:Oper}{v}(j:exoQ Y σ o=some v):StepR Y W σ a w o (putV σ o.dst v):=by
 have A: ∀u,VR W v u->(execOp a.eval o).run Y.P w= .ok (.value u) w->StepR Y W σ a w o (putV σ o.dst v):=λu C f=>
  ⟨W,w,u,_,f, .inl rfl,h.putV C o.dst,(Stp.refl W _ w).weaken λb hb=>Xq C o.dst hb⟩
 unfold exoQ at j;split at j
 .rename_i fo a4 B r;split at j
  .rename_i g fa fc hf;split at j
   .rename_i k K;obtain⟨fn,h1,h2,h3,h4⟩:=H.ext _ (We K);obtain⟨us,hv,f⟩:=Zne (Y:=Y) h r hf;obtain⟨u,C,l⟩:=ZHx j hv;refine A u C ?_;rw[f,run_callFunc_extern h1 (H.name _ _ h1) h2 h3 h4,l]
    rfl
   .cases j
  .cases j
 .rename_i D B r;split at j
  .rename_i x Z;have G:D= #[x]:=by apply Array.ext';simpa using Z
   subst G;have l:=h.ev x;have f: ∀u,(Builtin.unsafeSliceData_ B o.type #[a.eval x]).run Y.P w= .ok u w->(execOp a.eval o).run Y.P w= .ok (.value u) w:=by
    intro u C;have e1:(resolve a.eval ⟨.builtin .unsafeSliceData,#[x],B⟩ o.type).run Y.P w= .ok {target:= .builtin .unsafeSliceData B o.type (#[x].map fun| .const _=>true|_=>false),args:= #[x].map a.eval} w:=rfl
    simp only[execOp,r,uC,e1,uA,invoke,builtin];have e3:(#[x].map a.eval)= #[a.eval x]:=sm;rw[e3];simp only[C,uA,uD]
   split at j
   .rename_i q1 q2 q3 m;simp at j;subst j;rw[m]at l;generalize a.eval x=ux at l f;cases l;exact A _ .pn (f _ (Lib.run_unsafeSliceData_nil w _ _ _ _))
   .rename_i id off len q1 q2 m;split at j
    .cases j
    rename_i a5;simp at j;subst j;rw[m]at l;generalize a.eval x=ux at l f
    cases l with
    |sls _ _ _ _ _ y a3 a1 hl E ha hn K=>
     exact A _ (.ps id off y a1 (λO=>ha O om)) (f _ (Lib.run_unsafeSliceData_row w _ _ _ _ _ om))
   .cases j
  .cases j
 .rename_i t x r;split at j
  .rename_i n e cs K m;split at j
   .rename_i te X;simp at j;subst j;obtain⟨ti,a0,N⟩:=XG K;obtain⟨i,d,z,ht⟩:=H.ty t ti a0;obtain⟨ie,de,ze,L⟩:=H.ty e te X;have F:=ht.kd;rw[N]at F;obtain⟨rfl,_⟩:=F;have l:=h.ev x;rw[m]at l;have f: ∀ad,a.eval x= .pointer (some ad)->(execOp a.eval o).run Y.P w= .ok (.value (.slice (some ad) n n)) w:=by
     intro ad a2;have e1:(Instr.sliceAt t (.pointer (some ad)) none none none).run Y.P w= .ok (.slice (some ad) n n) w:=by
      simp only[Instr.sliceAt,Instr.sureAddr,uC,Zg ht.und,uA,Instr.sliceBounds,uD,ZV L.info];by_cases hn:n=0
      .subst hn;rfl
      .rw[uE hn,Nat.zero_mul];have:ad.add 0=ad:=by unfold Addr.add;simp
       rw[this];rfl
     simp only[execOp,r,a2,Option.map_none,uC,e1,uA,uD]
    generalize C:a.eval x=u at l
    cases l with
    |tpn ad=>exact A _ (.tsn _ _ _ _ (Nat.le_refl _) (λc E=>by simpa using E)) (f ad C)
    |tp _ blk off c e' fr us j E hr=>exact A _ (.ts _ _ _ _ blk off c e' fr us (Nat.le_refl _) (λc E=>by simpa using E) j E hr) (f _ C)
   .cases j
  .cases j
 .cases j
theorem Zys(P:Program){t e:TypeId}(d:P.underlying t=some (.slice e))(u:Option Addr)(l c:Nat)(n:Nat)(w:World):(Op.equalIn (n+1) t (.slice u l c) (.slice none 0 0)).run P w= .ok u.isNone w:=by
 cases u<;>simp only[Op.equalIn,uC,Zg d,uA,uD]<;>rfl
theorem Zg8(P:Program){t e:TypeId}(d:P.underlying t=some (.slice e))(u:Option Addr)(l c:Nat)(w:World):(Op.equal t (.slice u l c) (.slice none 0 0)).run P w= .ok u.isNone w:=Zys P d u l c 9999 w
theorem ZDm(hY:YOK Y)(h:Rel W σ a w){o:Oper}{n:Nat}{k:Bool}(j:nilT Y σ o=some (n,k)):StepR Y W σ a w o (putV σ o.dst (.b k))\/(n=0/\StepR Y W σ a w o (putV σ o.dst (.b !k))):=by
 have D: ∀b,(execOp a.eval o).run Y.P w= .ok (.value (.bool b)) w->StepR Y W σ a w o (putV σ o.dst (.b b)):=λb f=>
  ⟨W,w, .bool b,_,f, .inl rfl,h.putV (.b b) o.dst,(Stp.refl W _ w).weaken λx B=>Xq (.b b) o.dst B⟩
 unfold nilT at j;split at j
 .rename_i op t x y z C;split at j
  .rename_i e cs m c q1 q2 q3 hk a0 Z;obtain⟨ti,N,F⟩:=XG hk;obtain⟨i,d,zz,ht⟩:=hY.ty t ti N;have v:=ht.kd;rw[F]at v;cases v;have l:=ht.und;have B:=h.ev x;have X:=h.ev y;rw[a0]at B;rw[Z]at X;generalize u:a.eval x=K at B;generalize A:a.eval y=L at X;have G: ∃r:Bool,(r=true->m=0)/\((binOp .eql t K L).run Y.P w= .ok (.bool r) w/\(binOp .neq t K L).run Y.P w= .ok (.bool (!r)) w)/\ ∀g,(eqGuard g t x y K L).run Y.P w= .ok () w:=by
    cases X
    cases B with
    |tsn len cap ad E hl hc=>
     refine⟨false,(λH=>Bool.noConfusion H),?_,λg=>by cases g<;>rfl⟩
     exact⟨by simp only[binOp,uC,Zg8 Y.P l,uA,uD];rfl,by simp only[binOp,uC,Zg8 Y.P l,uA,uD];rfl⟩
    |tsz cap hc=>
     refine⟨true,λ_=>rfl,?_,λg=>by cases g<;>rfl⟩
     exact⟨by simp only[binOp,uC,Zg8 Y.P l,uA,uD];rfl,by simp only[binOp,uC,Zg8 Y.P l,uA,uD];rfl⟩
    |ts cs len cap E blk off c e fr us hl a1 j hc hr=>
     refine⟨false,(λH=>Bool.noConfusion H),?_,λg=>by cases g<;>rfl⟩
     exact⟨by simp only[binOp,uC,Zg8 Y.P l,uA,uD];rfl,by simp only[binOp,uC,Zg8 Y.P l,uA,uD];rfl⟩
   obtain⟨r,hr,⟨he,O⟩,hg⟩:=G;split at j
   .simp only[uB,uL]at j;obtain⟨rfl,rfl⟩:=j;have f:=D r (by simp only[execOp,C,u,A,uC,hg,he,uA,uD])
    cases r with
    |false=>exact .inl f
    |true=>exact .inr ⟨hr rfl,f⟩
   .simp only[uB,uL]at j;obtain⟨rfl,rfl⟩:=j;have f:=D (!r) (by simp only[execOp,C,u,A,uC,hg,O,uA,uD])
    cases r with
    |false=>exact .inl f
    |true=>exact .inr ⟨hr rfl,f⟩
   .cases j
  .cases j
 .cases j
theorem Zd2(l:YOK Y){t e:TypeId}(h:Zep Y t e=true):Y.P.underlying t=some (.pointer e):=by
 unfold Zep at h;split at h
 .rename_i e' k;obtain⟨m,f,g⟩:=XG k;obtain⟨i,d,z,j⟩:=l.ty t m f;have c:=j.kd;rw[g]at c;have:e'=e:=by simpa using h
  subst this;cases c;exact j.und
 .cases h
theorem ZBn{t:TypeId}(h:isU Y t=true):Y.P.underlying t=some .unsafePointer:=by
 unfold isU at h;split at h
 .assumption
 .cases h
theorem Zt0{P:Program}{e:TypeId}{s cells:Nat}(f:P.cellsOf e=s)(g:s≠0)(h:s<=cells):liesAt P P.depth e (cells / P.cellsOf e) 0 e 1=true:=by
 have d:P.depth=(2*(P.types.size+Made.depth)+1)+1:=rfl;rw[d];simp only[liesAt,uS]
 left
 rw[d];have c:1<=cells / s:=(Nat.le_div_iff_mul_le om).2 om;simp[rowAt,f,g,sameLayout,c]
theorem Zdt{P:Program}(w:World){tp e:TypeId}{j:TypeInfo}(a:Addr)(hp:P.underlying tp=some (.pointer e))(c:P.info? e=some j):
  (binOp .eql tp (.pointer (some a)) (.pointer (some a))).run P w= .ok (.bool true) w:=by
 have h: ∀d:Nat,(Op.equalIn (d+1) tp (.pointer (some a)) (.pointer (some a))).run P w= .ok true w:=λd=>by
  simp[Op.equalIn,run_underlying hp,sizeOf,typeInfo,c,run_sameAddr_same]
 simp only[binOp];simp[Op.equal,Op.maxDepth,h 9999]
theorem Zai{P:Program}(w:World): ∀(l:List Int) (a:Addr) (c:ByteArray),(∀j x,l[j]? =some x->w.cell? (a.add j)=some (.int .u8 x))->
  (loadBytes a c l.length).run P w= .ok ⟨c.data++(l.map λn=>n.toNat.toUInt8).toArray⟩ w
 | [],a,c,_=>by simp[loadBytes]
 |x::l,a,c,h=>by
  have k:w.cell? a=some (.int .u8 x):=by
   have:=h 0 x rfl;simpa[Addr.add]using this
  have f:=Zai (P:=P) w l (a.add 1) (c.push x.toNat.toUInt8) (λj y g=>by
   have:=h (j+1) y (by simpa using g);have e:(a.add 1).add j=a.add (j+1):=by
    unfold Addr.add;by_cases d:j=0
    .subst d;simp
    .simp[d];omega
   rw[e];exact this)
  simp only[List.length_cons,loadBytes,uC,run_load,k,Result.andThen];rw[f]
  congr 1
  apply ByteArray.ext;simp[ByteArray.push]
theorem Zcu{P:Program}(w:World)(o v ty e:TypeId)(hp:P.underlying o=some (.pointer e))(u:P.cellsOf e=1)(g cells:Nat)(t:w.shape? g=some (e,cells))(l:List Int)(z:l≠ [])(B:l.length<=cells)(A:l.length<=9223372036854775807)
  (d: ∀j x,l[j]? =some x->w.cell? ((⟨g,0,none⟩:Addr).add j)=some (.int .u8 x)):
  (Builtin.unsafeString_ #[o,v] ty #[.pointer (some ⟨g,0,none⟩), .int .i64 l.length]).run P w= .ok (.string ⟨(l.map λn=>n.toNat.toUInt8).toArray⟩) (w.freeze ⟨g,0,none⟩ l.length):=by
 have y:l.length≠0:=by simpa using z
 have r:=Zai (P:=P) w l ⟨g,0,none⟩ .empty d;have c:=Lib.liesAt_bytes (P:=P) u (cells / P.cellsOf e) l.length (by rw[u];simpa using B);have f: ¬(9223372036854775807:Int)<(l.length:Int):=om;have k:Builtin.unsafeString_ #[o,v] ty #[.pointer (some ⟨g,0,none⟩), .int .i64 l.length]=
   (do
    let n<-asInt (.int .i64 l.length)
    if n<0 then runtimePanic (.error "unsafe.String: len out of range")
    if n>IntKind.i64.max then unsupported (.unsafePointer "String: a length above the largest int")
    if n=0 then pure (.string .empty)
    else if<-variablesAt ⟨g,0,none⟩ (<-elemOf o) n.toNat then do
     let s<-loadBytes ⟨g,0,none⟩ .empty n.toNat
     freeze ⟨g,0,none⟩ n.toNat
     pure (.string s)
    else unsupported (.unsafePointer "String: not so many bytes at ptr")):=rfl
 rw[k];have m:IntKind.i64.max=9223372036854775807:=rfl;have h: ¬(l.length:Int)<0:=om;simp[asInt,asIntOf,m,f,h,y,variablesAt,t,elemOf,run_underlying hp,c,r]
theorem HRel.freezeAll{h:Heap}(hr:HRel W h w){g:Nat}{f:List V}{wr:Bool}{e:TypeId}(G:h.get g=some (.arr f wr))(L:h.tagOf g=some e)(N:f≠ []):
  HRel W (h.set g (some (.arr f false))) (w.freeze ⟨(W.mu g).1,0,none⟩ f.length)/\Stp W W.own w W W.own (w.freeze ⟨(W.mu g).1,0,none⟩ f.length):=by
 have m:W.lv g:=(hr.lv g).2 (by simp[G]);obtain⟨c,H,fr,t,h2,v,K,C⟩:=hr.obj g _ G;obtain⟨F,c2,P,y,g3,g4⟩:=(hr.tg _ (We L)).2 m;rw[t]at y;simp only[uB,Obj.cells.injEq]at y;obtain⟨rfl,rfl,rfl⟩:=y;have u:f.length≠0:=by simpa using N
 have Z:=Zt t
 let d:Nat×Nat:=if fr.1==fr.2 then(0,0+f.length)else(min fr.1 0,max fr.2 (0+f.length))
 have E:(w.freeze ⟨(W.mu g).1,0,none⟩ f.length).heap[(W.mu g).1]? =some (.cells c H d):=by
  unfold World.freeze;rw[uE u];simp only[Array.getElem?_modify,vG,t,uw]
  rfl
 have X: ∀x,x≠(W.mu g).1->(w.freeze ⟨(W.mu g).1,0,none⟩ f.length).heap[x]? =w.heap[x]? :=by
  intro x B;unfold World.freeze;rw[uE u];simp only[Array.getElem?_modify];rw[uE (λe=>B e.symm)]
 have A:(w.freeze ⟨(W.mu g).1,0,none⟩ f.length).heap.size=w.heap.size:=by
  unfold World.freeze;rw[uE u];simp
 have o:Str w (w.freeze ⟨(W.mu g).1,0,none⟩ f.length):=by
  unfold World.freeze;rw[uE u];exact⟨rfl,rfl,rfl⟩
 have l:d.1<=d.2/\d.2<=c.size/\ ∀j,f.length<=j->j<c.size-> ¬(d.1<=j/\j<d.2):=by
  rw[F]at v C;simp only[uJ]at v C;by_cases D:fr.1=fr.2
  .have:d=(0,f.length):=by simp[d,D]
   rw[this];exact⟨Nat.zero_le _,v,λj r _=>by simp;omega⟩
  .have:d=(0,max fr.2 f.length):=by simp[d,D]
   rw[this];refine⟨Nat.zero_le _,by simp;omega,λj r n B=> ?_⟩;simp only[Nat.zero_le,true_and]at B;have O:j<fr.2:=om;have k:(if wr=true then 0 else f.length)<=fr.2-1:=by split<;>omega
   exact C (fr.2-1) k om ⟨om,om⟩
 refine hr.write o m X A ?_ ?_
 .intro c0 e0 a0 z q2 q3;rw[t]at z;simp only[uB,Obj.cells.injEq]at z;obtain⟨rfl,rfl,rfl⟩:=z;exact⟨_,_,E,l.1,l.2.1⟩
 .refine⟨c,H,d,E,h2,v,K,λj r n=> ?_⟩;simp only[uI,vF]at r;rw[F,uJ]at r;exact l.2.2 j r n
theorem ZDn(hY:YOK Y)(h:Rel W σ a w){o:Oper}{v}{h':Heap}(f:exoH Y σ o=some (h',v)):StepR Y W σ a w o (putV {σ with h:=h'} o.dst v):=by
  have same: ∀u,VR W v u->(execOp a.eval o).run Y.P w= .ok (.value u) w->h'=σ.h->StepR Y W σ a w o (putV {σ with h:=h'} o.dst v):=λu Z g he=>by
    subst he;exact StepR.heap h h.heap (Stp.refl W _ w) Z g (.inl rfl)
  unfold exoH at f;split at f
  · rename_i t x D
    split at f
    · rename_i n e F off hk a5
      split at f
      · rename_i te cs wr a8 L
        split at f
        · rename_i N
          simp only[uB,uL]at f;obtain⟨rfl,rfl⟩:=f;obtain⟨ti,K,a6⟩:=XG hk;obtain⟨i,d,z,ht⟩:=hY.ty t ti K;obtain⟨ie,de,ze,a1⟩:=hY.ty e te a8;have b7:=ht.kd;rw[a6]at b7;obtain⟨rfl,_⟩:=b7;have E:=h.ev x;rw[a5]at E;have g: ∀ad,a.eval x= .pointer (some ad)->(execOp a.eval o).run Y.P w= .ok (.value (.slice (some ad) n n)) w:=by
            intro ad e0;have G:(Instr.sliceAt t (.pointer (some ad)) none none none).run Y.P w= .ok (.slice (some ad) n n) w:=by
              simp only[Instr.sliceAt,Instr.sureAddr,uC,Zg ht.und,uA,Instr.sliceBounds,uD,ZV a1.info];by_cases hn:n=0
              · subst hn;rfl
              · rw[uE hn,Nat.zero_mul]
                have:ad.add 0=ad:=by unfold Addr.add;simp
                rw[this];rfl
            simp only[execOp,D,e0,Option.map_none,uC,G,uA,uD]
          generalize Z:a.eval x=u at E
          cases E with
          |ps _ _ ad X ha=>
            refine same _ (.sls F off n (some n) te.size ad n X (Nat.le_refl _) (λc N=>by simpa using N) (λr _=>ha r) (λ_ hn=>by cases hn) (λr=> ?_)) (g ad Z) rfl;obtain⟨c,G,fr,h1,h2,h3,_⟩:=h.heap.obj F _ L;omega
        · cases f
      · cases f
    · cases f
  · rename_i d0 d9 x D
    split at f
    · rename_i F a5
      split at f
      · rename_i cs wr t L ht
        split at f
        · rename_i ti K
          split at f
          · rename_i N
            obtain⟨h0,e7,N⟩:=N;simp only[uB,uL]at f;obtain⟨rfl,rfl⟩:=f;have E:=h.ev x;rw[a5]at E;have r:W.lv F:=(h.heap.lv F).2 (by simp[L]);obtain⟨c,G,fr,H,h2,h3,_⟩:=h.heap.obj F _ L;obtain⟨g1,c2,d6,g2,g3,g4⟩:=(h.heap.tg _ (We ht)).2 r;rw[H]at g2;simp only[uB,Obj.cells.injEq]at g2;obtain⟨rfl,rfl,rfl⟩:=g2;obtain⟨i,d,z,k⟩:=hY.ty G ti K;have a3:w.shape? (W.mu F).1=some (G,c.size):=by simp[World.shape?,H]
            have d5:ti.size<=c.size:=om;generalize Z:a.eval x=u at E
            cases E with
            |ps _ _ ad X ha=>
              have O:=ha r;have C:ad=⟨(W.mu F).1,0,none⟩:=by rw[O];unfold Vw.at;rw[g1]
              refine same (.pointer (some ad)) (.ps _ _ _ X ha) ?_ rfl;simp only[uS,uH]at N;have g:(convert d0 d9 (.pointer (some ad))).run Y.P w= .ok (.pointer (some ad)) w:=by
                rcases N with ⟨c1,c2⟩|⟨c1,c2⟩
                · exact Lib.run_to_unsafe w ad (Zd2 hY c1) (ZBn c2) k.info (by rw[k.size];exact h0) (by rw[C];exact a3) (by rw[C];simp;omega)
                · refine Lib.run_from_unsafe w ad (ZBn c1) (Zd2 hY c2) k.info (by rw[C];exact a3) ?_
                  rw[C];exact Zt0 (P:=Y.P) (s:=ti.size) (by rw[<-k.size];unfold Program.cellsOf;simp[k.info]) h0 d5
              simp only[execOp,D,Z,uC,g,uA,uD]
          · cases f
        · cases f
      · cases f
    · cases f
  · rename_i op t x y z D
    split at f
    · rename_i p1 p2 e b0 c9 hk
      split at f
      · rename_i N
        obtain⟨rfl,a7,d3⟩:=N;have E:=h.ev x;have hy:=h.ev y;rw[b0]at E;rw[c9]at hy;have r:W.lv p1.1:=(h.heap.lv _).2 a7;obtain⟨te,a8⟩:=Option.isSome_iff_exists.1 d3;obtain⟨ie,de,ze,a1⟩:=hY.ty e te a8;have a0:Y.P.underlying t=some (.pointer e):=Zd2 hY (by simp[Zep,hk]);generalize b1:a.eval x=ux at E;generalize b9:a.eval y=uy at hy
        cases E with
        |ps _ _ ax e4 c8=>
          cases hy with
          |ps _ _ ay e5 c6=>
            have G:=c8 r;have e2:=c6 r;subst G;subst e2;have L: ∀a9 (A:Addr),(eqGuard a9 t x y (.pointer (some A)) (.pointer (some A))).run Y.P w= .ok () w:=λa9 A=>by cases a9<;>rfl
            split at f
            · simp only[uB,uL]at f
              obtain⟨rfl,rfl⟩:=f;refine same _ (.b true) ?_ rfl;simp only[execOp,D,b1,b9,uC,L,Zdt w _ a0 a1.info,uA,uD]
            · simp only[uB,uL]at f
              obtain⟨rfl,rfl⟩:=f;refine same _ (.b false) ?_ rfl;simp only[execOp,D,b1,b9,uC,L,Lib.run_neq_ptr_same w _ a0 a1.info,uA,uD]
            · cases f
      · cases f
    · cases f
  · rename_i a4 d2 D
    split at f
    · rename_i x n pt it c5 c7
      have c4:a4= #[x,n]:=by apply Array.ext';simpa using c5
      have b4:d2= #[pt,it]:=by apply Array.ext';simpa using c7
      subst c4 b4;have g: ∀u w',(Builtin.unsafeString_ #[pt,it] o.type #[a.eval x,a.eval n]).run Y.P w= .ok u w'->(execOp a.eval o).run Y.P w= .ok (.value u) w':=by
        intro u w' Z;have G:(resolve a.eval ⟨.builtin .unsafeString,#[x,n],#[pt,it]⟩ o.type).run Y.P w= .ok {target:= .builtin .unsafeString #[pt,it] o.type (#[x,n].map fun| .const _=>true|_=>false),args:= #[x,n].map a.eval} w:=rfl
        simp only[execOp,D,uC,G,uA,invoke,builtin];have e3:(#[x,n].map a.eval)= #[a.eval x,a.eval n]:=sm;rw[e3];simp only[Z,uA,uD]
      split at f
      · rename_i p m b0 d1
        have E:=h.ev x;have hn:=h.ev n;rw[b0]at E;rw[d1]at hn;generalize b1:a.eval x=ux at E g;generalize a2:a.eval n=un at hn g;cases hn;split at f
        · rename_i hm
          simp only[uB,uL]at f;obtain⟨rfl,rfl⟩:=f;subst hm;have b6:VR W (.s []) (.string .empty):= .s []
          cases E with
          |pn=>exact same _ b6 (g _ _ (Lib.run_unsafeString_none w pt it o.type none)) rfl
          |ps F off ad X ha=>exact same _ b6 (g _ _ (Lib.run_unsafeString_none w pt it o.type (some ad))) rfl
        · rename_i hm
          split at f
          · rename_i F
            split at f
            · rename_i cs wr t L ht
              split at f
              · rename_i hk
                split at f
                · rename_i N
                  obtain⟨a0,b2,d7⟩:=N;simp only[uG,uL]at f;obtain⟨l,hl,rfl,rfl⟩:=f;have r:W.lv F:=(h.heap.lv F).2 (by simp[L]);obtain⟨c,G,fr,H,h2,h3,h4,_⟩:=h.heap.obj F _ L;obtain⟨g1,c2,d6,g2,g3,g4⟩:=(h.heap.tg _ (We ht)).2 r;rw[H]at g2;simp only[uB,Obj.cells.injEq]at g2;obtain⟨rfl,rfl,rfl⟩:=g2;rw[g1,uJ]at h3;rw[g1]at h4;simp only[uJ]at h4;have b3:cs≠ []:=by intro he;subst he;simp at b2;exact hm b2
                  obtain⟨ti,K,a6⟩:=XG hk;obtain⟨i,d,z,k⟩:=hY.ty G ti K;have b5:ti.size=1:=k.one (by rw[a6];rfl);have d4:Y.P.cellsOf G=1:=by rw[<-b5,<-k.size];unfold Program.cellsOf;simp[k.info]
                  have a3:w.shape? (W.mu F).1=some (G,c.size):=by simp[World.shape?,H]
                  -- the cells, as values
                  have d8:VRs W cs ((c.toList).take cs.length):=by
                    refine VRs.of_get (by simp;omega) λj v u hv Z=> ?_;obtain⟨u',q1,q2⟩:=h4 j v hv;have hj:=(List.getElem?_eq_some_iff.1 hv).1;rw[List.getElem?_take_of_lt hj]at Z;have:u=u':=by
                      have:c[j]? =some u:=by simpa using Z
                      rw[q1]at this;simpa using this.symm
                    rw[this];exact q2
                  obtain⟨ns,b8,rfl⟩:=Zcr d8 hl;have B:ns.length=cs.length:=by
                    have:=congrArg List.length b8;simp at this;omega
                  cases E with
                  |ps _ _ ad X ha=>
                    have O:ad=⟨(W.mu F).1,0,none⟩:=by rw[ha r];unfold Vw.at;rw[g1]
                    subst O;have a2:=Zcu (P:=Y.P) w pt it o.type G (Zd2 hY a0) d4 (W.mu F).1 c.size a3 ns (by intro he;subst he;exact b3 (List.eq_nil_of_length_eq_zero B.symm)) om
                      (by have:most=1099511627776:= dc;omega) (λj n hj=>by
                        have e6:=(List.getElem?_eq_some_iff.1 hj).1;have:((c.toList).take cs.length)[j]? =some (.int .u8 n):=by rw[b8];simp[hj]
                        rw[List.getElem?_take_of_lt om]at this;rw[Wb,uJ];simp only[World.cell?,H];simpa using this)
                    rw[show((ns.length:Int))=m by rw[b2,B]]at a2;obtain⟨r1,r2⟩:=h.heap.freezeAll L ht b3;rw[B]at a2;exact StepR.heap h r1 r2 (.s _) (g _ _ a2) (.inl rfl)
                · cases f
              · cases f
            · cases f
          · cases f
      · cases f
    · cases f
  · cases f
end
structure PushH(h h':Heap)(i:Nat)(o:YObj):Prop where
 raw: ∀j,h'.raw j=if j=i then some (some o)else h.raw j
 nx:h.nx<=h'.nx∧i<h'.nx
 tg:h'.tg=h.tg
section
variable {Y:YP} {W W':Vw} {σ σ':St} {a:Act} {w w':World}
theorem HRel.newRowAt{h f}(hr:HRel W h w){i:Nat}(l: ¬W.kn i){k}{c:List Value}(g:VRs W k c)(e:TypeId)(hp:PushH h f i (.arr k true)):
  HRel (W.push i w.heap.size c.length) f (w.alloc (.cells c.toArray e))/\Stp W W.own w (W.push i w.heap.size c.length) (W.push i w.heap.size c.length).own (w.alloc (.cells c.toArray e)):=by
 refine hr.pushAt l (ob:= .cells c.toArray e) ⟨rfl,rfl,rfl⟩ (Zcp _ _) sm (JJ _ _) hp.raw hp.nx hp.tg ?_;have o:=g.length;refine⟨c.toArray,e,(0,0),by simpa[Vw.push]using JJ w (.cells c.toArray e),by simp[Vw.push],by simp[Vw.push];omega,λj v m=> ?_,λj _ _=>sm⟩;obtain⟨u,n,d⟩:=g.get m;exact⟨u,by simpa[Vw.push]using n,d.mono (W.push_le l _ _)⟩
theorem Znf(hY:YOK Y)(h:Rel W σ a w){o:Oper}{x:YObj}{vf:Nat->V}(f:newO Y σ o=some (x,vf)){i:Nat}(hi: ¬W.kn i){h'}(hp:PushH σ.h h' i x):
  StepR Y W σ a w o (putV {σ with h:=h'} o.dst (vf i)):=by
 unfold newO at f;split at f
 .rename_i t xl xc g;split at f
  .rename_i et kl l kc c hk hl y;split at f
   .rename_i r O;split at f
    .rename_i N;simp only[uB,uL]at f;obtain⟨rfl,rfl⟩:=f;obtain⟨ti,a0,L⟩:=XG hk;obtain⟨ii,d,z,ht⟩:=hY.ty t ti a0;have v:=ht.kd;rw[L]at v;cases v;obtain⟨X,de,ze,e⟩:=hY.ty et r O;obtain⟨i0,i1,i2,i3,i4⟩:=N;have K:=(e.zr W).length;have B:=e.zl;have n:ze.cells.size=r.size:=by rw[<-Array.length_toList,<-K,B]
     have m:=Zbh (e.zr W) c.toNat;obtain⟨H,G⟩:=h.heap.newRowAt hi m et hp;have Z:((List.range (c.toNat*ze.cells.size)).map λi=>ze.cells[i % ze.cells.size]!).length=c.toNat*r.size:=by simp[n]
     simp only[Z]at H G;have D:VR (W.push i w.heap.size (c.toNat*r.size)) (.sl (some (i,0)) l.toNat (some c.toNat) r.size) (.slice (some ⟨w.heap.size,0,none⟩) l.toNat c.toNat):=by
      refine .sls _ _ _ _ _ _ _ (.inr rfl) om (λc' y=>by simpa using y) (λ_ _=> ?_) (λ_ y=>nomatch y) (λ_=> ?_)
      .simp[Vw.at,Vw.push]
      .simp[Vw.push]
     refine StepR.heap h H G D ?_ (.inl rfl);have j:=h.ev xl;have k:=h.ev xc;rw[hl]at j;rw[y]at k;generalize E:a.eval xl=ul at j;generalize A:a.eval xc=uc at k;cases j;cases k;have hb:(X.bytes:Int)*c<=281474976710656:=by
      rw[e.bytes,Int.mul_comm];have:(most:Int)<=281474976710656:=dc;omega
     have C:c<=9223372036854775807:=by
      have:(most:Int)<=9223372036854775807:=dc;omega
     have F:=run_make (P:=Y.P) w t et X ze ht.und e.info e.zero kl kc l c i1 i2 hb C;have Zb:madeCells ze.cells (c.toNat*X.size)=((List.range (c.toNat*ze.cells.size)).map λi=>ze.cells[i % ze.cells.size]!).toArray:=by
      rw[<-Vc,madeCells,e.size,n]
     simp only[execOp,g,E,A,uC,F,uA,uD,Zb]
    .cases f
   .cases f
  .cases f
 .rename_i t g;simp only[uB,uL]at f;obtain⟨rfl,rfl⟩:=f;obtain⟨H,G⟩:=h.heap.pushAt (w':=w.alloc (.map #[] 0)) hi (ob:= .map #[] 0) (sz:=0) ⟨rfl,rfl,rfl⟩ (Zcp _ _) sm (JJ _ _) hp.raw hp.nx hp.tg
   ⟨#[],0,by simpa[Vw.push]using JJ w (.map #[] 0), .nil, .nil⟩
  refine StepR.heap h H G (u:= .map (some w.heap.size)) (.mps _ _ (.inr rfl) (λ_=>by simp[Vw.push])) ?_ (.inl rfl);have e1:(newObj (.map #[] 0)).run Y.P w= .ok w.heap.size (w.alloc (.map #[] 0)):=rfl;simp only[execOp,g,Option.map_none,Instr.makeMap,uC,uD,e1,uA]
 .cases f
theorem PushH.push(h:Heap)(o:YObj):PushH h (h.push o) h.nx o:=⟨λj=>sm,sm,rfl⟩
end
def PlainD:Kd->TypeDesc->Prop
 | .int k,d=>d= .int k
 | .str,d=>d= .string
 | .bool,d=>d= .bool
 |_,_=>False
theorem ZHy{Y}{t:TypeId}{c:Kd}{d:TypeDesc}(h:KdOK Y t c d)(hp:WZ c=true):PlainD c d:=by
 cases c<;>first|exact h|cases hp
theorem Zkk(j:IntKind)(a:Int):Instr.sameBits 10000 (.int j a) (.int j a)=true:=by simp[Instr.sameBits]
theorem ZHz(x y:Array UInt8):((⟨x⟩:ByteArray)==⟨y⟩)=(x==y):=rfl
theorem Zkl(a:ByteArray):Instr.sameBits 10000 (.string a) (.string a)=true:=by
 have:(a==a)=true:=by cases a;rw[ZHz];simp
 simp[Instr.sameBits,this]
theorem Ziv(a:Bool):Instr.sameBits 10000 (.bool a) (.bool a)=true:=by simp[Instr.sameBits]
theorem ZDo{W}{l:Kd}{d:TypeDesc}(f:PlainD l d){k e:V}{u j:Value}{r:Bool}(h:Wx l k e=some r)(g:VR W k u)(c:VR W e j):
  Instr.sameNow d u j=some r/\(r=true->Instr.sameBits 10000 j u=true):=by
 unfold Wx at h;split at h
 .simp only[uB]at h;subst h;cases g;cases c;cases f;refine⟨rfl,λh=> ?_⟩;have:=eq_of_beq h;subst this;exact Ziv _
 .split at h
  .rename_i m;simp only[uB]at h;subst h m;cases g;cases c;cases f;refine⟨by simp[Instr.sameNow],λh=> ?_⟩;have:=eq_of_beq h;subst this;exact Zkk _ _
  .cases h
 .rename_i x y;simp only[uB]at h;subst h;cases g;cases c;cases f;have n:((⟨x.toArray⟩:ByteArray)==⟨y.toArray⟩)=(x==y):=by rw[ZHz];simp
  refine⟨by simp only[Instr.sameNow,n],λh=> ?_⟩;have:=eq_of_beq h;subst this;exact Zkl _
 .cases h
theorem Zkm{c:Kd}(hp:WZ c=true)(k e:V):Zeo c k e=Wx c k e:=by
 cases c<;>first|rfl|cases hp
theorem PlainD.kind{c:Kd}{d:TypeDesc}(e:PlainD c d):WZ c=true:=by
 cases c<;>first|rfl|exact e.elim
theorem ZBo{W}{f:Kd}{d:TypeDesc}(z:PlainD f d){k v}{u x:Value}(D:VR W k u)(F:VR W v x): ∀(c:List (V×V)) (m:List MapEntry) (i:Nat),VRs W (c.map (·.1)) (m.map (·.key))->VRs W (c.map (·.2)) (m.map (·.val))->Xa f k c=true->
  (XT f k c=none/\Instr.findNow d u m i=some none/\Xv f k v c=c++ [(k,v)])\/
  ∃j e t,XT f k c=some t/\VR W t e.val/\m[j]? =some e/\Instr.findNow d u m i=some (some (i+j,e.val))/\Instr.sameBits 10000 e.key u=true/\
   VRs W ((Xv f k v c).map (·.1)) ((m.modify j λe=> {e with key:=u,val:=x}).map (·.key))/\VRs W ((Xv f k v c).map (·.2)) ((m.modify j λe=> {e with key:=u,val:=x}).map (·.val))
 | [],m,i,l,_,_=>by
  cases m with
  |nil=>exact .inl ⟨rfl,rfl,rfl⟩
  |cons e m=>cases l
 |e::c,m,i,l,G,hp=>by
  cases m with
  |nil=>cases l
  |cons e' m=>
   simp only[List.map_cons]at l G
   cases l with|cons _ _ _ _ n h=>
   cases G with|cons _ _ _ _ o g=>
   simp only[Xa,uH]at hp;obtain⟨r,hr⟩:=Option.isSome_iff_exists.1 hp.1;have C:Wx f k e.1=some r:=by rw[<-Zkm z.kind];exact hr
   obtain⟨y,L⟩:=ZDo z C D n
   cases r with
   |true=>
    refine .inr ⟨0,e',e.2,?_,o,rfl,?_,L rfl,?_,?_⟩
    .simp[XT,Jk,hr]
    .simp[Instr.findNow,y]
    .simp only[Xv,Jk,hr,vG,List.map_cons,List.modify_zero_cons];exact .cons _ _ _ _ D h
    .simp only[Xv,Jk,hr,vG,List.map_cons,List.modify_zero_cons];exact .cons _ _ _ _ F g
   |false=>
    rcases ZBo z D F c m (i+1) h g hp.2 with ⟨B,A,E⟩|⟨j,K,t,B,A,E,P,H,N,O⟩
    .refine .inl ⟨by simp[XT,Jk,hr,B],by simp[Instr.findNow,y,A],by simp[Xv,Jk,hr,E]⟩
    .refine .inr ⟨j+1,K,t,by simp[XT,Jk,hr,B],A,by simpa using E,?_,H,?_,?_⟩
     .simp only[Instr.findNow,y,P];rw[show i+1+j=i+(j+1) from om]
     .simp only[Xv,Jk,hr,uI,vF,List.map_cons,List.modify_succ_cons];exact .cons _ _ _ _ n N
     .simp only[Xv,Jk,hr,uI,vF,List.map_cons,List.modify_succ_cons];exact .cons _ _ _ _ o O
section
variable {Y:YP} {W W':Vw} {σ σ':St} {a:Act} {w w':World}
theorem Zng{P:Program}{r:Nat}{c:Array MapEntry}{k:Nat}(h:w.heap[r]? =some (.map c k)):(getObj r).run P w= .ok (.map c k) w:=by simp[getObj,Sem.run,h]
theorem ZDp{P:Program}{r:Nat}{c:Array MapEntry}{k:Nat}(o:Obj)(h:w.heap[r]? =some (.map c k)):(setObj r o).run P w= .ok () (w.putB r o):=by simp[setObj,Sem.run,h,World.putB]
theorem Zkn: ∀l:List UInt8,VRs W (l.map λc=>V.i .u8 c.toNat) (l.map λc=>Value.int .u8 c.toNat)
 | []=> .nil
 |_::l=> .cons _ _ _ _ (.i _ _) (Zkn l)
theorem Zko{P:Program}{b:Bool}{t:TypeId}{d:TypeDesc}(f:P.underlying t=some d){e:Kd}(c:PlainD e d)(u:Value)(w:World):(Instr.checkKey b 10000 t u).run P w= .ok () w:=by
 have: ∀n,(Instr.checkKey b (n+1) t u).run P w= .ok () w:=λn=>by
  simp only[Instr.checkKey,uC,run_underlying f,uA];cases e<;>simp only[PlainD]at c<;>first|exact c.elim|(subst c;rfl)
 exact this 9999
theorem Zew{P:Program}{t:TypeId}{d:TypeDesc}(c:P.underlying t=some d){u:Value}{m:List MapEntry}{r:Option (Nat×Value)}(h:Instr.findNow d u m 0=some r)(w:World):(Instr.findKey t u m).run P w= .ok r w:=by
 simp only[Instr.findKey,uC,run_underlying c,uA,h,uD]
/-! ### Arrays of whole numbers as keys -/
theorem Zat: ∀ {c d:List V} {r:Bool},Qf c d=some r-> ∀ {x:V},x∈c-> ∃j a,x= .i j a
 | [],[],_,_,x,f=>by cases f
 |x::c,y::d,r,h,z,hz=>by
  cases x<;>cases y<;>simp only[Qf]at h<;>first|(cases h;done)|skip
  split at h
  .cases hr:Qf c d with
   |none=>rw[hr]at h;cases h
   |some q=>
    rcases List.mem_cons.1 hz with e|hz
    .exact⟨_,_,e⟩
    .exact Zat hr hz
  .cases h
 | [],y::d,_,h,_,_=>by simp[Qf]at h
 |x::c,[],_,h,_,_=>by cases x<;>simp[Qf]at h
theorem Zex{W} : ∀ {e d:List V} {c f:List Value},Qf e d=some true->VRs W e c->VRs W d f->c=f/\(c.zip c).all λp=>Instr.sameBits 9999 p.1 p.2
 | [],[],c,f,_,j,k=>by cases j;cases k;exact⟨rfl,rfl⟩
 |x::e,y::d,c,f,h,j,k=>by
  cases x<;>cases y<;>simp only[Qf]at h<;>first|(cases h;done)|skip
  split at h
  .rename_i t
   cases hr:Qf e d with
   |none=>rw[hr]at h;cases h
   |some q=>
    rw[hr]at h;simp only[uw,uB,uH]at h;obtain⟨m,rfl⟩:=h
    cases j with|cons _ z _ n o r=>
    cases k with|cons _ A _ l v u=>
    cases o;cases v;obtain⟨rfl,g⟩:=Zex hr r u;have:=eq_of_beq m;subst this t;refine⟨rfl,?_⟩;simp only[List.zip_cons_cons,List.all_cons,g,Bool.and_true];simp[Instr.sameBits]
  .cases h
 | [],y::d,_,_,h,_,_=>by simp[Qf]at h
 |x::e,[],_,_,h,_,_=>by cases x<;>simp[Qf]at h
theorem ZDq{c:List V}{s:Nat}{x:V}{l:List V}(h:c.drop s=x::l):Zr 1 (c.drop (s*1))=some [x]:=by
 rw[uY,h];rfl
theorem Zkp{c:List V}{s:Nat}{x:V}{l:List V}(h:c.drop s=x::l):c.drop (s+1)=l:=by
 rw[<-vH,h];rfl
theorem Zpi{m:TI}{e:TypeId}{ei:TypeInfo}{ed:TypeDesc}{ez:Value}(g:TIOK Y e m ei ed ez)(f:m.size=1){k0:IntKind}(z:m.kd= .int k0){E B}{C K:List Value}(D:VRs W E C)(H:VRs W B K)(n:Nat)(w:World):
  ∀(c d:List V) (s:Nat) (r:Bool),E.drop s=c->B.drop s=d->Qf c d=some r->(Wy (n+1) e m.size C.toArray K.toArray (List.range' s c.length)).run Y.P w= .ok r w
 | [],[],s,r,_,_,h=>by
  simp only[Qf,uB]at h;subst h;simp[Wy]
 |x::c,y::d,s,r,L,F,h=>by
  have v:=Zat h (List.mem_cons_self ..);obtain⟨j,a,rfl⟩:=v;cases y<;>simp only[Qf]at h<;>first|(cases h;done)|skip
  split at h
  .rename_i k b hj;subst hj
   cases hr:Qf c d with
   |none=>rw[hr]at h;cases h
   |some q=>
    rw[hr]at h;simp only[uw,uB]at h;obtain⟨ua,u',u,X,A⟩:=Va g D (off:=s*1) (l:= [.i j a]) (by rw[f];exact ZDq L);obtain⟨ub,Z,t,N,o⟩:=Va g H (off:=s*1) (l:= [.i j b]) (by rw[f];exact ZDq F);rw[z]at A o;simp only[Kd.agg,uI,vF]at A o;subst A o
    cases u with|cons _ _ _ _ u _=>
    cases t with|cons _ _ _ _ t _=>
    have O:(Op.equalIn (n+1) e u' Z).run Y.P w= .ok (a==b) w:=Zg0 g (x:= .i j a) (y:= .i j b) (by rw[z];simp[Wx]) u t n w;have G:=Zpi g f z D H n w c d (s+1) q (Zkp L) (Zkp F) hr;simp only[List.length_cons,List.range'_succ,Wy,f,uC,X,N,O,uA,Sem.run_ite];rw[f]at G;rw[<-h];cases a==b
    .simp
    .simpa using G
  .cases h
 | [],y::d,_,_,_,_,h=>by simp[Qf]at h
 |x::c,[],_,_,_,_,h=>by cases x<;>simp[Qf]at h
theorem Zt1{t e:TypeId}{len:Nat}{o:TI}{H:TypeInfo}{K:TypeDesc}{ez:Value}(Z:Y.P.underlying t=some (.array len e))(g:TIOK Y e o H K ez)(E:o.size=1){A:IntKind}(L:o.kd= .int A){d}{f:List Value}(z:VRs W d f)
  (G:d.length=len) (B: ∀x∈d,∃j a,x= .i j a) (b:Bool) (w:World):(Instr.checkKey b 10000 t (.agg f.toArray)).run Y.P w= .ok () w:=by
 have r:K= .int A:=by have:=g.kd;rw[L]at this;exact this
 have k:Y.P.underlying e=some (.int A):=by rw[<-r];exact g.und
 have y:H.size=1:=by rw[g.size];exact E
 have one: ∀i,i<len-> ∃m,(∀w,(part e f.toArray (i*1)).run Y.P w= .ok m w)/\ ∀n w,(Instr.checkKey b (n+1) e m).run Y.P w= .ok () w:=by
  intro i X;have c:i<d.length:=om;obtain⟨j,a,C⟩:=B d[i] (List.getElem_mem c);have N:d.drop i= .i j a::d.drop (i+1):=by rw[uM c,C]
  obtain⟨ua,m,h,u,D⟩:=Va g z (off:=i*1) (l:= [.i j a]) (by rw[E];exact ZDq N);rw[L]at D;simp only[Kd.agg,uI,vF]at D;subst D
  cases h with|cons _ _ _ _ h _=>
  cases h;refine⟨_,u,λn w=> ?_⟩;simp only[Instr.checkKey,uC,run_underlying k,uA]
  rfl
 have all: ∀(l:List Nat) (n:Nat) (w:World),(∀i∈l,i<len)->((forIn l PUnit.unit λi (_:PUnit)=>(do Instr.checkKey b (n+1) e (<-part e f.toArray (i*(<-sizeOf e)));pure (ForInStep.yield PUnit.unit):Sem (ForInStep PUnit))):Sem PUnit).run Y.P w= .ok PUnit.unit w:=by
  intro l
  induction l with
  |nil=>intro n w _;simp
  |cons i l O=>
   intro n w F;obtain⟨m,h,u⟩:=one i (F i (List.mem_cons_self ..));simp only[List.forIn_cons,uC,ZV g.info,uA,y,h,u,uD];exact O n w λx z=>F x (uv _ z)
 have v: ∀n,(Instr.checkKey b (n+2) t (.agg f.toArray)).run Y.P w= .ok () w:=λn=>by
  rw[Instr.checkKey];simp only[uC,run_underlying Z,uA,Std.Legacy.Range.forIn_eq_forIn_range',Std.Legacy.Range.size,Nat.sub_zero,Nat.add_sub_cancel,Nat.div_one];have:=all (List.range' 0 len) n w (λi B=>by rw[List.mem_range'_1]at B;omega);simp at this ⊢;rw[this];rfl
 exact v 9998
theorem Zyt(f:YOK Y){t:TypeId}{e}(h:Y.ty t=some e): ∃z,(∀w,(zeroValue t).run Y.P w= .ok z w)/\ ∀W,VR W (Zm2 Y t) z:=by
 obtain⟨i,d,z,c⟩:=f.ty t e h;refine⟨z,Qq c.info c.zero,λW=> ?_⟩;unfold Zm2;simp only[c.info,Option.bind_some,c.zero];exact VR.ofC W z
theorem Zt2{c:Kd}{k:V} : ∀ {d:List (V×V)},Xa c k d=true->Zm1 c k=true
 | [],h=>h
 |e::d,h=>by
  simp only[Xa,uH]at h;exact Zt2 h.2
theorem Zpj{t e:TypeId}{len:Nat}{N:TI}{ei:TypeInfo}{ed:TypeDesc}{ez:Value}(hu:Y.P.underlying t=some (.array len e))(H:TIOK Y e N ei ed ez)(hs:N.size=1){k0:IntKind}(y:N.kd= .int k0){f:List V}{k:List Value}(K:VRs W f k)(l:f.length=len)
  {v:V} {x:Value} (hv:VR W v x) (w:World): ∀(h:List (V×V)) (m:List MapEntry) (i:Nat),VRs W (h.map (·.1)) (m.map (·.key))->VRs W (h.map (·.2)) (m.map (·.val))->Xa (.arr len e) (.agg f) h=true->
  (XT (.arr len e) (.agg f) h=none/\(Instr.findAsking t (.agg k.toArray) m i).run Y.P w= .ok none w/\Xv (.arr len e) (.agg f) v h=h++ [(.agg f,v)])\/
  ∃j e' L,XT (.arr len e) (.agg f) h=some L/\VR W L e'.val/\m[j]? =some e'/\(Instr.findAsking t (.agg k.toArray) m i).run Y.P w= .ok (some (i+j,e'.val)) w/\Instr.sameBits 10000 e'.key (.agg k.toArray)=true/\
   VRs W ((Xv (.arr len e) (.agg f) v h).map (·.1)) ((m.modify j λe=> {e with key:= .agg k.toArray,val:=x}).map (·.key))/\VRs W ((Xv (.arr len e) (.agg f) v h).map (·.2)) ((m.modify j λe=> {e with key:= .agg k.toArray,val:=x}).map (·.val))
 | [],m,i,D,_,_=>by
  cases m with
  |nil=>exact .inl ⟨rfl,rfl,rfl⟩
  |cons e m=>cases D
 |c::h,m,i,D,h2,hp=>by
  cases m with
  |nil=>cases D
  |cons e' m=>
   simp only[List.map_cons]at D h2
   cases D with|cons _ _ _ _ u C=>
   cases h2 with|cons _ _ _ _ z B=>
   simp only[Xa,uH]at hp;obtain⟨r,hr⟩:=Option.isSome_iff_exists.1 hp.1;obtain⟨G,F,E⟩: ∃G,c.1= .agg G/\Qf f G=some r:=by
    have g:=hr;unfold Zeo at g;simp only[]at g;generalize c.1=cv at g;cases cv<;>first|exact⟨_,rfl,g⟩|cases g
   rw[F]at u;generalize d:e'.key=ke at u
   cases u with|agg _ vs o=>
   have O:(Op.equal t (.agg k.toArray) (.agg vs.toArray)).run Y.P w= .ok r w:=by
    have h3:=Wc (Y:=Y) 9999 t e len k.toArray vs.toArray hu H.info w;have h4:=Zpi H hs y K o 9998 w f G 0 r rfl rfl E;rw[l,<-List.range_eq_range']at h4;rw[<-H.size]at h4;exact h3.trans h4
   have n:(Instr.findAsking t (.agg k.toArray) (e'::m) i).run Y.P w=if r=true then .ok (some (i,e'.val)) w else(Instr.findAsking t (.agg k.toArray) m (i+1)).run Y.P w:=by
    rw[Instr.findAsking];simp only[uC,d,O,uA,Sem.run_ite,uD]
   cases r with
   |true=>
    obtain⟨a0,A⟩:=Zex E K o;subst a0;refine .inr ⟨0,e',c.2,?_,z,rfl,?_,?_,?_,?_⟩
    .simp[XT,Jk,hr]
    .rw[n,uF rfl];rfl
    .rw[d];simp only[Instr.sameBits,beq_self_eq_true,uT];exact A
    .simp only[Xv,Jk,hr,vG,List.map_cons,List.modify_zero_cons];exact .cons _ _ _ _ (.agg _ _ K) C
    .simp only[Xv,Jk,hr,vG,List.map_cons,List.modify_zero_cons];exact .cons _ _ _ _ hv B
   |false=>
    rcases Zpj hu H hs y K l hv w h m (i+1) C B hp.2 with ⟨Z,X,g3⟩|⟨j,e0,L,Z,X,g3,g4,g5,g6,g7⟩
    .refine .inl ⟨by simp[XT,Jk,hr,Z],by rw[n,uE dc];exact X,by simp[Xv,Jk,hr,g3]⟩
    .refine .inr ⟨j+1,e0,L,by simp[XT,Jk,hr,Z],X,by simpa using g3,?_,g5,?_,?_⟩
     .rw[n,uE dc,g4,show i+1+j=i+(j+1) from om]
     .simp only[Xv,Jk,hr,uI,vF,List.map_cons,List.modify_succ_cons];refine .cons _ _ _ _ ?_ g6;rw[F,d];exact .agg _ _ o
     .simp only[Xv,Jk,hr,uI,vF,List.map_cons,List.modify_succ_cons];exact .cons _ _ _ _ z g7
theorem ZBp(hY:YOK Y){r:TypeId}{f:Kd}{Z:TI}(H:Y.ty r=some Z)(G:Z.kd=f)(hp:QF Y r=true){k v}{u x:Value}(hk:VR W k u)(hv:VR W v x){l:List (V×V)}{m:List MapEntry}
  (h1:VRs W (l.map (·.1)) (m.map (·.key))) (h2:VRs W (l.map (·.2)) (m.map (·.val))) (A:Xa f k l=true) (w:World):
  (∀b,(Instr.checkKey b 10000 r u).run Y.P w= .ok () w)/\
  ((XT f k l=none/\(Instr.findKey r u m).run Y.P w= .ok none w/\Xv f k v l=l++ [(k,v)])\/
  ∃j e L,XT f k l=some L/\VR W L e.val/\m[j]? =some e/\(Instr.findKey r u m).run Y.P w= .ok (some (j,e.val)) w/\Instr.sameBits 10000 e.key u=true/\
   VRs W ((Xv f k v l).map (·.1)) ((m.modify j λe=> {e with key:=u,val:=x}).map (·.key))/\VRs W ((Xv f k v l).map (·.2)) ((m.modify j λe=> {e with key:=u,val:=x}).map (·.val))):=by
 obtain⟨ik,dk,zk,d⟩:=hY.ty r Z H;have g:=d.kd;rw[G]at g;have E:Y.kd r=some f:=by unfold YP.kd;rw[H,uw,G]
 unfold QF at hp;rw[E]at hp;by_cases t: ∃n e,f= .arr n e
 .obtain⟨n,e,rfl⟩:=t;simp only[]at hp;split at hp
  .rename_i K X;simp only[uH]at hp;obtain⟨o,B⟩:=hp;have o:K.size=1:=by simpa using o
   obtain⟨k0,F⟩: ∃k0,K.kd= .int k0:=by
    revert B;cases K.kd<;>intro h<;>first|exact⟨_,rfl⟩|cases h
   obtain⟨ei,ed,ez,D⟩:=hY.ty e K X;obtain⟨rfl,_⟩:=g;have c:=Zt2 A;unfold Zm1 at c;simp only[]at c;split at c
   .rename_i xs;simp only[uH]at c;have y:xs.length=n:=by simpa using c.1
    obtain⟨r0,N⟩:=Option.isSome_iff_exists.1 c.2
    cases hk with|agg _ us hx=>
    refine⟨λb=>Zt1 d.und D o F hx y (λz hz=>Zat N hz) b w,?_⟩;have C:(Instr.findKey r (.agg us.toArray) m).run Y.P w=(Instr.findAsking r (.agg us.toArray) m 0).run Y.P w:=by
     simp only[Instr.findKey,uC,run_underlying d.und,uA]
     cases m with
     |nil=>rfl
     |cons e' m=>rfl
    rw[C];have:=Zpj d.und D o F hx y hv w l m 0 h1 h2 A;simpa only[uJ]using this
   .cases c
  .cases hp
 .have hp:WZ f=true:=by
   cases f<;>first|exact hp|exact absurd ⟨_,_,rfl⟩ t
  have hd:=ZHy g hp;refine⟨λb=>Zko d.und hd u w,?_⟩;rcases ZBo hd hk hv l m 0 h1 h2 A with ⟨g1,O,g3⟩|⟨j,e,L,g1,O,g3,g4,g5,g6,g7⟩
  .exact .inl ⟨g1,Zew d.und O w,g3⟩
  .rw[uJ]at g4;exact .inr ⟨j,e,L,g1,O,g3,Zew d.und g4 w,g5,g6,g7⟩
theorem Zt3(hY:YOK Y)(h:Rel W σ a w){o:Oper}{v}{h':Heap}(f:mapH Y σ o=some (h',v)):StepR Y W σ a w o (putV {σ with h:=h'} o.dst v):=by
 unfold mapH at f;have d3: ∀(t:TypeId) (m k x:Operand),(execOp a.eval o=do let _<-Instr.mapUpdate t (a.eval m) (a.eval k) (a.eval x);pure .skip)->
   ((match Y.kd t,ev σ.env m with
   |some (.map kt _), .mp (some r)=>match Y.kd kt,σ.h.get r with
    |some kk,some (.map es)=>if QF Y kt&&Xa kk (ev σ.env k) es then some (σ.h.set r (some (.map (Xv kk (ev σ.env k) (ev σ.env x) es))),V.undef)else none
    |_,_=>none
   |_,_=>none)=some (h',v))->StepR Y W σ a w o (putV {σ with h:=h'} o.dst v):=by
  intro t m k x d2 f;split at f
  .rename_i kt et r hk hm;split at f
   .rename_i kk es a5 hg;split at f
    .rename_i hc;simp only[uH]at hc;simp only[uB,uL]at f;obtain⟨rfl,rfl⟩:=f;obtain⟨ti,G,E⟩:=XG hk;obtain⟨i,d,z,O⟩:=hY.ty t ti G;have C:=O.kd;rw[E]at C;cases C;obtain⟨tk,a9,L⟩:=XG a5;obtain⟨ik,dk,zk,b0⟩:=hY.ty kt tk a9;have b2:=b0.kd;rw[L]at b2;have X:=h.ev m;rw[hm]at X;generalize f3:a.eval m=um at X d2;have a2:W.lv r:=(h.heap.lv r).2 (by simp[hg]);obtain⟨me,H,hb,a4,a3⟩:=h.heap.obj r _ hg
     cases X with
     |mps _ rr b6 hr=>
      have b8:=hr a2;subst b8;have d5:=Zt hb;have wr: ∀(D:Array MapEntry) (g:Nat),VRs W ((Xv kk (ev σ.env k) (ev σ.env x) es).map (·.1)) (D.toList.map (·.key))->VRs W ((Xv kk (ev σ.env k) (ev σ.env x) es).map (·.2)) (D.toList.map (·.val))->
        (Instr.mapUpdate t (.map (some (W.mu r).1)) (a.eval k) (a.eval x)).run Y.P w= .ok () (w.putB (W.mu r).1 (.map D g))->
        StepR Y W σ a w o (putV {σ with h:=σ.h.set r (some (.map (Xv kk (ev σ.env k) (ev σ.env x) es)))} o.dst .undef):=by
       intro D g q1 q2 A;obtain⟨g1,g2⟩:=h.heap.write (w':=w.putB (W.mu r).1 (.map D g)) ⟨rfl,rfl,rfl⟩ a2 (o:= .map (Xv kk (ev σ.env k) (ev σ.env x) es)) (Zaq _ _ _) (Zeq _ _ _) (λc e fr c7=>by rw[hb]at c7;cases c7)
        ⟨D,g,Jm _ _ _ d5,q1,q2⟩
       refine StepR.heap h g1 g2 (n:= .skip) (.undef Go.undef) ?_ (.inr ⟨rfl,rfl⟩);rw[d2];simp only[uC,A,uA,uD]
      have b7: ∀(D:Array MapEntry) (g:Nat),(setObj (W.mu r).1 (.map D g)).run Y.P w= .ok () (w.putB (W.mu r).1 (.map D g)):=λD g=>ZDp _ hb;obtain⟨B,c4⟩:=ZBp hY a9 L hc.1 (h.ev k) (h.ev x) a4 a3 hc.2 w;rcases c4 with ⟨g1,g2,g3⟩|⟨j,e,v0,g1,g2,g3,g4,g5,g6,g7⟩
      .refine wr (me.push {key:=a.eval k,val:=a.eval x,born:=H}) (H+1) ?_ ?_ ?_
       .rw[g3];simp only[uV,Array.toList_push];exact a4.append (.cons _ _ _ _ (h.ev k) .nil)
       .rw[g3];simp only[uV,Array.toList_push];exact a3.append (.cons _ _ _ _ (h.ev x) .nil)
       .simp only[Instr.mapUpdate,uC,run_underlying O.und,uA,Zng hb,B,g2,b7]
      .refine wr (me.modify j λe=> {e with key:=a.eval k,val:=a.eval x}) H (by rw[Array.toList_modify];exact g6) (by rw[Array.toList_modify];exact g7) ?_;have hj:me[j]? =some e:=by simpa using g3
       have c9:(Instr.keyThatStays e.key (a.eval k)).run Y.P w= .ok (a.eval k) w:=by
        simp only[Instr.keyThatStays,g5,vG,uD]
       simp only[Instr.mapUpdate,uC,run_underlying O.und,uA,Zng hb,B,g4,hj,uw,uq,c9,b7]
    .cases f
   .cases f
  .cases f
 split at f
 .rename_i t m k ok F;split at f
  .rename_i kt et r hk hm;split at f
   .rename_i kk es a5 Z;split at f
    .rename_i hc;simp only[uH]at hc;obtain⟨te,b1⟩:=Option.isSome_iff_exists.1 hc.2;obtain⟨z,hz,d0⟩:=Zyt hY b1;obtain⟨ti,G,E⟩:=XG hk;obtain⟨i,d,zz,O⟩:=hY.ty t ti G;have C:=O.kd;rw[E]at C;cases C;obtain⟨tk,a9,L⟩:=XG a5;obtain⟨ik,dk,zk,b0⟩:=hY.ty kt tk a9;have b2:=b0.kd;rw[L]at b2;have X:=h.ev m;rw[hm]at X;have look: ∃me:Array MapEntry,VRs W (es.map (·.1)) (me.toList.map (·.key))/\VRs W (es.map (·.2)) (me.toList.map (·.val))/\ ∀r,(∀b,(Instr.checkKey b 10000 kt (a.eval k)).run Y.P w= .ok () w)->(Instr.findKey kt (a.eval k) me.toList).run Y.P w= .ok r w->
       (Instr.lookup t (a.eval m) (a.eval k) ok).run Y.P w=(match r with
        |some (_,v)=> .ok (if ok then .tuple #[v, .bool true]else v) w
        |none=> .ok (if ok then .tuple #[z, .bool false]else z) w):=by
      generalize a.eval m=um at X
      cases X with
      |mpn=>
       simp only[Zbg,uB]at Z;subst Z;refine⟨#[], .nil, .nil,λr B hr=> ?_⟩;simp only[Instr.lookup,uC,run_underlying O.und,uA,uD,B,hr]
       cases r with
       |none=>simp only[hz w,uC,uA,uD]
       |some p=>rfl
      |mps id rr b6 e8=>
       simp only[Zbg]at Z;split at Z
       .rename_i f1 hg;simp only[uB]at Z;subst Z;obtain⟨me,H,hb,a4,a3⟩:=h.heap.obj id _ hg;have b8:=e8 ((h.heap.lv id).2 (by simp[hg]));subst b8;refine⟨me,a4,a3,λr B hr=> ?_⟩;simp only[Instr.lookup,uC,run_underlying O.und,uA,uD,Zng hb,B,hr]
        cases r with
        |none=>simp only[hz w,uC,uA,uD]
        |some p=>rfl
       .cases Z
     obtain⟨me,a4,a3,hl⟩:=look;have d1: ∀(x:V) (u:Value),VR W x u->h'=σ.h->v=x->(Instr.lookup t (a.eval m) (a.eval k) ok).run Y.P w= .ok u w->StepR Y W σ a w o (putV {σ with h:=h'} o.dst v):=by
      intro x u e0 e1 e2 A;subst e1 e2;refine StepR.heap h h.heap (Stp.refl W _ w) e0 ?_ (.inl rfl);simp only[execOp,F,uC,A,uA,uD]
     obtain⟨B,c4⟩:=ZBp hY a9 L hc.1.1 (h.ev k) (.undef Go.undef) a4 a3 hc.1.2 w;rcases c4 with ⟨g1,g2,_⟩|⟨j,e,v0,g1,g2,g3,g4,_⟩
     .rw[g1]at f;simp only[uB,uL]at f;refine d1 _ (if ok then .tuple #[z, .bool false]else z) ?_ f.1.symm f.2.symm (hl _ B g2);cases ok
      .exact d0 W
      .exact .tup _ [z, .bool false] (.cons _ _ _ _ (d0 W) (.cons _ _ _ _ (.b false) .nil))
     .rw[g1]at f;simp only[uB,uL]at f;refine d1 _ (if ok then .tuple #[e.val, .bool true]else e.val) ?_ f.1.symm f.2.symm (hl _ B g4);cases ok
      .exact g2
      .exact .tup _ [e.val, .bool true] (.cons _ _ _ _ g2 (.cons _ _ _ _ (.b true) .nil))
    .cases f
   .cases f
  .cases f
 .rename_i t m k x F;exact d3 t m k x (by simp only[execOp,F]) f
 .rename_i t m k x F;exact d3 t m k x (by simp only[execOp,F]) f
 .rename_i N c6 F;split at f
  .rename_i x t c5 b9;have b3:N= #[x]:=by apply Array.ext';simpa using c5
   have a8:c6= #[t]:=by apply Array.ext';simpa using b9
   subst b3 a8;have A: ∀u w',(Builtin.clear_ #[t] o.type #[a.eval x]).run Y.P w= .ok u w'->(execOp a.eval o).run Y.P w= .ok (.value u) w':=by
    intro u w' hu;have e1:(resolve a.eval ⟨.builtin .clear,#[x],#[t]⟩ o.type).run Y.P w= .ok {target:= .builtin .clear #[t] o.type (#[x].map fun| .const _=>true|_=>false),args:= #[x].map a.eval} w:=rfl
    have e3:(#[x].map a.eval)= #[a.eval x]:=sm;simp only[execOp,F,uC,e1,uA,invoke,builtin];rw[e3];simp only[hu,uA,uD]
   split at f
   .rename_i e q1 q2 q3 hk a6;simp only[uB,uL]at f;obtain⟨rfl,rfl⟩:=f;obtain⟨ti,G,E⟩:=XG hk;obtain⟨i,d,zz,O⟩:=hY.ty t ti G;have hx:=h.ev x;rw[a6]at hx;generalize a.eval x=ux at hx A;cases hx;refine StepR.heap h h.heap (Stp.refl W _ w) (u:= .tuple #[]) (.tup [] [] .nil) (A _ _ ?_) (.inl rfl);have C:=O.kd;rw[E]at C;cases C;simp[Builtin.clear_,run_underlying O.und]
   .rename_i e id off len q1 k hk a6;obtain⟨ti,G,E⟩:=XG hk;obtain⟨i,d,zz,O⟩:=hY.ty t ti G;have C:=O.kd;rw[E]at C;cases C;have hx:=h.ev x;rw[a6]at hx;generalize a.eval x=ux at hx A;split at f
    .rename_i te b1;split at f
     .rename_i b5;subst b5;simp only[uB,uL]at f;obtain⟨rfl,rfl⟩:=f
      cases hx with
      |sls _ _ _ _ _ y b4 b6 hl hc ha hn a5=>
       refine StepR.heap h h.heap (Stp.refl W _ w) (u:= .tuple #[]) (.tup [] [] .nil) (A _ _ ?_) (.inl rfl);simp[Builtin.clear_,run_underlying O.und]
     .rename_i b5;split at f
      .rename_i c9;subst c9;split at f
       .rename_i cs hg;split at f
        .rename_i hb;simp only[uB,uL]at f;obtain⟨rfl,rfl⟩:=f;obtain⟨ie,de,ze,K⟩:=hY.ty e te b1;have a2:W.lv id:=(h.heap.lv id).2 (by simp[hg]);have a7:=Zbh (K.zr W) len;have c8:Zp (List.replicate len te.zero).flatten=true:=by
          clear hb a7;have hz:=K.zc;have d4: ∀l m:List V,Zp (l++m)=(Zp l&&Zp m):=λl m=>by
           induction l with
           |nil=>rfl
           |cons v r ih=>simp only[List.cons_append,Zp,ih,Bool.and_assoc]
          have: ∀n,Zp (List.replicate n te.zero).flatten=true:=λn=>by
           induction n with
           |zero=>rfl
           |succ n ih=>rw[uZ,List.flatten_cons,d4,hz,ih];rfl
          exact this len
         have h1:=Jo a7 c8;obtain⟨w',g1,g2,g3⟩:=h.heap.spliceAt hg (off:=off) (new:=(List.replicate len te.zero).flatten) (by rw[Zar,K.zl];exact hb) a7 h1 Y.P
         cases hx with
         |sls _ _ _ _ _ y b4 b6 hl hc ha hn a5=>
          have hy:=ha a2 om;subst hy;refine StepR.heap h g2 g3 (u:= .tuple #[]) (.tup [] [] .nil) (A _ _ ?_) (.inl rfl);have e5:(Builtin.zeroCells ze.cells len).toList=(List.range (len*ze.cells.size)).map λi=>ze.cells[i % ze.cells.size]! :=by
           rw[Builtin.zeroCells,Vc]
          obtain⟨n,rfl⟩: ∃n,len=n+1:=⟨len-1,om⟩;simp only[Builtin.clear_,uC,run_underlying O.und,uA,Qq K.info K.zero,e5,g1,uD,List.getElem?_toArray,List.getElem?_cons_zero]
        .cases f
       .cases f
      .cases f
    .cases f
   .cases f
  .cases f
 .rename_i N c6 F;split at f
  .rename_i d x st a1 c5 b9;have b3:N= #[d,x]:=by apply Array.ext';simpa using c5
   have a8:c6=(st::a1).toArray:=by apply Array.ext';simpa using b9
   subst b3 a8;have A: ∀u w',(Builtin.copy_ (st::a1).toArray o.type #[a.eval d,a.eval x]).run Y.P w= .ok u w'->(execOp a.eval o).run Y.P w= .ok (.value u) w':=by
    intro u w' hu;have e1:(resolve a.eval ⟨.builtin .copy,#[d,x],(st::a1).toArray⟩ o.type).run Y.P w= .ok {target:= .builtin .copy (st::a1).toArray o.type (#[d,x].map fun| .const _=>true|_=>false),args:= #[d,x].map a.eval} w:=rfl
    have e3:(#[d,x].map a.eval)= #[a.eval d,a.eval x]:=sm;simp only[execOp,F,uC,e1,uA,invoke,builtin];rw[e3];simp only[hu,uA,uD]
   split at f
   .rename_i e id off len q1 k hk d7;obtain⟨ti,G,E⟩:=XG hk;obtain⟨i,dd,zz,O⟩:=hY.ty st ti G;have C:=O.kd;rw[E]at C;cases C;split at f
    .rename_i te b1;obtain⟨ie,de,ze,K⟩:=hY.ty e te b1;split at f
     .rename_i n cs a0;split at f
      .rename_i hc;obtain⟨rfl,f2,c8⟩:=hc;split at f
       .rename_i f0 hg;split at f
        .rename_i hb;simp only[uB,uL]at f;obtain⟨rfl,rfl⟩:=f;have a2:W.lv id:=(h.heap.lv id).2 (by simp[hg])
         -- the XI
         have d9: ∃us:List Value,VRs W cs us/\(Builtin.lenOf (a.eval x)).run Y.P w= .ok n w/\(Builtin.firstCells te.size (min n len) (a.eval x)).run Y.P w= .ok (us.take (min n len*te.size)).toArray w:=by
          have hx:=h.ev x;unfold QT at a0;split at a0
          .rename_i l a6;rw[a6]at hx;split at a0
           .rename_i e9;simp only[uB,uL]at a0;obtain⟨rfl,rfl⟩:=a0;generalize a.eval x=ux at hx;cases hx;refine⟨l.map λc=>Value.int .u8 c.toNat,?_,rfl,?_⟩
            .exact Zkn l
            .simp only[Builtin.firstCells,uD,e9,uY]
             congr 1
             apply Array.ext';simp[ByteArray.data_extract]
           .cases a0
          .obtain⟨us,h1,h2,h3⟩:=Vb h a0 hx;refine⟨us,h1,?_,?_⟩
           .rcases h3 with ⟨he,rfl⟩|⟨y,cap,he,_,_⟩<;>rw[he]<;>rfl
           .rcases h3 with ⟨he,rfl⟩|⟨y,cap,he,_,e6⟩
            .rw[he];have:us= []:=by simpa using h2
             subst this;simp[Builtin.firstCells]
            .rw[he];refine run_firstCells_some w te.size (min n len) y n cap _ ?_ λj v hj=> ?_
             .rw[uO,h2];exact Nat.min_eq_left (Nat.mul_le_mul_right _ (Nat.min_le_left _ _))
             .rw[List.getElem?_take]at hj;split at hj
              .exact e6 j v hj
              .cases hj
         obtain⟨us,hv,e7,d8⟩:=d9;have h1:=Jo hv c8;obtain⟨w',g1,g2,g3⟩:=h.heap.spliceAt hg (off:=off) (new:=cs.take (min n len*te.size)) hb (hv.take _) (λu hu=>h1 u (List.mem_of_mem_take hu)) Y.P;have hd:=h.ev d;rw[d7]at hd;generalize a.eval d=ud at hd A
         cases hd with
         |sls _ _ _ _ _ y b4 b6 hl c7 ha hn a5=>
          have d6:(storeCells y (us.take (min n len*te.size))).run Y.P w= .ok () w':=by
           by_cases b5:0<b4
           .rw[ha a2 b5];exact g1
           .have:len=0:=om;subst this;simp only[Nat.min_zero,Nat.zero_mul,uQ]at g1 ⊢;have e1: ∀y,(storeCells y []).run Y.P w= .ok () w:=λy=>rfl;rw[e1]at g1 ⊢;exact g1
          refine StepR.heap h g2 g3 (u:= .int .i64 ((min n len:Nat):Int)) (.i _ _) (A _ _ ?_) (.inl rfl);have e4:Nat.min n len=min n len:=rfl;simp only[Builtin.copy_,List.getElem?_toArray,List.getElem?_cons_zero,List.getElem?_cons_succ,uC,run_underlying O.und,uA,e7,ZV K.info,K.size,e4,d8,d6,uD]
          rfl
        .cases f
       .cases f
      .cases f
     .cases f
    .cases f
   .cases f
  .cases f
 .cases f
theorem Zro{o:Oper}{v}(d:Zgr Y σ o=some v):mapH Y σ o=some (σ.h,v):=by
 unfold Zgr at d;split at d
 .rename_i t m k ok e;simp only[uG]at d;obtain⟨⟨j,l⟩,f,g⟩:=d;simp only at g;subst g;have c:=f;unfold mapH at c;rw[e]at c;simp only at c
  repeat' (split at c<;>try (cases c;done))
  all_goals (simp only[uB,uL]at c;obtain⟨rfl,_⟩:=c;exact f)
 .cases d
theorem Zyu(c:YOK Y)(h:Rel W σ a w){o:Oper}{v}(d:Zgr Y σ o=some v):StepR Y W σ a w o (putV σ o.dst v):=Zt3 c h (Zro d)
end
end Go.Y
