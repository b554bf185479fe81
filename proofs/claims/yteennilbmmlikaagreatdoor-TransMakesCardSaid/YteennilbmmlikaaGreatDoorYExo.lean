/- A part of the proof. -/
import Derived.Test.YteennilbmmlikaaGreatDoorYPure
import Derived.Lib.Bytealg
import Derived.Lib.Builder
import Derived.Lib.UnsafeStr
namespace Go.Y
set_option maxRecDepth 1000000
set_option maxHeartbeats 0
section
variable {Y:YP} {W W':Vw} {σ σ':St} {a:Act} {w w':World}

theorem ZB0(l:List UInt8)(c:UInt8): ∀k:Nat,QN l c k=if Lib.indexByte l c= -1 then -1 else Lib.indexByte l c+k:=by
 induction l with
 |nil=>intro k;simp[QN,Lib.indexByte]
 |cons b l ih=>
  intro k
  have hge:=Lib.indexByte_ge l c
  unfold QN Lib.indexByte
  by_cases hb:(b==c)=true
  ·simp[hb]
  ·simp only[hb,if_false,Bool.false_eq_true]
   rw[ih (k+1)]
   by_cases h1:Lib.indexByte l c= -1
   ·simp[h1]
   ·simp only[h1,if_false]
    have hb1:(Lib.indexByte l c== -1)=false:=by simpa using h1
    rw[hb1]
    have h2: ¬(Lib.indexByte l c+1= -1):=by omega
    simp only[Bool.false_eq_true,if_false,h2]
    omega

theorem Ztv(l:List UInt8)(c:UInt8):QN l c 0=Lib.indexByte l c:=by
 rw[ZB0]
 split
 ·rename_i h;exact h.symm
 ·simp

theorem ZB1{k:Nat}{vs:List V}{v:V}(hv:extV k vs=some v){us:List Value}(hr:VRs W vs us): ∃u,VR W v u∧ ∀(P:Program) (w:World),(extE k us.toArray).run P w= .ok u w:=by
 unfold extV at hv
 split at hv
 ·rename_i a
  simp at hv;subst hv
  cases hr with
  |cons _ u _ _ h1 h2=>cases h2;exact⟨u,h1,fun P w=>rfl⟩
 ·rename_i l c
  simp at hv;subst hv
  cases hr with
  |cons _ u _ _ h1 h2=>
   cases h2 with
   |cons _ u2 _ _ h3 h4=>
    cases h4;cases h1;cases h3
    refine⟨_, .i .i64 _,fun P w=> ?_⟩
    rw[Ztv]
    have:=run_indexByte_string (P:=P) ⟨l.toArray⟩ c w
    rw[Lib.firstIdx_eq]at this
    exact this
 ·cases hv

theorem Zke(h:Rel W σ a w){o:Oper}{fo:Operand}{ops:Array Operand}{ats:Array TypeId}{g:FuncId}{fa fc:List V}(hop:o.op= .call ⟨.value fo,ops,ats⟩)(hf:ev σ.env fo= .fn (.func g) fa fc):
  ∃us,VRs W (fa++ops.toList.map (ev σ.env)++fc) us∧(execOp a.eval o).run Y.P w=(callFunc g us.toArray).run Y.P w:=by
 have hfo:=h.ev fo
 rw[hf]at hfo
 generalize hfe:a.eval fo=uf at hfo
 cases hfo with
 |fn _ _ _ ua uc ha hc=>
  refine⟨ua++ops.toList.map a.eval++uc,(ha.append (h.evs ops.toList)).append hc,?_⟩
  have e1:(ua.toArray++ops.map a.eval)++uc.toArray=(ua++ops.toList.map a.eval++uc).toArray:=by
   apply Array.ext';simp
  simp only[execOp,hop,resolve,hfe,Deferred.ofValue,Sem.run_bind,Sem.run_pure,Result.andThen_ok,invoke,e1]

theorem Zx6(hY:YOK Y)(h:Rel W σ a w){o:Oper}{v:V}(hs:exoQ Y σ o=some v):StepR Y W σ a w o (putV σ o.dst v):=by
 have fin: ∀u,VR W v u->(execOp a.eval o).run Y.P w= .ok (.value u) w->StepR Y W σ a w o (putV σ o.dst v):=fun u hu hrun=>
  ⟨W,w,u,_,hrun, .inl rfl,h.putV hu o.dst,(Stp.refl W _ w).weaken fun b hb=>Xd hu o.dst hb⟩
 unfold exoQ at hs
 split at hs
 ·rename_i fo ops ats hop
  split at hs
  ·rename_i g fa fc hf
   split at hs
   ·rename_i k hk
    obtain⟨fn,h1,h2,h3,h4⟩:=hY.ext _ (Jy hk)
    obtain⟨us,hv,hrun⟩:=Zke (Y:=Y) h hop hf
    obtain⟨u,hu,hx⟩:=ZB1 hs hv
    refine fin u hu ?_
    rw[hrun,run_callFunc_extern h1 (hY.name _ _ h1) h2 h3 h4,hx]
    rfl
   ·cases hs
  ·cases hs
 ·rename_i args ats hop
  split at hs
  ·rename_i x har
   have har':args= #[x]:=by apply Array.ext';simpa using har
   subst har'
   have hx:=h.ev x
   have hrun: ∀u,(Builtin.unsafeSliceData_ ats o.type #[a.eval x]).run Y.P w= .ok u w->(execOp a.eval o).run Y.P w= .ok (.value u) w:=by
    intro u hu
    have e1:(resolve a.eval ⟨.builtin .unsafeSliceData,#[x],ats⟩ o.type).run Y.P w= .ok {target:= .builtin .unsafeSliceData ats o.type (#[x].map fun| .const _=>true|_=>false),args:= #[x].map a.eval} w:=rfl
    simp only[execOp,hop,Sem.run_bind,e1,Result.andThen_ok,invoke,builtin]
    have e3:(#[x].map a.eval)= #[a.eval x]:=by simp
    rw[e3]
    simp only[hu,Result.andThen_ok,Sem.run_pure]
   split at hs
   ·rename_i q1 q2 q3 hxv
    simp at hs;subst hs
    rw[hxv]at hx
    generalize a.eval x=ux at hx hrun
    cases hx
    exact fin _ .pn (hrun _ (Lib.run_unsafeSliceData_nil w _ _ _ _))
   ·rename_i id off len q1 q2 hxv
    split at hs
    ·cases hs
    rename_i hl0
    simp at hs;subst hs
    rw[hxv]at hx
    generalize a.eval x=ux at hx hrun
    cases hx with
    |sls _ _ _ _ _ y cap' hid hl hc ha hn hk=>
     exact fin _ (.ps id off y hid (fun hlv=>ha hlv (by omega))) (hrun _ (Lib.run_unsafeSliceData_row w _ _ _ _ _ (by omega)))
   ·cases hs
  ·cases hs
 ·rename_i t x hop
  split at hs
  ·rename_i n e cs hk hxv
   split at hs
   ·rename_i te hte
    simp at hs;subst hs
    obtain⟨ti,hti,hk'⟩:=Xx hk
    obtain⟨i,d,z,ht⟩:=hY.ty t ti hti
    obtain⟨ie,de,ze,hee⟩:=hY.ty e te hte
    have hkd:=ht.kd
    rw[hk']at hkd
    obtain⟨rfl,_⟩:=hkd
    have hx:=h.ev x
    rw[hxv]at hx
    have hrun: ∀ad,a.eval x= .pointer (some ad)->(execOp a.eval o).run Y.P w= .ok (.value (.slice (some ad) n n)) w:=by
     intro ad had
     have e1:(Instr.sliceAt t (.pointer (some ad)) none none none).run Y.P w= .ok (.slice (some ad) n n) w:=by
      simp only[Instr.sliceAt,Instr.sureAddr,Sem.run_bind,Ze ht.und,Result.andThen_ok,Instr.sliceBounds,Sem.run_pure,ZM hee.info]
      by_cases hn:n=0
      ·subst hn;rfl
      ·rw[if_neg hn,Nat.zero_mul]
       have:ad.add 0=ad:=by unfold Addr.add;simp
       rw[this];rfl
     simp only[execOp,hop,had,Option.map_none,Sem.run_bind,e1,Result.andThen_ok,Sem.run_pure]
    generalize hu:a.eval x=u at hx
    cases hx with
    |tpn ad=>exact fin _ (.tsn _ _ _ _ (Nat.le_refl _) (fun c hc=>by simpa using hc)) (hrun ad hu)
    |tp _ blk off c e' fr us hs hc hr=>exact fin _ (.ts _ _ _ _ blk off c e' fr us (Nat.le_refl _) (fun c hc=>by simpa using hc) hs hc hr) (hrun _ hu)
   ·cases hs
  ·cases hs
 ·cases hs

theorem Ztw(P:Program){t e:TypeId}(hd:P.underlying t=some (.slice e))(u:Option Addr)(l c:Nat)(n:Nat)(w:World):(Op.equalIn (n+1) t (.slice u l c) (.slice none 0 0)).run P w= .ok u.isNone w:=by
 cases u<;>simp only[Op.equalIn,Sem.run_bind,Ze hd,Result.andThen_ok,Sem.run_pure]<;>rfl
theorem Ze2(P:Program){t e:TypeId}(hd:P.underlying t=some (.slice e))(u:Option Addr)(l c:Nat)(w:World):(Op.equal t (.slice u l c) (.slice none 0 0)).run P w= .ok u.isNone w:=Ztw P hd u l c 9999 w

theorem Zx7(hY:YOK Y)(h:Rel W σ a w){o:Oper}{n:Nat}{neg:Bool}(hs:nilT Y σ o=some (n,neg)):StepR Y W σ a w o (putV σ o.dst (.b neg))∨(n=0∧StepR Y W σ a w o (putV σ o.dst (.b !neg))):=by
 have fin: ∀b,(execOp a.eval o).run Y.P w= .ok (.value (.bool b)) w->StepR Y W σ a w o (putV σ o.dst (.b b)):=fun b hrun=>
  ⟨W,w, .bool b,_,hrun, .inl rfl,h.putV (.b b) o.dst,(Stp.refl W _ w).weaken fun x hx=>Xd (.b b) o.dst hx⟩
 unfold nilT at hs
 split at hs
 ·rename_i op t x y z hop
  split at hs
  ·rename_i e cs m c q1 q2 q3 hk hx1 hy1
   obtain⟨ti,hti,hk'⟩:=Xx hk
   obtain⟨i,d,zz,ht⟩:=hY.ty t ti hti
   have hkd:=ht.kd
   rw[hk']at hkd
   cases hkd
   have hd:=ht.und
   have hx:=h.ev x
   have hy:=h.ev y
   rw[hx1]at hx
   rw[hy1]at hy
   generalize hux:a.eval x=ux at hx
   generalize huy:a.eval y=uy at hy
   have key: ∃r:Bool,(r=true->m=0)∧((binOp .eql t ux uy).run Y.P w= .ok (.bool r) w∧(binOp .neq t ux uy).run Y.P w= .ok (.bool (!r)) w)∧ ∀op',(eqGuard op' t x y ux uy).run Y.P w= .ok () w:=by
    cases hy
    cases hx with
    |tsn len cap ad cap' hl hc=>
     refine⟨false,(fun hf=>Bool.noConfusion hf),?_,fun op'=>by cases op'<;>rfl⟩
     exact⟨by simp only[binOp,Sem.run_bind,Ze2 Y.P hd,Result.andThen_ok,Sem.run_pure];rfl,by simp only[binOp,Sem.run_bind,Ze2 Y.P hd,Result.andThen_ok,Sem.run_pure];rfl⟩
    |tsz cap hc=>
     refine⟨true,fun _=>rfl,?_,fun op'=>by cases op'<;>rfl⟩
     exact⟨by simp only[binOp,Sem.run_bind,Ze2 Y.P hd,Result.andThen_ok,Sem.run_pure];rfl,by simp only[binOp,Sem.run_bind,Ze2 Y.P hd,Result.andThen_ok,Sem.run_pure];rfl⟩
    |ts cs len cap cap' blk off c e fr us hl hcap hs hc hr=>
     refine⟨false,(fun hf=>Bool.noConfusion hf),?_,fun op'=>by cases op'<;>rfl⟩
     exact⟨by simp only[binOp,Sem.run_bind,Ze2 Y.P hd,Result.andThen_ok,Sem.run_pure];rfl,by simp only[binOp,Sem.run_bind,Ze2 Y.P hd,Result.andThen_ok,Sem.run_pure];rfl⟩
   obtain⟨r,hr,⟨he,he'⟩,hg⟩:=key
   split at hs
   ·simp only[Option.some.injEq,Prod.mk.injEq]at hs
    obtain⟨rfl,rfl⟩:=hs
    have hrun:=fin r (by simp only[execOp,hop,hux,huy,Sem.run_bind,hg,he,Result.andThen_ok,Sem.run_pure])
    cases r with
    |false=>exact .inl hrun
    |true=>exact .inr ⟨hr rfl,hrun⟩
   ·simp only[Option.some.injEq,Prod.mk.injEq]at hs
    obtain⟨rfl,rfl⟩:=hs
    have hrun:=fin (!r) (by simp only[execOp,hop,hux,huy,Sem.run_bind,hg,he',Result.andThen_ok,Sem.run_pure])
    cases r with
    |false=>exact .inl hrun
    |true=>exact .inr ⟨hr rfl,hrun⟩
   ·cases hs
  ·cases hs
 ·cases hs

theorem Zcf(hY:YOK Y){t e:TypeId}(h:Zcw Y t e=true):Y.P.underlying t=some (.pointer e):=by
 unfold Zcw at h
 split at h
 ·rename_i e' hk
  obtain⟨ti,hti,hk'⟩:=Xx hk
  obtain⟨i,d,z,ht⟩:=hY.ty t ti hti
  have hkd:=ht.kd
  rw[hk']at hkd
  have:e'=e:=by simpa using h
  subst this
  cases hkd
  exact ht.und
 ·cases h
theorem Zwf{t:TypeId}(h:isU Y t=true):Y.P.underlying t=some .unsafePointer:=by
 unfold isU at h
 split at h
 ·assumption
 ·cases h

theorem Zp0{P:Program}{e:TypeId}{s cells:Nat}(hs:P.cellsOf e=s)(h0:s≠0)(hc:s<=cells):liesAt P P.depth e (cells / P.cellsOf e) 0 e 1=true:=by
 have hd:P.depth=(2*(P.types.size+Made.depth)+1)+1:=rfl
 rw[hd]
 simp only[liesAt,Bool.or_eq_true]
 left
 rw[hd]
 have hdiv:1<=cells / s:=(Nat.le_div_iff_mul_le (by omega)).2 (by omega)
 simp[rowAt,hs,h0,sameLayout,hdiv]

theorem Zb8{P:Program}(w:World){tp te:TypeId}{j:TypeInfo}(a:Addr)(hp:P.underlying tp=some (.pointer te))(hte:P.info? te=some j):
  (binOp .eql tp (.pointer (some a)) (.pointer (some a))).run P w= .ok (.bool true) w:=by
 have h: ∀d:Nat,(Op.equalIn (d+1) tp (.pointer (some a)) (.pointer (some a))).run P w= .ok true w:=fun d=>by
  simp[Op.equalIn,run_underlying hp,sizeOf,typeInfo,hte,run_sameAddr_same]
 simp only[binOp]
 simp[Op.equal,Op.maxDepth,h 9999]

theorem Vj{P:Program}(w:World): ∀(l:List Int) (a:Addr) (acc:ByteArray),(∀j x,l[j]? =some x->w.cell? (a.add j)=some (.int .u8 x))->
  (loadBytes a acc l.length).run P w= .ok ⟨acc.data++(l.map fun n=>n.toNat.toUInt8).toArray⟩ w
 | [],a,acc,_=>by simp[loadBytes]
 |x::l,a,acc,h=>by
  have h0:w.cell? a=some (.int .u8 x):=by
   have:=h 0 x rfl
   simpa[Addr.add]using this
  have ih:=Vj (P:=P) w l (a.add 1) (acc.push x.toNat.toUInt8) (fun j y hy=>by
   have:=h (j+1) y (by simpa using hy)
   have e:(a.add 1).add j=a.add (j+1):=by
    unfold Addr.add
    by_cases hj:j=0
    ·subst hj;simp
    ·simp[hj];omega
   rw[e];exact this)
  simp only[List.length_cons,loadBytes,Sem.run_bind,run_load,h0,Result.andThen]
  rw[ih]
  congr 1
  apply ByteArray.ext
  simp[ByteArray.push]

theorem Zbd{P:Program}(w:World)(pt it ty e:TypeId)(hp:P.underlying pt=some (.pointer e))(hc:P.cellsOf e=1)(g cells:Nat)(hsh:w.shape? g=some (e,cells))(l:List Int)(h0:l≠ [])(hn:l.length<=cells)(h63:l.length<=9223372036854775807)
  (hcell: ∀j x,l[j]? =some x->w.cell? ((⟨g,0,none⟩:Addr).add j)=some (.int .u8 x)):
  (Builtin.unsafeString_ #[pt,it] ty #[.pointer (some ⟨g,0,none⟩), .int .i64 l.length]).run P w= .ok (.string ⟨(l.map fun n=>n.toNat.toUInt8).toArray⟩) (w.freeze ⟨g,0,none⟩ l.length):=by
 have hl:l.length≠0:=by simpa using h0
 have hlb:=Vj (P:=P) w l ⟨g,0,none⟩ .empty hcell
 have hlies:=Lib.liesAt_bytes (P:=P) hc (cells / P.cellsOf e) l.length (by rw[hc];simpa using hn)
 have h63': ¬(9223372036854775807:Int)<(l.length:Int):=by omega
 have hdef:Builtin.unsafeString_ #[pt,it] ty #[.pointer (some ⟨g,0,none⟩), .int .i64 l.length]=
   (do
    let n<-asInt (.int .i64 l.length)
    if n<0 then runtimePanic (.error "unsafe.String: len out of range")
    if n>IntKind.i64.max then unsupported (.unsafePointer "String: a length above the largest int")
    if n=0 then pure (.string .empty)
    else if<-variablesAt ⟨g,0,none⟩ (<-elemOf pt) n.toNat then do
     let s<-loadBytes ⟨g,0,none⟩ .empty n.toNat
     freeze ⟨g,0,none⟩ n.toNat
     pure (.string s)
    else unsupported (.unsafePointer "String: not so many bytes at ptr")):=rfl
 rw[hdef]
 have hmax:IntKind.i64.max=9223372036854775807:=rfl
 have hneg: ¬(l.length:Int)<0:=by omega
 simp[asInt,asIntOf,hmax,h63',hneg,hl,variablesAt,hsh,elemOf,run_underlying hp,hlies,hlb]

theorem HRel.freezeAll{h:Heap}(hr:HRel W h w){id:Nat}{cs:List V}{wr:Bool}{e:TypeId}(ho:h.get id=some (.arr cs wr))(ht:h.tagOf id=some e)(h0:cs≠ []):
  HRel W (h.set id (some (.arr cs false))) (w.freeze ⟨(W.mu id).1,0,none⟩ cs.length)∧Stp W W.own w W W.own (w.freeze ⟨(W.mu id).1,0,none⟩ cs.length):=by
 have hlv:W.lv id:=(hr.lv id).2 (by simp[ho])
 obtain⟨c,e1,fr,hc,h2,h3,h4,h5⟩:=hr.obj id _ ho
 obtain⟨g1,c2,fr2,g2,g3,g4⟩:=(hr.tg _ (Jy ht)).2 hlv
 rw[hc]at g2
 simp only[Option.some.injEq,Obj.cells.injEq]at g2
 obtain⟨rfl,rfl,rfl⟩:=g2
 have hl:cs.length≠0:=by simpa using h0
 have hlt:=Zq hc
 let fr':Nat×Nat:=if fr.1==fr.2 then(0,0+cs.length)else(min fr.1 0,max fr.2 (0+cs.length))
 have hb:(w.freeze ⟨(W.mu id).1,0,none⟩ cs.length).heap[(W.mu id).1]? =some (.cells c e1 fr'):=by
  unfold World.freeze
  rw[if_neg hl]
  simp only[Array.getElem?_modify,if_true,hc,Option.map_some]
  rfl
 have hk: ∀x,x≠(W.mu id).1->(w.freeze ⟨(W.mu id).1,0,none⟩ cs.length).heap[x]? =w.heap[x]? :=by
  intro x hx
  unfold World.freeze
  rw[if_neg hl]
  simp only[Array.getElem?_modify]
  rw[if_neg (fun e=>hx e.symm)]
 have hsz:(w.freeze ⟨(W.mu id).1,0,none⟩ cs.length).heap.size=w.heap.size:=by
  unfold World.freeze
  rw[if_neg hl]
  simp
 have hstr:Str w (w.freeze ⟨(W.mu id).1,0,none⟩ cs.length):=by
  unfold World.freeze
  rw[if_neg hl]
  exact⟨rfl,rfl,rfl⟩
 have hfr:fr'.1<=fr'.2∧fr'.2<=c.size∧ ∀j,cs.length<=j->j<c.size-> ¬(fr'.1<=j∧j<fr'.2):=by
  rw[g1]at h3 h5
  simp only[Nat.zero_add]at h3 h5
  by_cases he:fr.1=fr.2
  ·have:fr'=(0,cs.length):=by simp[fr',he]
   rw[this]
   exact⟨Nat.zero_le _,h3,fun j hj _=>by simp;omega⟩
  ·have:fr'=(0,max fr.2 cs.length):=by simp[fr',he]
   rw[this]
   refine⟨Nat.zero_le _,by simp;omega,fun j hj hj' hx=> ?_⟩
   simp only[Nat.zero_le,true_and]at hx
   have hlo:j<fr.2:=by omega
   have hstart:(if wr=true then 0 else cs.length)<=fr.2-1:=by split<;>omega
   exact h5 (fr.2-1) hstart (by omega) ⟨by omega,by omega⟩
 refine hr.write hstr hlv hk hsz ?_ ?_
 ·intro c0 e0 fr0 q1 q2 q3
  rw[hc]at q1
  simp only[Option.some.injEq,Obj.cells.injEq]at q1
  obtain⟨rfl,rfl,rfl⟩:=q1
  exact⟨_,_,hb,hfr.1,hfr.2.1⟩
 ·refine⟨c,e1,fr',hb,h2,h3,h4,fun j hj hj'=> ?_⟩
  simp only[Bool.false_eq_true,if_false]at hj
  rw[g1,Nat.zero_add]at hj
  exact hfr.2.2 j hj hj'

theorem Zx8(hY:YOK Y)(h:Rel W σ a w){o:Oper}{v:V}{h':Heap}(hs:exoH Y σ o=some (h',v)):StepR Y W σ a w o (putV {σ with h:=h'} o.dst v):=by
  have same: ∀u,VR W v u->(execOp a.eval o).run Y.P w= .ok (.value u) w->h'=σ.h->StepR Y W σ a w o (putV {σ with h:=h'} o.dst v):=fun u hu hrun he=>by
    subst he
    exact StepR.heap h h.heap (Stp.refl W _ w) hu hrun (.inl rfl)
  unfold exoH at hs
  split at hs
  · rename_i t x hop
    split at hs
    · rename_i n e id off hk hxv
      split at hs
      · rename_i te cs wr hte hg
        split at hs
        · rename_i hc
          simp only[Option.some.injEq,Prod.mk.injEq]at hs
          obtain⟨rfl,rfl⟩:=hs
          obtain⟨ti,hti,hk'⟩:=Xx hk
          obtain⟨i,d,z,ht⟩:=hY.ty t ti hti
          obtain⟨ie,de,ze,hee⟩:=hY.ty e te hte
          have hkd:=ht.kd
          rw[hk']at hkd
          obtain⟨rfl,_⟩:=hkd
          have hx:=h.ev x
          rw[hxv]at hx
          have hrun: ∀ad,a.eval x= .pointer (some ad)->(execOp a.eval o).run Y.P w= .ok (.value (.slice (some ad) n n)) w:=by
            intro ad had
            have e1:(Instr.sliceAt t (.pointer (some ad)) none none none).run Y.P w= .ok (.slice (some ad) n n) w:=by
              simp only[Instr.sliceAt,Instr.sureAddr,Sem.run_bind,Ze ht.und,Result.andThen_ok,Instr.sliceBounds,Sem.run_pure,ZM hee.info]
              by_cases hn:n=0
              · subst hn;rfl
              · rw[if_neg hn,Nat.zero_mul]
                have:ad.add 0=ad:=by unfold Addr.add;simp
                rw[this];rfl
            simp only[execOp,hop,had,Option.map_none,Sem.run_bind,e1,Result.andThen_ok,Sem.run_pure]
          generalize hu:a.eval x=u at hx
          cases hx with
          |ps _ _ ad hid ha=>
            refine same _ (.sls id off n (some n) te.size ad n hid (Nat.le_refl _) (fun c hc=>by simpa using hc) (fun hlv _=>ha hlv) (fun _ hn=>by cases hn) (fun hlv=> ?_)) (hrun ad hu) rfl
            obtain⟨c,e1,fr,h1,h2,h3,_⟩:=h.heap.obj id _ hg
            omega
        · cases hs
      · cases hs
    · cases hs
  · rename_i src dst x hop
    split at hs
    · rename_i id hxv
      split at hs
      · rename_i cs wr t hg ht
        split at hs
        · rename_i ti hti
          split at hs
          · rename_i hc
            obtain⟨h0,hle,hc⟩:=hc
            simp only[Option.some.injEq,Prod.mk.injEq]at hs
            obtain⟨rfl,rfl⟩:=hs
            have hx:=h.ev x
            rw[hxv]at hx
            have hlv:W.lv id:=(h.heap.lv id).2 (by simp[hg])
            obtain⟨c,e1,fr,hcb,h2,h3,_⟩:=h.heap.obj id _ hg
            obtain⟨g1,c2,fr2,g2,g3,g4⟩:=(h.heap.tg _ (Jy ht)).2 hlv
            rw[hcb]at g2
            simp only[Option.some.injEq,Obj.cells.injEq]at g2
            obtain⟨rfl,rfl,rfl⟩:=g2
            obtain⟨i,d,z,hti'⟩:=hY.ty e1 ti hti
            have hsh:w.shape? (W.mu id).1=some (e1,c.size):=by simp[World.shape?,hcb]
            have hcs:ti.size<=c.size:=by omega
            generalize hu:a.eval x=u at hx
            cases hx with
            |ps _ _ ad hid ha=>
              have hadr:=ha hlv
              have hadr':ad=⟨(W.mu id).1,0,none⟩:=by rw[hadr];unfold Vw.at;rw[g1]
              refine same (.pointer (some ad)) (.ps _ _ _ hid ha) ?_ rfl
              simp only[Bool.or_eq_true,Bool.and_eq_true]at hc
              have hrun:(convert src dst (.pointer (some ad))).run Y.P w= .ok (.pointer (some ad)) w:=by
                rcases hc with ⟨c1,c2⟩|⟨c1,c2⟩
                · exact Lib.run_to_unsafe w ad (Zcf hY c1) (Zwf c2) hti'.info (by rw[hti'.size];exact h0) (by rw[hadr'];exact hsh) (by rw[hadr'];simp;omega)
                · refine Lib.run_from_unsafe w ad (Zwf c1) (Zcf hY c2) hti'.info (by rw[hadr'];exact hsh) ?_
                  rw[hadr']
                  exact Zp0 (P:=Y.P) (s:=ti.size) (by rw[<-hti'.size];unfold Program.cellsOf;simp[hti'.info]) h0 hcs
              simp only[execOp,hop,hu,Sem.run_bind,hrun,Result.andThen_ok,Sem.run_pure]
          · cases hs
        · cases hs
      · cases hs
    · cases hs
  · rename_i op t x y z hop
    split at hs
    · rename_i p1 p2 e hx1 hy1 hk
      split at hs
      · rename_i hc
        obtain⟨rfl,hlive,hty⟩:=hc
        have hx:=h.ev x
        have hy:=h.ev y
        rw[hx1]at hx
        rw[hy1]at hy
        have hlv:W.lv p1.1:=(h.heap.lv _).2 hlive
        obtain⟨te,hte⟩:=Option.isSome_iff_exists.1 hty
        obtain⟨ie,de,ze,hee⟩:=hY.ty e te hte
        have hpt:Y.P.underlying t=some (.pointer e):=Zcf hY (by simp[Zcw,hk])
        generalize hux:a.eval x=ux at hx
        generalize huy:a.eval y=uy at hy
        cases hx with
        |ps _ _ ax hidx hax=>
          cases hy with
          |ps _ _ ay hidy hay=>
            have e1:=hax hlv
            have e2:=hay hlv
            subst e1
            subst e2
            have hg: ∀op' (A:Addr),(eqGuard op' t x y (.pointer (some A)) (.pointer (some A))).run Y.P w= .ok () w:=fun op' A=>by cases op'<;>rfl
            split at hs
            · simp only[Option.some.injEq,Prod.mk.injEq]at hs
              obtain⟨rfl,rfl⟩:=hs
              refine same _ (.b true) ?_ rfl
              simp only[execOp,hop,hux,huy,Sem.run_bind,hg,Zb8 w _ hpt hee.info,Result.andThen_ok,Sem.run_pure]
            · simp only[Option.some.injEq,Prod.mk.injEq]at hs
              obtain⟨rfl,rfl⟩:=hs
              refine same _ (.b false) ?_ rfl
              simp only[execOp,hop,hux,huy,Sem.run_bind,hg,Lib.run_neq_ptr_same w _ hpt hee.info,Result.andThen_ok,Sem.run_pure]
            · cases hs
      · cases hs
    · cases hs
  · rename_i args ats hop
    split at hs
    · rename_i x n pt it har hat
      have har':args= #[x,n]:=by apply Array.ext';simpa using har
      have hat':ats= #[pt,it]:=by apply Array.ext';simpa using hat
      subst har' hat'
      have hrun: ∀u w',(Builtin.unsafeString_ #[pt,it] o.type #[a.eval x,a.eval n]).run Y.P w= .ok u w'->(execOp a.eval o).run Y.P w= .ok (.value u) w':=by
        intro u w' hu
        have e1:(resolve a.eval ⟨.builtin .unsafeString,#[x,n],#[pt,it]⟩ o.type).run Y.P w= .ok {target:= .builtin .unsafeString #[pt,it] o.type (#[x,n].map fun| .const _=>true|_=>false),args:= #[x,n].map a.eval} w:=rfl
        simp only[execOp,hop,Sem.run_bind,e1,Result.andThen_ok,invoke,builtin]
        have e3:(#[x,n].map a.eval)= #[a.eval x,a.eval n]:=by simp
        rw[e3]
        simp only[hu,Result.andThen_ok,Sem.run_pure]
      split at hs
      · rename_i p m hx1 hn1
        have hx:=h.ev x
        have hn:=h.ev n
        rw[hx1]at hx
        rw[hn1]at hn
        generalize hux:a.eval x=ux at hx hrun
        generalize hun:a.eval n=un at hn hrun
        cases hn
        split at hs
        · rename_i hm
          simp only[Option.some.injEq,Prod.mk.injEq]at hs
          obtain⟨rfl,rfl⟩:=hs
          subst hm
          have hs0:VR W (.s []) (.string .empty):= .s []
          cases hx with
          |pn=>exact same _ hs0 (hrun _ _ (Lib.run_unsafeString_none w pt it o.type none)) rfl
          |ps id off ad hid ha=>exact same _ hs0 (hrun _ _ (Lib.run_unsafeString_none w pt it o.type (some ad))) rfl
        · rename_i hm
          split at hs
          · rename_i id
            split at hs
            · rename_i cs wr t hg ht
              split at hs
              · rename_i hk
                split at hs
                · rename_i hc
                  obtain⟨hpt,hnl,hmost⟩:=hc
                  simp only[Option.map_eq_some_iff,Prod.mk.injEq]at hs
                  obtain⟨l,hl,rfl,rfl⟩:=hs
                  have hlv:W.lv id:=(h.heap.lv id).2 (by simp[hg])
                  obtain⟨c,e1,fr,hcb,h2,h3,h4,_⟩:=h.heap.obj id _ hg
                  obtain⟨g1,c2,fr2,g2,g3,g4⟩:=(h.heap.tg _ (Jy ht)).2 hlv
                  rw[hcb]at g2
                  simp only[Option.some.injEq,Obj.cells.injEq]at g2
                  obtain⟨rfl,rfl,rfl⟩:=g2
                  rw[g1,Nat.zero_add]at h3
                  rw[g1]at h4
                  simp only[Nat.zero_add]at h4
                  have hne:cs≠ []:=by intro he;subst he;simp at hnl;exact hm hnl
                  obtain⟨ti,hti,hk'⟩:=Xx hk
                  obtain⟨i,d,z,hti'⟩:=hY.ty e1 ti hti
                  have hone:ti.size=1:=hti'.one (by rw[hk'];rfl)
                  have hc1:Y.P.cellsOf e1=1:=by rw[<-hone,<-hti'.size];unfold Program.cellsOf;simp[hti'.info]
                  have hsh:w.shape? (W.mu id).1=some (e1,c.size):=by simp[World.shape?,hcb]
                  -- the cells, as values
                  have hvs:VRs W cs ((c.toList).take cs.length):=by
                    refine VRs.of_get (by simp;omega) fun j v u hv hu=> ?_
                    obtain⟨u',q1,q2⟩:=h4 j v hv
                    have hj:=(List.getElem?_eq_some_iff.1 hv).1
                    rw[List.getElem?_take_of_lt hj]at hu
                    have:u=u':=by
                      have:c[j]? =some u:=by simpa using hu
                      rw[q1]at this;simpa using this.symm
                    rw[this];exact q2
                  obtain⟨ns,hns,rfl⟩:=Za9 hvs hl
                  have hnslen:ns.length=cs.length:=by
                    have:=congrArg List.length hns
                    simp at this;omega
                  cases hx with
                  |ps _ _ ad hid ha=>
                    have hadr:ad=⟨(W.mu id).1,0,none⟩:=by rw[ha hlv];unfold Vw.at;rw[g1]
                    subst hadr
                    have hun:=Zbd (P:=Y.P) w pt it o.type e1 (Zcf hY hpt) hc1 (W.mu id).1 c.size hsh ns (by intro he;subst he;exact hne (List.eq_nil_of_length_eq_zero hnslen.symm)) (by omega)
                      (by have:most=1099511627776:=by decide
                          omega) (fun j n hj=>by
                        have hj':=(List.getElem?_eq_some_iff.1 hj).1
                        have:((c.toList).take cs.length)[j]? =some (.int .u8 n):=by rw[hns];simp[hj]
                        rw[List.getElem?_take_of_lt (by omega)]at this
                        rw[Jv,Nat.zero_add]
                        simp only[World.cell?,hcb]
                        simpa using this)
                    rw[show((ns.length:Int))=m by rw[hnl,hnslen]]at hun
                    obtain⟨r1,r2⟩:=h.heap.freezeAll hg ht hne
                    rw[hnslen]at hun
                    exact StepR.heap h r1 r2 (.s _) (hrun _ _ hun) (.inl rfl)
                · cases hs
              · cases hs
            · cases hs
          · cases hs
      · cases hs
    · cases hs
  · cases hs
end
structure PushH(h h':Heap)(i:Nat)(o:YObj):Prop where
 raw: ∀j,h'.raw j=if j=i then some (some o)else h.raw j
 nx:h.nx<=h'.nx∧i<h'.nx
 tg:h'.tg=h.tg

section
variable {Y:YP} {W W':Vw} {σ σ':St} {a:Act} {w w':World}

theorem HRel.newRowAt{h h':Heap}(hr:HRel W h w){i:Nat}(hi: ¬W.kn i){cs:List V}{us:List Value}(hv:VRs W cs us)(e:TypeId)(hp:PushH h h' i (.arr cs true)):
  HRel (W.push i w.heap.size us.length) h' (w.alloc (.cells us.toArray e))∧Stp W W.own w (W.push i w.heap.size us.length) (W.push i w.heap.size us.length).own (w.alloc (.cells us.toArray e)):=by
 refine hr.pushAt hi (ob:= .cells us.toArray e) ⟨rfl,rfl,rfl⟩ (Za7 _ _) (by simp) (Jh _ _) hp.raw hp.nx hp.tg ?_
 have hl:=hv.length
 refine⟨us.toArray,e,(0,0),by simpa[Vw.push]using Jh w (.cells us.toArray e),by simp[Vw.push],by simp[Vw.push];omega,fun j v hj=> ?_,fun j _ _=>by simp⟩
 obtain⟨u,hu,hr'⟩:=hv.get hj
 exact⟨u,by simpa[Vw.push]using hu,hr'.mono (W.push_le hi _ _)⟩

theorem Zkf(hY:YOK Y)(h:Rel W σ a w){o:Oper}{x:YObj}{vf:Nat->V}(hs:newO Y σ o=some (x,vf)){i:Nat}(hi: ¬W.kn i){h':Heap}(hp:PushH σ.h h' i x):
  StepR Y W σ a w o (putV {σ with h:=h'} o.dst (vf i)):=by
 unfold newO at hs
 split at hs
 ·rename_i t xl xc hop
  split at hs
  ·rename_i et kl l kc c hk hl hc
   split at hs
   ·rename_i te hte
    split at hs
    ·rename_i hin
     simp only[Option.some.injEq,Prod.mk.injEq]at hs
     obtain⟨rfl,rfl⟩:=hs
     obtain⟨ti,hti,hk'⟩:=Xx hk
     obtain⟨ii,d,z,ht⟩:=hY.ty t ti hti
     have hkd:=ht.kd
     rw[hk']at hkd
     cases hkd
     obtain⟨ie,de,ze,hee⟩:=hY.ty et te hte
     obtain⟨i0,i1,i2,i3,i4⟩:=hin
     have hzl:=(hee.zr W).length
     have hzl2:=hee.zl
     have hzs:ze.cells.size=te.size:=by rw[<-Array.length_toList,<-hzl,hzl2]
     have hrow:=VT (hee.zr W) c.toNat
     obtain⟨g1,g2⟩:=h.heap.newRowAt hi hrow et hp
     have hul:((List.range (c.toNat*ze.cells.size)).map fun i=>ze.cells[i % ze.cells.size]!).length=c.toNat*te.size:=by simp[hzs]
     simp only[hul]at g1 g2
     have hval:VR (W.push i w.heap.size (c.toNat*te.size)) (.sl (some (i,0)) l.toNat (some c.toNat) te.size) (.slice (some ⟨w.heap.size,0,none⟩) l.toNat c.toNat):=by
      refine .sls _ _ _ _ _ _ _ (.inr rfl) (by omega) (fun c' hc=>by simpa using hc) (fun _ _=> ?_) (fun _ hc=>nomatch hc) (fun _=> ?_)
      ·simp[Vw.at,Vw.push]
      ·simp[Vw.push]
     refine StepR.heap h g1 g2 hval ?_ (.inl rfl)
     have hel:=h.ev xl
     have hec:=h.ev xc
     rw[hl]at hel
     rw[hc]at hec
     generalize hul2:a.eval xl=ul at hel
     generalize huc2:a.eval xc=uc at hec
     cases hel;cases hec
     have hb:(ie.bytes:Int)*c<=281474976710656:=by
      rw[hee.bytes,Int.mul_comm]
      have:(most:Int)<=281474976710656:=by decide
      omega
     have hm63:c<=9223372036854775807:=by
      have:(most:Int)<=9223372036854775807:=by decide
      omega
     have hrun:=run_make (P:=Y.P) w t et ie ze ht.und hee.info hee.zero kl kc l c i1 i2 hb hm63
     have Zb:madeCells ze.cells (c.toNat*ie.size)=((List.range (c.toNat*ze.cells.size)).map fun i=>ze.cells[i % ze.cells.size]!).toArray:=by
      rw[<-Ws,madeCells,hee.size,hzs]
     simp only[execOp,hop,hul2,huc2,Sem.run_bind,hrun,Result.andThen_ok,Sem.run_pure,Zb]
    ·cases hs
   ·cases hs
  ·cases hs
 ·rename_i t hop
  simp only[Option.some.injEq,Prod.mk.injEq]at hs
  obtain⟨rfl,rfl⟩:=hs
  obtain⟨g1,g2⟩:=h.heap.pushAt (w':=w.alloc (.map #[] 0)) hi (ob:= .map #[] 0) (sz:=0) ⟨rfl,rfl,rfl⟩ (Za7 _ _) (by simp) (Jh _ _) hp.raw hp.nx hp.tg
   ⟨#[],0,by simpa[Vw.push]using Jh w (.map #[] 0), .nil, .nil⟩
  refine StepR.heap h g1 g2 (u:= .map (some w.heap.size)) (.mps _ _ (.inr rfl) (fun _=>by simp[Vw.push])) ?_ (.inl rfl)
  have e1:(newObj (.map #[] 0)).run Y.P w= .ok w.heap.size (w.alloc (.map #[] 0)):=rfl
  simp only[execOp,hop,Option.map_none,Instr.makeMap,Sem.run_bind,Sem.run_pure,e1,Result.andThen_ok]
 ·cases hs

theorem PushH.push(h:Heap)(o:YObj):PushH h (h.push o) h.nx o:=⟨fun j=>by simp,by simp,rfl⟩
end
end Go.Y
