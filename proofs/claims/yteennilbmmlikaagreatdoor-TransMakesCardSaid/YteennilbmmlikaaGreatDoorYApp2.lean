/- A part of the proof. -/
import Derived.Test.YteennilbmmlikaaGreatDoorYStep
import Derived.Scope
import Derived.LoopN
import Derived.Deep.Quiet
import Derived.LoopNIn
import Derived.RangeFuncRecord
namespace Go.Y
set_option maxRecDepth 1000000
set_option maxHeartbeats 0
section
variable {Y:YP} {W W':Vw} {σ σ':St} {a:Act} {w w':World}

inductive Src (P:Program) (w:World) (xt:TypeId) (ux:Value) (bytes size:Nat) (zc:Array Value) (n:Nat) (news:List Value):Prop
 |cells (d:TypeDesc) (hd:P.underlying xt=some d) (hni: ∀k,d≠ .int k) (hl: ∀w',(Builtin.lenOf ux).run P w'= .ok n w')
   (hc: ∀w',Same w w'->(Builtin.firstCells size n ux).run P w'= .ok news.toArray w')
 |zeros (k k':IntKind) (m:Int) (hd:P.underlying xt=some (.int k)) (hu:ux= .int k' m) (h0:0<=m) (h1:m<=1099511627776) (hn:n=m.toNat) (hb:n*bytes<=1099511627776)
   (hz:news.toArray=Builtin.zeroCells zc n) (hs:zc.size=size)

theorem Zhv(w:World):Same w w.drew:=fun _ _ h=>h

section
variable {P:Program} {st xt ty e:TypeId} {ux:Value} {i:TypeInfo} {z:Value} {n:Nat} {news:List Value}

theorem Zgb(ht:P.underlying st=some (.slice e))(hi:P.info? e=some i)(hz:i.zero=some z)(hs:Src P w xt ux i.bytes i.size z.cells n news)(y:Addr)(sLen sCap:Nat)(hfit:sLen+n<=sCap)
  (hst:(storeCells (y.add (sLen*i.size)) news 0).run P w= .ok () w'):
  (Builtin.append_ #[st,xt] ty #[.slice (some y) sLen sCap,ux]).run P w= .ok (.slice (some y) (sLen+n) sCap) w':=by
 cases hs with
 |cells d hd hni hl hc=>
  have hc':=hc w (.refl w)
  simp[Builtin.append_,run_underlying ht,run_underlying hd,sizeOf,typeInfo,hi,hl,hfit,hc',hst]
 |zeros k k' m hd hu h0 h1 hn hb hz' hzs=>
  subst hu hn
  have hw:IntKind.i64.wrap m=m:=Zbb h0 (by omega)
  have e1: ¬(m<0):=by omega
  have e2: ¬(281474976710656<m*(i.bytes:Int)):=by
   have hmm:((m.toNat*i.bytes:Nat):Int)=m*i.bytes:=by rw[Int.natCast_mul,Int.toNat_of_nonneg h0]
   omega
  by_cases hn0:m.toNat*i.size=0
  ·have hne:news= []:=by
    have:news.toArray.size=0:=by rw[hz',size_zeroCells,hzs];exact hn0
    simpa using this
   subst hne
   simp[Builtin.append_,run_underlying ht,run_underlying hd,sizeOf,typeInfo,hi,hz,asInt,asIntOf,hw,e1,e2,hfit,hn0,zeroValue,hst]
  ·have hzl:(Builtin.zeroCells z.cells m.toNat).toList=news:=by rw[<-hz']
   simp[Builtin.append_,run_underlying ht,run_underlying hd,sizeOf,typeInfo,hi,hz,asInt,asIntOf,hw,e1,e2,hfit,hn0,zeroValue,hzl,hst]

theorem Zlx(ht:P.underlying st=some (.slice e))(hi:P.info? e=some i)(hs:Src P w xt ux i.bytes i.size z.cells 0 news):
  (Builtin.append_ #[st,xt] ty #[.slice none 0 0,ux]).run P w= .ok (.slice none 0 0) w:=by
 cases hs with
 |cells d hd hni hl hc=>
  have hc':=hc w (.refl w)
  simp[Builtin.append_,run_underlying ht,run_underlying hd,sizeOf,typeInfo,hi,hl,hc']
 |zeros k k' m hd hu h0 h1 hn hb hz' hzs=>
  subst hu
  have hw:IntKind.i64.wrap m=m:=Zbb h0 (by omega)
  have hm0:m=0:=by omega
  subst hm0
  simp[Builtin.append_,run_underlying ht,run_underlying hd,sizeOf,typeInfo,hi,asInt,asIntOf,hw]

theorem Ztp(ht:P.underlying st=some (.slice e))(hi:P.info? e=some i)(hz:i.zero=some z)(hs:Src P w xt ux i.bytes i.size z.cells n news)(ao:Option Addr)(sLen sCap:Nat)(hgt:sCap<sLen+n)
  (olds:List Value) (hol: ∀w',Same w w'->(Builtin.firstCells i.size sLen (.slice ao sLen sCap)).run P w'= .ok olds.toArray w') (hlim:sLen+n<=1099511627776) (hb:(sLen+n)*i.bytes<=1099511627776):
  (Builtin.append_ #[st,xt] ty #[.slice ao sLen sCap,ux]).run P w= .ok (.slice (some ⟨w.heap.size,0,none⟩) (sLen+n) (grownCap w (sLen+n) sCap e))
   (w.drew.alloc (.cells (olds++(news++(Builtin.zeroCells z.cells (grownCap w (sLen+n) sCap e-(sLen+n))).toList)).toArray e)):=by
 have hn1: ¬(sLen+n<=sCap):=by omega
 have h63': ¬(9223372036854775807<((sLen:Int)+(n:Int))):=by omega
 have h48': ¬(281474976710656<Builtin.nextslicecap (sLen+n) sCap*i.bytes):=by
  have:=growslice_fits hgt (bytes:=i.bytes) (by omega)
  omega
 have hol':=hol w.drew (Zhv w)
 cases hs with
 |cells d hd hni hl hc=>
  have hc':=hc w.drew (Zhv w)
  simp[Builtin.append_,run_underlying ht,run_underlying hd,sizeOf,typeInfo,zeroValue,hi,hz,hl,hn1,h63',h48',Question.forced,hol',hc',newRow,grownCap]
  congr 2
  apply Array.ext'
  simp
 |zeros k k' m hd hu h0 h1 hn hb2 hz' hzs=>
  subst hu hn
  have hw:IntKind.i64.wrap m=m:=Zbb h0 (by omega)
  have e1: ¬(m<0):=by omega
  have e2: ¬(281474976710656<m*(i.bytes:Int)):=by
   have hmm:((m.toNat*i.bytes:Nat):Int)=m*i.bytes:=by rw[Int.natCast_mul,Int.toNat_of_nonneg h0]
   omega
  have h63'': ¬(9223372036854775807<((sLen:Int)+max m 0)):=by omega
  by_cases hn0:m.toNat*i.size=0
  ·have hne:news= []:=by
    have:news.toArray.size=0:=by rw[hz',size_zeroCells,hzs];exact hn0
    simpa using this
   subst hne
   simp[Builtin.append_,run_underlying ht,run_underlying hd,sizeOf,typeInfo,zeroValue,hi,hz,asInt,asIntOf,hw,e1,e2,hn1,h63'',h48',Question.forced,hol',hn0,newRow,grownCap]
   congr 2
   apply Array.ext'
   simp
  ·have hzl:(Builtin.zeroCells z.cells m.toNat).toList=news:=by rw[<-hz']
   simp[Builtin.append_,run_underlying ht,run_underlying hd,sizeOf,typeInfo,zeroValue,hi,hz,asInt,asIntOf,hw,e1,e2,hn1,h63'',h48',Question.forced,hol',hn0,newRow,grownCap]
   congr 2
   apply Array.ext'
   simp[hzl]
end

theorem Zpr(hY:YOK Y)(h:Rel W σ a w){te:TI}{e:TypeId}{ie:TypeInfo}{de:TypeDesc}{ze:Value}(hee:TIOK Y e te ie de ze){xt:TypeId}{x:V}{n:Nat}{new:List V}
  (hs:Xz Y σ te xt x=some (n,new)) {ux:Value} (hx:VR W x ux): ∃news,VRs W new news∧news.length=n*te.size∧Src Y.P w xt ux ie.bytes ie.size ze.cells n news:=by
 unfold Xz at hs
 split at hs
 ·cases hs
 ·rename_i k hk
  obtain⟨tx,htx,hk'⟩:=Xx hk
  obtain⟨ix,dx,zx,hxx⟩:=hY.ty xt tx htx
  have hkd:=hxx.kd
  rw[hk']at hkd
  cases hkd
  split at hs
  ·rename_i k' m
   split at hs
   ·rename_i hc
    obtain⟨c0,c1,c2⟩:=hc
    simp at hs;obtain⟨rfl,rfl⟩:=hs
    cases hx
    have hzl:=(hee.zr W).length
    have hzl2:=hee.zl
    have hzs:ze.cells.size=te.size:=by rw[<-Array.length_toList,<-hzl,hzl2]
    have hm:most=1099511627776:=by decide
    refine⟨_,VT (hee.zr W) m.toNat,by rw[List.length_map,List.length_range,hzs], .zeros k k' m hxx.und rfl c0 (by rw[hm]at c1;exact c1) rfl (by rw[hee.bytes,<-hm];exact c2) ?_ (by rw[hzs,hee.size])⟩
    rw[Builtin.zeroCells,Ws]
   ·cases hs
  ·cases hs
 ·rename_i kd hni hk
  obtain⟨tx,htx,hk'⟩:=Xx hk
  obtain⟨ix,dx,zx,hxx⟩:=hY.ty xt tx htx
  have hkd:=hxx.kd
  rw[hk']at hkd
  have hdi: ∀k,dx≠ .int k:=by
   intro k he
   subst he
   cases kd<;>simp[KdOK]at hkd
   exact hni _ rfl
  unfold QL at hs
  split at hs
  ·rename_i l
   split at hs
   ·rename_i h1
    simp at hs;obtain⟨rfl,rfl⟩:=hs
    cases hx
    refine⟨l.map fun c=>Value.int .u8 c.toNat,?_,by simp[h1], .cells dx hxx.und hdi (fun w'=>rfl) (fun w' _=> ?_)⟩
    ·clear h1
     induction l with
     |nil=>exact .nil
     |cons c l ih=>exact .cons _ _ _ _ (.i _ _) ih
    ·have e1:(⟨l.toArray⟩:ByteArray).extract 0 l.length=⟨l.toArray⟩:=by
      rw[Zb2];simp
     simp[Builtin.firstCells,e1]
   ·cases hs
  ·obtain⟨us,h1,h2,h3⟩:=Wr h hs hx
   refine⟨us,h1,h2, .cells dx hxx.und hdi (fun w'=> ?_) (fun w' hw'=> ?_)⟩
   ·rcases h3 with ⟨rfl,rfl⟩|⟨y,cap,rfl,_,_⟩<;>rfl
   ·rcases h3 with ⟨rfl,rfl⟩|⟨y,cap,rfl,_,hc⟩
    ·have:us= []:=by simpa using h2
     subst this
     simp[Builtin.firstCells]
    ·rw[hee.size]
     exact run_firstCells_some w' te.size n y n cap us h2 (hc.same hw')

theorem Zps(hY:YOK Y)(h:Rel W σ a w){st xt ty:TypeId}{s x v:V}{h':Heap}(ha:ZR Y σ st xt s x=some (v,h')){us ux:Value}(hs:VR W s us)(hx:VR W x ux):
  ∃(W':Vw) (w':World) (u:Value),(Builtin.append_ #[st,xt] ty #[us,ux]).run Y.P w= .ok u w'∧HRel W' h' w'∧Stp W W.own w W' W'.own w'∧VR W' v u:=by
 unfold ZR at ha
 split at ha
 case h_2=>cases ha
 rename_i e hk
 obtain⟨ti,hti,hk'⟩:=Xx hk
 obtain⟨it,dt,zt,ht⟩:=hY.ty st ti hti
 have hkd:=ht.kd
 rw[hk']at hkd
 cases hkd
 split at ha
 ·cases ha
 rename_i te hte
 obtain⟨ie,de,ze,hee⟩:=hY.ty e te hte
 split at ha
 ·cases ha
 rename_i n new hsrc
 obtain⟨news,hv,hnl,hS⟩:=Zpr hY h hee hsrc hx
 split at ha
 ·cases ha
 rename_i hcond
 simp only[Bool.or_eq_true,Bool.not_eq_true',decide_eq_true_eq,not_or,Bool.not_eq_false]at hcond
 obtain⟨hac,hsz⟩:=hcond
 have h1:=QT hv hac
 have hnewl:=hv.length
 have hmost:most=1099511627776:=by decide
 have hzl:=(hee.zr W).length
 have hzl2:=hee.zl
 have hzs:ze.cells.size=te.size:=by rw[<-Array.length_toList,<-hzl,hzl2]
 -- nothing is appended
 have nothing: ∀(y:Addr) (len cap:Nat),us= .slice (some y) len cap->n=0->len<=cap->(Builtin.append_ #[st,xt] ty #[us,ux]).run Y.P w= .ok us w:=by
  intro y len cap hu hn hle
  subst hu hn
  have hnn:news= []:=by simpa using hnl
  subst hnn
  exact Zgb ht.und hee.info hee.zero hS y len cap (by omega) rfl
 -- a new row
 have grown: ∀(ao:Option Addr) (len cap:Nat) (old:List V) (olds:List Value) (k:Nat) (hh:Heap) (W1:Vw) (w0:World),us= .slice ao len cap->cap<len+n->(len+n)*te.bytes<=most->len+n<=most->VRs W old olds->
   olds.length=len*te.size->(∀w',Same w w'->(Builtin.firstCells ie.size len (.slice ao len cap)).run Y.P w'= .ok olds.toArray w')->k=te.size->w0=w->Le W W1->HRel W1 hh w->Stp W W.own w W1 W1.own w-> ∀wr tg,(tg=none∨tg=some e)->
   ∃(W':Vw) (w':World) (u:Value),(Builtin.append_ #[st,xt] ty #[us,ux]).run Y.P w= .ok u w'∧HRel W' (hh.pushT tg (.arr (old++new) wr)) w'∧Stp W W.own w W' W'.own w'∧VR W' (.sl (some (hh.nx,0)) (len+n) none k) u:=by
  intro ao len cap old olds k hh W1 w0 hu hgt hb hlim hvo hol hfirst hke _ hle hr1 hstp wr tg htg
  subst hu hke
  have hrun:=Ztp (ty:=ty) ht.und hee.info hee.zero hS ao len cap hgt olds hfirst (by rw[<-hmost];exact hlim) (by rw[hee.bytes,<-hmost];exact hb)
  have hge:=grownCap_ge w (len+n) cap e
  generalize grownCap w (len+n) cap e=cap2 at hrun hge
  have hall:VRs W1 (old++new) (olds++news):=(hvo.append hv).mono hle
  have hrest:(olds++(news++(Builtin.zeroCells ze.cells (cap2-(len+n))).toList)).toArray=((olds++news)++(Builtin.zeroCells ze.cells (cap2-(len+n))).toList).toArray:=by simp
  rw[hrest]at hrun
  obtain⟨g1,g2⟩:=hr1.newRowT (w1:=w.drew) rfl ⟨rfl,rfl,rfl⟩ (Builtin.zeroCells ze.cells (cap2-(len+n))).toList hall e wr htg
  refine⟨_,_,_,hrun,g1,hstp.trans g2,?_⟩
  have hlen:(olds++news).length+(Builtin.zeroCells ze.cells (cap2-(len+n))).toList.length=cap2*te.size:=by
   rw[List.length_append,hol,hnl,Array.length_toList,size_zeroCells,hzs,<-Nat.add_mul,<-Nat.add_mul]
   congr 1;omega
  refine .sls _ _ _ _ _ _ _ (.inr rfl) hge (fun c hc=>nomatch hc) (fun _ _=> ?_) (fun _ _=> ?_) (fun _=> ?_)
  ·simp[Vw.at,Vw.push]
  ·rw[hlen];simp[Vw.push]
  ·rw[hlen];simp[Vw.push]
 split at ha
 ·-- nil
  rename_i q c k
  cases hs
  split at ha
  ·rename_i hn
   simp at ha;obtain⟨rfl,rfl⟩:=ha
   subst hn
   exact⟨W,w,_,Zlx ht.und hee.info hS,h.heap,Stp.refl _ _ _, .sln _ _⟩
  ·rename_i hn
   split at ha
   ·rename_i hb
    simp at ha;obtain⟨rfl,rfl⟩:=ha
    obtain⟨W',w',u,r1,r2,r3,r4⟩:=grown none 0 0 [] [] te.size σ.h W w rfl (by omega) (by simpa using hb.1) (by simpa using hb.2) .nil (by simp) (fun w' _=>rfl) rfl rfl (.refl W) h.heap (Stp.refl _ _ _) true (Y.tag e) (by unfold YP.tag;split<;>simp)
    simp only[List.nil_append,Nat.zero_add]at r2 r4
    exact⟨W',w',u,r1,r2,r3,r4⟩
   ·cases ha
 ·-- the call's own
  rename_i id o len c k
  split at ha
  ·cases ha
  rename_i hks
  simp only[ne_eq,Decidable.not_not]at hks
  subst hks
  have hsv:=hs
  cases hs with
  |sls _ _ _ _ _ y cap' hid hl hc hay hcn hck=>
  split at ha
  ·rename_i hn
   simp at ha;obtain⟨rfl,rfl⟩:=ha
   exact⟨W,w,_,nothing y len cap' rfl hn hl,h.heap,Stp.refl _ _ _,hsv⟩
  rename_i hn
  split at ha
  ·cases ha
  rename_i hlim
  have hb:(len+n)*te.bytes<=most:=by omega
  have hlim:len+n<=most:=by omega
  -- written in its own place
  have inplace: ∀(cs:List V) (hget:σ.h.get id=some (.arr cs true)) (hroom:o+(len+n)*te.size<=cs.length) (hcap:len+n<=cap'),
    ∃(W':Vw) (w':World) (u:Value),(Builtin.append_ #[st,xt] ty #[.slice (some y) len cap',ux]).run Y.P w= .ok u w'∧HRel W' (σ.h.set id (some (.arr (splice cs (o+len*te.size) new) true))) w'∧Stp W W.own w W' W'.own w'∧
     VR W' (.sl (some (id,o)) (len+n) c te.size) u:=by
   intro cs hget hroom hcap
   have hlv:W.lv id:=(h.heap.lv id).2 (by simp[hget])
   have hroom':o+len*te.size+new.length<=cs.length:=by rw[hnewl,hnl];rw[Nat.add_mul]at hroom;omega
   obtain⟨w',g1,g2,g3⟩:=h.heap.spliceAt hget hroom' hv h1 Y.P
   have hy:=hay hlv (by omega)
   have hst:(storeCells (y.add (len*ie.size)) news 0).run Y.P w= .ok () w':=by
    rw[hy,hee.size];unfold Vw.at at*;rw[Jv,Nat.add_assoc];exact g1
   exact⟨W,w',_,Zgb ht.und hee.info hee.zero hS y len cap' hcap hst,g2,g3, .sls id o (len+n) c te.size y cap' hid hcap hc hay hcn hck⟩
  have oldcells: ∀(old:List V),Xg σ (len*te.size) (.hp id o)=some old-> ∃olds,VRs W old olds∧olds.length=len*te.size∧
    (∀w',Same w w'->(Builtin.firstCells ie.size len (.slice (some y) len cap')).run Y.P w'= .ok olds.toArray w'):=by
   intro old hold
   obtain⟨olds,q1,q2,q3⟩:=Wr h (k:=te.size) (n:=len) (v:= .sl (some (id,o)) len c te.size) (l:=old) (by simp[XE,hold]) hsv
   refine⟨olds,q1,q2,fun w' hw'=> ?_⟩
   rcases q3 with ⟨hq,_⟩|⟨y',cap2,hq,_,hcw⟩
   ·cases hq
   ·cases hq
    rw[hee.size]
    exact run_firstCells_some w' te.size len y len cap' olds q2 (hcw.same hw')
  split at ha
  ·rename_i c0
   have hc0:=hc c0 rfl
   split at ha
   ·rename_i hfit
    split at ha
    ·rename_i cs hget
     split at ha
     ·rename_i hroom
      simp at ha;obtain⟨rfl,rfl⟩:=ha
      exact inplace cs hget hroom (by omega)
     ·cases ha
    ·cases ha
   ·rename_i hfit
    split at ha
    ·rename_i old hold
     simp at ha;obtain⟨rfl,rfl⟩:=ha
     obtain⟨olds,q1,q2,q3⟩:=oldcells old hold
     exact grown (some y) len cap' old olds te.size σ.h W w rfl (by omega) hb hlim q1 q2 q3 rfl rfl (.refl W) h.heap (Stp.refl _ _ _) true none (.inl rfl)
    ·cases ha
  ·split at ha
   ·rename_i cs wr hget
    have hlv:W.lv id:=(h.heap.lv id).2 (by simp[hget])
    split at ha
    ·rename_i hroom
     split at ha
     ·rename_i hwr
      subst hwr
      simp at ha;obtain⟨rfl,rfl⟩:=ha
      refine inplace cs hget hroom ?_
      -- the object lies within the capacity
      obtain⟨cc,et,fr,hcb,hcs,hin,_⟩:=h.heap.obj id _ hget
      have:=hcn hlv rfl
      rw[hcs]at hin
      have hle:(len+n)*te.size<=cap'*te.size:=by omega
      exact Nat.le_of_mul_le_mul_right hle (by omega)
     ·cases ha
    ·rename_i hroom
     split at ha
     ·rename_i hwr
      split at ha
      ·rename_i old hold
       simp at ha;obtain⟨rfl,rfl⟩:=ha
       obtain⟨olds,q1,q2,q3⟩:=oldcells old (by simp only[Xg,hget];exact hold)
       by_cases hcap:len+n<=cap'
       ·-- the old block goes on
        obtain⟨cc,et,fr,hcb,hcs,hin,Zb,hfrz⟩:=h.heap.obj id _ hget
        have hend:=hcn hlv rfl
        have hy:=hay hlv (by omega)
        have holdl:=q1.length
        rw[q2]at holdl
        have hmul:len*te.size+n*te.size<=cap'*te.size:=by rw[<-Nat.add_mul];exact Nat.mul_le_mul_right _ hcap
        have hrm:(W.mu id).2+(o+len*te.size)+0+news.length<=cc.size:=by rw[hnl,hcs];omega
        obtain⟨ho1,ho2⟩:=WL _ _ _ hold
        have hfz: ∀j,(W.mu id).2+(o+len*te.size)+0<=j->j<(W.mu id).2+(o+len*te.size)+0+news.length-> ¬(fr.1<=j∧j<fr.2):=by
         intro j hj hj'
         refine hfrz j ?_ (by omega)
         cases wr with
         |true=>simp;omega
         |false=>
          simp only[Bool.false_or,decide_eq_true_eq]at hwr
          simp;omega
        have hst:=Qb (P:=Y.P) (W.mu id).1 ((W.mu id).2+(o+len*te.size)) et fr news 0 cc w hcb hrm hfz h1
        have hst':(storeCells (y.add (len*ie.size)) news 0).run Y.P w= .ok () (w.putB (W.mu id).1 (.cells (splice cc.toList ((W.mu id).2+(o+len*te.size)+0) news).toArray et fr)):=by
         rw[hy,hee.size];unfold Vw.at;rw[Jv,Nat.add_assoc];exact hst
        have hrun:=Zgb (ty:=ty) ht.und hee.info hee.zero hS y len cap' hcap hst'
        have hspl:(splice cc.toList ((W.mu id).2+(o+len*te.size)+0) news).length=cc.size:=by rw[Xp _ _ _ (by simpa using hrm)];simp
        have hgo:=h.heap.go ⟨rfl,rfl,rfl⟩ (i:=id) (off:=o) (w':=w.putB (W.mu id).1 (.cells (splice cc.toList ((W.mu id).2+(o+len*te.size)+0) news).toArray et fr)) hlv (o:= .arr (old++new) wr) (Vs _ _ _) (Zcx _ _ _) ?_
        ·refine⟨_,_,_,hrun,hgo.1.tagIf (.inr rfl) (fun x hx=> ?_),hgo.2,?_⟩
         ·split at hx
          ·rename_i hcd
           simp only[Option.some.injEq]at hx
           subst hx
           obtain⟨g1,c2,fr2,g2,g3,g4⟩:=(h.heap.tg _ (Jy hcd.2)).2 hlv
           rw[hcb]at g2
           simp only[Option.some.injEq,Obj.cells.injEq]at g2
           obtain⟨rfl,rfl,rfl⟩:=g2
           intro _
           simp only[Heap.nx_set,Vw.go,if_true]
           exact⟨by rw[g1,hcd.1],_,_,QO _ _ _ (Zq hcb),g3,by rw[List.size_toArray,hspl];exact g4⟩
          ·cases hx
         refine .sls _ _ _ _ _ _ _ (.inr rfl) hcap (fun c hc=>nomatch hc) (fun _ _=> ?_) (fun _ _=> ?_) (fun _=> ?_)
         ·rw[hy];simp[Vw.at,Vw.go]
         ·simp[Vw.go];omega
         ·simp[Vw.go];omega
        ·refine⟨(splice cc.toList ((W.mu id).2+(o+len*te.size)+0) news).toArray,et,fr,by simpa[Vw.go]using QO w _ _ (Zq hcb),by rw[List.size_toArray,hspl];simpa[Vw.go]using hcs,?_,fun j v hj=> ?_,fun j hj hj'=> ?_⟩
         ·rw[List.size_toArray,hspl];simp only[Vw.go,if_true,List.length_append];rw[hnewl,hnl,holdl,hcs];omega
         ·simp only[Vw.go,if_true,List.getElem?_toArray]
          rw[Xn _ _ _ _ (by simpa using hrm)]
          by_cases hjo:j<old.length
          ·rw[List.getElem?_append_left hjo]at hj
           rw[if_neg (by omega)]
           rw[ho1,List.getElem?_take]at hj
           split at hj
           ·rw[List.getElem?_drop]at hj
            obtain⟨u,hu,hru⟩:=Zb _ v hj
            exact⟨u,by simpa[Nat.add_assoc]using hu,hru.mono (W.go_le (h.heap.new (Nat.le_refl _)) _ _)⟩
           ·cases hj
          ·rw[List.getElem?_append_right (by omega)]at hj
           obtain⟨u,hu,hru⟩:=hv.get hj
           have hlt:=(List.getElem?_eq_some_iff.1 hu).1
           rw[if_pos (by omega)]
           refine⟨u,?_,hru.mono (W.go_le (h.heap.new (Nat.le_refl _)) _ _)⟩
           rw[show(W.mu id).2+o+j-((W.mu id).2+(o+len*te.size)+0)=j-old.length by omega]
           exact hu
         ·rw[List.size_toArray,hspl]at hj'
          simp only[Vw.go,if_true,List.length_append]at hj
          refine hfrz j ?_ hj'
          cases wr with
          |true=>simp at hj ⊢;omega
          |false=>
           simp only[Bool.false_or,decide_eq_true_eq]at hwr
           simp at hj ⊢;omega
       ·obtain⟨k1,k2⟩:=h.heap.kill (h.heap.ltg ((h.heap.lv id).1 hlv))
        have:=grown (some y) len cap' old olds te.size (σ.h.set id none) (W.kill id) w rfl (by omega) hb hlim q1 q2 q3 rfl rfl (W.kill_le id) k1 k2 wr (if o=0∧σ.h.tagOf id=some e then some e else none) (by split<;>simp)
        simpa using this
      ·cases ha
     ·cases ha
   ·cases ha
 ·-- read-only
  rename_i cs len c
  by_cases hnz:us= .slice none 0 0
  ·subst hnz
   have hlen:len=0∧cs= []∧ ∀k,c=some k->k=0:=by
    cases hs with
    |tsz _ hc=>exact⟨rfl,rfl,hc⟩
   obtain⟨rfl,rfl,hc0⟩:=hlen
   split at ha
   ·rename_i hn
    simp at ha;obtain⟨rfl,rfl⟩:=ha
    subst hn
    exact⟨W,w,_,Zlx ht.und hee.info hS,h.heap,Stp.refl _ _ _,hs⟩
   rename_i hn
   split at ha
   ·cases ha
   rename_i hlim
   split at ha
   ·rename_i c0
    have hz:=hc0 c0 rfl
    subst hz
    split at ha
    ·cases ha
    ·split at ha
     ·rename_i old hold
      have ho:old= []:=by simpa[Zo]using hold.symm
      subst ho
      simp at ha;obtain⟨rfl,rfl⟩:=ha
      obtain⟨W',w',u,r1,r2,r3,r4⟩:=grown none 0 0 [] [] te.size σ.h W w rfl (by omega) (by simpa using (show(0+n)*te.bytes<=most by omega)) (by omega) .nil (by simp) (fun w' _=>rfl) rfl rfl (.refl W) h.heap (Stp.refl _ _ _) true none (.inl rfl)
      simp only[List.nil_append,Nat.zero_add]at r2 r4
      exact⟨W',w',u,r1,by simpa using r2,r3,by simpa using r4⟩
     ·cases ha
   ·cases ha
  have shape: ∃y cap',us= .slice (some y) len cap'∧len<=cap'∧(∀k,c=some k->cap'=k):=by
   cases hs with
   |tsz _ _=>exact absurd rfl hnz
   |tsn _ _ y cap' hl hc=>exact⟨y,cap',rfl,hl,hc⟩
   |ts _ _ _ cap' blk off cc et fr us hl hcap hs hcc hr=>exact⟨_,cap',rfl,hl,hcap⟩
  obtain⟨y,cap',hus,hl,hc⟩:=shape
  split at ha
  ·rename_i hn
   simp at ha;obtain⟨rfl,rfl⟩:=ha
   exact⟨W,w,_,nothing y len cap' hus hn hl,h.heap,Stp.refl _ _ _,hs⟩
  rename_i hn
  split at ha
  ·cases ha
  rename_i hlim
  have hb:(len+n)*te.bytes<=most:=by omega
  have hlim:len+n<=most:=by omega
  split at ha
  ·rename_i c0
   have hc0:=hc c0 rfl
   split at ha
   ·cases ha
   ·rename_i hfit
    split at ha
    ·rename_i old hold
     simp at ha;obtain⟨rfl,rfl⟩:=ha
     obtain⟨olds,q1,q2,q3⟩:=Wr h (k:=te.size) (n:=len) (l:=old) (v:= .ts cs len (some c0)) (by simp[XE,hold]) hs
     subst hus
     refine grown (some y) len cap' old olds te.size σ.h W w rfl (by omega) hb hlim q1 q2 (fun w' hw'=> ?_) rfl rfl (.refl W) h.heap (Stp.refl _ _ _) true none (.inl rfl)
     rcases q3 with ⟨hq,_⟩|⟨y',cap2,hq,_,hcw⟩
     ·cases hq
     ·cases hq
      rw[hee.size]
      exact run_firstCells_some w' te.size len y len cap' olds q2 (hcw.same hw')
    ·cases ha
  ·cases ha
 ·cases ha
end
section
variable {Y:YP} {W W':Vw} {σ σ':St} {a:Act} {w w':World}

theorem Ztq(hY:YOK Y)(h:Rel W σ a w){loc:Nat->Bool}{o:Oper}{σ':St}(hs:XZ Y loc σ o=some (.st σ')):StepR Y W σ a w o σ':=by
 unfold XZ at hs
 split at hs
 ·rename_i q hq
  simp only[Option.map_eq_some_iff]at hs
  obtain⟨σ2,hp,he⟩:=hs
  cases he
  exact StepR.quiet hY h hq hp
 ·split at hs
  ·rename_i t hop
   split at hs
   ·rename_i ti hti
    simp only[Option.map_eq_some_iff]at hs
    obtain⟨σ2,hp,he⟩:=hs
    cases he
    exact Zey hY h hop hti hp
   ·cases hs
  ·rename_i t x hop
   split at hs
   ·split at hs
    ·rename_i hc
     simp only[Option.map_eq_some_iff]at hs
     obtain⟨σ2,hp,he⟩:=hs
     cases he
     exact Zlv hY h hop hc.2 hp
    ·cases hs
   ·cases hs
  ·rename_i t x y hop
   split at hs
   ·rename_i ti ad hti had
    split at hs
    ·rename_i hc
     simp only[Option.map_eq_some_iff]at hs
     obtain⟨σ2,hp,he⟩:=hs
     cases he
     exact Zez hY h hop hti had hc.1 hc.2 hp
    ·cases hs
   ·cases hs
  ·rename_i t n parts hop
   split at hs
   ·rename_i et hk
    split at hs
    ·rename_i te hte
     split at hs
     ·cases hs
     ·rename_i hsz
      split at hs
      ·rename_i cs hf
       cases hs
       exact Zc0 hY h hop hk hte hsz hf
      ·cases hs
    ·cases hs
   ·cases hs
  ·rename_i t xl xc hop
   split at hs
   ·rename_i et kl l kc c hk hl hc
    split at hs
    ·rename_i te hte
     split at hs
     ·rename_i hin
      cases hs
      exact Zem hY h hop hk hl hc hte hin
     ·cases hs
    ·cases hs
   ·cases hs
  ·rename_i src dst x hop
   split at hs
   ·rename_i et l hks hkd hx
    split at hs
    ·rename_i te hte
     split at hs
     ·rename_i hke
      cases hs
      exact Zhu hY h hop hks hkd hx hte hke
     ·cases hs
    ·cases hs
   ·cases hs
  ·rename_i args argTypes hop
   split at hs
   ·rename_i s x st xt har hat
    split at hs
    ·rename_i v h' happ
     cases hs
     have hat':argTypes= #[st,xt]:=by apply Array.ext';simpa using hat
     have har':args= #[s,x]:=by apply Array.ext';simpa using har
     subst hat' har'
     obtain⟨W',w',u,r1,r2,r3,r4⟩:=Zps (ty:=o.type) hY h happ (h.ev s) (h.ev x)
     refine StepR.heap h r2 r3 r4 ?_ (.inl rfl)
     have e3:(#[s,x].map a.eval)= #[a.eval s,a.eval x]:=by simp
     have hres:(resolve a.eval ⟨.builtin .append,#[s,x],#[st,xt]⟩ o.type).run Y.P w= .ok {target:= .builtin .append #[st,xt] o.type (#[s,x].map fun| .const _=>true|_=>false),args:= #[s,x].map a.eval} w:=rfl
     simp only[execOp,hop,Sem.run_bind,hres,Result.andThen_ok,invoke,builtin,e3,r1,Sem.run_pure]
    ·cases hs
   ·cases hs
  ·split at hs<;>cases hs
  ·cases hs

theorem QG(h:Rel W σ a w){loc:Nat->Bool}{o:Oper}{f:FuncId}{args:List V}(hs:XZ Y loc σ o=some (.call f args)):
  ∃us,VRs W args us∧(execOp a.eval o).run Y.P w=(callFunc f us.toArray).run Y.P w:=by
 unfold XZ at hs
 split at hs
 ·simp only[Option.map_eq_some_iff]at hs
  obtain⟨_,_,he⟩:=hs
  cases he
 ·split at hs
  ·split at hs
   ·simp only[Option.map_eq_some_iff]at hs;obtain⟨_,_,he⟩:=hs;cases he
   ·cases hs
  ·split at hs
   ·split at hs
    ·simp only[Option.map_eq_some_iff]at hs;obtain⟨_,_,he⟩:=hs;cases he
    ·cases hs
   ·cases hs
  ·split at hs
   ·split at hs
    ·simp only[Option.map_eq_some_iff]at hs;obtain⟨_,_,he⟩:=hs;cases he
    ·cases hs
   ·cases hs
  ·split at hs
   ·split at hs
    ·split at hs
     ·cases hs
     ·split at hs<;>cases hs
    ·cases hs
   ·cases hs
  ·split at hs
   ·split at hs
    ·split at hs<;>cases hs
    ·cases hs
   ·cases hs
  ·split at hs
   ·split at hs
    ·split at hs<;>cases hs
    ·cases hs
   ·cases hs
  ·split at hs
   ·split at hs<;>cases hs
   ·cases hs
  ·rename_i fo ops ats hop
   split at hs
   ·rename_i g fa fc hf
    simp only[Option.some.injEq,R.call.injEq]at hs
    obtain⟨rfl,rfl⟩:=hs
    have hfo:=h.ev fo
    rw[hf]at hfo
    generalize hfe:a.eval fo=uf at hfo
    cases hfo with
    |fn _ _ _ ua uc ha hc=>
     refine⟨ua++ops.toList.map a.eval++uc,(ha.append (h.evs ops.toList)).append hc,?_⟩
     have e1:(ua.toArray++ops.map a.eval)++uc.toArray=(ua++ops.toList.map a.eval++uc).toArray:=by
      apply Array.ext';simp
     simp only[execOp,hop,resolve,hfe,Deferred.ofValue,Sem.run_bind,Sem.run_pure,Result.andThen_ok,invoke,e1]
   ·cases hs
  ·cases hs

def CallTr(Y:YP)(f:FuncId)(args:List V)(h:Heap)(Q:V->Heap->Prop):Prop:=
 ∀(W:Vw) (w:World) (us:List Value),HRel W h w->VRs W args us->Calls Y.P f us.toArray w fun e w'=>
  ∃(v:V) (h':Heap) (W':Vw) (u:Value),Q v h'∧e= .returned u∧HRel W' h' w'∧VR W' v u∧Stp W W.own w W' W'.own w'

theorem CallTr.mono{f:FuncId}{args:List V}{h:Heap}{Q Q':V->Heap->Prop}(hc:CallTr Y f args h Q)(hq: ∀v h',Q v h'->Q' v h'):CallTr Y f args h Q':=
 fun W w us hr hv=>(hc W w us hr hv).mono fun _ _ ⟨v,h',W',u,h1,h2⟩=>⟨v,h',W',u,hq _ _ h1,h2⟩

structure RdCon(Y:YP)(id:Nat)(args:List V)(h:Heap)(Q:V->Heap->Prop):Prop where
 tr: ∀(W:Vw) (w:World) (us:List Value),HRel W h w->VRs W args us->W.lv id∧ ∃(f:FuncId) (tmps:Array Value) (assign body:Code),
  (Instr.yield (W.mu id).1 us.toArray).run Y.P w= .ok (.round (W.mu id).1 f tmps assign body) w∧
  RoundIn Fence.wide 0 Y.P (W.mu id).1 f tmps assign body w fun e w'=> ∃(v:V) (h':Heap) (W':Vw) (u:Value),Q v h'∧e= .returned u∧HRel W' h' w'∧VR W' v u∧Stp W W.own w W' W'.own w'

theorem RdCon.mono{id:Nat}{args:List V}{h:Heap}{Q Q':V->Heap->Prop}(hc:RdCon Y id args h Q)(hq: ∀v h',Q v h'->Q' v h'):RdCon Y id args h Q':=
 ⟨fun W w us hr hv=>by
  obtain⟨h1,f,t,as,bd,h2,h3⟩:=hc.tr W w us hr hv
  exact⟨h1,f,t,as,bd,h2,h3.mono fun _ _ ⟨v,h',W',u,q1,q2⟩=>⟨v,h',W',u,hq _ _ q1,q2⟩⟩⟩

def QV(Y:YP)(f:FuncId):Prop:= ∃fn body,Y.P.funcs[f]? =some fn∧fn.body=some body

theorem VU(h:Rel W σ a w){ops:Array Oper}{o:Oper}{b:Bool}(hg:Jf ops σ.env o=some b):Region.wanted o (yielded ops a.tmps)=b:=by
 unfold Jf at hg
 unfold Region.wanted
 cases hgo:o.guard with
 |none=>simp[hgo]at hg;subst hg;rfl
 |some jw=>
  obtain⟨j,want⟩:=jw
  simp only[hgo]at hg
  split at hg
  ·rename_i d hd
   have key: ∀v,σ.env.getD d .undef=v->v≠ .undef->σ.env[d]? =some v:=by
    intro v hv hne
    simp only[List.getD]at hv
    cases he:σ.env[d]? with
    |none=>rw[he]at hv;simp at hv;exact absurd hv.symm hne
    |some x=>rw[he]at hv;simp at hv;rw[hv]
   split at hg
   ·rename_i x hx
    simp at hg
    obtain⟨u,h1,h2⟩:=h.env d _ (key _ hx (fun e=>nomatch e))
    cases h2
    simp[yielded,hd,h1,hg]
   ·rename_i hx
    simp at hg;subst hg
    obtain⟨u,h1,h2⟩:=h.env d _ (key _ hx (fun e=>nomatch e))
    cases h2 with
    |tup _ us hr=>
     cases hr
     simp[yielded,hd,h1]
   ·cases hg
  ·cases hg

def OutR:Out->Exit->Prop
 | .normal, .normal=>True
 | .exit i, .exit j=>i=j
 | .ret, .ret=>True
 |_,_=>False

def Zx4(Q:Out->St->Prop)(W:Vw)(own:Nat->Prop)(w:World)(e:Exit)(a':Act)(w':World):Prop:=
 ∃(o:Out) (σ':St) (W':Vw),OutR o e∧Q o σ'∧Rel W' σ' a' w'∧Stp W own w W' (mine W' σ' a') w'

abbrev FrR(r:Option Nat):Fence:= {Fence.wide with round:=r}

def TriG(r:Option Nat)(Y:YP)(c:Code)(σ:St)(Q:Out->St->Prop):Prop:=
 ∀(W:Vw) (a:Act) (w:World) (W0:Vw) (own0:Nat->Prop) (w0:World),Rel W σ a w->Stp W0 own0 w0 W (mine W σ a) w->c.wpIn (FrR r) 0 Y.P (Zx4 Q W0 own0 w0) a w
abbrev Tri(Y:YP)(c:Code)(σ:St)(Q:Out->St->Prop):Prop:=TriG none Y c σ Q

variable {ro:Option Nat}

theorem TriG.mono{c:Code}{Q Q':Out->St->Prop}(h:TriG ro Y c σ Q)(hq: ∀o σ',Q o σ'->Q' o σ'):TriG ro Y c σ Q':=
 fun W a w W0 own0 w0 hr hs=>wpIn_mono (h W a w W0 own0 w0 hr hs) fun _ _ _ ⟨o,σ',W',h1,h2,h3⟩=>⟨o,σ',W',h1,hq _ _ h2,h3⟩
theorem Tri.mono{c:Code}{Q Q':Out->St->Prop}(h:Tri Y c σ Q)(hq: ∀o σ',Q o σ'->Q' o σ'):Tri Y c σ Q':=TriG.mono h hq

theorem Ztr{Q:Out->St->Prop}(h:Q .normal σ):TriG ro Y .skip σ Q:=fun W _ _ _ _ _ hr hs=>wpIn_skip ⟨.normal,σ,W,trivial,h,hr,hs⟩
theorem Zpt{l:Nat}{Q:Out->St->Prop}(h:Q .normal σ):TriG ro Y (.label l) σ Q:=fun W _ _ _ _ _ hr hs=>wpIn_label ⟨.normal,σ,W,trivial,h,hr,hs⟩
theorem Zts{id:Nat}{Q:Out->St->Prop}(h:Q (.exit id) σ):TriG ro Y (.exit id) σ Q:=fun W _ _ _ _ _ hr hs=>wpIn_exit ⟨.exit id,σ,W,rfl,h,hr,hs⟩
theorem Zx5{Q:Out->St->Prop}(h:Q .ret σ):TriG ro Y .ret σ Q:=fun W _ _ _ _ _ hr hs=>wpIn_ret ⟨.ret,σ,W,trivial,h,hr,hs⟩

def ZHz(ro:Option Nat)(Y:YP)(b:Code)(Q:Out->St->Prop):Out->St->Prop
 | .normal,σ=>TriG ro Y b σ Q
 |o,σ=>Q o σ

theorem Zpu{x y:Code}{Q:Out->St->Prop}(h:TriG ro Y x σ (ZHz ro Y y Q)):TriG ro Y (.seq x y) σ Q:=by
 intro W a w W0 own0 w0 hr hs
 refine wpIn_seq (wpIn_mono (h W a w W0 own0 w0 hr hs) ?_)
 rintro e a' w' ⟨o,σ',W',ho,hq,hr',hs'⟩
 cases o<;>cases e<;>simp only[OutR]at ho
 ·exact hq W' a' w' W0 own0 w0 hr' hs'
 ·subst ho;exact⟨.exit _,σ',W',rfl,hq,hr',hs'⟩
 ·exact⟨.ret,σ',W',trivial,hq,hr',hs'⟩

theorem Zgc{x:Operand}{c d:Code}{Q:Out->St->Prop}{b:Bool}(hx:ev σ.env x= .b b)(h:TriG ro Y (if b then c else d) σ Q):TriG ro Y (.cond x c d) σ Q:=by
 intro W a w W0 own0 w0 hr hs
 have hv:=hr.ev x
 rw[hx]at hv
 generalize he:a.eval x=u at hv
 cases hv
 exact wpIn_cond he (h W a w W0 own0 w0 hr hs)

def Zkc(id:Nat)(Q:Out->St->Prop):Out->St->Prop
 | .exit j,σ=>if j=id then Q .normal σ else Q (.exit j) σ
 |o,σ=>Q o σ

theorem Zpv{id:Nat}{c:Code}{Q:Out->St->Prop}(h:TriG ro Y c σ (Zkc id Q)):TriG ro Y (.block id c) σ Q:=by
 intro W a w W0 own0 w0 hr hs
 refine wpIn_block (wpIn_mono (h W a w W0 own0 w0 hr hs) ?_)
 rintro e a' w' ⟨o,σ',W',ho,hq,hr',hs'⟩
 cases o<;>cases e<;>simp only[OutR]at ho
 ·exact⟨.normal,σ',W',trivial,hq,hr',hs'⟩
 ·rename_i i j
  subst ho
  simp only[Zkc,Exit.inBlock]at hq ⊢
  by_cases hi:i=id
  ·rw[if_pos hi]at hq ⊢;exact⟨.normal,σ',W',trivial,hq,hr',hs'⟩
  ·rw[if_neg hi]at hq ⊢;exact⟨.exit i,σ',W',rfl,hq,hr',hs'⟩
 ·exact⟨.ret,σ',W',trivial,hq,hr',hs'⟩

theorem Qj{P:Program}{b:Frame}{a:Act}{k:List Item}{cs:List Frame}{w:World}{c:Code} :step P (lone (b.atR a (.code (.scope c)::k)) cs w)= .next (lone (b.atR a (.code c:: .inScope c::k)) cs w):=
 step_lone_go (by simp[stepG,stepG.exec,Frame.atR])
theorem Zgd{P:Program}{b:Frame}{a:Act}{k:List Item}{cs:List Frame}{w:World}{c:Code} :step P (lone (b.atR a (.inScope c::k)) cs w)= .next (lone (b.atR a k) cs w):=
 step_lone_go (by simp[stepG,stepG.exec,Frame.atR])

theorem Vu{F:Fence}{n:Nat}{P:Program}{a:Act}{w:World}{Q:Exit->Act->World->Prop}{c:Code}(h:c.wpIn F n P (Exit.noGoto Q) a w):(Code.scope c).wpIn F n P Q a w:=by
 intro b k cs hro hb hr
 have h0:(lone (b.atR a (.code (.scope c)::k)) cs w).fenced P F:=fenced_calm hb hr rfl
 obtain⟨e,a₁,w₁,hq,harr⟩:=h b (.inScope c::k) cs hro hb hr
 cases e with
 |normal=>exact⟨.normal,a₁,w₁,hq, .head h0 Qj (StepsIn.trans harr (.one (fenced_calm hb hr rfl) Zgd))⟩
 |exit id=>
  have hx:exitTo id (.inScope c::k)=exitTo id k:=by simp[exitTo]
  exact⟨.exit id,a₁,w₁,hq,fun k' hk=> .head h0 Qj (harr.1 k' (by rw[hx];exact hk)),
   fun hr' hk=>let ⟨k₁,h1,h2⟩:=harr.2 hr' (by rw[hx];exact hk);⟨k₁,h1, .head h0 Qj h2⟩⟩
 |goto l=>exact hq.elim
 |ret=>exact⟨_,a₁,w₁,hq, .of_steps (.one h0 Qj) harr⟩
 |panic ch=>exact⟨_,a₁,w₁,hq, .of_steps (.one h0 Qj) harr⟩
 |outgrown=>exact⟨_,a₁,w₁,hq, .of_steps (.one h0 Qj) harr⟩

theorem Zhw{c:Code}{Q:Out->St->Prop}(h:TriG ro Y c σ Q):TriG ro Y (.scope c) σ Q:=by
 intro W a w W0 own0 w0 hr hs
 refine Vu (wpIn_mono (h W a w W0 own0 w0 hr hs) ?_)
 rintro e a' w' ⟨o,σ',W',ho,hq⟩
 cases e<;>first|exact⟨o,σ',W',ho,hq⟩|(cases o<;>exact ho.elim)

theorem Zce{c:Code}{Q:Out->St->Prop}(I:Nat->St->Prop){n:Nat}(h0:I n σ)
  (round: ∀n σ,I n σ->TriG ro Y c σ fun o σ'=>match o with| .normal=> ∃m,m<n∧I m σ'|o=>Q o σ'):TriG ro Y (.loop c) σ Q:=by
 intro W a w W0 own0 w0 hr hs
 have key: ∀n,∀m σ W a w,m<=n->I m σ->Rel W σ a w->Stp W0 own0 w0 W (mine W σ a) w->Code.roundsIn (FrR ro) 0 Y.P c (Zx4 Q W0 own0 w0) (n+1) a w:=by
  intro n
  induction n with
  |zero=>
   intro m σ W a w hm hi hr hs
   rw[roundsIn_succ]
   refine wpIn_mono (round m σ hi W a w W0 own0 w0 hr hs) ?_
   rintro e a' w' ⟨o,σ',W',ho,hq,hr',hs'⟩
   cases o<;>cases e<;>simp only[OutR]at ho
   ·obtain⟨k,hk,_⟩:=hq;omega
   ·exact⟨.exit _,σ',W',ho,hq,hr',hs'⟩
   ·exact⟨.ret,σ',W',trivial,hq,hr',hs'⟩
  |succ n ih=>
   intro m σ W a w hm hi hr hs
   rw[roundsIn_succ]
   refine wpIn_mono (round m σ hi W a w W0 own0 w0 hr hs) ?_
   rintro e a' w' ⟨o,σ',W',ho,hq,hr',hs'⟩
   cases o<;>cases e<;>simp only[OutR]at ho
   ·obtain⟨k,hk,hi'⟩:=hq
    exact ih k σ' W' a' w' (by omega) hi' hr' hs'
   ·exact⟨.exit _,σ',W',ho,hq,hr',hs'⟩
   ·exact⟨.ret,σ',W',trivial,hq,hr',hs'⟩
 exact wpIn_loop_rounds (n+1) (key n n σ W a w (Nat.le_refl _) h0 hr hs)

theorem Rel.noRefs(h:Rel W σ a w):Rel W {σ with refs:= []} a w:=⟨h.heap,h.size,h.env,h.box,fun _ _ _ hm=>by simp at hm,h.defers⟩

/-! ### Functions -/
theorem VRs.undefs(n:Nat):VRs W (List.replicate n .undef) (List.replicate n Go.undef):=by
 induction n with
 |zero=>exact .nil
 |succ n ih=>exact .cons _ _ _ _ (.undef _) ih

theorem Rel.start{h:Heap}(hr:HRel W h w){args:List V}{us:List Value}(hv:VRs W args us)(n:Nat):
  Rel W ⟨args++List.replicate (n-args.length) .undef,[],h⟩ {tmps:=us.toArray++Array.replicate (n-us.toArray.size) Go.undef,defers:= []} w∧
  ∀b,mine W ⟨args++List.replicate (n-args.length) .undef,[],h⟩ {tmps:=us.toArray++Array.replicate (n-us.toArray.size) Go.undef,defers:= []} b->W.own b:=by
 have hl:=hv.length
 have hall:VRs W (args++List.replicate (n-args.length) .undef) (us++List.replicate (n-us.length) Go.undef):=by
  rw[hl];exact hv.append (VRs.undefs _)
 have hta:(us.toArray++Array.replicate (n-us.toArray.size) Go.undef)=(us++List.replicate (n-us.length) Go.undef).toArray:=by
  apply Array.ext';simp
 have hno: ∀(t:Nat) (cs:List V),(args++List.replicate (n-args.length) .undef)[t]? ≠some (V.lb cs):=by
  intro t cs he
  obtain⟨u,_,h2⟩:=hall.get he
  exact h2.ne_box.1 cs rfl
 rw[hta]
 refine⟨⟨hr,by simp[hl],fun t v ht=> ?_,fun t t' b h1 _=>absurd h1.1.choose_spec (hno t _),fun _ _ _ hm=>by simp at hm, .none rfl⟩,?_⟩
 ·obtain⟨u,h1,h2⟩:=hall.get ht
  exact⟨u,by simpa using h1,h2.srel⟩
 ·rintro b (ho|⟨t,⟨cs,h1⟩,_⟩|hm)
  ·exact ho
  ·exact absurd h1 (hno t cs)
  ·simp at hm

theorem Zkd{g:ResultVar->Sem Value}(hg: ∀r x,Vr Y σ r=some x-> ∃u,VR W x u∧(g r).run Y.P w= .ok u w){rs:Array ResultVar}{fn:Func}(hrs:fn.results=rs){v:V}(hv:Jg Y fn σ=some v):
  ∃u,VR W v u∧(do let vs<-rs.mapM g;pure (if h:vs.size=1 then vs[0]else .tuple vs):Sem Value).run Y.P w= .ok u w:=by
 have many: ∀(l:List ResultVar) (vs:List V),QB Y σ l=some vs-> ∃us,VRs W vs us∧(l.mapM g).run Y.P w= .ok us w:=by
  intro l
  induction l with
  |nil=>intro vs hvs;simp[QB]at hvs;subst hvs;exact⟨[], .nil,by simp⟩
  |cons r l ih=>
   intro vs hvs
   simp only[QB]at hvs
   split at hvs
   ·rename_i x xs h1 h2
    simp at hvs;subst hvs
    obtain⟨u,g1,g2⟩:=hg r x h1
    obtain⟨us,g3,g4⟩:=ih xs h2
    exact⟨u::us, .cons _ _ _ _ g1 g3,by simp only[List.mapM_cons,Sem.run_bind,g2,g4,Result.andThen_ok,Sem.run_pure]⟩
   ·cases hvs
 unfold Jg at hv
 rw[hrs]at hv
 have fin: ∀vs,QB Y σ rs.toList=some vs-> ∃us,VRs W vs us∧
   (do let vs<-rs.mapM g;pure (if h:vs.size=1 then vs[0]else .tuple vs):Sem Value).run Y.P w= .ok (if hh:us.toArray.size=1 then us.toArray[0]else .tuple us.toArray) w:=by
  intro vs hvs
  obtain⟨us,h1,h2⟩:=many _ vs hvs
  refine⟨us,h1,?_⟩
  rw[Array.mapM_eq_mapM_toList,Sem.run_bind,Sem.run_map,h2]
  rfl
 split at hv
 ·rename_i x hx
  simp at hv;subst hv
  obtain⟨us,h1,h2⟩:=fin _ hx
  cases h1 with
  |cons _ u _ _ g1 g2=>cases g2;exact⟨u,g1,by simpa using h2⟩
 ·rename_i vs hne hx
  simp at hv;subst hv
  obtain⟨us,h1,h2⟩:=fin _ hx
  refine⟨.tuple us.toArray, .tup _ _ h1,?_⟩
  rw[h2]
  have hl:=h1.length
  have: ¬us.toArray.size=1:=by
   intro h1'
   simp at h1'
   rw[h1']at hl
   match vs,hl with
   | [x],_=>exact hne x rfl
  rw[dif_neg this]
 ·cases hv

theorem Znx(hY:YOK Y)(h:Rel W σ a w){fn:Func}{v:V}(hv:Jg Y fn σ=some v): ∃u,VR W v u∧(results fn a.tmps).run Y.P w= .ok u w:=by
 unfold results
 refine Zkd (fun r x hx=> ?_) rfl hv
 cases r with
 |tmp t=>
  have he:=h.ev (.tmp t)
  have hx':ev σ.env (.tmp t)=x:=by
   revert hx
   simp only[Vr]
   cases ev σ.env (.tmp t)<;>simp
  rw[hx']at he
  exact⟨_,he,rfl⟩
 |cell s t=>
  simp only[Vr]at hx
  split at hx
  ·rename_i ti ad hti had
   obtain⟨u,h1,h2⟩:=Zpo hY h hti had hx
   obtain⟨y,hy,_⟩:=Za8 h had
   refine⟨u,h1,?_⟩
   have:=h2 w (.refl w)
   rw[hy]at this
   have hy':a.tmps.getD s Go.undef= .pointer (some y):=hy
   simp only[hy',asAddr,Sem.run_bind,Sem.run_pure,Result.andThen_ok]
   simpa[Instr.loadAt,Instr.sureAddr]using this
  ·cases hx

theorem Rel.take(h:Rel W σ a w){d:Deferred}{ds:List Deferred}(hd:a.defers=d::ds): ∃(r:Nat) (w':World),d.target= .collected r∧(Instr.takeDeferred r).run Y.P w= .ok [] w'∧
  Rel W σ {a with defers:=ds} w'∧Stp W (mine W σ a) w W (mine W σ {a with defers:=ds}) w':=by
 obtain⟨r,rfl,h2,h3,h4⟩:=h.defers.at_ d (by rw[hd];simp)
 have hlt:=Zq h2
 have hk: ∀x,x≠r->(w.putB r (.deferred none)).heap[x]? =w.heap[x]? :=fun x hx=>Za6 _ _ _ _ (fun e=>hx e.symm)
 have hnd:=h.defers.nd
 rw[hd,List.nodup_cons]at hnd
 refine⟨r,w.putB r (.deferred none),rfl,run_takeDeferred h2,⟨⟨h.heap.kn,h.heap.lk,h.heap.lv,h.heap.lt,fun b o hb=> ?_,fun id o ho=> ?_,h.heap.inj,h.heap.apart,fun p hp=>⟨(h.heap.tg p hp).1,fun hl=> ?_⟩,h.heap.gl⟩,h.size,fun t v ht=> ?_,h.box,h.refs,⟨hnd.2,fun d hd'=> ?_⟩⟩,
  ⟨.refl W,by simp,fun b _ hn=>hk b (fun e=>hn (.inr (.inr (by rw[hd,e];simp)))),fun b hb=> ?_,fun b hb=> .inl hb,⟨rfl,rfl,rfl⟩⟩⟩
 ·rw[hk b (fun e=>by rw[e,h3]at hb;cases hb)];exact h.heap.snap b o hb
 ·exact h.heap.others hk ho (fun e=>h4 ⟨id,(h.heap.lv id).2 (by simp[ho]),e⟩)
 ·obtain⟨g1,c,fr,g2,g3⟩:=(h.heap.tg p hp).2 hl
  exact⟨g1,c,fr,by rw[hk _ (fun e=>by rw[e,h2]at g2;cases g2)];exact g2,g3⟩
 ·obtain⟨u,h5,h6⟩:=h.env t v ht
  refine⟨u,h5,?_⟩
  cases v with
  |lb cs=>
   obtain⟨b,c,e,hu,hb,hq⟩:=h6
   exact⟨b,c,e,hu,by rw[hk b (fun e'=>by rw[e',h2]at hb;cases hb)];exact hb,hq⟩
  |_=>exact h6
 ·obtain⟨r',rfl,q2,q3,q4⟩:=h.defers.at_ d (by rw[hd];exact List.mem_cons_of_mem _ hd')
  exact⟨r',rfl,by rw[hk r' (fun e=>by rw[e]at hd';exact hnd.1 hd')];exact q2,q3,q4⟩
 ·rcases hb with hb|hb|hb
  ·exact .inl (.inl hb)
  ·exact .inl (.inr (.inl hb))
  ·exact .inl (.inr (.inr (by rw[hd];exact List.mem_cons_of_mem _ hb)))

theorem Zhx(hY:YOK Y){fn:Func}{v:V}(hres:Jg Y fn σ=some v){R:Ending->World->Prop}{own0:Nat->Prop}{W0:Vw}{w0:World}
  (hR: ∀(u:Value) (w':World),VR W v u->HRel W σ.h w'->Stp W0 own0 w0 W W.own w'->R (.returned u) w'):
  ∀(ds:List Deferred) (a:Act) (w:World),a.defers=ds->Rel W σ a w->Stp W0 own0 w0 W (mine W σ a) w->LeavesInM (FrR none) 0 Y.P fn a.tmps R ds .returning w
 | [],a,w,hd,hr,hs=>by
  obtain⟨u,hu,hrun⟩:=Znx hY hr hres
  exact⟨u,hrun,hR u w hu hr.heap (hs.weaken fun b hb=> .inl hb)⟩
 |d::ds,a,w,hd,hr,hs=>by
  obtain⟨r,w',h1,h2,h3,h4⟩:=hr.take (Y:=Y) hd
  exact⟨by simp, .inl ⟨r,w',h1,h2,Zhx hY hres hR ds {a with defers:=ds} w' rfl h3 (hs.trans h4)⟩⟩

theorem Zpw(hY:YOK Y){f:FuncId}{fn:Func}{body:Code}(hf:Y.P.funcs[f]? =some fn)(hb:fn.body=some body){args:List V}{h:Heap}{Q:V->Heap->Prop}
  (ht:Tri Y body ⟨args++List.replicate (fn.ntmps-args.length) .undef,[],h⟩ fun o σ=>(o= .normal∨o= .ret)∧ ∃v,Jg Y fn σ=some v∧Q v σ.h):CallTr Y f args h Q:=by
 intro W w us hr hv
 obtain⟨h1,h2⟩:=Rel.start hr hv fn.ntmps
 refine(callsIn_wide (n:=0)).1 (callsIn_of_wp_marks (F:=FrR none) hf hb trivial (wpIn_mono (ht W _ w W W.own w h1 ((Stp.refl W W.own w).weaken h2)) ?_))
 rintro e a' w' ⟨o,σ',W',ho,⟨hor,v,hres,hq⟩,hr',hs'⟩
 have fin:LeavesInM (FrR none) 0 Y.P fn a'.tmps (fun e w'=> ∃(v:V) (h':Heap) (W':Vw) (u:Value),Q v h'∧e= .returned u∧HRel W' h' w'∧VR W' v u∧Stp W W.own w W' W'.own w') a'.defers .returning w':=
  Zhx hY hres (W0:=W) (own0:=W.own) (w0:=w) (fun u w2 hu hh hst=>⟨v,σ'.h,W',u,hq,rfl,hh,hu,hst⟩) a'.defers a' w' rfl hr' hs'
 rcases hor with rfl|rfl<;>cases e<;>simp only[OutR]at ho
 ·exact fin
 ·exact fin

theorem Stp.same{own:Nat->Prop}(s:Same w w')(hstr:Str w w'):Stp W own w W own w' where
 str:=hstr
 le:= .refl W
 size:=s.size
 keep b hb _:=by rw[Array.getElem?_eq_getElem hb];exact s b _ (Array.getElem?_eq_getElem hb)
 owns b h:= .inl h
 new b h:= .inl h


end
end Go.Y
