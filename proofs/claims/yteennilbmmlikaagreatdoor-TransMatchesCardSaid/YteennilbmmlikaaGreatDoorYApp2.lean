/- A part of the proof. -/
import Derived.Test.YteennilbmmlikaaGreatDoorYStep
import Derived.Scope
import Derived.LoopN
import Derived.Deep.Quiet
import Derived.LoopNIn
import Derived.RangeFuncRecord
namespace Go.Y
set_option maxRecDepth 1000000
set_option maxHeartbeats 0
section
variable {Y:YP} {W W':Vw} {σ σ':St} {a:Act} {w w':World}
inductive Src (P:Program) (w:World) (xt:TypeId) (ux:Value) (bytes size:Nat) (zc:Array Value) (n:Nat) (news:List Value):Prop
 |cells (d:TypeDesc) (hd:P.underlying xt=some d) (hni: ∀k,d≠ .int k) (hl: ∀w',(Builtin.lenOf ux).run P w'= .ok n w')
   (hc: ∀w',Same w w'->(Builtin.firstCells size n ux).run P w'= .ok news.toArray w')
 |zeros (k k':IntKind) (m:Int) (hd:P.underlying xt=some (.int k)) (hu:ux= .int k' m) (h0:0<=m) (h1:m<=1099511627776) (hn:n=m.toNat) (hb:n*bytes<=1099511627776)
   (hz:news.toArray=Builtin.zeroCells zc n) (hs:zc.size=size)
theorem Zkc(w:World):Same w w.drew:=λ_ _ h=>h
section
variable {P:Program} {st xt ty e:TypeId} {ux:Value} {i:TypeInfo} {z:Value} {n:Nat} {news:List Value}
theorem Zip(r:P.underlying st=some (.slice e))(x:P.info? e=some i)(hz:i.zero=some z)(F:Src P w xt ux i.bytes i.size z.cells n news)(y:Addr)(c f:Nat)(g:c+n<=f)
  (j:(storeCells (y.add (c*i.size)) news 0).run P w= .ok () w'):
  (Builtin.append_ #[st,xt] ty #[.slice (some y) c f,ux]).run P w= .ok (.slice (some y) (c+n) f) w':=by
 cases F with
 |cells d o L N G=>
  have A:=G w (.refl w);simp[Builtin.append_,run_underlying r,run_underlying o,sizeOf,typeInfo,x,N,g,A,j]
 |zeros k X m o K E Z O hb l t=>
  subst K O;have B:IntKind.i64.wrap m=m:=VF E om;have D: ¬(m<0):=om;have C: ¬(281474976710656<m*(i.bytes:Int)):=by
   have H:((m.toNat*i.bytes:Nat):Int)=m*i.bytes:=by rw[Int.natCast_mul,Int.toNat_of_nonneg E]
   omega
  by_cases h:m.toNat*i.size=0
  .have v:news= []:=by
    have:news.toArray.size=0:=by rw[l,size_zeroCells,t];exact h
    simpa using this
   subst v;simp[Builtin.append_,run_underlying r,run_underlying o,sizeOf,typeInfo,x,hz,asInt,asIntOf,B,D,C,g,h,zeroValue,j]
  .have u:(Builtin.zeroCells z.cells m.toNat).toList=news:=by rw[<-l]
   simp[Builtin.append_,run_underlying r,run_underlying o,sizeOf,typeInfo,x,hz,asInt,asIntOf,B,D,C,g,h,zeroValue,u,j]
theorem Zpd(h:P.underlying st=some (.slice e))(j:P.info? e=some i)(l:Src P w xt ux i.bytes i.size z.cells 0 news):
  (Builtin.append_ #[st,xt] ty #[.slice none 0 0,ux]).run P w= .ok (.slice none 0 0) w:=by
 cases l with
 |cells d f x y u=>
  have g:=u w (.refl w);simp[Builtin.append_,run_underlying h,run_underlying f,sizeOf,typeInfo,j,y,g]
 |zeros k B m f v A C D E t o=>
  subst v;have r:IntKind.i64.wrap m=m:=VF A om;have c:m=0:=om;subst c;simp[Builtin.append_,run_underlying h,run_underlying f,sizeOf,typeInfo,j,asInt,asIntOf,r]
theorem Zyl(x:P.underlying st=some (.slice e))(D:P.info? e=some i)(hz:i.zero=some z)(X:Src P w xt ux i.bytes i.size z.cells n news)(L:Option Addr)(c f:Nat)(C:f<c+n)
  (l:List Value) (F: ∀w',Same w w'->(Builtin.firstCells i.size c (.slice L c f)).run P w'= .ok l.toArray w') (N:c+n<=1099511627776) (hb:(c+n)*i.bytes<=1099511627776):
  (Builtin.append_ #[st,xt] ty #[.slice L c f,ux]).run P w= .ok (.slice (some ⟨w.heap.size,0,none⟩) (c+n) (grownCap w (c+n) f e))
   (w.drew.alloc (.cells (l++(news++(Builtin.zeroCells z.cells (grownCap w (c+n) f e-(c+n))).toList)).toArray e)):=by
 have r: ¬(c+n<=f):=om;have t: ¬(9223372036854775807<((c:Int)+(n:Int))):=om;have j: ¬(281474976710656<Builtin.nextslicecap (c+n) f*i.bytes):=by
  have:=growslice_fits C (bytes:=i.bytes) om;omega
 have g:=F w.drew (Zkc w)
 cases X with
 |cells d v a1 hl Z=>
  have E:=Z w.drew (Zkc w);simp[Builtin.append_,run_underlying x,run_underlying v,sizeOf,typeInfo,zeroValue,D,hz,hl,r,t,j,Question.forced,g,E,newRow,grownCap]
  congr 2
  apply Array.ext';simp
 |zeros k k' m v hu K h1 hn a2 u y=>
  subst hu hn;have G:IntKind.i64.wrap m=m:=VF K om;have O: ¬(m<0):=om;have H: ¬(281474976710656<m*(i.bytes:Int)):=by
   have a0:((m.toNat*i.bytes:Nat):Int)=m*i.bytes:=by rw[Int.natCast_mul,Int.toNat_of_nonneg K]
   omega
  have h: ¬(9223372036854775807<((c:Int)+max m 0)):=om;by_cases o:m.toNat*i.size=0
  .have B:news= []:=by
    have:news.toArray.size=0:=by rw[u,size_zeroCells,y];exact o
    simpa using this
   subst B;simp[Builtin.append_,run_underlying x,run_underlying v,sizeOf,typeInfo,zeroValue,D,hz,asInt,asIntOf,G,O,H,r,h,j,Question.forced,g,o,newRow,grownCap]
   congr 2
   apply Array.ext';simp
  .have A:(Builtin.zeroCells z.cells m.toNat).toList=news:=by rw[<-u]
   simp[Builtin.append_,run_underlying x,run_underlying v,sizeOf,typeInfo,zeroValue,D,hz,asInt,asIntOf,G,O,H,r,h,j,Question.forced,g,o,newRow,grownCap]
   congr 2
   apply Array.ext';simp[A]
end
theorem Ztr(hY:YOK Y)(h:Rel W σ a w){u}{e:TypeId}{K:TypeInfo}{de:TypeDesc}{ze:Value}(f:TIOK Y e u K de ze){xt:TypeId}{x:V}{n:Nat}{new:List V}
  (d:XI Y σ u xt x=some (n,new)) {ux:Value} (H:VR W x ux): ∃news,VRs W new news/\news.length=n*u.size/\Src Y.P w xt ux K.bytes K.size ze.cells n news:=by
 unfold XI at d;split at d
 .cases d
 .rename_i k O;obtain⟨L,r,o⟩:=XG O;obtain⟨ix,B,zx,g⟩:=hY.ty xt L r;have j:=g.kd;rw[o]at j;cases j;split at d
  .rename_i k' m;split at d
   .rename_i F;obtain⟨c0,c1,c2⟩:=F;simp at d;obtain⟨rfl,rfl⟩:=d;cases H;have E:=(f.zr W).length;have A:=f.zl;have t:ze.cells.size=u.size:=by rw[<-Array.length_toList,<-E,A]
    have hm:most=1099511627776:=dc;refine⟨_,Zbh (f.zr W) m.toNat,by rw[List.length_map,List.length_range,t], .zeros k k' m g.und rfl c0 (by rw[hm]at c1;exact c1) rfl (by rw[f.bytes,<-hm];exact c2) ?_ (by rw[t,f.size])⟩;rw[Builtin.zeroCells,Vc]
   .cases d
  .cases d
 .rename_i kd X O;obtain⟨L,r,o⟩:=XG O;obtain⟨ix,B,zx,g⟩:=hY.ty xt L r;have j:=g.kd;rw[o]at j;have v: ∀k,B≠ .int k:=by
   intro k he;subst he;cases kd<;>simp[KdOK]at j
   exact X _ rfl
  unfold QT at d;split at d
  .rename_i l;split at d
   .rename_i C;simp at d;obtain⟨rfl,rfl⟩:=d;cases H;refine⟨l.map λc=>Value.int .u8 c.toNat,?_,by simp[C], .cells B g.und v (λw'=>rfl) (λw' _=> ?_)⟩
    .clear C
     induction l with
     |nil=>exact .nil
     |cons c l ih=>exact .cons _ _ _ _ (.i _ _) ih
    .have e1:(⟨l.toArray⟩:ByteArray).extract 0 l.length=⟨l.toArray⟩:=by
      rw[Zdm];simp
     simp[Builtin.firstCells,e1]
   .cases d
  .obtain⟨D,C,N,Z⟩:=Vb h d H;refine⟨D,C,N, .cells B g.und v (λw'=> ?_) (λw' G=> ?_)⟩
   .rcases Z with ⟨rfl,rfl⟩|⟨y,cap,rfl,_,_⟩<;>rfl
   .rcases Z with ⟨rfl,rfl⟩|⟨y,cap,rfl,_,F⟩
    .have:D= []:=by simpa using N
     subst this;simp[Builtin.firstCells]
    .rw[f.size];exact run_firstCells_some w' u.size n y n cap D N (F.same G)
theorem Zts(hY:YOK Y)(h:Rel W σ a w){st xt ty:TypeId}{s x v:V}{h':Heap}(f:Xe Y σ st xt s x=some (v,h')){us ux:Value}(hs:VR W s us)(hx:VR W x ux):
  ∃(W':Vw) (w':World) (u:Value),(Builtin.append_ #[st,xt] ty #[us,ux]).run Y.P w= .ok u w'/\HRel W' h' w'/\Stp W W.own w W' W'.own w'/\VR W' v u:=by
 unfold Xe at f;split at f
 case h_2=>cases f
 rename_i e hk;obtain⟨ti,f4,e2⟩:=XG hk;obtain⟨it,dt,zt,ht⟩:=hY.ty st ti f4;have d5:=ht.kd;rw[e2]at d5;cases d5;split at f
 .cases f
 rename_i r f1;obtain⟨ie,de,ze,t⟩:=hY.ty e r f1;split at f
 .cases f
 rename_i n new d9;obtain⟨news,hv,a1,hS⟩:=Ztr hY h t d9 hx;split at f
 .cases f
 rename_i a2;simp only[uS,Bool.not_eq_true',vJ,not_or,Bool.not_eq_false]at a2;obtain⟨f6,g6⟩:=a2;have h1:=Jo hv f6;have a3:=hv.length;have a0:most=1099511627776:=dc;have f0:=(t.zr W).length;have d8:=t.zl;have e1:ze.cells.size=r.size:=by rw[<-Array.length_toList,<-f0,d8]
 -- H is appended
 have H: ∀(y:Addr) (len cap:Nat),us= .slice (some y) len cap->n=0->len<=cap->(Builtin.append_ #[st,xt] ty #[us,ux]).run Y.P w= .ok us w:=by
  intro y len cap hu hn a8;subst hu hn;have f3:news= []:=by simpa using a1
  subst f3;exact Zip ht.und t.info t.zero hS y len cap om rfl
 -- a new row
 have grown: ∀(ao:Option Addr) (len cap:Nat) (m:List V) (g:List Value) (k:Nat) (hh:Heap) (W1:Vw) (w0:World),us= .slice ao len cap->cap<len+n->(len+n)*r.bytes<=most->len+n<=most->VRs W m g->
   g.length=len*r.size->(∀w',Same w w'->(Builtin.firstCells ie.size len (.slice ao len cap)).run Y.P w'= .ok g.toArray w')->k=r.size->w0=w->Le W W1->HRel W1 hh w->Stp W W.own w W1 W1.own w-> ∀wr tg,(tg=none\/tg=some e)->
   ∃(W':Vw) (w':World) (u:Value),(Builtin.append_ #[st,xt] ty #[us,ux]).run Y.P w= .ok u w'/\HRel W' (hh.pushT tg (.arr (m++new) wr)) w'/\Stp W W.own w W' W'.own w'/\VR W' (.sl (some (hh.nx,0)) (len+n) none k) u:=by
  intro ao len cap m g k hh W1 w0 hu f2 hb F e7 e6 a9 f5 _ a8 f7 d7 wr tg e3;subst hu f5;have O:=Zyl (ty:=ty) ht.und t.info t.zero hS ao len cap f2 g a9 (by rw[<-a0];exact F) (by rw[t.bytes,<-a0];exact hb);have c8:=grownCap_ge w (len+n) cap e;generalize grownCap w (len+n) cap e=G at O c8;have d0:VRs W1 (m++new) (g++news):=(e7.append hv).mono a8;have c5:(g++(news++(Builtin.zeroCells ze.cells (G-(len+n))).toList)).toArray=((g++news)++(Builtin.zeroCells ze.cells (G-(len+n))).toList).toArray:=sm;rw[c5]at O;obtain⟨g1,g2⟩:=f7.newRowT (w1:=w.drew) rfl ⟨rfl,rfl,rfl⟩ (Builtin.zeroCells ze.cells (G-(len+n))).toList d0 e wr e3;refine⟨_,_,_,O,g1,d7.trans g2,?_⟩;have Z:(g++news).length+(Builtin.zeroCells ze.cells (G-(len+n))).toList.length=G*r.size:=by
   rw[List.length_append,e6,a1,Array.length_toList,size_zeroCells,e1,<-ur,<-ur]
   congr 1;omega
  refine .sls _ _ _ _ _ _ _ (.inr rfl) c8 (λc hc=>nomatch hc) (λ_ _=> ?_) (λ_ _=> ?_) (λ_=> ?_)
  .simp[Vw.at,Vw.push]
  .rw[Z];simp[Vw.push]
  .rw[Z];simp[Vw.push]
 split at f
 ·-- nil
  rename_i q c k;cases hs;split at f
  .rename_i hn;simp at f;obtain⟨rfl,rfl⟩:=f;subst hn;exact⟨W,w,_,Zpd ht.und t.info hS,h.heap,Stp.refl _ _ _, .sln _ _⟩
  .rename_i hn;split at f
   .rename_i hb;simp at f;obtain⟨rfl,rfl⟩:=f;obtain⟨W',w',u,r1,r2,r3,r4⟩:=grown none 0 0 [] [] r.size σ.h W w rfl om (by simpa using hb.1) (by simpa using hb.2) .nil sm (λw' _=>rfl) rfl rfl (.refl W) h.heap (Stp.refl _ _ _) true (Y.tag e) (by unfold YP.tag;split<;>simp)
    simp only[List.nil_append,uJ]at r2 r4;exact⟨W',w',u,r1,r2,r3,r4⟩
   .cases f
 ·-- the call's own
  rename_i D o len c k;split at f
  .cases f
  rename_i d4;simp only[ne_eq,Decidable.not_not]at d4;subst d4;have d2:=hs
  cases hs with
  |sls _ _ _ _ _ y d e8 hl hc b5 b3 e5=>
  split at f
  .rename_i hn;simp at f;obtain⟨rfl,rfl⟩:=f;exact⟨W,w,_,H y len d rfl hn hl,h.heap,Stp.refl _ _ _,d2⟩
  rename_i hn;split at f
  .cases f
  rename_i F;have hb:(len+n)*r.bytes<=most:=om;have F:len+n<=most:=om
  -- written in its own place
  have N: ∀(cs:List V) (A:σ.h.get D=some (.arr cs true)) (C:o+(len+n)*r.size<=cs.length) (E:len+n<=d),
    ∃(W':Vw) (w':World) (u:Value),(Builtin.append_ #[st,xt] ty #[.slice (some y) len d,ux]).run Y.P w= .ok u w'/\HRel W' (σ.h.set D (some (.arr (splice cs (o+len*r.size) new) true))) w'/\Stp W W.own w W' W'.own w'/\
     VR W' (.sl (some (D,o)) (len+n) c r.size) u:=by
   intro cs A C E;have L:W.lv D:=(h.heap.lv D).2 (by simp[A]);have b0:o+len*r.size+new.length<=cs.length:=by rw[a3,a1];rw[ur]at C;omega
   obtain⟨w',g1,g2,g3⟩:=h.heap.spliceAt A b0 hv h1 Y.P;have hy:=b5 L om;have b4:(storeCells (y.add (len*ie.size)) news 0).run Y.P w= .ok () w':=by
    rw[hy,t.size];unfold Vw.at at*;rw[Wb,uX];exact g1
   exact⟨W,w',_,Zip ht.und t.info t.zero hS y len d E b4,g2,g3, .sls D o (len+n) c r.size y d e8 E hc b5 b3 e5⟩
  have K: ∀(m:List V),Xu σ (len*r.size) (.hp D o)=some m-> ∃g,VRs W m g/\g.length=len*r.size/\
    (∀w',Same w w'->(Builtin.firstCells ie.size len (.slice (some y) len d)).run Y.P w'= .ok g.toArray w'):=by
   intro m B;obtain⟨g,q1,q2,q3⟩:=Vb h (k:=r.size) (n:=len) (v:= .sl (some (D,o)) len c r.size) (l:=m) (by simp[XQ,B]) d2;refine⟨g,q1,q2,λw' b7=> ?_⟩;rcases q3 with ⟨hq,_⟩|⟨y',G,hq,_,b9⟩
   .cases hq
   .cases hq;rw[t.size];exact run_firstCells_some w' r.size len y len d g q2 (b9.same b7)
  split at f
  .rename_i c0;have c4:=hc c0 rfl;split at f
   .rename_i b2;split at f
    .rename_i cs A;split at f
     .rename_i C;simp at f;obtain⟨rfl,rfl⟩:=f;exact N cs A C om
     .cases f
    .cases f
   .rename_i b2;split at f
    .rename_i m B;simp at f;obtain⟨rfl,rfl⟩:=f;obtain⟨g,q1,q2,q3⟩:=K m B;exact grown (some y) len d m g r.size σ.h W w rfl om hb F q1 q2 q3 rfl rfl (.refl W) h.heap (Stp.refl _ _ _) true none (.inl rfl)
    .cases f
  .split at f
   .rename_i cs wr A;have L:W.lv D:=(h.heap.lv D).2 (by simp[A]);split at f
    .rename_i C;split at f
     .rename_i a7;subst a7;simp at f;obtain⟨rfl,rfl⟩:=f;refine N cs A C ?_
      -- the object lies within the capacity
      obtain⟨cc,et,fr,a4,a6,d6,_⟩:=h.heap.obj D _ A;have:=b3 L rfl;rw[a6]at d6;have a8:(len+n)*r.size<=d*r.size:=om;exact Nat.le_of_mul_le_mul_right a8 om
     .cases f
    .rename_i C;split at f
     .rename_i a7;split at f
      .rename_i m B;simp at f;obtain⟨rfl,rfl⟩:=f;obtain⟨g,q1,q2,q3⟩:=K m (by simp only[Xu,A];exact B);by_cases E:len+n<=d
       ·-- the m block goes on
        obtain⟨cc,et,fr,a4,a6,d6,Zb,b1⟩:=h.heap.obj D _ A;have f8:=b3 L rfl;have hy:=b5 L om;have a5:=q1.length;rw[q2]at a5;have f9:len*r.size+n*r.size<=d*r.size:=by rw[<-ur];exact Nat.mul_le_mul_right _ E
        have c6:(W.mu D).2+(o+len*r.size)+0+news.length<=cc.size:=by rw[a1,a6];omega
        obtain⟨e9,g0⟩:=VD _ _ _ B;have e0: ∀j,(W.mu D).2+(o+len*r.size)+0<=j->j<(W.mu D).2+(o+len*r.size)+0+news.length-> ¬(fr.1<=j/\j<fr.2):=by
         intro j hj b6;refine b1 j ?_ om
         cases wr with
         |true=>simp;omega
         |false=>
          simp only[Bool.false_or,vJ]at a7;simp;omega
        have b4:=Qr (P:=Y.P) (W.mu D).1 ((W.mu D).2+(o+len*r.size)) et fr news 0 cc w a4 c6 e0 h1;have d1:(storeCells (y.add (len*ie.size)) news 0).run Y.P w= .ok () (w.putB (W.mu D).1 (.cells (splice cc.toList ((W.mu D).2+(o+len*r.size)+0) news).toArray et fr)):=by
         rw[hy,t.size];unfold Vw.at;rw[Wb,uX];exact b4
        have O:=Zip (ty:=ty) ht.und t.info t.zero hS y len d E d1;have X:(splice cc.toList ((W.mu D).2+(o+len*r.size)+0) news).length=cc.size:=by rw[XA _ _ _ (by simpa using c6)];simp
        have c7:=h.heap.go ⟨rfl,rfl,rfl⟩ (i:=D) (off:=o) (w':=w.putB (W.mu D).1 (.cells (splice cc.toList ((W.mu D).2+(o+len*r.size)+0) news).toArray et fr)) L (o:= .arr (m++new) wr) (Zaq _ _ _) (Zeq _ _ _) ?_
        .refine⟨_,_,_,O,c7.1.tagIf (.inr rfl) (λx hx=> ?_),c7.2,?_⟩
         .split at hx
          .rename_i c9;simp only[uB]at hx;subst hx;obtain⟨g1,c2,g7,g2,g3,g4⟩:=(h.heap.tg _ (We c9.2)).2 L;rw[a4]at g2;simp only[uB,Obj.cells.injEq]at g2;obtain⟨rfl,rfl,rfl⟩:=g2;intro _;simp only[Heap.nx_set,Vw.go,vG];exact⟨by rw[g1,c9.1],_,_,Jm _ _ _ (Zt a4),g3,by rw[List.size_toArray,X];exact g4⟩
          .cases hx
         refine .sls _ _ _ _ _ _ _ (.inr rfl) E (λc hc=>nomatch hc) (λ_ _=> ?_) (λ_ _=> ?_) (λ_=> ?_)
         .rw[hy];simp[Vw.at,Vw.go]
         .simp[Vw.go];omega
         .simp[Vw.go];omega
        .refine⟨(splice cc.toList ((W.mu D).2+(o+len*r.size)+0) news).toArray,et,fr,by simpa[Vw.go]using Jm w _ _ (Zt a4),by rw[List.size_toArray,X];simpa[Vw.go]using a6,?_,λj v hj=> ?_,λj hj b6=> ?_⟩
         .rw[List.size_toArray,X];simp only[Vw.go,vG,List.length_append];rw[a3,a1,a5,a6];omega
         .simp only[Vw.go,vG,List.getElem?_toArray];rw[Xt _ _ _ _ (by simpa using c6)];by_cases e4:j<m.length
          .rw[vC e4]at hj;rw[uE om];rw[e9,List.getElem?_take]at hj;split at hj
           .rw[uz]at hj;obtain⟨u,hu,b8⟩:=Zb _ v hj;exact⟨u,by simpa[uX]using hu,b8.mono (W.go_le (h.heap.new (Nat.le_refl _)) _ _)⟩
           .cases hj
          .rw[vB om]at hj;obtain⟨u,hu,b8⟩:=hv.get hj;have g8:=(List.getElem?_eq_some_iff.1 hu).1;rw[uF om];refine⟨u,?_,b8.mono (W.go_le (h.heap.new (Nat.le_refl _)) _ _)⟩;rw[show(W.mu D).2+o+j-((W.mu D).2+(o+len*r.size)+0)=j-m.length from om];exact hu
         .rw[List.size_toArray,X]at b6;simp only[Vw.go,vG,List.length_append]at hj;refine b1 j ?_ b6
          cases wr with
          |true=>simp at hj ⊢;omega
          |false=>
           simp only[Bool.false_or,vJ]at a7;simp at hj ⊢;omega
       .obtain⟨k1,k2⟩:=h.heap.kill (h.heap.ltg ((h.heap.lv D).1 L));have:=grown (some y) len d m g r.size (σ.h.set D none) (W.kill D) w rfl om hb F q1 q2 q3 rfl rfl (W.kill_le D) k1 k2 wr (if o=0/\σ.h.tagOf D=some e then some e else none) (by split<;>simp)
        simpa using this
      .cases f
     .cases f
   .cases f
 ·-- read-only
  rename_i cs len c;by_cases hnz:us= .slice none 0 0
  .subst hnz;have Z:len=0/\cs= []/\ ∀k,c=some k->k=0:=by
    cases hs with
    |tsz _ hc=>exact⟨rfl,rfl,hc⟩
   obtain⟨rfl,rfl,c4⟩:=Z;split at f
   .rename_i hn;simp at f;obtain⟨rfl,rfl⟩:=f;subst hn;exact⟨W,w,_,Zpd ht.und t.info hS,h.heap,Stp.refl _ _ _,hs⟩
   rename_i hn;split at f
   .cases f
   rename_i F;split at f
   .rename_i c0;have hz:=c4 c0 rfl;subst hz;split at f
    .cases f
    .split at f
     .rename_i m B;have ho:m= []:=by simpa[Zr]using B.symm
      subst ho;simp at f;obtain⟨rfl,rfl⟩:=f;obtain⟨W',w',u,r1,r2,r3,r4⟩:=grown none 0 0 [] [] r.size σ.h W w rfl om (by simpa using (show(0+n)*r.bytes<=most from om)) om .nil sm (λw' _=>rfl) rfl rfl (.refl W) h.heap (Stp.refl _ _ _) true none (.inl rfl);simp only[List.nil_append,uJ]at r2 r4;exact⟨W',w',u,r1,by simpa using r2,r3,by simpa using r4⟩
     .cases f
   .cases f
  have shape: ∃y d,us= .slice (some y) len d/\len<=d/\(∀k,c=some k->d=k):=by
   cases hs with
   |tsz _ _=>exact absurd rfl hnz
   |tsn _ _ y d hl hc=>exact⟨y,d,rfl,hl,hc⟩
   |ts _ _ _ d blk off cc et fr us hl E hs g5 hr=>exact⟨_,d,rfl,hl,E⟩
  obtain⟨y,d,d3,hl,hc⟩:=shape;split at f
  .rename_i hn;simp at f;obtain⟨rfl,rfl⟩:=f;exact⟨W,w,_,H y len d d3 hn hl,h.heap,Stp.refl _ _ _,hs⟩
  rename_i hn;split at f
  .cases f
  rename_i F;have hb:(len+n)*r.bytes<=most:=om;have F:len+n<=most:=om;split at f
  .rename_i c0;have c4:=hc c0 rfl;split at f
   .cases f
   .rename_i b2;split at f
    .rename_i m B;simp at f;obtain⟨rfl,rfl⟩:=f;obtain⟨g,q1,q2,q3⟩:=Vb h (k:=r.size) (n:=len) (l:=m) (v:= .ts cs len (some c0)) (by simp[XQ,B]) hs;subst d3;refine grown (some y) len d m g r.size σ.h W w rfl om hb F q1 q2 (λw' b7=> ?_) rfl rfl (.refl W) h.heap (Stp.refl _ _ _) true none (.inl rfl);rcases q3 with ⟨hq,_⟩|⟨y',G,hq,_,b9⟩
     .cases hq
     .cases hq;rw[t.size];exact run_firstCells_some w' r.size len y len d g q2 (b9.same b7)
    .cases f
  .cases f
 .cases f
end
section
variable {Y:YP} {W W':Vw} {σ σ':St} {a:Act} {w w':World}
theorem Zym(k:YOK Y)(h:Rel W σ a w){loc:Nat->Bool}{o:Oper}{σ'}(d:Qp Y loc σ o=some (.st σ')):StepR Y W σ a w o σ':=by
 unfold Qp at d;split at d
 .rename_i q hq;simp only[uG]at d;obtain⟨σ2,hp,m⟩:=d;cases m;exact StepR.quiet k h hq hp
 .split at d
  .rename_i t e;split at d
   .rename_i ti r;simp only[uG]at d;obtain⟨σ2,hp,m⟩:=d;cases m;exact Zg4 k h e r hp
   .cases d
  .rename_i t x e;split at d
   .split at d
    .rename_i z;simp only[uG]at d;obtain⟨σ2,hp,m⟩:=d;cases m;exact Zpb k h e z.2 hp
    .cases d
   .cases d
  .rename_i t x y e;split at d
   .rename_i ti ad r a0;split at d
    .rename_i z;simp only[uG]at d;obtain⟨σ2,hp,m⟩:=d;cases m;exact Zg5 k h e r a0 z.1 z.2 hp
    .cases d
   .cases d
  .rename_i t n O e;split at d
   .rename_i et Z;split at d
    .rename_i te g;split at d
     .cases d
     .rename_i H;split at d
      .rename_i cs hf;cases d;exact Zet k h e Z g H hf
      .cases d
    .cases d
   .cases d
  .rename_i t xl xc e;split at d
   .rename_i et kl l kc c Z hl z;split at d
    .rename_i te g;split at d
     .rename_i F;cases d;exact Zgs k h e Z hl z g F
     .cases d
    .cases d
   .cases d
  .rename_i a2 a1 x e;split at d
   .rename_i et l X G hx;split at d
    .rename_i te g;split at d
     .rename_i E;cases d;exact Zkb k h e X G hx g E
     .cases d
    .cases d
   .cases d
  .rename_i j f e;split at d
   .rename_i s x st K L N;split at d
    .rename_i v h' D;cases d;have C:f= #[st,K]:=by apply Array.ext';simpa using N
     have B:j= #[s,x]:=by apply Array.ext';simpa using L
     subst C B;obtain⟨W',w',u,r1,r2,r3,r4⟩:=Zts (ty:=o.type) k h D (h.ev s) (h.ev x);refine StepR.heap h r2 r3 r4 ?_ (.inl rfl);have e3:(#[s,x].map a.eval)= #[a.eval s,a.eval x]:=sm;have A:(resolve a.eval ⟨.builtin .append,#[s,x],#[st,K]⟩ o.type).run Y.P w= .ok {target:= .builtin .append #[st,K] o.type (#[s,x].map fun| .const _=>true|_=>false),args:= #[s,x].map a.eval} w:=rfl
     simp only[execOp,e,uC,A,uA,invoke,builtin,e3,r1,uD]
    .cases d
   .cases d
  .split at d<;>cases d
  .cases d
theorem Jg(h:Rel W σ a w){loc:Nat->Bool}{o:Oper}{f:FuncId}{e}(c:Qp Y loc σ o=some (.call f e)):
  ∃t,VRs W e t/\(execOp a.eval o).run Y.P w=(callFunc f t.toArray).run Y.P w:=by
 unfold Qp at c;split at c
 .simp only[uG]at c;obtain⟨_,_,k⟩:=c;cases k
 .split at c
  .split at c
   .simp only[uG]at c;obtain⟨_,_,k⟩:=c;cases k
   .cases c
  .split at c
   .split at c
    .simp only[uG]at c;obtain⟨_,_,k⟩:=c;cases k
    .cases c
   .cases c
  .split at c
   .split at c
    .simp only[uG]at c;obtain⟨_,_,k⟩:=c;cases k
    .cases c
   .cases c
  .split at c
   .split at c
    .split at c
     .cases c
     .split at c<;>cases c
    .cases c
   .cases c
  .split at c
   .split at c
    .split at c<;>cases c
    .cases c
   .cases c
  .split at c
   .split at c
    .split at c<;>cases c
    .cases c
   .cases c
  .split at c
   .split at c<;>cases c
   .cases c
  .rename_i u d v r;split at c
   .rename_i g D C y;simp only[uB,R.call.injEq]at c;obtain⟨rfl,rfl⟩:=c;have j:=h.ev u;rw[y]at j;generalize l:a.eval u=B at j
    cases j with
    |fn _ _ _ n m A x=>
     refine⟨n++d.toList.map a.eval++m,(A.append (h.evs d.toList)).append x,?_⟩;have z:(n.toArray++d.map a.eval)++m.toArray=(n++d.toList.map a.eval++m).toArray:=by
      apply Array.ext';simp
     simp only[execOp,r,resolve,l,Deferred.ofValue,uC,uD,uA,invoke,z]
   .cases c
  .cases c
def CallTr(Y:YP)(f:FuncId)(c:List V)(h:Heap)(Q:V->Heap->Prop):Prop:=
 ∀(W:Vw) (w:World) (d:List Value),HRel W h w->VRs W c d->Calls Y.P f d.toArray w λe w'=>
  ∃(v:V) (g:Heap) (W':Vw) (u:Value),Q v g/\e= .returned u/\HRel W' g w'/\VR W' v u/\Stp W W.own w W' W'.own w'
theorem CallTr.mono{f:FuncId}{c}{h}{Q e:V->Heap->Prop}(m:CallTr Y f c h Q)(l: ∀v d,Q v d->e v d):CallTr Y f c h e:=
 λW w g hr k=>(m W w g hr k).mono λ_ _ ⟨v,d,W',u,n,j⟩=>⟨v,d,W',u,l _ _ n,j⟩
structure RdCon(Y:YP)(id:Nat)(args:List V)(h:Heap)(Q:V->Heap->Prop):Prop where
 tr: ∀(W:Vw) (w:World) (us:List Value),HRel W h w->VRs W args us->W.lv id∧ ∃(f:FuncId) (tmps:Array Value) (assign body:Code),
  (Instr.yield (W.mu id).1 us.toArray).run Y.P w= .ok (.round (W.mu id).1 f tmps assign body) w∧
  RoundIn Fence.wide 0 Y.P (W.mu id).1 f tmps assign body w fun e w'=> ∃(v:V) (h':Heap) (W':Vw) (u:Value),Q v h'∧e= .returned u∧HRel W' h' w'∧VR W' v u∧Stp W W.own w W' W'.own w'
theorem RdCon.mono{g:Nat}{c}{h}{Q e:V->Heap->Prop}(m:RdCon Y g c h Q)(l: ∀v d,Q v d->e v d):RdCon Y g c h e:=
 ⟨λW w j hr z=>by
  obtain⟨y,f,t,x,r,A,k⟩:=m.tr W w j hr z;exact⟨y,f,t,x,r,A,k.mono λ_ _ ⟨v,d,W',u,o,n⟩=>⟨v,d,W',u,l _ _ o,n⟩⟩⟩
def Jq(Y:YP)(f:FuncId):Prop:= ∃fn c,Y.P.funcs[f]? =some fn/\fn.body=some c
theorem Zbi(h:Rel W σ a w){l:Array Oper}{o:Oper}{b:Bool}(c:JG l σ.env o=some b):Region.wanted o (yielded l a.tmps)=b:=by
 unfold JG at c;unfold Region.wanted
 cases g:o.guard with
 |none=>simp[g]at c;subst c;rfl
 |some B=>
  obtain⟨j,A⟩:=B;simp only[g]at c;split at c
  .rename_i d y;have k: ∀v,σ.env.getD d .undef=v->v≠ .undef->σ.env[d]? =some v:=by
    intro v f m;simp only[List.getD]at f
    cases z:σ.env[d]? with
    |none=>rw[z]at f;simp at f;exact absurd f.symm m
    |some x=>rw[z]at f;simp at f;rw[f]
   split at c
   .rename_i x n;simp at c;obtain⟨u,r,t⟩:=h.env d _ (k _ n (λe=>nomatch e));cases t;simp[yielded,y,r,c]
   .rename_i n;simp at c;subst c;obtain⟨u,r,t⟩:=h.env d _ (k _ n (λe=>nomatch e))
    cases t with
    |tup _ C hr=>
     cases hr;simp[yielded,y,r]
   .cases c
  .cases c
def OutR:Out->Exit->Prop
 | .normal, .normal=>True
 | .exit i, .exit j=>i=j
 | .ret, .ret=>True
 |_,_=>False
def ZDj(Q:Out->St->Prop)(W:Vw)(own:Nat->Prop)(w:World)(e:Exit)(c:Act)(w':World):Prop:=
 ∃(o:Out) (σ':St) (W':Vw),OutR o e/\Q o σ'/\Rel W' σ' c w'/\Stp W own w W' (mine W' σ' c) w'
abbrev FrR(r:Option Nat):Fence:= {Fence.wide with round:=r}
def TriG(r:Option Nat)(Y:YP)(c:Code)(σ:St)(Q:Out->St->Prop):Prop:=
 ∀(W:Vw) (a:Act) (w:World) (W0:Vw) (own0:Nat->Prop) (w0:World),Rel W σ a w->Stp W0 own0 w0 W (mine W σ a) w->c.wpIn (FrR r) 0 Y.P (ZDj Q W0 own0 w0) a w
abbrev Tri(Y:YP)(c:Code)(σ:St)(Q:Out->St->Prop):Prop:=TriG none Y c σ Q
variable {ro:Option Nat}
theorem TriG.mono{c:Code}{Q d:Out->St->Prop}(h:TriG ro Y c σ Q)(j: ∀o σ',Q o σ'->d o σ'):TriG ro Y c σ d:=
 λW a w W0 own0 w0 hr e=>wpIn_mono (h W a w W0 own0 w0 hr e) λ_ _ _ ⟨o,σ',W',k,f,g⟩=>⟨o,σ',W',k,j _ _ f,g⟩
theorem Tri.mono{c:Code}{Q d:Out->St->Prop}(h:Tri Y c σ Q)(e: ∀o σ',Q o σ'->d o σ'):Tri Y c σ d:=TriG.mono h e
theorem Zyn{Q}(h:Q .normal σ):TriG ro Y .skip σ Q:=λW _ _ _ _ _ hr c=>wpIn_skip ⟨.normal,σ,W,trivial,h,hr,c⟩
theorem Ztt{l:Nat}{Q}(h:Q .normal σ):TriG ro Y (.label l) σ Q:=λW _ _ _ _ _ hr c=>wpIn_label ⟨.normal,σ,W,trivial,h,hr,c⟩
theorem Zyo{c:Nat}{Q}(h:Q (.exit c) σ):TriG ro Y (.exit c) σ Q:=λW _ _ _ _ _ hr d=>wpIn_exit ⟨.exit c,σ,W,rfl,h,hr,d⟩
theorem ZDk{Q}(h:Q .ret σ):TriG ro Y .ret σ Q:=λW _ _ _ _ _ hr c=>wpIn_ret ⟨.ret,σ,W,trivial,h,hr,c⟩
def ZOs(ro:Option Nat)(Y:YP)(b:Code)(Q:Out->St->Prop):Out->St->Prop
 | .normal,σ=>TriG ro Y b σ Q
 |o,σ=>Q o σ
theorem Ztu{x y:Code}{Q}(h:TriG ro Y x σ (ZOs ro Y y Q)):TriG ro Y (.seq x y) σ Q:=by
 intro W a w W0 own0 w0 hr j;refine wpIn_seq (wpIn_mono (h W a w W0 own0 w0 hr j) ?_);rintro e k w' ⟨o,σ',W',g,f,d,c⟩;cases o<;>cases e<;>simp only[OutR]at g
 .exact f W' k w' W0 own0 w0 d c
 .subst g;exact⟨.exit _,σ',W',rfl,f,d,c⟩
 .exact⟨.ret,σ',W',trivial,f,d,c⟩
theorem Ziq{x:Operand}{c d:Code}{Q}{b:Bool}(j:ev σ.env x= .b b)(h:TriG ro Y (if b then c else d) σ Q):TriG ro Y (.cond x c d) σ Q:=by
 intro W a w W0 own0 w0 hr f;have e:=hr.ev x;rw[j]at e;generalize g:a.eval x=u at e;cases e;exact wpIn_cond g (h W a w W0 own0 w0 hr f)
def Znc(c:Nat)(Q:Out->St->Prop):Out->St->Prop
 | .exit j,σ=>if j=c then Q .normal σ else Q (.exit j) σ
 |o,σ=>Q o σ
theorem Ztv{k:Nat}{c:Code}{Q}(h:TriG ro Y c σ (Znc k Q)):TriG ro Y (.block k c) σ Q:=by
 intro W a w W0 own0 w0 hr n;refine wpIn_block (wpIn_mono (h W a w W0 own0 w0 hr n) ?_);rintro e r w' ⟨o,σ',W',m,g,f,d⟩;cases o<;>cases e<;>simp only[OutR]at m
 .exact⟨.normal,σ',W',trivial,g,f,d⟩
 .rename_i i j;subst m;simp only[Znc,Exit.inBlock]at g ⊢;by_cases l:i=k
  .rw[uF l]at g ⊢;exact⟨.normal,σ',W',trivial,g,f,d⟩
  .rw[uE l]at g ⊢;exact⟨.exit i,σ',W',rfl,g,f,d⟩
 .exact⟨.ret,σ',W',trivial,g,f,d⟩
theorem QB{P:Program}{b:Frame}{a:Act}{k:List Item}{d:List Frame}{w}{c:Code} :step P (lone (b.atR a (.code (.scope c)::k)) d w)= .next (lone (b.atR a (.code c:: .inScope c::k)) d w):=
 step_lone_go (by simp[stepG,stepG.exec,Frame.atR])
theorem Zir{P:Program}{b:Frame}{a:Act}{k:List Item}{d:List Frame}{w}{c:Code} :step P (lone (b.atR a (.inScope c::k)) d w)= .next (lone (b.atR a k) d w):=
 step_lone_go (by simp[stepG,stepG.exec,Frame.atR])
theorem Zas{F:Fence}{n:Nat}{P:Program}{a:Act}{w}{Q:Exit->Act->World->Prop}{c:Code}(h:c.wpIn F n P (Exit.noGoto Q) a w):(Code.scope c).wpIn F n P Q a w:=by
 intro b k x r v hr;have m:(lone (b.atR a (.code (.scope c)::k)) x w).fenced P F:=fenced_calm v hr rfl;obtain⟨e,f,g,j,d⟩:=h b (.inScope c::k) x r v hr
 cases e with
 |normal=>exact⟨.normal,f,g,j, .head m QB (StepsIn.trans d (.one (fenced_calm v hr rfl) Zir))⟩
 |exit o=>
  have y:exitTo o (.inScope c::k)=exitTo o k:=by simp[exitTo]
  exact⟨.exit o,f,g,j,λz u=> .head m QB (d.1 z (by rw[y];exact u)),
   λt u=>let ⟨k₁,h1,h2⟩:=d.2 t (by rw[y];exact u);⟨k₁,h1, .head m QB h2⟩⟩
 |goto l=>exact j.elim
 |ret=>exact⟨_,f,g,j, .of_steps (.one m QB) d⟩
 |panic A=>exact⟨_,f,g,j, .of_steps (.one m QB) d⟩
 |outgrown=>exact⟨_,f,g,j, .of_steps (.one m QB) d⟩
theorem Zkd{c:Code}{Q}(h:TriG ro Y c σ Q):TriG ro Y (.scope c) σ Q:=by
 intro W a w W0 own0 w0 hr f;refine Zas (wpIn_mono (h W a w W0 own0 w0 hr f) ?_);rintro e j w' ⟨o,σ',W',d,g⟩;cases e<;>first|exact⟨o,σ',W',d,g⟩|(cases o<;>exact d.elim)
theorem Zd1{c:Code}{Q:Out->St->Prop}(I:Nat->St->Prop){n:Nat}(v:I n σ)
  (round: ∀n σ,I n σ->TriG ro Y c σ λo σ'=>match o with| .normal=> ∃m,m<n/\I m σ'|o=>Q o σ'):TriG ro Y (.loop c) σ Q:=by
 intro W a w W0 own0 w0 hr h;have l: ∀n,∀m σ W a w,m<=n->I m σ->Rel W σ a w->Stp W0 own0 w0 W (mine W σ a) w->Code.roundsIn (FrR ro) 0 Y.P c (ZDj Q W0 own0 w0) (n+1) a w:=by
  intro n
  induction n with
  |zero=>
   intro m σ W a w z r hr h;rw[roundsIn_succ];refine wpIn_mono (round m σ r W a w W0 own0 w0 hr h) ?_;rintro e u w' ⟨o,σ',W',j,g,f,d⟩;cases o<;>cases e<;>simp only[OutR]at j
   .obtain⟨k,y,_⟩:=g;omega
   .exact⟨.exit _,σ',W',j,g,f,d⟩
   .exact⟨.ret,σ',W',trivial,g,f,d⟩
  |succ n x=>
   intro m σ W a w z r hr h;rw[roundsIn_succ];refine wpIn_mono (round m σ r W a w W0 own0 w0 hr h) ?_;rintro e u w' ⟨o,σ',W',j,g,f,d⟩;cases o<;>cases e<;>simp only[OutR]at j
   .obtain⟨k,y,t⟩:=g;exact x k σ' W' u w' om t f d
   .exact⟨.exit _,σ',W',j,g,f,d⟩
   .exact⟨.ret,σ',W',trivial,g,f,d⟩
 exact wpIn_loop_rounds (n+1) (l n n σ W a w (Nat.le_refl _) v hr h)
theorem Rel.noRefs(h:Rel W σ a w):Rel W {σ with refs:= []} a w:=⟨h.heap,h.size,h.env,h.box,λ_ _ _ c=>by simp at c,h.defers⟩
/-! ### Functions -/
theorem VRs.undefs(n:Nat):VRs W (List.replicate n .undef) (List.replicate n Go.undef):=by
 induction n with
 |zero=>exact .nil
 |succ n c=>exact .cons _ _ _ _ (.undef _) c
theorem Rel.start{h}(hr:HRel W h w){c}{d:List Value}(o:VRs W c d)(n:Nat):
  Rel W ⟨c++List.replicate (n-c.length) .undef,[],h⟩ {tmps:=d.toArray++Array.replicate (n-d.toArray.size) Go.undef,defers:= []} w/\
  ∀b,mine W ⟨c++List.replicate (n-c.length) .undef,[],h⟩ {tmps:=d.toArray++Array.replicate (n-d.toArray.size) Go.undef,defers:= []} b->W.own b:=by
 have r:=o.length;have e:VRs W (c++List.replicate (n-c.length) .undef) (d++List.replicate (n-d.length) Go.undef):=by
  rw[r];exact o.append (VRs.undefs _)
 have k:(d.toArray++Array.replicate (n-d.toArray.size) Go.undef)=(d++List.replicate (n-d.length) Go.undef).toArray:=by
  apply Array.ext';simp
 have f: ∀(t:Nat) (g:List V),(c++List.replicate (n-c.length) .undef)[t]? ≠some (V.lb g):=by
  intro t g y;obtain⟨u,_,m⟩:=e.get y;exact m.ne_box.1 g rfl
 rw[k];refine⟨⟨hr,by simp[r],λt v x=> ?_,λt A b j _=>absurd j.1.choose_spec (f t _),λ_ _ _ l=>by simp at l, .none rfl⟩,?_⟩
 .obtain⟨u,j,m⟩:=e.get x;exact⟨u,by simpa using j,m.srel⟩
 .rintro b (z|⟨t,⟨g,j⟩,_⟩|l)
  .exact z
  .exact absurd j (f t g)
  .simp at l
theorem Znd{g:ResultVar->Sem Value}(G: ∀r x,Zap Y σ r=some x-> ∃u,VR W x u/\(g r).run Y.P w= .ok u w){t:Array ResultVar}{fn:Func}(A:fn.results=t){v}(f:JI Y fn σ=some v):
  ∃u,VR W v u/\(do let d<-t.mapM g;pure (if h:d.size=1 then d[0]else .tuple d):Sem Value).run Y.P w= .ok u w:=by
 have m: ∀(l:List ResultVar) (d:List V),Jb Y σ l=some d-> ∃e,VRs W d e/\(l.mapM g).run Y.P w= .ok e w:=by
  intro l
  induction l with
  |nil=>intro d c;simp[Jb]at c;subst c;exact⟨[], .nil,sm⟩
  |cons r l F=>
   intro d c;simp only[Jb]at c;split at c
   .rename_i x E j k;simp at c;subst c;obtain⟨u,C,y⟩:=G r x j;obtain⟨e,K,H⟩:=F E k;exact⟨u::e, .cons _ _ _ _ C K,by simp only[List.mapM_cons,uC,y,H,uA,uD]⟩
   .cases c
 unfold JI at f;rw[A]at f;have o: ∀d,Jb Y σ t.toList=some d-> ∃e,VRs W d e/\
   (do let d<-t.mapM g;pure (if h:d.size=1 then d[0]else .tuple d):Sem Value).run Y.P w= .ok (if L:e.toArray.size=1 then e.toArray[0]else .tuple e.toArray) w:=by
  intro d c;obtain⟨e,j,k⟩:=m _ d c;refine⟨e,j,?_⟩;rw[Array.mapM_eq_mapM_toList,uC,Sem.run_map,k]
  rfl
 split at f
 .rename_i x B;simp at f;subst f;obtain⟨e,j,k⟩:=o _ B
  cases j with
  |cons _ u _ _ C y=>cases y;exact⟨u,C,by simpa using k⟩
 .rename_i d z B;simp at f;subst f;obtain⟨e,j,k⟩:=o _ B;refine⟨.tuple e.toArray, .tup _ _ j,?_⟩;rw[k];have D:=j.length;have: ¬e.toArray.size=1:=by
   intro n;simp at n;rw[n]at D
   match d,D with
   | [x],_=>exact z x rfl
  rw[dif_neg this]
 .cases f
theorem Zrm(l:YOK Y)(h:Rel W σ a w){fn}{v}(n:JI Y fn σ=some v): ∃u,VR W v u/\(results fn a.tmps).run Y.P w= .ok u w:=by
 unfold results;refine Znd (λr x c=> ?_) rfl n
 cases r with
 |tmp t=>
  have k:=h.ev (.tmp t);have g:ev σ.env (.tmp t)=x:=by
   revert c;simp only[Zap];cases ev σ.env (.tmp t)<;>simp
  rw[g]at k;exact⟨_,k,rfl⟩
 |cell s t=>
  simp only[Zap]at c;split at c
  .rename_i z ad f d;obtain⟨u,m,o⟩:=Zto l h f d c;obtain⟨y,j,_⟩:=Zcq h d;refine⟨u,m,?_⟩;have:=o w (.refl w);rw[j]at this;have e:a.tmps.getD s Go.undef= .pointer (some y):=j;simp only[e,asAddr,uC,uD,uA];simpa[Instr.loadAt,Instr.sureAddr]using this
  .cases c
theorem Rel.take(h:Rel W σ a w){d:Deferred}{n:List Deferred}(l:a.defers=d::n): ∃(r:Nat) (w':World),d.target= .collected r/\(Instr.takeDeferred r).run Y.P w= .ok [] w'/\
  Rel W σ {a with defers:=n} w'/\Stp W (mine W σ a) w W (mine W σ {a with defers:=n}) w':=by
 obtain⟨r,rfl,m,O,h4⟩:=h.defers.at_ d (by rw[l];simp);have a0:=Zt m;have k: ∀x,x≠r->(w.putB r (.deferred none)).heap[x]? =w.heap[x]? :=λx G=>Zco _ _ _ _ (λe=>G e.symm);have j:=h.defers.nd;rw[l,List.nodup_cons]at j;refine⟨r,w.putB r (.deferred none),rfl,run_takeDeferred m,⟨⟨h.heap.kn,h.heap.lk,h.heap.lv,h.heap.lt,λb o f=> ?_,λz o C=> ?_,h.heap.inj,h.heap.apart,λp hp=>⟨(h.heap.tg p hp).1,λK=> ?_⟩,h.heap.gl⟩,h.size,λt v D=> ?_,h.box,h.refs,⟨j.2,λd g=> ?_⟩⟩,
  ⟨.refl W,sm,λb _ hn=>k b (λe=>hn (.inr (.inr (by rw[l,e];simp)))),λb f=> ?_,λb f=> .inl f,⟨rfl,rfl,rfl⟩⟩⟩
 .rw[k b (λe=>by rw[e,O]at f;cases f)];exact h.heap.snap b o f
 .exact h.heap.others k C (λe=>h4 ⟨z,(h.heap.lv z).2 (by simp[C]),e⟩)
 .obtain⟨X,c,fr,y,g3⟩:=(h.heap.tg p hp).2 K;exact⟨X,c,fr,by rw[k _ (λe=>by rw[e,m]at y;cases y)];exact y,g3⟩
 .obtain⟨u,L,A⟩:=h.env t v D;refine⟨u,L,?_⟩
  cases v with
  |lb cs=>
   obtain⟨b,c,e,Z,f,E⟩:=A;exact⟨b,c,e,Z,by rw[k b (λe'=>by rw[e',m]at f;cases f)];exact f,E⟩
  |_=>exact A
 .obtain⟨B,rfl,F,H,N⟩:=h.defers.at_ d (by rw[l];exact uv _ g);exact⟨B,rfl,by rw[k B (λe=>by rw[e]at g;exact j.1 g)];exact F,H,N⟩
 .rcases f with f|f|f
  .exact .inl (.inl f)
  .exact .inl (.inr (.inl f))
  .exact .inl (.inr (.inr (by rw[l];exact uv _ f)))
theorem Zke(l:YOK Y){fn}{v}(c:JI Y fn σ=some v){R:Ending->World->Prop}{own0:Nat->Prop}{W0:Vw}{w0:World}
  (k: ∀(u:Value) (w':World),VR W v u->HRel W σ.h w'->Stp W0 own0 w0 W W.own w'->R (.returned u) w'):
  ∀(e:List Deferred) (a:Act) (w:World),a.defers=e->Rel W σ a w->Stp W0 own0 w0 W (mine W σ a) w->LeavesInM (FrR none) 0 Y.P fn a.tmps R e .returning w
 | [],a,w,j,hr,g=>by
  obtain⟨u,o,f⟩:=Zrm l hr c;exact⟨u,f,k u w o hr.heap (g.weaken λb x=> .inl x)⟩
 |d::e,a,w,j,hr,g=>by
  obtain⟨r,w',t,m,n,y⟩:=hr.take (Y:=Y) j;exact⟨sm, .inl ⟨r,w',t,m,Zke l c k e {a with defers:=e} w' rfl n (g.trans y)⟩⟩
theorem Ztw(E:YOK Y){f:FuncId}{fn:Func}{d:Code}(A:Y.P.funcs[f]? =some fn)(B:fn.body=some d){c:List V}{h:Heap}{Q:V->Heap->Prop}
  (y:Tri Y d ⟨c++List.replicate (fn.ntmps-c.length) .undef,[],h⟩ λo σ=>(o= .normal\/o= .ret)/\ ∃v,JI Y fn σ=some v/\Q v σ.h):CallTr Y f c h Q:=by
 intro W w N hr C;obtain⟨K,L⟩:=Rel.start hr C fn.ntmps;refine(callsIn_wide (n:=0)).1 (callsIn_of_wp_marks (F:=FrR none) A B trivial (wpIn_mono (y W _ w W W.own w K ((Stp.refl W W.own w).weaken L)) ?_));rintro e k w' ⟨o,σ',W',H,⟨m,v,g,z⟩,t,r⟩;have j:LeavesInM (FrR none) 0 Y.P fn k.tmps (λe w'=> ∃(v:V) (x:Heap) (W':Vw) (u:Value),Q v x/\e= .returned u/\HRel W' x w'/\VR W' v u/\Stp W W.own w W' W'.own w') k.defers .returning w':=
  Zke E g (W0:=W) (own0:=W.own) (w0:=w) (λu O D G l=>⟨v,σ'.h,W',u,z,rfl,G,D,l⟩) k.defers k w' rfl t r
 rcases m with rfl|rfl<;>cases e<;>simp only[OutR]at H
 .exact j
 .exact j
theorem Stp.same{own:Nat->Prop}(s:Same w w')(c:Str w w'):Stp W own w W own w' where
 str:=c
 le:= .refl W
 size:=s.size
 keep b hb _:=by rw[Array.getElem?_eq_getElem hb];exact s b _ (Array.getElem?_eq_getElem hb)
 owns b h:= .inl h
 new b h:= .inl h
end
end Go.Y
