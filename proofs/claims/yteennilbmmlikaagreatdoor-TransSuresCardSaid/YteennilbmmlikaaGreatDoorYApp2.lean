/- A part of the proof. -/
import Derived.Test.YteennilbmmlikaaGreatDoorYStep
import Derived.Scope
import Derived.LoopN
import Derived.Deep.Quiet
import Derived.LoopNIn
import Derived.RangeFuncRecord
namespace Go.Y
set_option maxRecDepth 1000000
set_option maxHeartbeats 0
section
variable {Y:YP} {W W':Vw} {σ σ':St} {a:Act} {w w':World}
inductive Src (P:Program) (w:World) (xt:TypeId) (ux:Value) (bytes size:Nat) (zc:Array Value) (n:Nat) (news:List Value):Prop
 |cells (d:TypeDesc) (hd:P.underlying xt=some d) (hni: ∀k,d≠ .int k) (hl: ∀w',(Builtin.lenOf ux).run P w'= .ok n w')
   (hc: ∀w',Same w w'->(Builtin.firstCells size n ux).run P w'= .ok news.toArray w')
 |zeros (k k':IntKind) (m:Int) (hd:P.underlying xt=some (.int k)) (hu:ux= .int k' m) (h0:0<=m) (h1:m<=1099511627776) (hn:n=m.toNat) (hb:n*bytes<=1099511627776)
   (hz:news.toArray=Builtin.zeroCells zc n) (hs:zc.size=size)
theorem Zky(w:World):Same w w.drew:=λ_ _ h=>h
section
variable {P:Program} {st xt ty e:TypeId} {ux:Value} {i:TypeInfo} {z:Value} {n:Nat} {news:List Value}
theorem Zi3(r:P.underlying st=some (.slice e))(p:P.info? e=some i)(hz:i.zero=some z)(G:Src P w xt ux i.bytes i.size z.cells n news)(y:Addr)(b f:Nat)(c:b+n<=f)
  (h:(storeCells (y.add (b*i.size)) news 0).run P w= .ok () w'):
  (Builtin.append_ #[st,xt] ty #[.slice (some y) b f,ux]).run P w= .ok (.slice (some y) (b+n) f) w':=by
 cases G with
 |cells d l F C B=>
  have o:=B w (.refl w);simp[Builtin.append_,run_underlying r,run_underlying l,sizeOf,typeInfo,p,C,c,o,h]
 |zeros k N m l H x K E L j t=>
  subst H E;have A:IntKind.i64.wrap m=m:=VI x om;have u: ¬(m<0):=om;have v: ¬(281474976710656<m*(i.bytes:Int)):=by
   have D:((m.toNat*i.bytes:Nat):Int)=m*i.bytes:=by rw[Int.natCast_mul,Int.toNat_of_nonneg x]
   omega
  by_cases g:m.toNat*i.size=0
  .have q:news= []:=by
    have:news.toArray.size=0:=by rw[j,size_zeroCells,t];exact g
    simpa using this
   subst q;simp[Builtin.append_,run_underlying r,run_underlying l,sizeOf,typeInfo,p,hz,asInt,asIntOf,A,u,v,c,g,zeroValue,h]
  .have s:(Builtin.zeroCells z.cells m.toNat).toList=news:=by rw[<-j]
   simp[Builtin.append_,run_underlying r,run_underlying l,sizeOf,typeInfo,p,hz,asInt,asIntOf,A,u,v,c,g,zeroValue,s,h]
theorem Zpy(h:P.underlying st=some (.slice e))(g:P.info? e=some i)(q:Src P w xt ux i.bytes i.size z.cells 0 news):
  (Builtin.append_ #[st,xt] ty #[.slice none 0 0,ux]).run P w= .ok (.slice none 0 0) w:=by
 cases q with
 |cells d c p o l=>
  have b:=l w (.refl w);simp[Builtin.append_,run_underlying h,run_underlying c,sizeOf,typeInfo,g,o,b]
 |zeros k A m c r j v y x t u=>
  subst r;have s:IntKind.i64.wrap m=m:=VI j om;have f:m=0:=om;subst f;simp[Builtin.append_,run_underlying h,run_underlying c,sizeOf,typeInfo,g,asInt,asIntOf,s]
theorem Zzs(y:P.underlying st=some (.slice e))(u:P.info? e=some i)(hz:i.zero=some z)(hs:Src P w xt ux i.bytes i.size z.cells n news)(C:Option Addr)(b c:Nat)(t:c<b+n)
  (j:List Value) (x: ∀w',Same w w'->(Builtin.firstCells i.size b (.slice C b c)).run P w'= .ok j.toArray w') (G:b+n<=1099511627776) (hb:(b+n)*i.bytes<=1099511627776):
  (Builtin.append_ #[st,xt] ty #[.slice C b c,ux]).run P w= .ok (.slice (some ⟨w.heap.size,0,none⟩) (b+n) (grownCap w (b+n) c e))
   (w.drew.alloc (.cells (j++(news++(Builtin.zeroCells z.cells (grownCap w (b+n) c e-(b+n))).toList)).toArray e)):=by
 have o: ¬(b+n<=c):=om;have p: ¬(9223372036854775807<((b:Int)+(n:Int))):=om;have f: ¬(281474976710656<Builtin.nextslicecap (b+n) c*i.bytes):=by
  have:=growslice_fits t (bytes:=i.bytes) om;omega
 have h:=x w.drew (Zky w)
 cases hs with
 |cells d r Z N L=>
  have s:=L w.drew (Zky w);simp[Builtin.append_,run_underlying y,run_underlying r,sizeOf,typeInfo,zeroValue,u,hz,N,o,p,f,Question.forced,h,s,newRow,grownCap]
  congr 2
  apply Array.ext';simp
 |zeros k k' m r hu F h1 X K q B=>
  subst hu X;have H:IntKind.i64.wrap m=m:=VI F om;have D: ¬(m<0):=om;have E: ¬(281474976710656<m*(i.bytes:Int)):=by
   have O:((m.toNat*i.bytes:Nat):Int)=m*i.bytes:=by rw[Int.natCast_mul,Int.toNat_of_nonneg F]
   omega
  have g: ¬(9223372036854775807<((b:Int)+max m 0)):=om;by_cases l:m.toNat*i.size=0
  .have v:news= []:=by
    have:news.toArray.size=0:=by rw[q,size_zeroCells,B];exact l
    simpa using this
   subst v;simp[Builtin.append_,run_underlying y,run_underlying r,sizeOf,typeInfo,zeroValue,u,hz,asInt,asIntOf,H,D,E,o,g,f,Question.forced,h,l,newRow,grownCap]
   congr 2
   apply Array.ext';simp
  .have A:(Builtin.zeroCells z.cells m.toNat).toList=news:=by rw[<-q]
   simp[Builtin.append_,run_underlying y,run_underlying r,sizeOf,typeInfo,zeroValue,u,hz,asInt,asIntOf,H,D,E,o,g,f,Question.forced,h,l,newRow,grownCap]
   congr 2
   apply Array.ext';simp[A]
end
theorem Zuq(Z:YOK Y)(h:Rel W σ a w){t}{e}{H:TypeInfo}{de:TypeDesc}{N}(d:TIOK Y e t H de N){xt:TypeId}{x:V}{n:Nat}{s:List V}
  (b:XJ Y σ t xt x=some (n,s)) {ux:Value} (F:VR W x ux): ∃news,VRs W s news/\news.length=n*t.size/\Src Y.P w xt ux H.bytes H.size N.cells n news:=by
 unfold XJ at b;split at b;cases b
 .rename_i k C;obtain⟨K,o,j⟩:=XH C;obtain⟨ix,u,zx,f⟩:=Z.ty xt K o;have g:=f.kd;rw[j]at g;cases g;split at b
  .rename_i k' m;split at b
   .rename_i B;obtain⟨c0,O,c2⟩:=B;simp at b;obtain⟨rfl,rfl⟩:=b;cases F;have G:=(d.zr W).length;have q:=d.zl;have r:N.cells.size=t.size:=by rw[<-Array.length_toList,<-G,q]
    have hm:most=1099511627776:=dc;refine⟨_,Zbm (d.zr W) m.toNat,by rw[List.length_map,List.length_range,r], .zeros k k' m f.und rfl c0 (by rw[hm]at O;exact O) rfl (by rw[d.bytes,<-hm];exact c2) ?_ (by rw[r,d.size])⟩;rw[Builtin.zeroCells,Vg]
   .cases b
  .cases b
 .rename_i kd D C;obtain⟨K,o,j⟩:=XH C;obtain⟨ix,u,zx,f⟩:=Z.ty xt K o;have g:=f.kd;rw[j]at g;have p: ∀k,u≠ .int k:=by
   intro k he;subst he;cases kd<;>simp[KdOK]at g
   exact D _ rfl
  unfold QS at b;split at b
  .rename_i l;split at b
   .rename_i v;simp at b;obtain⟨rfl,rfl⟩:=b;cases F;refine⟨l.map λc=>Value.int .u8 c.toNat,?_,by simp[v], .cells u f.und p (λw'=>rfl) (λw' _=> ?_)⟩
    .clear v
     induction l with
     |nil=>exact .nil
     |cons c l ih=>exact .cons _ _ _ _ (.i _ _) ih
    .have e1:(⟨l.toArray⟩:ByteArray).extract 0 l.length=⟨l.toArray⟩:=by
      rw[Zdw];simp
     simp[Builtin.firstCells,e1]
   .cases b
  .obtain⟨L,v,A,X⟩:=Vf h b F;refine⟨L,v,A, .cells u f.und p (λw'=> ?_) (λw' E=> ?_)⟩
   .rcases X with ⟨rfl,rfl⟩|⟨y,cap,rfl,_,_⟩<;>rfl
   .rcases X with ⟨rfl,rfl⟩|⟨y,cap,rfl,_,B⟩;have:L= []:=su A;subst this;simp[Builtin.firstCells];rw[d.size];exact run_firstCells_some w' t.size n y n cap L A (B.same E)
theorem Zur(hY:YOK Y)(h:Rel W σ a w){st xt ty:TypeId}{s x v:V}{h':Heap}(f:Xd Y σ st xt s x=some (v,h')){us ux}(hs:VR W s us)(hx:VR W x ux):
  ∃(W':Vw) (w':World) (u:Value),(Builtin.append_ #[st,xt] ty #[us,ux]).run Y.P w= .ok u w'/\HRel W' h' w'/\Stp W W.own w W' W'.own w'/\VR W' v u:=by
 unfold Xd at f;split at f
 case h_2=>cases f
 rename_i e hk;obtain⟨ti,f3,e5⟩:=XH hk;obtain⟨it,dt,zt,ht⟩:=hY.ty st ti f3;have d1:=ht.kd;rw[e5]at d1;cases d1;split at f;cases f;rename_i p f1;obtain⟨ie,de,ze,r⟩:=hY.ty e p f1;split at f;cases f;rename_i n a0 d3;obtain⟨news,hv,a6,hS⟩:=Zuq hY h r d3 hx;split at f;cases f;rename_i a2;simp only[uS,Bool.not_eq_true',vL,not_or,Bool.not_eq_false]at a2;obtain⟨d9,g9⟩:=a2;have h1:=Jm hv d9;have a5:=hv.length;have a4:most=1099511627776:=dc;have f5:=(r.zr W).length;have d8:=r.zl;have f6:ze.cells.size=p.size:=by rw[<-Array.length_toList,<-f5,d8]
 -- H is appended
 have H: ∀(y:Addr) (b cap:Nat),us= .slice (some y) b cap->n=0->b<=cap->(Builtin.append_ #[st,xt] ty #[us,ux]).run Y.P w= .ok us w:=by
  intro y b cap hu hn a9;subst hu hn;have e7:news= []:=su a6;subst e7;exact Zi3 ht.und r.info r.zero hS y b cap om rfl
 -- a a0 row
 have G: ∀(ao:Option Addr) (b cap:Nat) (m:List V) (g:List Value) (k:Nat) (hh:Heap) (W1:Vw) (w0:World),us= .slice ao b cap->cap<b+n->(b+n)*p.bytes<=most->b+n<=most->VRs W m g->
   g.length=b*p.size->(∀w',Same w w'->(Builtin.firstCells ie.size b (.slice ao b cap)).run Y.P w'= .ok g.toArray w')->k=p.size->w0=w->Le W W1->HRel W1 hh w->Stp W W.own w W1 W1.own w-> ∀wr tg,(tg=none\/tg=some e)->
   ∃(W':Vw) (w':World) (u:Value),(Builtin.append_ #[st,xt] ty #[us,ux]).run Y.P w= .ok u w'/\HRel W' (hh.pushT tg (.arr (m++a0) wr)) w'/\Stp W W.own w W' W'.own w'/\VR W' (.sl (some (hh.nx,0)) (b+n) none k) u:=by
  intro ao b cap m g k hh W1 w0 hu e2 hb E f4 e9 a8 e6 _ a9 f0 d5 wr tg f2;subst hu e6;have N:=Zzs (ty:=ty) ht.und r.info r.zero hS ao b cap e2 g a8 (by rw[<-a4];exact E) (by rw[r.bytes,<-a4];exact hb);have c8:=grownCap_ge w (b+n) cap e;generalize grownCap w (b+n) cap e=F at N c8;have c6:VRs W1 (m++a0) (g++news):=(f4.append hv).mono a9;have b9:(g++(news++(Builtin.zeroCells ze.cells (F-(b+n))).toList)).toArray=((g++news)++(Builtin.zeroCells ze.cells (F-(b+n))).toList).toArray:=sm;rw[b9]at N;obtain⟨g1,g2⟩:=f0.newRowT (w1:=w.drew) rfl ⟨rfl,rfl,rfl⟩ (Builtin.zeroCells ze.cells (F-(b+n))).toList c6 e wr f2;refine⟨_,_,_,N,g1,d5.trans g2,?_⟩;have X:(g++news).length+(Builtin.zeroCells ze.cells (F-(b+n))).toList.length=F*p.size:=by
   rw[List.length_append,e9,a6,Array.length_toList,size_zeroCells,f6,<-ur,<-ur]
   congr 1;omega
  refine .sls _ _ _ _ _ _ _ (.inr rfl) c8 (λc hc=>nomatch hc) (λ_ _=> ?_) (λ_ _=> ?_) (λ_=> ?_);simp[Vw.at,Vw.push];rw[X];simp[Vw.push];rw[X];simp[Vw.push]
 split at f
 ·-- nil
  rename_i q c k;cases hs;split at f;rename_i hn;simp at f;obtain⟨rfl,rfl⟩:=f;subst hn;exact⟨W,w,_,Zpy ht.und r.info hS,h.heap,Stp.refl _ _ _, .sln _ _⟩
  .rename_i hn;split at f
   .rename_i hb;simp at f;obtain⟨rfl,rfl⟩:=f;obtain⟨W',w',u,r1,r2,r3,r4⟩:=G none 0 0 [] [] p.size σ.h W w rfl om (su hb.1) (su hb.2) .nil sm (λw' _=>rfl) rfl rfl (.refl W) h.heap (Stp.refl _ _ _) true (Y.tag e) (by unfold YP.tag;split<;>simp)
    simp only[List.nil_append,uJ]at r2 r4;exact⟨W',w',u,r1,r2,r3,r4⟩
   .cases f
 ·-- the call's own
  rename_i C o b c k;split at f;cases f;rename_i d2;simp only[ne_eq,Decidable.not_not]at d2;subst d2;have d6:=hs
  cases hs with
  |sls _ _ _ _ _ y d e3 hl hc b4 b6 e0=>
  split at f;rename_i hn;simp at f;obtain⟨rfl,rfl⟩:=f;exact⟨W,w,_,H y b d rfl hn hl,h.heap,Stp.refl _ _ _,d6⟩;rename_i hn;split at f;cases f;rename_i E;have hb:(b+n)*p.bytes<=most:=om;have E:b+n<=most:=om
  -- written in its own place
  have O: ∀(cs:List V) (t:σ.h.get C=some (.arr cs true)) (B:o+(b+n)*p.size<=cs.length) (D:b+n<=d),
    ∃(W':Vw) (w':World) (u:Value),(Builtin.append_ #[st,xt] ty #[.slice (some y) b d,ux]).run Y.P w= .ok u w'/\HRel W' (σ.h.set C (some (.arr (splice cs (o+b*p.size) a0) true))) w'/\Stp W W.own w W' W'.own w'/\
     VR W' (.sl (some (C,o)) (b+n) c p.size) u:=by
   intro cs t B D;have L:W.lv C:=(h.heap.lv C).2 (by simp[t]);have b0:o+b*p.size+a0.length<=cs.length:=by rw[a5,a6];rw[ur]at B;omega
   obtain⟨w',g1,g2,g3⟩:=h.heap.spliceAt t b0 hv h1 Y.P;have hy:=b4 L om;have c4:(storeCells (y.add (b*ie.size)) news 0).run Y.P w= .ok () w':=by
    rw[hy,r.size];unfold Vw.at at*;rw[Wc,uX];exact g1
   exact⟨W,w',_,Zi3 ht.und r.info r.zero hS y b d D c4,g2,g3, .sls C o (b+n) c p.size y d e3 D hc b4 b6 e0⟩
  have K: ∀(m:List V),Xt σ (b*p.size) (.hp C o)=some m-> ∃g,VRs W m g/\g.length=b*p.size/\
    (∀w',Same w w'->(Builtin.firstCells ie.size b (.slice (some y) b d)).run Y.P w'= .ok g.toArray w'):=by
   intro m A;obtain⟨g,q1,q2,q3⟩:=Vf h (k:=p.size) (n:=b) (v:= .sl (some (C,o)) b c p.size) (l:=m) (by simp[XS,A]) d6;refine⟨g,q1,q2,λw' c5=> ?_⟩;rcases q3 with ⟨hq,_⟩|⟨y',F,hq,_,b7⟩;cases hq;cases hq;rw[r.size];exact run_firstCells_some w' p.size b y b d g q2 (b7.same c5)
  split at f;rename_i c0;have b5:=hc c0 rfl;split at f;rename_i b2;split at f;rename_i cs t;split at f;rename_i B;simp at f;obtain⟨rfl,rfl⟩:=f;exact O cs t B om;cases f;cases f;rename_i b2;split at f;rename_i m A;simp at f;obtain⟨rfl,rfl⟩:=f;obtain⟨g,q1,q2,q3⟩:=K m A;exact G (some y) b d m g p.size σ.h W w rfl om hb E q1 q2 q3 rfl rfl (.refl W) h.heap (Stp.refl _ _ _) true none (.inl rfl);cases f
  .split at f
   .rename_i cs wr t;have L:W.lv C:=(h.heap.lv C).2 (by simp[t]);split at f
    .rename_i B;split at f
     .rename_i b1;subst b1;simp at f;obtain⟨rfl,rfl⟩:=f;refine O cs t B ?_
      -- the object lies within the capacity
      obtain⟨cc,et,fr,a1,a3,d0,_⟩:=h.heap.obj C _ t;have:=b6 L rfl;rw[a3]at d0;have a9:(b+n)*p.size<=d*p.size:=om;exact Nat.le_of_mul_le_mul_right a9 om
     .cases f
    .rename_i B;split at f
     .rename_i b1;split at f
      .rename_i m A;simp at f;obtain⟨rfl,rfl⟩:=f;obtain⟨g,q1,q2,q3⟩:=K m (by simp only[Xt,t];exact A);by_cases D:b+n<=d
       ·-- the m block goes on
        obtain⟨cc,et,fr,a1,a3,d0,Zb,b3⟩:=h.heap.obj C _ t;have f8:=b6 L rfl;have hy:=b4 L om;have a7:=q1.length;rw[q2]at a7;have f9:b*p.size+n*p.size<=d*p.size:=by rw[<-ur];exact Nat.mul_le_mul_right _ D
        have c1:(W.mu C).2+(o+b*p.size)+0+news.length<=cc.size:=by rw[a6,a3];omega
        obtain⟨e8,g8⟩:=VG _ _ _ A;have e1: ∀j,(W.mu C).2+(o+b*p.size)+0<=j->j<(W.mu C).2+(o+b*p.size)+0+news.length-> ¬(fr.1<=j/\j<fr.2):=by
         intro j hj b8;refine b3 j ?_ om
         cases wr with
         |true=>simp;omega
         |false=>
          simp only[Bool.false_or,vL]at b1;simp;omega
        have c4:=Qq (P:=Y.P) (W.mu C).1 ((W.mu C).2+(o+b*p.size)) et fr news 0 cc w a1 c1 e1 h1;have d4:(storeCells (y.add (b*ie.size)) news 0).run Y.P w= .ok () (w.putB (W.mu C).1 (.cells (splice cc.toList ((W.mu C).2+(o+b*p.size)+0) news).toArray et fr)):=by
         rw[hy,r.size];unfold Vw.at;rw[Wc,uX];exact c4
        have N:=Zi3 (ty:=ty) ht.und r.info r.zero hS y b d D d4;have Z:(splice cc.toList ((W.mu C).2+(o+b*p.size)+0) news).length=cc.size:=by rw[XB _ _ _ (su c1)];simp
        have c9:=h.heap.go ⟨rfl,rfl,rfl⟩ (i:=C) (off:=o) (w':=w.putB (W.mu C).1 (.cells (splice cc.toList ((W.mu C).2+(o+b*p.size)+0) news).toArray et fr)) L (o:= .arr (m++a0) wr) (Zau _ _ _) (Ze4 _ _ _) ?_;refine⟨_,_,_,N,c9.1.tagIf (.inr rfl) (λx hx=> ?_),c9.2,?_⟩;split at hx;rename_i c7;simp only[uB]at hx;subst hx;obtain⟨g1,c2,g5,g2,g3,g4⟩:=(h.heap.tg _ (Wf c7.2)).2 L;rw[a1]at g2;simp only[uB,Obj.cells.injEq]at g2;obtain⟨rfl,rfl,rfl⟩:=g2;intro _;simp only[Heap.nx_set,Vw.go,vG];exact⟨by rw[g1,c7.1],_,_,Jk _ _ _ (Zt a1),g3,by rw[List.size_toArray,Z];exact g4⟩;cases hx;refine .sls _ _ _ _ _ _ _ (.inr rfl) D (λc hc=>nomatch hc) (λ_ _=> ?_) (λ_ _=> ?_) (λ_=> ?_);rw[hy];simp[Vw.at,Vw.go];simp[Vw.go];omega;simp[Vw.go];omega
        .refine⟨(splice cc.toList ((W.mu C).2+(o+b*p.size)+0) news).toArray,et,fr,by simpa[Vw.go]using Jk w _ _ (Zt a1),by rw[List.size_toArray,Z];simpa[Vw.go]using a3,?_,λj v hj=> ?_,λj hj b8=> ?_⟩;rw[List.size_toArray,Z];simp only[Vw.go,vG,List.length_append];rw[a5,a6,a7,a3];omega;simp only[Vw.go,vG,List.getElem?_toArray];rw[Xs _ _ _ _ (su c1)];by_cases e4:j<m.length;rw[vC e4]at hj;rw[uE om];rw[e8,List.getElem?_take]at hj;split at hj;rw[uz]at hj;obtain⟨u,hu,c3⟩:=Zb _ v hj;exact⟨u,by simpa[uX]using hu,c3.mono (W.go_le (h.heap.new (Nat.le_refl _)) _ _)⟩;cases hj;rw[vB om]at hj;obtain⟨u,hu,c3⟩:=hv.get hj;have g7:=(List.getElem?_eq_some_iff.1 hu).1;rw[uF om];refine⟨u,?_,c3.mono (W.go_le (h.heap.new (Nat.le_refl _)) _ _)⟩;rw[show(W.mu C).2+o+j-((W.mu C).2+(o+b*p.size)+0)=j-m.length from om];exact hu
         .rw[List.size_toArray,Z]at b8;simp only[Vw.go,vG,List.length_append]at hj;refine b3 j ?_ b8
          cases wr with
          |true=>simp at hj ⊢;omega
          |false=>
           simp only[Bool.false_or,vL]at b1;simp at hj ⊢;omega
       .obtain⟨k1,k2⟩:=h.heap.kill (h.heap.ltg ((h.heap.lv C).1 L));have:=G (some y) b d m g p.size (σ.h.set C none) (W.kill C) w rfl om hb E q1 q2 q3 rfl rfl (W.kill_le C) k1 k2 wr (if o=0/\σ.h.tagOf C=some e then some e else none) (by split<;>simp)
        simpa using this
      .cases f
     .cases f
   .cases f
 ·-- read-only
  rename_i cs b c;by_cases hnz:us= .slice none 0 0
  .subst hnz;have X:b=0/\cs= []/\ ∀k,c=some k->k=0:=by
    cases hs with
    |tsz _ hc=>exact⟨rfl,rfl,hc⟩
   obtain⟨rfl,rfl,b5⟩:=X;split at f;rename_i hn;simp at f;obtain⟨rfl,rfl⟩:=f;subst hn;exact⟨W,w,_,Zpy ht.und r.info hS,h.heap,Stp.refl _ _ _,hs⟩;rename_i hn;split at f;cases f;rename_i E;split at f
   .rename_i c0;have hz:=b5 c0 rfl;subst hz;split at f;cases f
    .split at f
     .rename_i m A;have ho:m= []:=by simpa[Zs]using A.symm
      subst ho;simp at f;obtain⟨rfl,rfl⟩:=f;obtain⟨W',w',u,r1,r2,r3,r4⟩:=G none 0 0 [] [] p.size σ.h W w rfl om (su (show(0+n)*p.bytes<=most from om)) om .nil sm (λw' _=>rfl) rfl rfl (.refl W) h.heap (Stp.refl _ _ _) true none (.inl rfl);simp only[List.nil_append,uJ]at r2 r4;exact⟨W',w',u,r1,su r2,r3,su r4⟩
     .cases f
   .cases f
  have shape: ∃y d,us= .slice (some y) b d/\b<=d/\(∀k,c=some k->d=k):=by
   cases hs with
   |tsz _ _=>exact absurd rfl hnz
   |tsn _ _ y d hl hc=>exact⟨y,d,rfl,hl,hc⟩
   |ts _ _ _ d g0 f7 cc et fr us hl D hs g6 hr=>exact⟨_,d,rfl,hl,D⟩
  obtain⟨y,d,d7,hl,hc⟩:=shape;split at f;rename_i hn;simp at f;obtain⟨rfl,rfl⟩:=f;exact⟨W,w,_,H y b d d7 hn hl,h.heap,Stp.refl _ _ _,hs⟩;rename_i hn;split at f;cases f;rename_i E;have hb:(b+n)*p.bytes<=most:=om;have E:b+n<=most:=om;split at f;rename_i c0;have b5:=hc c0 rfl;split at f;cases f;rename_i b2;split at f;rename_i m A;simp at f;obtain⟨rfl,rfl⟩:=f;obtain⟨g,q1,q2,q3⟩:=Vf h (k:=p.size) (n:=b) (l:=m) (v:= .ts cs b (some c0)) (by simp[XS,A]) hs;subst d7;refine G (some y) b d m g p.size σ.h W w rfl om hb E q1 q2 (λw' c5=> ?_) rfl rfl (.refl W) h.heap (Stp.refl _ _ _) true none (.inl rfl);rcases q3 with ⟨hq,_⟩|⟨y',F,hq,_,b7⟩;cases hq;cases hq;rw[r.size];exact run_firstCells_some w' p.size b y b d g q2 (b7.same c5);cases f;cases f
 .cases f
end
section
variable {Y:YP} {W W':Vw} {σ σ':St} {a:Act} {w w':World}
theorem Zzt(i:YOK Y)(h:Rel W σ a w){O}{o:Oper}{σ'}(b:Qo Y O σ o=some (.st σ')):StepR Y W σ a w o σ':=by
 unfold Qo at b;split at b;rename_i q hq;simp only[uG]at b;obtain⟨σ2,k,j⟩:=b;cases j;exact StepR.quiet i h hq k
 .split at b;rename_i t d;split at b;rename_i ti m;simp only[uG]at b;obtain⟨σ2,k,j⟩:=b;cases j;exact Zhd i h d m k;cases b;rename_i t x d;split at b;split at b;rename_i p;simp only[uG]at b;obtain⟨σ2,k,j⟩:=b;cases j;exact Zpw i h d p.2 k;cases b;cases b;rename_i t x y d;split at b;rename_i ti ad m C;split at b;rename_i p;simp only[uG]at b;obtain⟨σ2,k,j⟩:=b;cases j;exact Zhe i h d m C p.1 p.2 k;cases b;cases b;rename_i t n X d;split at b;rename_i et G;split at b;rename_i te f;split at b;cases b;rename_i N;split at b;rename_i cs hf;cases b;exact Ze7 i h d G f N hf;cases b;cases b;cases b;rename_i t xl xc d;split at b;rename_i et kl l kc c G hl p;split at b;rename_i te f;split at b;rename_i F;cases b;exact Zg3 i h d G hl p f F;cases b;cases b;cases b;rename_i a1 a0 x d;split at b;rename_i et l L H hx;split at b;rename_i te f;split at b;rename_i K;cases b;exact Zkx i h d L H hx f K;cases b;cases b;cases b
  .rename_i g e d;split at b
   .rename_i s x st Z D E;split at b
    .rename_i v h' r;cases b;have A:e= #[st,Z]:=by apply Array.ext';simpa using E
     have z:g= #[s,x]:=by apply Array.ext';simpa using D
     subst A z;obtain⟨W',w',u,r1,r2,r3,r4⟩:=Zur (ty:=o.type) i h r (h.ev s) (h.ev x);refine StepR.heap h r2 r3 r4 ?_ (.inl rfl);have e3:(#[s,x].map a.eval)= #[a.eval s,a.eval x]:=sm;have B:(resolve a.eval ⟨.builtin .append,#[s,x],#[st,Z]⟩ o.type).run Y.P w= .ok {target:= .builtin .append #[st,Z] o.type (#[s,x].map fun| .const _=>true|_=>false),args:= #[s,x].map a.eval} w:=rfl
     simp only[execOp,d,uC,B,uA,invoke,builtin,e3,r1,uD]
    .cases b
   .cases b
  .split at b<;>cases b
  .cases b
theorem Jf(h:Rel W σ a w){l}{o:Oper}{f}{d}(b:Qo Y l σ o=some (.call f d)):
  ∃q,VRs W d q/\(execOp a.eval o).run Y.P w=(callFunc f q.toArray).run Y.P w:=by
 unfold Qo at b;split at b;simp only[uG]at b;obtain⟨_,_,e⟩:=b;cases e
 .split at b;split at b;simp only[uG]at b;obtain⟨_,_,e⟩:=b;cases e;cases b;split at b;split at b;simp only[uG]at b;obtain⟨_,_,e⟩:=b;cases e;cases b;cases b;split at b;split at b;simp only[uG]at b;obtain⟨_,_,e⟩:=b;cases e;cases b;cases b
  .split at b
   .split at b
    .split at b;cases b
     .split at b<;>cases b
    .cases b
   .cases b
  .split at b
   .split at b
    .split at b<;>cases b
    .cases b
   .cases b
  .split at b
   .split at b
    .split at b<;>cases b
    .cases b
   .cases b
  .split at b
   .split at b<;>cases b
   .cases b
  .rename_i p c r k;split at b
   .rename_i g fa x v;simp only[uB,R.call.injEq]at b;obtain⟨rfl,rfl⟩:=b;have i:=h.ev p;rw[v]at i;generalize j:a.eval p=y at i
    cases i with
    |fn _ _ _ m n t u=>
     refine⟨m++c.toList.map a.eval++n,(t.append (h.evs c.toList)).append u,?_⟩;have s:(m.toArray++c.map a.eval)++n.toArray=(m++c.toList.map a.eval++n).toArray:=by
      apply Array.ext';simp
     simp only[execOp,k,resolve,j,Deferred.ofValue,uC,uD,uA,invoke,s]
   .cases b
  .cases b
def CallTr(Y:YP)(f:FuncId)(b:List V)(h:Heap)(Q:V->Heap->Prop):Prop:=
 ∀(W:Vw) (w:World) (d:List Value),HRel W h w->VRs W b d->Calls Y.P f d.toArray w λe w'=>
  ∃(v:V) (c:Heap) (W':Vw) (u:Value),Q v c/\e= .returned u/\HRel W' c w'/\VR W' v u/\Stp W W.own w W' W'.own w'
theorem CallTr.mono{f}{b}{h}{Q d:V->Heap->Prop}(i:CallTr Y f b h Q)(j: ∀v c,Q v c->d v c):CallTr Y f b h d:=
 λW w m k l=>(i W w m k l).mono λ_ _ ⟨v,c,W',u,e,g⟩=>⟨v,c,W',u,j _ _ e,g⟩
structure RdCon(Y:YP)(id:Nat)(args:List V)(h:Heap)(Q:V->Heap->Prop):Prop where
 tr: ∀(W:Vw) (w:World) (us:List Value),HRel W h w->VRs W args us->W.lv id∧ ∃(f:FuncId) (tmps:Array Value) (assign body:Code),
  (Instr.yield (W.mu id).1 us.toArray).run Y.P w= .ok (.round (W.mu id).1 f tmps assign body) w∧
  RoundIn Fence.wide 0 Y.P (W.mu id).1 f tmps assign body w fun e w'=> ∃(v:V) (h':Heap) (W':Vw) (u:Value),Q v h'∧e= .returned u∧HRel W' h' w'∧VR W' v u∧Stp W W.own w W' W'.own w'
theorem RdCon.mono{g:Nat}{c}{h}{Q e:V->Heap->Prop}(m:RdCon Y g c h Q)(n: ∀v d,Q v d->e v d):RdCon Y g c h e:=
 ⟨λW w s o p=>by
  obtain⟨j,f,t,b,i,k,l⟩:=m.tr W w s o p;exact⟨j,f,t,b,i,k,l.mono λ_ _ ⟨v,d,W',u,q,r⟩=>⟨v,d,W',u,n _ _ q,r⟩⟩⟩
def Jo(Y:YP)(f:FuncId):Prop:= ∃c b,Y.P.funcs[f]? =some c/\c.body=some b
theorem Zbn(h:Rel W σ a w){k:Array Oper}{o:Oper}{b:Bool}(c:JG k σ.env o=some b):Region.wanted o (yielded k a.tmps)=b:=by
 unfold JG at c;unfold Region.wanted
 cases g:o.guard with
 |none=>simp[g]at c;subst c;rfl
 |some y=>
  obtain⟨j,s⟩:=y;simp only[g]at c;split at c
  .rename_i d q;have i: ∀v,σ.env.getD d .undef=v->v≠ .undef->σ.env[d]? =some v:=by
    intro v f n;simp only[List.getD]at f
    cases r:σ.env[d]? with
    |none=>rw[r]at f;simp at f;exact absurd f.symm n
    |some x=>rw[r]at f;simp at f;rw[f]
   split at c;rename_i x p;simp at c;obtain⟨u,l,m⟩:=h.env d _ (i _ p (λe=>nomatch e));cases m;simp[yielded,q,l,c]
   .rename_i p;simp at c;subst c;obtain⟨u,l,m⟩:=h.env d _ (i _ p (λe=>nomatch e))
    cases m with
    |tup _ z t=>
     cases t;simp[yielded,q,l]
   .cases c
  .cases c
def OutR:Out->Exit->Prop
 | .normal, .normal=>True
 | .exit i, .exit j=>i=j
 | .ret, .ret=>True
 |_,_=>False
def ZEn(Q:Out->St->Prop)(W:Vw)(own:Nat->Prop)(w:World)(e:Exit)(b:Act)(w':World):Prop:=
 ∃(o:Out) (σ':St) (W':Vw),OutR o e/\Q o σ'/\Rel W' σ' b w'/\Stp W own w W' (mine W' σ' b) w'
abbrev FrR(r:Option Nat):Fence:= {Fence.wide with round:=r}
def TriG(r:Option Nat)(Y:YP)(c:Code)(σ:St)(Q:Out->St->Prop):Prop:=
 ∀(W:Vw) (a:Act) (w:World) (W0:Vw) (own0:Nat->Prop) (w0:World),Rel W σ a w->Stp W0 own0 w0 W (mine W σ a) w->c.wpIn (FrR r) 0 Y.P (ZEn Q W0 own0 w0) a w
abbrev Tri(Y:YP)(c:Code)(σ:St)(Q:Out->St->Prop):Prop:=TriG none Y c σ Q
variable {ro:Option Nat}
theorem TriG.mono{c}{Q b:Out->St->Prop}(h:TriG ro Y c σ Q)(g: ∀o σ',Q o σ'->b o σ'):TriG ro Y c σ b:=
 λW a w W0 own0 w0 i j=>wpIn_mono (h W a w W0 own0 w0 i j) λ_ _ _ ⟨o,σ',W',d,e,f⟩=>⟨o,σ',W',d,g _ _ e,f⟩
theorem Tri.mono{c}{Q b:Out->St->Prop}(h:Tri Y c σ Q)(d: ∀o σ',Q o σ'->b o σ'):Tri Y c σ b:=TriG.mono h d
theorem Zzu{Q}(h:Q .normal σ):TriG ro Y .skip σ Q:=λW _ _ _ _ _ b c=>wpIn_skip ⟨.normal,σ,W,trivial,h,b,c⟩
theorem Zus{l:Nat}{Q}(h:Q .normal σ):TriG ro Y (.label l) σ Q:=λW _ _ _ _ _ b c=>wpIn_label ⟨.normal,σ,W,trivial,h,b,c⟩
theorem Zzv{b:Nat}{Q}(h:Q (.exit b) σ):TriG ro Y (.exit b) σ Q:=λW _ _ _ _ _ c d=>wpIn_exit ⟨.exit b,σ,W,rfl,h,c,d⟩
theorem ZEo{Q}(h:Q .ret σ):TriG ro Y .ret σ Q:=λW _ _ _ _ _ b c=>wpIn_ret ⟨.ret,σ,W,trivial,h,b,c⟩
def ZPz(ro:Option Nat)(Y:YP)(b:Code)(Q:Out->St->Prop):Out->St->Prop
 | .normal,σ=>TriG ro Y b σ Q
 |o,σ=>Q o σ
theorem Zut{x y}{Q}(h:TriG ro Y x σ (ZPz ro Y y Q)):TriG ro Y (.seq x y) σ Q:=by
 intro W a w W0 own0 w0 i j;refine wpIn_seq (wpIn_mono (h W a w W0 own0 w0 i j) ?_);rintro e g w' ⟨o,σ',W',f,d,b,c⟩;cases o<;>cases e<;>simp only[OutR]at f
 .exact d W' g w' W0 own0 w0 b c
 .subst f;exact⟨.exit _,σ',W',rfl,d,b,c⟩
 .exact⟨.ret,σ',W',trivial,d,b,c⟩
theorem Zi4{x:Operand}{c d}{Q}{b:Bool}(j:ev σ.env x= .b b)(h:TriG ro Y (if b then c else d) σ Q):TriG ro Y (.cond x c d) σ Q:=by
 intro W a w W0 own0 w0 f i;have e:=f.ev x;rw[j]at e;generalize g:a.eval x=u at e;cases e;exact wpIn_cond g (h W a w W0 own0 w0 f i)
def Zn4(b:Nat)(Q:Out->St->Prop):Out->St->Prop
 | .exit j,σ=>if j=b then Q .normal σ else Q (.exit j) σ
 |o,σ=>Q o σ
theorem Zuu{g:Nat}{c}{Q}(h:TriG ro Y c σ (Zn4 g Q)):TriG ro Y (.block g c) σ Q:=by
 intro W a w W0 own0 w0 m n;refine wpIn_block (wpIn_mono (h W a w W0 own0 w0 m n) ?_);rintro e p w' ⟨o,σ',W',l,f,b,d⟩;cases o<;>cases e<;>simp only[OutR]at l
 .exact⟨.normal,σ',W',trivial,f,b,d⟩
 .rename_i i j;subst l;simp only[Zn4,Exit.inBlock]at f ⊢;by_cases k:i=g;rw[uF k]at f ⊢;exact⟨.normal,σ',W',trivial,f,b,d⟩;rw[uE k]at f ⊢;exact⟨.exit i,σ',W',rfl,f,b,d⟩
 .exact⟨.ret,σ',W',trivial,f,b,d⟩
theorem QA{P:Program}{b:Frame}{a:Act}{k:List Item}{d:List Frame}{w}{c:Code} :step P (lone (b.atR a (.code (.scope c)::k)) d w)= .next (lone (b.atR a (.code c:: .inScope c::k)) d w):=
 step_lone_go (by simp[stepG,stepG.exec,Frame.atR])
theorem Zi5{P:Program}{b:Frame}{a:Act}{k:List Item}{d:List Frame}{w}{c:Code} :step P (lone (b.atR a (.inScope c::k)) d w)= .next (lone (b.atR a k) d w):=
 step_lone_go (by simp[stepG,stepG.exec,Frame.atR])
theorem Zaw{F:Fence}{n:Nat}{P:Program}{a:Act}{w}{Q:Exit->Act->World->Prop}{c:Code}(h:c.wpIn F n P (Exit.noGoto Q) a w):(Code.scope c).wpIn F n P Q a w:=by
 intro b k t r m p;have i:(lone (b.atR a (.code (.scope c)::k)) t w).fenced P F:=fenced_calm m p rfl;obtain⟨e,f,g,j,d⟩:=h b (.inScope c::k) t r m p
 cases e with
 |normal=>exact⟨.normal,f,g,j, .head i QA (StepsIn.trans d (.one (fenced_calm m p rfl) Zi5))⟩
 |exit s=>
  have u:exitTo s (.inScope c::k)=exitTo s k:=by simp[exitTo]
  exact⟨.exit s,f,g,j,λv o=> .head i QA (d.1 v (by rw[u];exact o)),
   λq o=>let ⟨k₁,h1,h2⟩:=d.2 q (by rw[u];exact o);⟨k₁,h1, .head i QA h2⟩⟩
 |goto l=>exact j.elim
 |ret=>exact⟨_,f,g,j, .of_steps (.one i QA) d⟩
 |panic x=>exact⟨_,f,g,j, .of_steps (.one i QA) d⟩
 |outgrown=>exact⟨_,f,g,j, .of_steps (.one i QA) d⟩
theorem Zkz{c}{Q}(h:TriG ro Y c σ Q):TriG ro Y (.scope c) σ Q:=by
 intro W a w W0 own0 w0 f g;refine Zaw (wpIn_mono (h W a w W0 own0 w0 f g) ?_);rintro e i w' ⟨o,σ',W',b,d⟩;cases e<;>first|exact⟨o,σ',W',b,d⟩|(cases o<;>exact b.elim)
theorem Zee{c:Code}{Q:Out->St->Prop}(I:Nat->St->Prop){n:Nat}(s:I n σ)
  (f: ∀n σ,I n σ->TriG ro Y c σ λo σ'=>match o with| .normal=> ∃m,m<n/\I m σ'|o=>Q o σ'):TriG ro Y (.loop c) σ Q:=by
 intro W a w W0 own0 w0 i j;have q: ∀n,∀m σ W a w,m<=n->I m σ->Rel W σ a w->Stp W0 own0 w0 W (mine W σ a) w->Code.roundsIn (FrR ro) 0 Y.P c (ZEn Q W0 own0 w0) (n+1) a w:=by
  intro n
  induction n with
  |zero=>
   intro m σ W a w u l i j;rw[roundsIn_succ];refine wpIn_mono (f m σ l W a w W0 own0 w0 i j) ?_;rintro e r w' ⟨o,σ',W',h,g,b,d⟩;cases o<;>cases e<;>simp only[OutR]at h
   .obtain⟨k,t,_⟩:=g;omega
   .exact⟨.exit _,σ',W',h,g,b,d⟩
   .exact⟨.ret,σ',W',trivial,g,b,d⟩
  |succ n v=>
   intro m σ W a w u l i j;rw[roundsIn_succ];refine wpIn_mono (f m σ l W a w W0 own0 w0 i j) ?_;rintro e r w' ⟨o,σ',W',h,g,b,d⟩;cases o<;>cases e<;>simp only[OutR]at h
   .obtain⟨k,t,p⟩:=g;exact v k σ' W' r w' om p b d
   .exact⟨.exit _,σ',W',h,g,b,d⟩
   .exact⟨.ret,σ',W',trivial,g,b,d⟩
 exact wpIn_loop_rounds (n+1) (q n n σ W a w (Nat.le_refl _) s i j)
theorem Rel.noRefs(h:Rel W σ a w):Rel W {σ with refs:= []} a w:=⟨h.heap,h.size,h.env,h.box,λ_ _ _ b=>by simp at b,h.defers⟩
/-! ### Functions -/
theorem VRs.undefs(n:Nat):VRs W (List.replicate n .undef) (List.replicate n Go.undef):=by
 induction n with
 |zero=>exact .nil
 |succ n b=>exact .cons _ _ _ _ (.undef _) b
theorem Rel.start{h}(r:HRel W h w){c}{d:List Value}(o:VRs W c d)(n:Nat):
  Rel W ⟨c++List.replicate (n-c.length) .undef,[],h⟩ {tmps:=d.toArray++Array.replicate (n-d.toArray.size) Go.undef,defers:= []} w/\
  ∀b,mine W ⟨c++List.replicate (n-c.length) .undef,[],h⟩ {tmps:=d.toArray++Array.replicate (n-d.toArray.size) Go.undef,defers:= []} b->W.own b:=by
 have m:=o.length;have e:VRs W (c++List.replicate (n-c.length) .undef) (d++List.replicate (n-d.length) Go.undef):=by
  rw[m];exact o.append (VRs.undefs _)
 have l:(d.toArray++Array.replicate (n-d.toArray.size) Go.undef)=(d++List.replicate (n-d.length) Go.undef).toArray:=by
  apply Array.ext';simp
 have i: ∀(t:Nat) (f:List V),(c++List.replicate (n-c.length) .undef)[t]? ≠some (V.lb f):=by
  intro t f p;obtain⟨u,_,j⟩:=e.get p;exact j.ne_box.1 f rfl
 rw[l];refine⟨⟨r,by simp[m],λt v s=> ?_,λt x b g _=>absurd g.1.choose_spec (i t _),λ_ _ _ k=>by simp at k, .none rfl⟩,?_⟩;obtain⟨u,g,j⟩:=e.get s;exact⟨u,su g,j.srel⟩;rintro b (q|⟨t,⟨f,g⟩,_⟩|k);exact q;exact absurd g (i t f);simp at k
theorem Zn5{g:ResultVar->Sem Value}(C: ∀r x,Zat Y σ r=some x-> ∃u,VR W x u/\(g r).run Y.P w= .ok u w){n:Array ResultVar}{y:Func}(s:y.results=n){v}(f:JI Y y σ=some v):
  ∃u,VR W v u/\(do let c<-n.mapM g;pure (if h:c.size=1 then c[0]else .tuple c):Sem Value).run Y.P w= .ok u w:=by
 have m: ∀(l:List ResultVar) (c:List V),QZ Y σ l=some c-> ∃d,VRs W c d/\(l.mapM g).run Y.P w= .ok d w:=by
  intro l
  induction l with
  |nil=>intro c b;simp[QZ]at b;subst b;exact⟨[], .nil,sm⟩
  |cons r l D=>
   intro c b;simp only[QZ]at b;split at b;rename_i x E e i;simp at b;subst b;obtain⟨u,o,p⟩:=C r x e;obtain⟨d,A,B⟩:=D E i;exact⟨u::d, .cons _ _ _ _ o A,by simp only[List.mapM_cons,uC,p,B,uA,uD]⟩;cases b
 unfold JI at f;rw[s]at f;have j: ∀c,QZ Y σ n.toList=some c-> ∃d,VRs W c d/\
   (do let c<-n.mapM g;pure (if h:c.size=1 then c[0]else .tuple c):Sem Value).run Y.P w= .ok (if F:d.toArray.size=1 then d.toArray[0]else .tuple d.toArray) w:=by
  intro c b;obtain⟨d,e,i⟩:=m _ c b;refine⟨d,e,?_⟩;rw[Array.mapM_eq_mapM_toList,uC,Sem.run_map,i]
  rfl
 split at f
 .rename_i x t;simp at f;subst f;obtain⟨d,e,i⟩:=j _ t
  cases e with
  |cons _ u _ _ o p=>cases p;exact⟨u,o,su i⟩
 .rename_i c q t;simp at f;subst f;obtain⟨d,e,i⟩:=j _ t;refine⟨.tuple d.toArray, .tup _ _ e,?_⟩;rw[i];have z:=e.length;have: ¬d.toArray.size=1:=by
   intro k;simp at k;rw[k]at z
   match c,z with
   | [x],_=>exact q x rfl
  rw[dif_neg this]
 .cases f
theorem Zsl(m:YOK Y)(h:Rel W σ a w){g}{v}(n:JI Y g σ=some v): ∃u,VR W v u/\(results g a.tmps).run Y.P w= .ok u w:=by
 unfold results;refine Zn5 (λr x c=> ?_) rfl n
 cases r with
 |tmp t=>
  have i:=h.ev (.tmp t);have e:ev σ.env (.tmp t)=x:=by
   revert c;simp only[Zat];cases ev σ.env (.tmp t)<;>simp
  rw[e]at i;exact⟨_,i,rfl⟩
 |cell s t=>
  simp only[Zat]at c;split at c;rename_i o ad d b;obtain⟨u,k,l⟩:=Zun m h d b c;obtain⟨y,j,_⟩:=Zcy h b;refine⟨u,k,?_⟩;have:=l w (.refl w);rw[j]at this;have f:a.tmps.getD s Go.undef= .pointer (some y):=j;simp only[f,asAddr,uC,uD,uA];simpa[Instr.loadAt,Instr.sureAddr]using this;cases c
theorem Rel.take(h:Rel W σ a w){d:Deferred}{m:List Deferred}(k:a.defers=d::m): ∃(r:Nat) (w':World),d.target= .collected r/\(Instr.takeDeferred r).run Y.P w= .ok [] w'/\
  Rel W σ {a with defers:=m} w'/\Stp W (mine W σ a) w W (mine W σ {a with defers:=m}) w':=by
 obtain⟨r,rfl,l,E,F⟩:=h.defers.at_ d (by rw[k];simp);have K:=Zt l;have j: ∀x,x≠r->(w.putB r (.deferred none)).heap[x]? =w.heap[x]? :=λx Z=>Zcw _ _ _ _ (λe=>Z e.symm);have i:=h.defers.nd;rw[k,List.nodup_cons]at i;refine⟨r,w.putB r (.deferred none),rfl,run_takeDeferred l,⟨⟨h.heap.kn,h.heap.lk,h.heap.lv,h.heap.lt,λb o f=> ?_,λz o s=> ?_,h.heap.inj,h.heap.apart,λp y=>⟨(h.heap.tg p y).1,λH=> ?_⟩,h.heap.gl⟩,h.size,λt v O=> ?_,h.box,h.refs,⟨i.2,λd g=> ?_⟩⟩,
  ⟨.refl W,sm,λb _ L=>j b (λe=>L (.inr (.inr (by rw[k,e];simp)))),λb f=> ?_,λb f=> .inl f,⟨rfl,rfl,rfl⟩⟩⟩
 .rw[j b (λe=>by rw[e,E]at f;cases f)];exact h.heap.snap b o f
 .exact h.heap.others j s (λe=>F ⟨z,(h.heap.lv z).2 (by simp[s]),e⟩)
 .obtain⟨C,c,B,n,D⟩:=(h.heap.tg p y).2 H;exact⟨C,c,B,by rw[j _ (λe=>by rw[e,l]at n;cases n)];exact n,D⟩
 .obtain⟨u,G,q⟩:=h.env t v O;refine⟨u,G,?_⟩
  cases v with
  |lb cs=>
   obtain⟨b,c,e,X,f,N⟩:=q;exact⟨b,c,e,X,by rw[j b (λe'=>by rw[e',l]at f;cases f)];exact f,N⟩
  |_=>exact q
 .obtain⟨A,rfl,q2,q3,q4⟩:=h.defers.at_ d (by rw[k];exact uv _ g);exact⟨A,rfl,by rw[j A (λe=>by rw[e]at g;exact i.1 g)];exact q2,q3,q4⟩
 .rcases f with f|f|f;exact .inl (.inl f);exact .inl (.inr (.inl f));exact .inl (.inr (.inr (by rw[k];exact uv _ f)))
theorem Zk0(l:YOK Y){j}{v}(c:JI Y j σ=some v){R:Ending->World->Prop}{own0:Nat->Prop}{W0:Vw}{w0:World}
  (k: ∀(u:Value) (w':World),VR W v u->HRel W σ.h w'->Stp W0 own0 w0 W W.own w'->R (.returned u) w'):
  ∀(e:List Deferred) (a:Act) (w:World),a.defers=e->Rel W σ a w->Stp W0 own0 w0 W (mine W σ a) w->LeavesInM (FrR none) 0 Y.P j a.tmps R e .returning w
 | [],a,w,m,g,i=>by
  obtain⟨u,t,f⟩:=Zsl l g c;exact⟨u,f,k u w t g.heap (i.weaken λb s=> .inl s)⟩
 |d::e,a,w,m,g,i=>by
  obtain⟨r,w',n,o,p,q⟩:=g.take (Y:=Y) m;exact⟨sm, .inl ⟨r,w',n,o,Zk0 l c k e {a with defers:=e} w' rfl p (i.trans q)⟩⟩
theorem Zuv(t:YOK Y){f:FuncId}{d:Func}{c}(y:Y.P.funcs[f]? =some d)(x:d.body=some c){b:List V}{h:Heap}{Q:V->Heap->Prop}
  (D:Tri Y c ⟨b++List.replicate (d.ntmps-b.length) .undef,[],h⟩ λo σ=>(o= .normal\/o= .ret)/\ ∃v,JI Y d σ=some v/\Q v σ.h):CallTr Y f b h Q:=by
 intro W w H C G;obtain⟨r,s⟩:=Rel.start C G d.ntmps;refine(callsIn_wide (n:=0)).1 (callsIn_of_wp_marks (F:=FrR none) y x trivial (wpIn_mono (D W _ w W W.own w r ((Stp.refl W W.own w).weaken s)) ?_));rintro e j w' ⟨o,σ',W',A,⟨k,v,i,B⟩,l,m⟩;have g:LeavesInM (FrR none) 0 Y.P d j.tmps (λe w'=> ∃(v:V) (q:Heap) (W':Vw) (u:Value),Q v q/\e= .returned u/\HRel W' q w'/\VR W' v u/\Stp W W.own w W' W'.own w') j.defers .returning w':=
  Zk0 t i (W0:=W) (own0:=W.own) (w0:=w) (λu K E z p=>⟨v,σ'.h,W',u,B,rfl,z,E,p⟩) j.defers j w' rfl l m
 rcases k with rfl|rfl<;>cases e<;>simp only[OutR]at A
 .exact g
 .exact g
theorem Stp.same{own:Nat->Prop}(s:Same w w')(c:Str w w'):Stp W own w W own w' where
 str:=c
 le:= .refl W
 size:=s.size
 keep b hb _:=by rw[Array.getElem?_eq_getElem hb];exact s b _ (Array.getElem?_eq_getElem hb)
 owns b h:= .inl h
 new b h:= .inl h
end
end Go.Y
