/- A part of the proof. -/
import Derived.Test.YteennilbmmlikaaGreatDoorYQuiet3
import Derived.Laws.BytesString
namespace Go.Y
set_option maxRecDepth 1000000
set_option maxHeartbeats 0
section
variable {Y:YP} {W:Vw} {σ:St} {a:Act} {w:World}
theorem ZDh{o:Oper}{c:Operand->Value}{s:Sem Value}{P:Program}{u:Value}{w:World}(d:execOp c o=(do pure (.value (<-s))))(h:s.run P w= .ok u w):
  (execOp c o).run P w= .ok (.value u) w:=by
 rw[d];show(s>>=λx=>pure (Next.value x)).run P w=_;rw[uC,h]
 rfl
theorem Zcr: ∀ {e:List V} {d:List Value} {l:List UInt8},VRs W e d->QA e=some l-> ∃c:List Int,d=c.map (Value.int .u8)/\l=c.map λn=>UInt8.ofNat n.toNat
 |_,_,l, .nil,h=>by simp[QA]at h;subst h;exact⟨[],rfl,rfl⟩
 |_,_,l, .cons v u e d o g,h=>by
  cases v with
  |i k n=>
   cases k with
   |u8=>
    simp only[QA,uG]at h;obtain⟨r,f,rfl⟩:=h;cases o;obtain⟨c,m,j⟩:=Zcr g f;exact⟨n::c,by simp[m],by simp[j]⟩
   |_=>simp[QA]at h
  |_=>simp[QA]at h
theorem Zcs{g:Int->Int->Int}{f:Value->Value->Sem Value}(e: ∀k x y,f (.int k x) (.int k y)=pure (.int k (g x y))):
  ∀ {d:List V} {c:List Value} {k:IntKind} {m:Int} {r:V},VRs W d c->Zbf g k m d=some r-> ∃u,VR W r u/\ ∀w,(c.foldlM f (.int k m):Sem Value).run Y.P w= .ok u w
 |_,_,k,m,r, .nil,h=>by simp[Zbf]at h;subst h;exact⟨_, .i _ _,λw=>rfl⟩
 |_,_,k,m,r, .cons v u d c z j,h=>by
  cases v<;>simp only[Zbf,reduceCtorEq]at h
  split at h
  .rename_i o;subst o;cases z;obtain⟨l,t,n⟩:=Zcs e j h;exact⟨l,t,λw=>by simp only[List.foldlM_cons,e,uC,uD,uA,n]⟩
  .cases h
theorem Rel.evs(h:Rel W σ a w): ∀(c:List Operand),VRs W (c.map (Go.Y.ev σ.env)) (c.map a.eval)
 | []=> .nil
 |x::c=> .cons _ _ _ _ (h.ev x) (h.evs c)
theorem Rel.evo(h:Rel W σ a w)(x:Option Operand):OR W (x.map (Go.Y.ev σ.env)) (x.map a.eval):=by
 cases x with
 |none=>trivial
 |some x=>exact h.ev x
theorem Vb(h:Rel W σ a w){k n:Nat}{v:V}{l:List V}(d:XQ σ k v=some (n,l)){u:Value}(t:VR W v u):
  ∃f,VRs W l f/\f.length=n*k/\((u= .slice none 0 0/\n=0)\/ ∃y cap,u= .slice (some y) n cap/\n<=cap/\CellsW w y f):=by
 unfold XQ at d;split at d
 .split at d
  .rename_i L;subst L;simp at d;obtain⟨rfl,rfl⟩:=d;cases t;exact⟨[], .nil,sm, .inl ⟨rfl,rfl⟩⟩
  .cases d
 .rename_i O o len cap P;split at d
  .rename_i K;subst K;simp only[uG]at d;obtain⟨C,g,d⟩:=d;simp at d;obtain⟨rfl,rfl⟩:=d
   cases t with
   |sls _ _ _ _ _ y c E e G X L K=>
    by_cases hz:len*P=0
    .have m:C= []:=by
      rw[hz]at g;simp only[Xu]at g;split at g
      .simpa[Zr]using g.symm
      .cases g
     subst m;exact⟨[], .nil,by simp[hz], .inr ⟨y,c,rfl,e,λj u hj=>by simp at hj⟩⟩
    .have r:0<c:=by
      rcases Nat.eq_zero_or_pos len with H|H
      .simp[H]at hz
      .omega
     obtain⟨f,z,A,x⟩:=VE (W:=W) (σ:=σ) (a:=a) (w:=w) h (ad:= .hp O o) (y:=y) ⟨E,λt=>X t r⟩ g;exact⟨f,z,A, .inr ⟨y,c,rfl,e,x⟩⟩
  .cases d
 .rename_i cs len cap;simp only[uG]at d;obtain⟨C,g,d⟩:=d;simp at d;obtain⟨rfl,rfl⟩:=d
  cases t with
  |tsz _ G=>
   have D:C= []:=by simpa[Zr]using g.symm
   subst D;exact⟨[], .nil,sm, .inl ⟨rfl,rfl⟩⟩
  |tsn _ _ y c e G=>
   obtain⟨f,z,A,x⟩:=VE (W:=W) (σ:=σ) (a:=a) (w:=w) h (ad:= .ro []) (y:=y) (.inl rfl) g;exact⟨f,z,A, .inr ⟨y,c,rfl,e,x⟩⟩
  |ts _ _ _ c blk off Z et fr f e F N B hr=>
   obtain⟨f,z,A,x⟩:=VE (W:=W) (σ:=σ) (a:=a) (w:=w) h (ad:= .ro cs) (y:=⟨blk,off,none⟩) (.inr ⟨blk,off,Z,et,fr,f,rfl,N,B,hr⟩) g;exact⟨f,z,A, .inr ⟨_,c,rfl,e,x⟩⟩
 .cases d
theorem Zrl(c:List Int): ∀s:ByteArray,c.foldl (λr n=>r.push (UInt8.ofNat n.toNat)) s=⟨(s.data.toList++c.map λn=>UInt8.ofNat n.toNat).toArray⟩:=by
 induction c with
 |nil=>intro s;simp
 |cons n c d=>
  intro s;simp only[uR,d];apply ByteArray.ext;simp[ByteArray.push]
theorem ZDi{r:Nat}{m:Array MapEntry}{c:Nat}(h:w.heap[r]? =some (.map m c)):(getObj r).run Y.P w= .ok (.map m c) w:=by simp[getObj,Sem.run,h]
theorem Zpa{e}{t:TypeId}{i:TypeInfo}{d:TypeDesc}{z:Value}(n:TIOK Y t e i d z){m l:List V}{k:List Value}(hr:VRs W m k){off:Nat}
  (y:Zr e.size (m.drop off)=some l) {v:V} (A:Jj e.kd.agg l=some v): ∃u,VR W v u/\ ∀w,(part t k.toArray off).run Y.P w= .ok u w:=by
 obtain⟨r,u,x,B,f⟩:=Va n hr y;obtain⟨o,j,c⟩:=Zgz x A;have g:u=o:=by
  cases h:e.kd.agg<;>simp only[h,uI,vF,vG]at f c
  .rw[f]at c;simpa using c
  .rw[f,c]
 subst g;exact⟨u,j,B⟩
set_option maxHeartbeats 1000000 in
theorem ZHs(hY:YOK Y)(h:Rel W σ a w){o:Oper}{q:Q}(A:opQ Y σ o=some q):
  ∃u,QR W σ a q u/\ ∀C,Same w C->(execOp a.eval o).run Y.P C= .ok (.value u) C:=by
 have mk: ∀ {s:Sem Value} {v:V},execOp a.eval o=(do pure (.value (<-s)))->(∃u,VR W v u/\ ∀C,Same w C->s.run Y.P C= .ok u C)->
   ∃u,QR W σ a (.val v) u/\ ∀C,Same w C->(execOp a.eval o).run Y.P C= .ok (.value u) C:=by
  rintro s v he ⟨u,h1,h2⟩;exact⟨u,h1,λC a0=>ZDh he (h2 C a0)⟩
 cases B:o.op with
 |move x=>simp only[opQ,B,uB]at A;subst A;exact⟨_,h.ev x,λC _=>by simp[execOp,B]⟩
 |assign x=>simp only[opQ,B,uB]at A;subst A;exact⟨_,h.ev x,λC _=>by simp[execOp,B]⟩
 |pick c x y=>
  simp only[opQ,B]at A;split at A
  .rename_i b hb;simp at A;subst A;have hc:=h.ev c;rw[hb]at hc;generalize he:a.eval c=uc at hc;cases hc;refine⟨if b then a.eval x else a.eval y,?_,λC _=>by simp[execOp,B,he,asBool]⟩;cases b
   .exact h.ev y
   .exact h.ev x
  .cases A
 |nilCheck x=>
  simp only[opQ,B]at A;have E:=h.ev x;split at A
  .rename_i p hp;simp at A;subst A;rw[hp]at E;generalize he:a.eval x=ux at E
   cases E with
   |ps id off y d4 ha=>exact⟨_, .ps id off y d4 ha,λC _=>by simp[execOp,B,he]⟩
  .rename_i cs hp;simp at A;subst A;rw[hp]at E;generalize he:a.eval x=ux at E
   cases E with
   |tpn y=>exact⟨_, .tpn y,λC _=>by simp[execOp,B,he]⟩
   |tp _ blk off c e fr us hs hc hr=>exact⟨_, .tp cs blk off c e fr us hs hc hr,λC _=>by simp[execOp,B,he]⟩
  .rename_i f fa fc hp;simp at A;subst A;rw[hp]at E;generalize he:a.eval x=ux at E
   cases E with
   |fn _ _ _ ua uc ha hc=>exact⟨_, .fn _ _ _ ua uc ha hc,λC _=>by simp[execOp,B,he]⟩
  .split at A
   .rename_i s off a9;simp at A;subst A;obtain⟨y,hy,b,hb,rfl⟩:=Zcq h a9;exact⟨_,⟨b,hb,rfl⟩,λC _=>by simp[execOp,B,hy]⟩
   .cases A
  .cases A
 |binOp op t x y yt=>
  simp only[opQ,B,uG]at A;obtain⟨v,K,rfl⟩:=A;obtain⟨u,h1,h2⟩:=ZDg hY K (h.ev x) (h.ev y);exact mk (by simp only[execOp,B]) ⟨u,h1,λC _=>h2 C⟩
 |unOp op t x=>
  simp only[opQ,B,uG]at A;obtain⟨v,K,rfl⟩:=A;obtain⟨u,h1,h2⟩:=ZHr (Y:=Y) K (h.ev x);exact mk (by simp only[execOp,B]) ⟨u,h1,λC _=>h2 C⟩
 |makeFunc f fa fc=>
  simp only[opQ,B,uB]at A;subst A;refine⟨.func f (fa.map a.eval) (fc.map a.eval),?_,λC _=>by simp[execOp,B,Instr.makeFunc]⟩;have:=VR.fn (W:=W) f _ _ _ _ (h.evs fa.toList) (h.evs fc.toList);have e1:(fa.toList.map a.eval).toArray=fa.map a.eval:=by apply Array.ext';simp
  have e2:(fc.toList.map a.eval).toArray=fc.map a.eval:=by apply Array.ext';simp
  rw[e1,e2]at this;exact this
 |makeInterface t x=>
  simp only[opQ,B]at A;split at A
  .cases A
  .rename_i kd f9 Z;simp at A;subst A;obtain⟨ti,a1,a3⟩:=XG Z;obtain⟨i,d,z,O⟩:=hY.ty t ti a1;refine mk (v:= .ifc t (ev σ.env x)) (s:=Instr.makeInterface t (a.eval x)) (by simp only[execOp,B]) ⟨.iface t (a.eval x), .ifc t _ _ (h.ev x),λC _=> ?_⟩;have D:=O.kd;have f6: ∀ms,d≠ .interface ms:=by
    intro ms X;subst X;rw[a3]at D;cases kd<;>simp[KdOK]at D
    exact f9 rfl
   simp only[Instr.makeInterface,uC,Zg O.und,uA];cases d<;>first|rfl|exact absurd rfl (f6 _)
  .cases A
 |build t L=>
  simp only[opQ,B]at A;split at A
  .rename_i ti a1;obtain⟨i,d,z,O⟩:=hY.ty t ti a1;split at A
   .rename_i fs Z;have D:=O.kd;rw[Z]at D;obtain⟨l,rfl,b8,_⟩:=D;split at A
    .rename_i c8;simp only[uG]at A;obtain⟨_,⟨r,hr,rfl⟩,rfl⟩:=A;obtain⟨us,h1,h2⟩:=Zio h L.toList _ _ _ (O.zr W) hr;refine mk (s:=Instr.build t (L.map λp=>(p.1,a.eval p.2))) (by simp only[execOp,B]) ⟨_, .agg _ _ h1,λC _=> ?_⟩;have b9: ∀w,(l.mapM (λf:Field=>do pure (f.offset,<-sizeOf f.type):Field->Sem (Nat×Nat))).run Y.P w= .ok (l.map λf=>(f.offset,((Y.ty f.type).map (·.size)).getD 0)) w:=by
      intro w;rw[Array.mapM_eq_mapM_toList];have f7: ∀(fl:List Field),(∀f∈fl,(Y.ty f.type).isSome=true)->
        (fl.mapM (λf:Field=>do pure (f.offset,<-sizeOf f.type):Field->Sem (Nat×Nat))).run Y.P w= .ok (fl.map λf=>(f.offset,((Y.ty f.type).map (·.size)).getD 0)) w:=by
       intro fl
       induction fl with
       |nil=>intro _;simp
       |cons f fl ih=>
        intro hf;obtain⟨tf,a4⟩:=Option.isSome_iff_exists.1 (hf f sm);obtain⟨fi,fd,fz,a2⟩:=hY.ty _ tf a4;simp only[List.mapM_cons,uC,ZV a2.info,uD,uA,ih (λg hg=>hf g (by simp[hg])),List.map_cons,a4,uw,uq,a2.size]
      have:=f7 l.toList (λf hf=>by
       have:=uP.1 c8 (f.offset,f.type) (by rw[b8];exact uW.2 ⟨f,hf,rfl⟩);exact this)
      rw[Sem.run_map,this];simp only[uA]
      congr 1
      apply Array.ext';simp
     have hz:=O.zero;simp only[Instr.build,uC,Qq O.info O.zero,Zg O.und,uA,b9];have g6: ∀j,(l.map λf=>(f.offset,((Y.ty f.type).map (·.size)).getD 0))[j]? =Zj4 Y fs j:=by
      intro j;rw[b8];unfold Zj4;rw[List.getElem?_map,Array.getElem?_map,Array.getElem?_toList]
      cases hj:l[j]? with
      |none=>rfl
      |some f=>
       have hf:=uP.1 c8 (f.offset,f.type) (by rw[b8];exact uW.2 ⟨f,by simpa using Array.mem_of_getElem? hj,rfl⟩);obtain⟨tf,a4⟩:=Option.isSome_iff_exists.1 hf;simp[a4]
     have f1:(λx=>(l.map λf=>(f.offset,((Y.ty f.type).map (·.size)).getD 0))[x]?)=Zj4 Y fs:=funext g6;have d7:z.cells=z.cells.toList.toArray:=sm;rw[f1,d7];have d0:(L.map λp=>(p.1,a.eval p.2)).toList=L.toList.map λp=>(p.1,a.eval p.2):=sm;rw[d0,h2]
     rfl
    .cases A
   .rename_i n et Z;have D:=O.kd;rw[Z]at D;obtain⟨rfl,_⟩:=D;split at A
    .rename_i tf a4;obtain⟨fi,fd,fz,a2⟩:=hY.ty et tf a4;simp only[uG]at A;obtain⟨_,⟨r,hr,rfl⟩,rfl⟩:=A;obtain⟨us,h1,h2⟩:=Zio h L.toList _ _ _ (O.zr W) hr;refine mk (s:=Instr.build t (L.map λp=>(p.1,a.eval p.2))) (by simp only[execOp,B]) ⟨_, .agg _ _ h1,λC _=> ?_⟩;simp only[Instr.build,uC,Qq O.info O.zero,Zg O.und,uA,ZV a2.info,a2.size];have d7:z.cells=z.cells.toList.toArray:=sm;have d0:(L.map λp=>(p.1,a.eval p.2)).toList=L.toList.map λp=>(p.1,a.eval p.2):=sm;rw[d7,d0,h2]
     rfl
    .cases A
   .cases A
  .cases A
 |load t x=>
  simp only[opQ,B]at A;split at A
  .rename_i ti ad a1 a9;simp only[uG]at A;obtain⟨v,K,rfl⟩:=A;exact mk (by simp only[execOp,B]) (Zto hY h a1 a9 K)
  .cases A
 |fieldAddr t x f=>
  simp only[opQ,B,uG]at A;obtain⟨ad,a9,rfl⟩:=A;obtain⟨y,h1,h2⟩:=Ztp hY h a9;exact⟨_,h1.qr,λC a0=>ZDh (by simp only[execOp,B]) (h2 C a0)⟩
 |indexAddr t x ix=>
  simp only[opQ,B,uG]at A;obtain⟨ad,a9,rfl⟩:=A;obtain⟨y,h1,h2⟩:=Ztq hY h a9;exact⟨_,h1.qr,λC a0=>ZDh (by simp only[execOp,B]) (h2 C a0)⟩
 |field t x f=>
  simp only[opQ,B]at A;split at A
  .rename_i fs cs b8 g7;obtain⟨l,hl,rfl⟩:=Zes hY b8;split at A
   .rename_i off ft hg;split at A
    .rename_i tf a4;simp only[uG]at A;obtain⟨v,K,rfl⟩:=A;obtain⟨fi,fd,fz,a2⟩:=hY.ty ft tf a4;rw[List.getElem?_map,uG]at hg;obtain⟨fl,g2,e9⟩:=hg;simp at e9;obtain⟨rfl,rfl⟩:=e9;have e6:l[f]? =some fl:=by simpa using g2
     have E:=h.ev x;rw[g7]at E;generalize he:a.eval x=ux at E
     cases E with
     |agg _ us hr=>
      unfold Zyj at K;split at K
      .rename_i l' e0;obtain⟨u,hu,hp⟩:=Zpa a2 hr e0 K;exact mk (s:=Instr.field t (.agg us.toArray) f) (by simp only[execOp,B,he]) ⟨u,hu,λC _=>by
        simp only[Instr.field,uC,Zg hl,uA,e6,asAgg,uD,hp]⟩
      .cases K
    .cases A
   .cases A
  .cases A
 |index t x ix=>
  simp only[opQ,B]at A;have E:=h.ev x;have b3:=h.ev ix;split at A
  .rename_i l k i Z G d8;obtain⟨ti,a1,a3⟩:=XG Z;obtain⟨h4,d,z,O⟩:=hY.ty t ti a1;have D:=O.kd;rw[a3]at D;cases D;rw[G]at E;rw[d8]at b3;generalize he:a.eval x=ux at E;generalize d5:a.eval ix=ui at b3;cases E;cases b3;split at A
   .rename_i h0;simp only[uG]at A;obtain⟨_,⟨c,hc,rfl⟩,rfl⟩:=A;refine mk (s:=Instr.index t (.string ⟨l.toArray⟩) (.int k i)) (by simp only[execOp,B,he,d5]) ⟨_, .i _ _,λC _=> ?_⟩;have hg:(⟨l.toArray⟩:ByteArray)[i.toNat]? =some c:=by
     rw[List.getElem?_eq_some_iff]at hc;obtain⟨g9,hc⟩:=hc;rw[getElem?_pos _ _ (by exact g9)];simp[<-hc]
     rfl
    simp only[Instr.index,asIntOf,uC,uD,Zg O.und,uA,h0,vG,hg]
   .cases A
  .rename_i n et cs k i Z G d8;obtain⟨ti,a1,a3⟩:=XG Z;obtain⟨h4,d,z,O⟩:=hY.ty t ti a1;have D:=O.kd;rw[a3]at D;obtain⟨rfl,_⟩:=D;rw[G]at E;rw[d8]at b3;generalize he:a.eval x=ux at E;generalize d5:a.eval ix=ui at b3;cases b3
   cases E with
   |agg _ us hr=>
    split at A
    .rename_i g3;split at A
     .rename_i tf a4;obtain⟨fi,fd,fz,a2⟩:=hY.ty et tf a4;simp only[uG]at A;obtain⟨v,K,rfl⟩:=A;unfold Zyj at K;split at K
      .rename_i l' e0;obtain⟨u,hu,hp⟩:=Zpa a2 hr e0 K;exact mk (s:=Instr.index t (.agg us.toArray) (.int k i)) (by simp only[execOp,B,he,d5]) ⟨u,hu,λC _=>by
        simp only[Instr.index,asIntOf,uC,uD,Zg O.und,uA,Sem.run_ite];rw[uF g3];simp only[ZV a2.info,uA,a2.size,hp]⟩
      .cases K
     .cases A
    .cases A
  .cases A
 |extract t ix=>
  simp only[opQ,B]at A;split at A
  .rename_i vs f5;simp only[uG]at A;obtain⟨v,K,rfl⟩:=A;have O:=h.ev t;rw[f5]at O;generalize he:a.eval t=ut at O
   cases O with
   |tup _ us hr=>
    obtain⟨u,hu,g0⟩:=hr.get K;exact mk (s:=Instr.extract (.tuple us.toArray) ix) (by simp only[execOp,B,he]) ⟨u,g0,λC _=>by simp[Instr.extract,hu]⟩
  .cases A
 |slice t x lo hi mx=>
  simp only[opQ,B,uG]at A;obtain⟨v,K,rfl⟩:=A;obtain⟨u,h1,h2⟩:=Zyk hY K (h.ev x) (h.evo lo) (h.evo hi) (h.evo mx);exact mk (by simp only[execOp,B]) ⟨u,h1,λC _=>h2 C⟩
 |convert a8 b0 x=>
  simp only[opQ,B]at A;have E:=h.ev x;split at A
  .rename_i kd k k' n c4 D G;simp at A;subst A;obtain⟨ts,b4,b2⟩:=XG c4;obtain⟨is,ds,zs,hs⟩:=hY.ty a8 ts b4;obtain⟨td,b7,a7⟩:=XG D;obtain⟨id,dd,zd,X⟩:=hY.ty b0 td b7;have a6:=X.kd;rw[a7]at a6;cases a6;rw[G]at E;generalize he:a.eval x=ux at E;cases E;refine mk (s:=convert a8 b0 (.int k' n)) (by simp only[execOp,B,he]) ⟨_, .i _ _,λC _=> ?_⟩;simp[convert,Zg hs.und,Zg X.und,Conv.intToInt]
  .rename_i l c4 D G;simp at A;subst A;obtain⟨ts,b4,b2⟩:=XG c4;obtain⟨is,ds,zs,hs⟩:=hY.ty a8 ts b4;obtain⟨td,b7,a7⟩:=XG D;obtain⟨id,dd,zd,X⟩:=hY.ty b0 td b7;have a6:=X.kd;have b6:=hs.kd;rw[a7]at a6;rw[b2]at b6;cases a6;cases b6;rw[G]at E;generalize he:a.eval x=ux at E;cases E;refine mk (s:=convert a8 b0 (.string ⟨l.toArray⟩)) (by simp only[execOp,B,he]) ⟨_, .s _,λC _=> ?_⟩;simp[convert,Zg hs.und,Zg X.und]
  .rename_i et c4 D;split at A
   .rename_i g1;simp only[uG]at A;obtain⟨_,⟨l,hl,rfl⟩,rfl⟩:=A;obtain⟨⟨n,cs⟩,f4,hb⟩:=Option.bind_eq_some_iff.1 hl;obtain⟨ts,b4,b2⟩:=XG c4;obtain⟨is,ds,zs,hs⟩:=hY.ty a8 ts b4;obtain⟨td,b7,a7⟩:=XG D;obtain⟨id,dd,zd,X⟩:=hY.ty b0 td b7;obtain⟨te,f8,e4⟩:=XG g1;obtain⟨ie,de,ze,f0⟩:=hY.ty et te f8;have a6:=X.kd;have b6:=hs.kd;have e7:=f0.kd;rw[a7]at a6;rw[b2]at b6;rw[e4]at e7;cases a6;cases b6;cases e7;obtain⟨us,h1,h2,h3⟩:=Vb h f4 E;obtain⟨ns,rfl,rfl⟩:=Zcr h1 hb;have c9: ∀(x:Value) C,(∃y c,x= .slice (some y) n c)\/x= .slice none 0 0->(convert a8 b0 x).run Y.P C=(Conv.bytesToString x).run Y.P C:=by
     intro x C E;rcases E with ⟨y,c,rfl⟩|rfl<;>simp[convert,Zg hs.und,Zg X.und,Zg f0.und]
    refine mk (s:=convert a8 b0 (a.eval x)) (by simp only[execOp,B]) ⟨_, .s _,λC a0=> ?_⟩;rcases h3 with ⟨hu,rfl⟩|⟨y,cap,hu,h7,hc⟩
    .rw[hu,c9 _ _ (.inr rfl)];simp at h2;subst h2
     rfl
    .rw[hu,c9 _ _ (.inl ⟨y,cap,rfl⟩)];have c6:n=(ns.map (Value.int .u8)).length:=by rw[h2];simp
     have e8:(loadCells y n).run Y.P C= .ok (ns.map (Value.int .u8)).toArray C:=by
      rw[c6];exact run_loadCells_list C y _ (hc.same a0)
     rw[run_bytesToString C y n cap ns e8,Zrl];simp
   .cases A
  .cases A
 |call c=>
  obtain⟨c7,F,N⟩:=c
  cases c7 with
  |value f=>simp[opQ,B]at A
  |invoke r m=>simp[opQ,B]at A
  |builtin b=>
   have b1: ∀(b:Builtin) C,(resolve a.eval ⟨.builtin b,F,N⟩ o.type).run Y.P C= .ok {target:= .builtin b N o.type (F.map fun| .const _=>true|_=>false),args:=F.map a.eval} C:=λb C=>rfl
   cases b with
   |len=>
    simp only[opQ,B]at A;split at A
    .rename_i t x d1 d6;have b5:N= #[t]:=by apply Array.ext';simpa using d1
     have c5:F= #[x]:=by apply Array.ext';simpa using d6
     subst b5 c5;have E:=h.ev x;have H: ∀ {v:V} {u:Value},VR W v u->(∀C,Same w C->(Builtin.len_ #[t] o.type #[a.eval x]).run Y.P C= .ok u C)->
       ∃u,QR W σ a (.val v) u/\ ∀C,Same w C->(execOp a.eval o).run Y.P C= .ok (.value u) C:=by
      intro v u K hr;refine⟨u,K,λC a0=> ?_⟩;have e1:=b1 .len C;have e2:=hr C a0;simp only[execOp,B,uC,e1,uA,invoke,builtin];have e3:(#[x].map a.eval)= #[a.eval x]:=sm;rw[e3];simp only[e2,uA,uD]
     have a5: ∀ {kd},Y.kd t=some kd-> ∃d,Y.P.underlying t=some d/\KdOK Y t kd d:=by
      intro kd Z;obtain⟨ti,a1,a3⟩:=XG Z;obtain⟨i,d,z,O⟩:=hY.ty t ti a1;exact⟨d,O.und,a3▸O.kd⟩
     split at A
     .rename_i l Z G;simp at A;subst A;obtain⟨d,X,D⟩:=a5 Z;cases D;rw[G]at E;generalize a.eval x=ux at E H;cases E;exact H (.i .i64 _) (λC _=>by simp only[Builtin.len_];simp[Zg X,goInt];rfl)
     .rename_i e q n c k Z G;simp at A;subst A;obtain⟨d,X,D⟩:=a5 Z;cases D;rw[G]at E;generalize a.eval x=ux at E H;cases E
      .exact H (.i .i64 _) (λC _=>by simp[Builtin.len_,Zg X,goInt])
      .exact H (.i .i64 _) (λC _=>by simp[Builtin.len_,Zg X,goInt])
     .rename_i e cs n c Z G;simp at A;subst A;obtain⟨d,X,D⟩:=a5 Z;cases D;rw[G]at E;generalize a.eval x=ux at E H;cases E
      .exact H (.i .i64 _) (λC _=>by simp[Builtin.len_,Zg X,goInt])
      .exact H (.i .i64 _) (λC _=>by simp[Builtin.len_,Zg X,goInt])
      .exact H (.i .i64 _) (λC _=>by simp[Builtin.len_,Zg X,goInt])
     .rename_i e1 e2 Z G;simp at A;subst A;obtain⟨d,X,D⟩:=a5 Z;cases D;rw[G]at E;generalize a.eval x=ux at E H;cases E;exact H (.i .i64 _) (λC _=>by simp[Builtin.len_,Zg X,goInt])
     .rename_i e1 e2 r Z G;split at A
      .rename_i es e5;simp at A;subst A;obtain⟨d,X,D⟩:=a5 Z;cases D;rw[G]at E;generalize a.eval x=ux at E H
       cases E with
       |mps _ r' d4 hr=>
        have f3:W.lv r:=(h.heap.lv r).2 (by simp[e5]);obtain⟨m,g4,hb,g8,h6⟩:=h.heap.obj r _ e5;have c6:(es.length:Int)=(m.size:Int):=by have:=g8.length;simp at this;omega
        refine H (.i .i64 _) (λC a0=> ?_);have f2:=hr f3;subst f2;simp[Builtin.len_,Zg X,goInt,ZDi (a0 _ _ hb),c6]
      .cases A
     .rename_i n e Z;simp at A;subst A;obtain⟨d,X,D⟩:=a5 Z;obtain⟨rfl,_⟩:=D;exact H (.i .i64 _) (λC _=>by simp[Builtin.len_,Zg X,goInt])
     .cases A
    .cases A
   |cap=>
    simp only[opQ,B]at A;split at A
    .rename_i t x d1 d6;have b5:N= #[t]:=by apply Array.ext';simpa using d1
     have c5:F= #[x]:=by apply Array.ext';simpa using d6
     subst b5 c5;have E:=h.ev x;have H: ∀ {v:V} {u:Value},VR W v u->(∀C,Same w C->(Builtin.cap_ #[t] o.type #[a.eval x]).run Y.P C= .ok u C)->
       ∃u,QR W σ a (.val v) u/\ ∀C,Same w C->(execOp a.eval o).run Y.P C= .ok (.value u) C:=by
      intro v u K hr;refine⟨u,K,λC a0=> ?_⟩;have e1:=b1 .cap C;have e2:=hr C a0;simp only[execOp,B,uC,e1,uA,invoke,builtin];have e3:(#[x].map a.eval)= #[a.eval x]:=sm;rw[e3];simp only[e2,uA,uD]
     have a5: ∀ {kd},Y.kd t=some kd-> ∃d,Y.P.underlying t=some d/\KdOK Y t kd d:=by
      intro kd Z;obtain⟨ti,a1,a3⟩:=XG Z;obtain⟨i,d,z,O⟩:=hY.ty t ti a1;exact⟨d,O.und,a3▸O.kd⟩
     split at A
     .rename_i e n c k Z G;simp at A;subst A;obtain⟨d,X,D⟩:=a5 Z;cases D;rw[G]at E;generalize a.eval x=ux at E H;cases E;exact H (.i .i64 _) (λC _=>by simp[Builtin.cap_,Zg X,goInt])
     .rename_i e q n c k Z G;simp at A;subst A;obtain⟨d,X,D⟩:=a5 Z;cases D;rw[G]at E;generalize a.eval x=ux at E H
      cases E with
      |sls _ _ _ _ _ a' h5 d4 hl hc ha hn a3=>
       have g5:=hc c rfl;subst g5;exact H (.i .i64 _) (λC _=>by simp[Builtin.cap_,Zg X,goInt])
     .cases A
    .cases A
   |max=>
    simp only[opQ,B,uG]at A;obtain⟨v,K,rfl⟩:=A;have hr:=h.evs F.toList;generalize F.toList.map (ev σ.env)=vs at hr K;unfold Zil at K;split at K
    .rename_i k x r;generalize d3:F.toList.map a.eval=us at hr
     cases hr with
     |cons _ u _ d9 h1 h2=>
      cases h1;obtain⟨u',d2,hf⟩:=Zcs (Y:=Y) (f:=Builtin.max2) (λk x y=>rfl) h2 K;refine⟨u',d2,λC _=> ?_⟩;have e1:=b1 .max C;have e3:(F.map a.eval).toList= .int k x::d9:=by rw[<-d3];simp
      simp only[execOp,B,uC,e1,uA,invoke,builtin,Builtin.max_,e3,hf,uD]
    .cases K
   |min=>
    simp only[opQ,B,uG]at A;obtain⟨v,K,rfl⟩:=A;have hr:=h.evs F.toList;generalize F.toList.map (ev σ.env)=vs at hr K;unfold Zil at K;split at K
    .rename_i k x r;generalize d3:F.toList.map a.eval=us at hr
     cases hr with
     |cons _ u _ d9 h1 h2=>
      cases h1;obtain⟨u',d2,hf⟩:=Zcs (Y:=Y) (f:=Builtin.min2) (λk x y=>rfl) h2 K;refine⟨u',d2,λC _=> ?_⟩;have e1:=b1 .min C;have e3:(F.map a.eval).toList= .int k x::d9:=by rw[<-d3];simp
      simp only[execOp,B,uC,e1,uA,invoke,builtin,Builtin.min_,e3,hf,uD]
    .cases K
   |_=>simp[opQ,B]at A
 |_=>simp[opQ,B]at A
end
theorem Tr.raw_set: ∀(f:Nat) (t:Tr) (n m:Nat) (o:Option YObj),n+1<2 ^ f->(Tr.set f t n o).raw m=if m=n then some o else t.raw m
 |0,t,n,m,o,h=>by simp at h
 |f+1,t,n,m,o,h=>by
  have hp:2 ^ (f+1)=2*2 ^ f:=by rw[Nat.pow_succ];omega
  have c: ∀k,Tr.leaf.raw k=none:=λk=>by cases k<;>rfl
  cases t with
  |leaf=>
   cases n with
   |zero=>
    simp only[Tr.set]
    cases m with
    |zero=>simp[Tr.raw]
    |succ m=>simp[Tr.raw]
   |succ n=>
    simp only[Tr.set];by_cases e:(n+1) % 2=1
    .rw[uF e]
     cases m with
     |zero=>simp[Tr.raw]
     |succ m=>
      simp only[Tr.raw];by_cases d:(m+1) % 2=1
      .rw[uF d,Tr.raw_set f _ _ _ _ om];have:(m+1) / 2=(n+1) / 2↔m+1=n+1:=om;simp[this,c]
      .rw[uE d];have: ¬(m+1=n+1):=om;simp only[this,vF]
    .rw[uE e]
     cases m with
     |zero=>simp[Tr.raw]
     |succ m=>
      simp only[Tr.raw];by_cases d:(m+1) % 2=1
      .rw[uF d];have: ¬(m+1=n+1):=om;simp only[this,vF]
      .rw[uE d,Tr.raw_set f _ _ _ _ om];have:(m+1) / 2-1=(n+1) / 2-1↔m+1=n+1:=om;simp[this,c]
  |node l x r=>
   cases n with
   |zero=>
    simp only[Tr.set]
    cases m with
    |zero=>simp[Tr.raw]
    |succ m=>simp[Tr.raw]
   |succ n=>
    simp only[Tr.set];by_cases e:(n+1) % 2=1
    .rw[uF e]
     cases m with
     |zero=>simp[Tr.raw]
     |succ m=>
      simp only[Tr.raw];by_cases d:(m+1) % 2=1
      .rw[uF d,uF d,Tr.raw_set f _ _ _ _ om];have:(m+1) / 2=(n+1) / 2↔m+1=n+1:=om;simp[this]
      .rw[uE d,uE d];have: ¬(m+1=n+1):=om;simp only[this,vF]
    .rw[uE e]
     cases m with
     |zero=>simp[Tr.raw]
     |succ m=>
      simp only[Tr.raw];by_cases d:(m+1) % 2=1
      .rw[uF d,uF d];have: ¬(m+1=n+1):=om;simp only[this,vF]
      .rw[uE d,uE d,Tr.raw_set f _ _ _ _ om];have:(m+1) / 2-1=(n+1) / 2-1↔m+1=n+1:=om;simp[this]
theorem Zg1(n:Nat):n+1<2 ^ (n+1):=by
 induction n with
 |zero=>decide
 |succ n c=>rw[Nat.pow_succ];omega
theorem Tr.get_set(f:Nat)(t:Tr)(n m:Nat)(o:Option YObj)(h:n+1<2 ^ f):(Tr.set f t n o).get m=if m=n then o else t.get m:=by
 unfold Tr.get;rw[Tr.raw_set f t n m o h];split<;>rfl
@[simp] theorem Heap.get_set (h : Heap) (i j : Nat) (o : Option YObj) : (h.set i o).get j = if j = i then o else h.get j := Tr.get_set _ _ _ _ _ (Zg1 i)
@[simp] theorem Heap.get_push (h : Heap) (o : YObj) (j : Nat) : (h.push o).get j = if j = h.nx then some o else h.get j := Tr.get_set _ _ _ _ _ (Zg1 h.nx)
@[simp] theorem Heap.raw_set (h : Heap) (i j : Nat) (o : Option YObj) : (h.set i o).raw j = if j = i then some o else h.raw j := Tr.raw_set _ _ _ _ _ (Zg1 i)
@[simp] theorem Heap.raw_push (h : Heap) (o : YObj) (j : Nat) : (h.push o).raw j = if j = h.nx then some (some o) else h.raw j := Tr.raw_set _ _ _ _ _ (Zg1 h.nx)
theorem Heap.raw_of{h:Heap}{i:Nat}(c:(h.get i).isSome=true):(h.raw i).isSome=true:=by
 unfold Heap.get Tr.get at c;unfold Heap.raw
 cases hr:h.t.raw i with
 |none=>rw[hr]at c;simp at c
 |some x=>rfl
theorem HRel.ltg{W}{h:Heap}{w}(hr:HRel W h w){i:Nat}(c:(h.get i).isSome=true):i<h.nx:=hr.lt i (Heap.raw_of c)
theorem HRel.known{W:Vw}{h:Heap}{w}(hr:HRel W h w){i:Nat}(c:(h.get i).isSome=true):W.kn i:=hr.lk i ((hr.lv i).2 c)
theorem HRel.new{W:Vw}{h:Heap}{w}(hr:HRel W h w){i:Nat}(d:h.nx<=i): ¬W.kn i:=λc=>by have:=hr.lt i (hr.kn i c);omega
@[simp] theorem Heap.nx_set (h : Heap) (i : Nat) (o : Option YObj) : (h.set i o).nx = h.nx := rfl
@[simp] theorem Heap.nx_push (h : Heap) (o : YObj) : (h.push o).nx = h.nx + 1 := rfl
section
variable {Y:YP} {W W':Vw} {σ:St} {a:Act} {w w':World}
theorem Qs(a:Act)(d:Nat)(u:Value)(t:Nat):(a.put (some d) u).tmps[t]? =if d=t then(if d<a.tmps.size then some u else none)else a.tmps[t]? :=by
 simp only[Act.put,Array.getElem?_setIfInBounds]
theorem Qc(l:List V)(d:Nat)(v)(t:Nat):(l.set d v)[t]? =if d=t then(if d<l.length then some v else none)else l[t]? :=by
 rw[List.getElem?_set]
theorem VR.ne_box{v:V}{u:Value}(h:VR W v u):(∀c,v≠ .lb c)/\v≠ .rf:=by
 cases h<;>exact⟨λ_ h=>(nomatch h),λh=>(nomatch h)⟩
theorem VR.srel{v}{u:Value}(h:VR W v u):SRel W w v u:=by
 cases h<;>(simp only[SRel];constructor<;>assumption)
theorem Jf(a:Act)(d:Option Tmp)(u:Value):(a.put d u).defers=a.defers:=by cases d<;>rfl
theorem Rel.putV(h:Rel W σ a w){v}{u:Value}(n:VR W v u)(d:Option Tmp):Rel W (putV σ d v) (a.put d u) w:=by
 cases d with
 |none=>exact h
 |some d=>
  have l: ∀t b,QJ (Go.Y.putV σ (some d) v) (a.put (some d) u) t b->QJ σ a t b:=by
   rintro t b ⟨⟨r,c⟩,g⟩;simp only[Go.Y.putV,Qc]at c;rw[Qs]at g;split at c
   .split at c
    .simp at c;exact absurd c (n.ne_box.1 r)
    .cases c
   .rename_i k;rw[uE k]at g;exact⟨⟨r,c⟩,g⟩
  refine⟨h.heap,by simp[Act.put,Go.Y.putV,h.size],λt y e=> ?_,λt z b c g=>h.box t z b (l _ _ c) (l _ _ g),λx s o A hr b j=> ?_,h.defers.act (Jf _ _ _)⟩
  .simp only[Go.Y.putV,Qc]at e;rw[Qs];split at e
   .rename_i f;subst f;split at e
    .rename_i m;simp at e;subst e;rw[uF rfl,uF (by rw[h.size];exact m)];exact⟨u,rfl,n.srel⟩
    .cases e
   .rename_i f;rw[uE f];exact h.env t y e
  .simp only[Go.Y.putV,Qc]at hr;rw[Qs];split at hr
   .split at hr
    .simp at hr;exact absurd hr n.ne_box.2
    .cases hr
   .rename_i f;rw[uE f];exact h.refs x s o A hr b (l _ _ j)
theorem Xq{v}{u:Value}(j:VR W v u)(d:Option Tmp){b:Nat}(h:mine W (putV σ d v) (a.put d u) b):mine W σ a b:=by
 rcases h with h|⟨t,⟨f,c⟩,e⟩|h
 .exact .inl h
 .cases d with
  |none=>exact .inr (.inl ⟨t,⟨f,c⟩,e⟩)
  |some d=>
   simp only[Go.Y.putV,Qc]at c;rw[Qs]at e;split at c
   .split at c
    .simp at c;exact absurd c (j.ne_box.1 f)
    .cases c
   .rename_i g;rw[uE g]at e;exact .inr (.inl ⟨t,⟨f,c⟩,e⟩)
 .rw[Jf]at h;exact .inr (.inr h)
theorem Rel.putRef(h:Rel W σ a w){s o b:Nat}(D:QJ σ a s b)(d:Nat):
  Rel W {σ with env:=σ.env.set d .rf,refs:=(d,s,o)::σ.refs.filter λr=>r.1 !=d} (a.put (some d) (.pointer (some ⟨b,o,none⟩))) w:=by
 have l: ∀t m,QJ {σ with env:=σ.env.set d .rf,refs:=(d,s,o)::σ.refs.filter λr=>r.1 !=d} (a.put (some d) (.pointer (some ⟨b,o,none⟩))) t m->QJ σ a t m:=by
  rintro t m ⟨⟨z,f⟩,g⟩;simp only[Qc]at f;rw[Qs]at g;split at f
  .split at f<;>simp at f
  .rename_i c;rw[uE c]at g;exact⟨⟨z,f⟩,g⟩
 refine⟨h.heap,by simp[Act.put,h.size],λt B j=> ?_,λt E m f g=>h.box t E m (l _ _ f) (l _ _ g),λy C A n hr m x=> ?_,h.defers.act (Jf _ _ _)⟩
 .simp only[Qc]at j;rw[Qs];split at j
  .rename_i k;subst k;split at j
   .rename_i u;simp at j;subst j;rw[uF rfl,uF (by rw[h.size];exact u)];exact⟨_,rfl,trivial⟩
   .cases j
  .rename_i k;rw[uE k];exact h.env t B j
 .have v:=l _ _ x;simp only[Qc]at hr;rw[Qs];simp only[List.mem_cons,List.mem_filter]at n;rcases n with n|⟨n,c⟩
  .simp at n;obtain⟨rfl,rfl,rfl⟩:=n;rw[uF rfl];split at hr
   .split at hr
    .rename_i u;rw[uF (by rw[h.size];exact u)];have f:=D.2;have g:=v.2;rw[f]at g;simp at g;rw[g]
    .cases hr
   .rename_i k;exact absurd rfl k
  .simp at c;rw[uE (λe=>c e.symm)];split at hr
   .rename_i k;exact absurd k.symm c
   .exact h.refs y C A n hr m v
theorem Znb{s o:Nat}(d:Nat){c:Nat}(u:Value)
  (h:mine W {σ with env:=σ.env.set d .rf,refs:=(d,s,o)::σ.refs.filter λr=>r.1 !=d} (a.put (some d) u) c):mine W σ a c:=by
 rcases h with h|⟨t,⟨j,e⟩,f⟩|h
 .exact .inl h
 .simp only[Qc]at e;rw[Qs]at f;split at e
  .split at e<;>simp at e
  .rename_i g;rw[uE g]at f;exact .inr (.inl ⟨t,⟨j,e⟩,f⟩)
 .rw[Jf]at h;exact .inr (.inr h)
theorem Rel.call(h:Rel W σ a w){o:Heap}(g:Stp W W.own w W' W'.own w')(z:HRel W' o w'):Rel W' {σ with h:=o} a w' where
 heap:=z
 size:=h.size
 env t v ht:=by
  obtain⟨u,A,x⟩:=h.env t v ht;refine⟨u,A,?_⟩
  cases v with
  |lb B=>
   obtain⟨b,c,e,y,l,hr,j,d⟩:=x;refine⟨b,c,e,y,?_,hr.mono g.le,?_,λm=> ?_⟩
   .rw[g.keep b (Zt l) d];exact l
   .by_cases k:W'.snap b=none
    .exact k
    .rcases g.new b k with f|f|f
     .exact absurd j f
     .exact absurd f d
     .exact absurd (Zt l) (Nat.not_lt.2 f)
   .rcases g.owns b m with f|f
    .exact d f
    .exact absurd (Zt l) (Nat.not_lt.2 f)
  |rf=>trivial
  |_=>exact VR.mono g.le x
 box:=h.box
 refs:=h.refs
 defers:=h.defers.turn λr hr j d=>by
  have n:=Zt hr;refine⟨g.keep r n d,?_,λm=> ?_⟩
  .by_cases k:W'.snap r=none
   .exact k
   .rcases g.new r k with f|f|f
    .exact absurd j f
    .exact absurd f d
    .omega
  .rcases g.owns r m with f|f
   .exact d f
   .omega
theorem Stp.frame(_h:Rel W σ a w){g:Heap}(e:Stp W W.own w W' W'.own w'):Stp W (mine W σ a) w W' (mine W' {σ with h:=g} a) w' where
 le:=e.le
 size:=e.size
 keep b d hn:=e.keep b d (λf=>hn (.inl f))
 owns b d:=by
  rcases d with f|d
  .rcases e.owns _ f with c|c
   .exact .inl (.inl c)
   .exact .inr c
  .exact .inl (.inr d)
 str:=e.str
 new b d:=by
  rcases e.new b d with c|c|c
  .exact .inl c
  .exact .inr (.inl (.inl c))
  .exact .inr (.inr c)
@[simp] theorem Heap.get_tagIf (h : Heap) (i : Nat) (t : Option TypeId) (j : Nat) : (h.tagIf i t).get j = h.get j := by cases t <;> rfl
@[simp] theorem Heap.raw_tagIf (h : Heap) (i : Nat) (t : Option TypeId) (j : Nat) : (h.tagIf i t).raw j = h.raw j := by cases t <;> rfl
@[simp] theorem Heap.nx_tagIf (h : Heap) (i : Nat) (t : Option TypeId) : (h.tagIf i t).nx = h.nx := by cases t <;> rfl
@[simp] theorem Heap.lo_tagIf (h : Heap) (i : Nat) (t : Option TypeId) : (h.tagIf i t).lo = h.lo := by cases t <;> rfl
@[simp] theorem Heap.pushT_none (h : Heap) (o : YObj) : h.pushT none o = h.push o := rfl
@[simp] theorem Heap.get_pushT (h : Heap) (t : Option TypeId) (o : YObj) (j : Nat) : (h.pushT t o).get j = if j = h.nx then some o else h.get j := by unfold Heap.pushT; rw [Heap.get_tagIf, Heap.get_push]
@[simp] theorem Heap.raw_pushT (h : Heap) (t : Option TypeId) (o : YObj) (j : Nat) : (h.pushT t o).raw j = if j = h.nx then some (some o) else h.raw j := by unfold Heap.pushT; rw [Heap.raw_tagIf, Heap.raw_push]
@[simp] theorem Heap.nx_pushT (h : Heap) (t : Option TypeId) (o : YObj) : (h.pushT t o).nx = h.nx + 1 := by unfold Heap.pushT; rw [Heap.nx_tagIf, Heap.nx_push]
theorem HRel.tagIf{h:Heap}(hr:HRel W h w){i:Nat}{t:Option TypeId}(d:W.kn i)(c: ∀x,t=some x->TagR W w (i,x)):HRel W (h.tagIf i t) w:=by
 cases t with
 |none=>exact hr
 |some x=>
  exact⟨hr.kn,hr.lk,hr.lv,hr.lt,hr.snap,hr.obj,hr.inj,hr.apart,λp hp=>by
   rcases List.mem_cons.1 hp with rfl|hp
   .exact⟨d,c x rfl⟩
   .exact hr.tg p hp,hr.gl⟩
theorem We: ∀ {l:List (Nat×TypeId)} {i:Nat} {t:TypeId},Ztc l i=some t->(i,t)∈l
 |p::l,i,t,h=>by
  simp only[Ztc]at h;split at h
  .rename_i hp;simp at h;subst hp h;simp
  .exact uv _ (We h)
def Vw.push(W:Vw)(i blk sz:Nat):Vw where
 mu id:=if id=i then(blk,0)else W.mu id
 sz id:=if id=i then sz else W.sz id
 snap:=W.snap
 lv id:=W.lv id\/id=i
 kn id:=W.kn id\/id=i
theorem Vw.push_le(W:Vw){i:Nat}(c: ¬W.kn i)(blk sz:Nat):Le W (W.push i blk sz) where
 kn id h:= .inl h
 mu id h:=by have:id≠i:=λe=>c (e▸h);simp[Vw.push,this]
 sz id h:=by have:id≠i:=λe=>c (e▸h);simp[Vw.push,this]
 snap b o h:=h
 lv id h hl:=hl.resolve_right λe=>c (e▸h)
theorem HRel.pushAt{h z:Heap}(hr:HRel W h w){i:Nat}(x: ¬W.kn i){o:YObj}{ob:Obj}{sz:Nat}(C:Str w w')(D:Same w w')(Z:w'.heap.size=w.heap.size+1)(_hn:w'.heap[w.heap.size]? =some ob)
  (H: ∀j,z.raw j=if j=i then some (some o)else h.raw j) (hnx:h.nx<=z.nx/\i<z.nx) (F:z.tg=h.tg)
  (ho:ORel (W.push i w.heap.size sz) w' i o):HRel (W.push i w.heap.size sz) z w'/\Stp W W.own w (W.push i w.heap.size sz) (W.push i w.heap.size sz).own w':=by
 have B: ∀j,z.get j=if j=i then some o else h.get j:=λj=>by
  show(z.raw j).join=_;rw[H];by_cases e:j=i
  .rw[uF e,uF e];rfl
  .rw[uE e,uE e];rfl
 have y: ∀d,W.lv d->(W.mu d).1<w.heap.size:=by
  intro d n;obtain⟨ob,G⟩:=Option.isSome_iff_exists.1 ((hr.lv d).1 n);have:=hr.obj d ob G
  cases ob with
  |arr cs wr=>obtain⟨c,e,fr,t,_⟩:=this;exact Zt t
  |map es=>obtain⟨m,k,t,_⟩:=this;exact Zt t
  |siter l p=>exact Zt this
  |loop L=>obtain⟨fn,us,df,t,_⟩:=this;exact Zt t
 refine⟨⟨λd hk=> ?_,λd n=>n.imp_left (hr.lk d),λd=> ?_,λd x=> ?_,λb o v=>D _ _ (hr.snap b o v),λd O f=> ?_,λd A t N u=> ?_,λd n=> ?_,λp hp=> ?_,hr.gl.mono (W.push_le x _ _).snap⟩,?_⟩
 .rw[H];by_cases e:d=i
  .rw[uF e];rfl
  .rw[uE e];exact hr.kn d (hk.resolve_right e)
 .simp only[Vw.push,B];by_cases r:d=i
  .simp[r]
  .simp[r,hr.lv d]
 .rw[H]at x;split at x
  .omega
  .have:=hr.lt d x;omega
 .rw[B]at f;split at f
  .rename_i r;simp at f;subst f r;exact ho
  .exact((hr.obj d O f).mono (W.push_le x _ _) (hr.known (by simp[f]))).same D
 .simp only[Vw.push]at t N u;by_cases g:d=i<;>by_cases E:A=i<;>simp only[g,E,vG,vF]at u
  .rw[g,E]
  .have:=y A (N.resolve_right E);omega
  .have:=y d (t.resolve_right g);omega
  .exact hr.inj d A (t.resolve_right g) (N.resolve_right E) u
 .simp only[Vw.push]at n ⊢;by_cases g:d=i
  .simp only[g,vG]
   cases K:W.snap w.heap.size with
   |none=>rfl
   |some O=>have:=Zt (hr.snap _ _ K);omega
  .simp only[g,vF];exact hr.apart d (n.resolve_right g)
 .rw[F]at hp;obtain⟨P,X⟩:=hr.tg p hp;exact⟨.inl P,(X.mono (W.push_le x _ _) P).same D⟩
 .refine⟨W.push_le x _ _,om,λb v _=> ?_,λb v=> ?_,λb v=> .inl v,C⟩
  .rw[Array.getElem?_eq_getElem v];exact D b _ (Array.getElem?_eq_getElem v)
  .obtain⟨d,n,u⟩:=v;simp only[Vw.push]at n u;by_cases g:d=i
   .simp only[g,vG]at u;exact .inr om
   .simp only[g,vF]at u;exact .inl ⟨d,n.resolve_right g,u⟩
theorem HRel.push{h}(hr:HRel W h w){o:YObj}{ob:Obj}{sz:Nat}(c:Str w w')(e:Same w w')(d:w'.heap.size=w.heap.size+1)(f:w'.heap[w.heap.size]? =some ob)
  (g:ORel (W.push h.nx w.heap.size sz) w' h.nx o):HRel (W.push h.nx w.heap.size sz) (h.push o) w'/\Stp W W.own w (W.push h.nx w.heap.size sz) (W.push h.nx w.heap.size sz).own w':=
 hr.pushAt (hr.new (Nat.le_refl _)) c e d f (λj=>sm) sm rfl g
theorem HRel.blk{h}(hr:HRel W h w){f:Nat}(j:W.lv f):(W.mu f).1<w.heap.size:=by
 obtain⟨ob,g⟩:=Option.isSome_iff_exists.1 ((hr.lv f).1 j);have:=hr.obj f ob g
 cases ob with
 |arr o wr=>obtain⟨c,e,fr,d,_⟩:=this;exact Zt d
 |map r=>obtain⟨m,k,d,_⟩:=this;exact Zt d
 |siter l p=>exact Zt this
 |loop L=>obtain⟨fn,n,t,d,_⟩:=this;exact Zt d
theorem HRel.others{h:Heap}(hr:HRel W h w){b:Nat}(n: ∀c,c≠b->w'.heap[c]? =w.heap[c]?){j:Nat}{o:YObj}(t:h.get j=some o)(d:(W.mu j).1≠b):ORel W w' j o:=by
 have:=hr.obj j o t
 cases o with
 |arr v wr=>obtain⟨c,e,fr,f,g⟩:=this;exact⟨c,e,fr,by rw[n _ d];exact f,g⟩
 |map x=>obtain⟨m,k,f,g⟩:=this;exact⟨m,k,by rw[n _ d];exact f,g⟩
 |siter l p=>unfold ORel;rw[n _ d];exact this
 |loop L=>obtain⟨fn,r,u,f,g⟩:=this;exact⟨fn,r,u,by rw[n _ d];exact f,g⟩
theorem HRel.write{h}(hr:HRel W h w)(m:Str w w'){d:Nat}(k:W.lv d){o:YObj}(r: ∀c,c≠(W.mu d).1->w'.heap[c]? =w.heap[c]?)(F:w'.heap.size=w.heap.size)
  (x: ∀c e fr,w.heap[(W.mu d).1]? =some (.cells c e fr)->fr.1<=fr.2->fr.2<=c.size-> ∃t f,w'.heap[(W.mu d).1]? =some (.cells t e f)/\f.1<=f.2/\f.2<=t.size)
  (G:ORel W w' d o):HRel W (h.set d (some o)) w'/\Stp W W.own w W W.own w':=by
 have y:d<h.nx:=hr.ltg ((hr.lv d).1 k);refine⟨⟨λj g=> ?_,hr.lk,λj=> ?_,λj g=> ?_,λb B l=> ?_,λj B g=> ?_,hr.inj,hr.apart,λp hp=>⟨(hr.tg p hp).1,λn=> ?_⟩,hr.gl⟩,⟨.refl W,om,λb _ K=> ?_,λb l=> .inl l,λb l=> .inl l,m⟩⟩
 .rw[Heap.raw_set];split
  .rfl
  .exact hr.kn j g
 .rw[Heap.get_set];by_cases e:j=d
  .subst e;simp[k]
  .simp[e,hr.lv j]
 .rw[Heap.raw_set]at g;by_cases e:j=d
  .subst e;exact y
  .simp[e]at g;exact hr.lt j g
 .rw[r b (λe=>by have:=hr.apart d k;rw[<-e,l]at this;cases this)];exact hr.snap b B l
 .rw[Heap.get_set]at g;by_cases e:j=d
  .subst e;simp at g;subst g;exact G
  .simp[e]at g;exact hr.others r g (λv=>e (hr.inj j d ((hr.lv j).2 (by simp[g])) k v))
 .obtain⟨A,c,fr,u,C,z⟩:=(hr.tg p hp).2 n;by_cases e:p.1=d
  .rw[e]at u;obtain⟨t,f,E,D,H⟩:=x c p.2 fr u C z;exact⟨A,t,f,by rw[e];exact E,D,H⟩
  .exact⟨A,c,fr,by rw[r _ (λv=>e (hr.inj p.1 d n k v))];exact u,C,z⟩
 .exact r b (λe=>K ⟨d,k,e.symm⟩)
def Vw.kill(W:Vw)(i:Nat):Vw:= {W with lv:=λc=>W.lv c/\c≠i}
theorem Vw.kill_le(W:Vw)(i:Nat):Le W (W.kill i):=⟨λ_ h=>h,λ_ _=>rfl,λ_ _=>rfl,λ_ _ h=>h,λ_ _ h=>h.1⟩
theorem HRel.kill{h:Heap}(hr:HRel W h w){i:Nat}(n:i<h.nx):HRel (W.kill i) (h.set i none) w/\Stp W W.own w (W.kill i) (W.kill i).own w:=by
 refine⟨⟨λj c=> ?_,λj c=>hr.lk j c.1,λj=> ?_,λj c=> ?_,hr.snap,λj o c=> ?_,λj k d g=>hr.inj j k d.1 g.1,λj c=>hr.apart j c.1,λp hp=>⟨(hr.tg p hp).1,λm=>(hr.tg p hp).2 m.1⟩,hr.gl.mono (W.kill_le i).snap⟩,
  ⟨W.kill_le i,Nat.le_refl _,λb _ _=>rfl,λb f=> ?_,λb f=> .inl f, .refl w⟩⟩
 .rw[Heap.raw_set];split
  .rfl
  .exact hr.kn j c
 .rw[Heap.get_set];by_cases e:j=i
  .subst e;simp[Vw.kill]
  .simp[e,Vw.kill,hr.lv j]
 .rw[Heap.raw_set]at c;by_cases e:j=i
  .subst e;exact n
  .simp[e]at c;exact hr.lt j c
 .rw[Heap.get_set]at c;by_cases e:j=i
  .simp[e]at c
  .simp[e]at c;exact(hr.obj j o c).mono (W.kill_le i) (hr.known (by simp[c]))
 .obtain⟨l,d,g⟩:=f;exact .inl ⟨l,d.1,g⟩
def Vw.go(W:Vw)(n i off:Nat):Vw where
 mu id:=if id=n then((W.mu i).1,(W.mu i).2+off)else W.mu id
 sz id:=if id=n then W.sz i else W.sz id
 snap:=W.snap
 lv id:=(W.lv id/\id≠i)\/id=n
 kn id:=W.kn id\/id=n
theorem Vw.go_le(W:Vw){n:Nat}(c: ¬W.kn n)(i off:Nat):Le W (W.go n i off) where
 kn id h:= .inl h
 mu id h:=by have:id≠n:=λe=>c (e▸h);simp[Vw.go,this]
 sz id h:=by have:id≠n:=λe=>c (e▸h);simp[Vw.go,this]
 snap b o h:=h
 lv id h hl:=(hl.resolve_right λe=>c (e▸h)).1
theorem HRel.go{h}(hr:HRel W h w)(z:Str w w'){i off:Nat}(m:W.lv i){o:YObj}(A: ∀c,c≠(W.mu i).1->w'.heap[c]? =w.heap[c]?)(N:w'.heap.size=w.heap.size)
  (P:ORel (W.go h.nx i off) w' h.nx o):HRel (W.go h.nx i off) ((h.set i none).push o) w'/\Stp W W.own w (W.go h.nx i off) (W.go h.nx i off).own w':=by
 have F:i<h.nx:=hr.ltg ((hr.lv i).1 m);have n:=hr.new (Nat.le_refl h.nx);refine⟨⟨λj d=> ?_,λj d=> ?_,λj=> ?_,λj d=> ?_,λb B v=> ?_,λj B d=> ?_,λj k x t l=> ?_,λj d=> ?_,λp hp=> ?_,hr.gl.mono (W.go_le n i off).snap⟩,
  ⟨W.go_le n i off,om,λb _ X=>A b (λe=>X ⟨i,m,e.symm⟩),λb v=> ?_,λb v=> .inl v,z⟩⟩
 .rw[Heap.raw_push,Heap.raw_set,Heap.nx_set];by_cases e:j=h.nx
  .rw[uF e];rfl
  .rw[uE e];split
   .rfl
   .exact hr.kn j (d.resolve_right e)
 .exact d.imp_left λq=>hr.lk j q.1
 .rw[Heap.get_push,Heap.get_set,Heap.nx_set];simp only[Vw.go];by_cases e:j=h.nx
  .simp[e]
  .by_cases f:j=i
   .simp[f,Nat.ne_of_lt F]
   .simp[e,f,hr.lv j]
 .rw[Heap.raw_push,Heap.raw_set,Heap.nx_set]at d;rw[Heap.nx_push,Heap.nx_set];by_cases e:j=h.nx
  .omega
  .by_cases f:j=i
   .omega
   .simp[e,f]at d;have:=hr.lt j d;omega
 .have u:b≠(W.mu i).1:=λe=>by
   have:=hr.apart i m;have C:W.snap b=some B:=v;rw[<-e,C]at this;cases this
  rw[A b u];exact hr.snap b B v
 .rw[Heap.get_push,Heap.get_set,Heap.nx_set]at d;by_cases e:j=h.nx
  .simp[e]at d;subst d;rw[e];exact P
  .by_cases f:j=i
   .simp[f,Nat.ne_of_lt F]at d
   .simp[e,f]at d;have D:W.lv j:=(hr.lv j).2 (by simp[d]);exact(hr.others A d (λl=>f (hr.inj j i D m l))).mono (W.go_le n i off) (hr.known (by simp[d]))
 .simp only[Vw.go]at x t l;by_cases g:j=h.nx<;>by_cases f:k=h.nx<;>simp only[g,f,vG,vF]at l
  .rw[g,f]
  .have y:=t.resolve_right f;exact absurd (hr.inj k i y.1 m l.symm) y.2
  .have y:=x.resolve_right g;exact absurd (hr.inj j i y.1 m l) y.2
  .exact hr.inj j k (x.resolve_right g).1 (t.resolve_right f).1 l
 .simp only[Vw.go]at d ⊢;by_cases g:j=h.nx
  .simp only[g,vG];exact hr.apart i m
  .simp only[g,vF];exact hr.apart j (d.resolve_right g).1
 .obtain⟨G,K⟩:=hr.tg p hp;refine⟨.inl G,λr=> ?_⟩;have u:p.1≠h.nx:=λe=>n (e▸G);simp only[Vw.go,u,vF,or_false]at r ⊢;obtain⟨L,c,fr,H,O⟩:=K r.1;exact⟨L,c,fr,by rw[A _ (λl=>r.2 (hr.inj p.1 i r.1 m l))];exact H,O⟩
 .obtain⟨E,x,t⟩:=v;simp only[Vw.go]at x t;by_cases g:E=h.nx
  .simp only[g,vG]at t;exact .inl ⟨i,m,t⟩
  .simp only[g,vF]at t;exact .inl ⟨E,(x.resolve_right g).1,t⟩
end
end Go.Y
