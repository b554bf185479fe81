/- A part of the proof. -/
import Derived.Test.YteennilbmmlikaaGreatDoorYQuiet3
import Derived.Laws.BytesString
namespace Go.Y
set_option maxRecDepth 1000000
set_option maxHeartbeats 0
section
variable {Y:YP} {W:Vw} {σ:St} {a:Act} {w:World}
theorem ZEl{o:Oper}{b:Operand->Value}{s:Sem Value}{P:Program}{u}{w:World}(c:execOp b o=(do pure (.value (<-s))))(h:s.run P w= .ok u w):
  (execOp b o).run P w= .ok (.value u) w:=by
 rw[c];show(s>>=λx=>pure (Next.value x)).run P w=_;rw[uC,h]
 rfl
theorem Zcz: ∀ {c:List V} {e:List Value} {l:List UInt8},VRs W c e->Qz c=some l-> ∃b:List Int,e=b.map (Value.int .u8)/\l=b.map λn=>UInt8.ofNat n.toNat
 |_,_,l, .nil,h=>by simp[Qz]at h;subst h;exact⟨[],rfl,rfl⟩
 |_,_,l, .cons v u c e m j,h=>by
  cases v with
  |i k n=>
   cases k with
   |u8=>
    simp only[Qz,uG]at h;obtain⟨o,d,rfl⟩:=h;cases m;obtain⟨b,f,g⟩:=Zcz j d;exact⟨n::b,by simp[f],by simp[g]⟩
   |_=>simp[Qz]at h
  |_=>simp[Qz]at h
theorem Zc0{e:Int->Int->Int}{f:Value->Value->Sem Value}(d: ∀k x y,f (.int k x) (.int k y)=pure (.int k (e x y))):
  ∀ {c:List V} {b:List Value} {k:IntKind} {m:Int} {r:V},VRs W c b->Zbk e k m c=some r-> ∃u,VR W r u/\ ∀w,(b.foldlM f (.int k m):Sem Value).run Y.P w= .ok u w
 |_,_,k,m,r, .nil,h=>by simp[Zbk]at h;subst h;exact⟨_, .i _ _,λw=>rfl⟩
 |_,_,k,m,r, .cons v u c b o n,h=>by
  cases v<;>simp only[Zbk,reduceCtorEq]at h
  split at h;rename_i l;subst l;cases o;obtain⟨p,g,j⟩:=Zc0 d n h;exact⟨p,g,λw=>by simp only[List.foldlM_cons,d,uC,uD,uA,j]⟩;cases h
theorem Rel.evs(h:Rel W σ a w): ∀(b:List Operand),VRs W (b.map (Go.Y.ev σ.env)) (b.map a.eval)
 | []=> .nil
 |x::b=> .cons _ _ _ _ (h.ev x) (h.evs b)
theorem Rel.evo(h:Rel W σ a w)(x:Option Operand):OR W (x.map (Go.Y.ev σ.env)) (x.map a.eval):=by
 cases x with
 |none=>trivial
 |some x=>exact h.ev x
theorem Vf(h:Rel W σ a w){k n:Nat}{v:V}{l:List V}(c:XS σ k v=some (n,l)){u}(t:VR W v u):
  ∃e,VRs W l e/\e.length=n*k/\((u= .slice none 0 0/\n=0)\/ ∃y cap,u= .slice (some y) n cap/\n<=cap/\CellsW w y e):=by
 unfold XS at c;split at c;split at c;rename_i H;subst H;simp at c;obtain⟨rfl,rfl⟩:=c;cases t;exact⟨[], .nil,sm, .inl ⟨rfl,rfl⟩⟩;cases c
 .rename_i id o g cap k';split at c
  .rename_i G;subst G;simp only[uG]at c;obtain⟨C,f,c⟩:=c;simp at c;obtain⟨rfl,rfl⟩:=c
   cases t with
   |sls _ _ _ _ _ y b A d E P H G=>
    by_cases hz:g*k'=0
    .have r:C= []:=by
      rw[hz]at f;simp only[Xt]at f;split at f;simpa[Zs]using f.symm;cases f
     subst r;exact⟨[], .nil,by simp[hz], .inr ⟨y,b,rfl,d,λj u X=>by simp at X⟩⟩
    .have s:0<b:=by
      rcases Nat.eq_zero_or_pos g with D|D;simp[D]at hz;omega
     obtain⟨e,m,p,q⟩:=VH (W:=W) (σ:=σ) (a:=a) (w:=w) h (ad:= .hp id o) (y:=y) ⟨A,λt=>P t s⟩ f;exact⟨e,m,p, .inr ⟨y,b,rfl,d,q⟩⟩
  .cases c
 .rename_i L g cap;simp only[uG]at c;obtain⟨C,f,c⟩:=c;simp at c;obtain⟨rfl,rfl⟩:=c
  cases t with
  |tsz _ E=>
   have B:C= []:=by simpa[Zs]using f.symm
   subst B;exact⟨[], .nil,sm, .inl ⟨rfl,rfl⟩⟩
  |tsn _ _ y b d E=>
   obtain⟨e,m,p,q⟩:=VH (W:=W) (σ:=σ) (a:=a) (w:=w) h (ad:= .ro []) (y:=y) (.inl rfl) f;exact⟨e,m,p, .inr ⟨y,b,rfl,d,q⟩⟩
  |ts _ _ _ b i x K N O e d F hs z Z=>
   obtain⟨e,m,p,q⟩:=VH (W:=W) (σ:=σ) (a:=a) (w:=w) h (ad:= .ro L) (y:=⟨i,x,none⟩) (.inr ⟨i,x,K,N,O,e,rfl,hs,z,Z⟩) f;exact⟨e,m,p, .inr ⟨_,b,rfl,d,q⟩⟩
 .cases c
theorem Zsk(b:List Int): ∀s:ByteArray,b.foldl (λr n=>r.push (UInt8.ofNat n.toNat)) s=⟨(s.data.toList++b.map λn=>UInt8.ofNat n.toNat).toArray⟩:=by
 induction b with
 |nil=>intro s;simp
 |cons n b c=>
  intro s;simp only[uR,c];apply ByteArray.ext;simp[ByteArray.push]
theorem ZEm{r:Nat}{m:Array MapEntry}{b:Nat}(h:w.heap[r]? =some (.map m b)):(getObj r).run Y.P w= .ok (.map m b) w:=by simp[getObj,Sem.run,h]
theorem Zpv{e}{t}{i:TypeInfo}{d:TypeDesc}{z}(r:TIOK Y t e i d z){m l:List V}{k:List Value}(q:VRs W m k){c:Nat}
  (p:Zs e.size (m.drop c)=some l) {v:V} (s:Jh e.kd.agg l=some v): ∃u,VR W v u/\ ∀w,(part t k.toArray c).run Y.P w= .ok u w:=by
 obtain⟨y,u,n,o,f⟩:=Ve r q p;obtain⟨x,h,b⟩:=Zg8 n s;have j:u=x:=by
  cases g:e.kd.agg<;>simp only[g,uI,vF,vG]at f b
  .rw[f]at b;simpa using b
  .rw[f,b]
 subst j;exact⟨u,h,o⟩
set_option maxHeartbeats 1000000 in
theorem ZIz(hY:YOK Y)(h:Rel W σ a w){o:Oper}{q:Q}(A:opQ Y σ o=some q):
  ∃u,QR W σ a q u/\ ∀C,Same w C->(execOp a.eval o).run Y.P C= .ok (.value u) C:=by
 have mk: ∀ {s:Sem Value} {v:V},execOp a.eval o=(do pure (.value (<-s)))->(∃u,VR W v u/\ ∀C,Same w C->s.run Y.P C= .ok u C)->
   ∃u,QR W σ a (.val v) u/\ ∀C,Same w C->(execOp a.eval o).run Y.P C= .ok (.value u) C:=by
  rintro s v he ⟨u,h1,h2⟩;exact⟨u,h1,λC a1=>ZEl he (h2 C a1)⟩
 cases B:o.op with
 |move x=>simp only[opQ,B,uB]at A;subst A;exact⟨_,h.ev x,λC _=>by simp[execOp,B]⟩
 |assign x=>simp only[opQ,B,uB]at A;subst A;exact⟨_,h.ev x,λC _=>by simp[execOp,B]⟩
 |pick c x y=>
  simp only[opQ,B]at A;split at A;rename_i b hb;simp at A;subst A;have hc:=h.ev c;rw[hb]at hc;generalize he:a.eval c=uc at hc;cases hc;refine⟨if b then a.eval x else a.eval y,?_,λC _=>by simp[execOp,B,he,asBool]⟩;cases b;exact h.ev y;exact h.ev x;cases A
 |nilCheck x=>
  simp only[opQ,B]at A;have E:=h.ev x;split at A
  .rename_i p hp;simp at A;subst A;rw[hp]at E;generalize he:a.eval x=ux at E
   cases E with
   |ps id c3 y d0 ha=>exact⟨_, .ps id c3 y d0 ha,λC _=>by simp[execOp,B,he]⟩
  .rename_i cs hp;simp at A;subst A;rw[hp]at E;generalize he:a.eval x=ux at E
   cases E with
   |tpn y=>exact⟨_, .tpn y,λC _=>by simp[execOp,B,he]⟩
   |tp _ e9 c3 c e fr us hs hc hr=>exact⟨_, .tp cs e9 c3 c e fr us hs hc hr,λC _=>by simp[execOp,B,he]⟩
  .rename_i f fa fc hp;simp at A;subst A;rw[hp]at E;generalize he:a.eval x=ux at E
   cases E with
   |fn _ _ _ ua uc ha hc=>exact⟨_, .fn _ _ _ ua uc ha hc,λC _=>by simp[execOp,B,he]⟩
  .split at A;rename_i s c3 a9;simp at A;subst A;obtain⟨y,hy,b,hb,rfl⟩:=Zcy h a9;exact⟨_,⟨b,hb,rfl⟩,λC _=>by simp[execOp,B,hy]⟩;cases A
  .cases A
 |binOp op t x y yt=>
  simp only[opQ,B,uG]at A;obtain⟨v,K,rfl⟩:=A;obtain⟨u,h1,h2⟩:=ZEk hY K (h.ev x) (h.ev y);exact mk (by simp only[execOp,B]) ⟨u,h1,λC _=>h2 C⟩
 |unOp op t x=>
  simp only[opQ,B,uG]at A;obtain⟨v,K,rfl⟩:=A;obtain⟨u,h1,h2⟩:=ZIy (Y:=Y) K (h.ev x);exact mk (by simp only[execOp,B]) ⟨u,h1,λC _=>h2 C⟩
 |makeFunc f fa fc=>
  simp only[opQ,B,uB]at A;subst A;refine⟨.func f (fa.map a.eval) (fc.map a.eval),?_,λC _=>by simp[execOp,B,Instr.makeFunc]⟩;have:=VR.fn (W:=W) f _ _ _ _ (h.evs fa.toList) (h.evs fc.toList);have e1:(fa.toList.map a.eval).toArray=fa.map a.eval:=by apply Array.ext';simp
  have e2:(fc.toList.map a.eval).toArray=fc.map a.eval:=by apply Array.ext';simp
  rw[e1,e2]at this;exact this
 |makeInterface t x=>
  simp only[opQ,B]at A;split at A;cases A
  .rename_i kd g1 Z;simp at A;subst A;obtain⟨ti,a0,a3⟩:=XH Z;obtain⟨i,d,z,O⟩:=hY.ty t ti a0;refine mk (v:= .ifc t (ev σ.env x)) (s:=Instr.makeInterface t (a.eval x)) (by simp only[execOp,B]) ⟨.iface t (a.eval x), .ifc t _ _ (h.ev x),λC _=> ?_⟩;have D:=O.kd;have g0: ∀ms,d≠ .interface ms:=by
    intro ms X;subst X;rw[a3]at D;cases kd<;>simp[KdOK]at D
    exact g1 rfl
   simp only[Instr.makeInterface,uC,Zg O.und,uA];cases d<;>first|rfl|exact absurd rfl (g0 _)
  .cases A
 |build t L=>
  simp only[opQ,B]at A;split at A
  .rename_i ti a0;obtain⟨i,d,z,O⟩:=hY.ty t ti a0;split at A
   .rename_i fs Z;have D:=O.kd;rw[Z]at D;obtain⟨l,rfl,b6,_⟩:=D;split at A
    .rename_i c6;simp only[uG]at A;obtain⟨_,⟨r,hr,rfl⟩,rfl⟩:=A;obtain⟨us,h1,h2⟩:=Zi2 h L.toList _ _ _ (O.zr W) hr;refine mk (s:=Instr.build t (L.map λp=>(p.1,a.eval p.2))) (by simp only[execOp,B]) ⟨_, .agg _ _ h1,λC _=> ?_⟩;have b9: ∀w,(l.mapM (λf:Field=>do pure (f.offset,<-sizeOf f.type):Field->Sem (Nat×Nat))).run Y.P w= .ok (l.map λf=>(f.offset,((Y.ty f.type).map (·.size)).getD 0)) w:=by
      intro w;rw[Array.mapM_eq_mapM_toList];have g8: ∀(fl:List Field),(∀f∈fl,(Y.ty f.type).isSome=true)->
        (fl.mapM (λf:Field=>do pure (f.offset,<-sizeOf f.type):Field->Sem (Nat×Nat))).run Y.P w= .ok (fl.map λf=>(f.offset,((Y.ty f.type).map (·.size)).getD 0)) w:=by
       intro fl
       induction fl with
       |nil=>intro _;simp
       |cons f fl ih=>
        intro hf;obtain⟨tf,a4⟩:=Option.isSome_iff_exists.1 (hf f sm);obtain⟨fi,fd,fz,a2⟩:=hY.ty _ tf a4;simp only[List.mapM_cons,uC,ZS a2.info,uD,uA,ih (λg hg=>hf g (by simp[hg])),List.map_cons,a4,uw,uq,a2.size]
      have:=g8 l.toList (λf hf=>by
       have:=uP.1 c6 (f.offset,f.type) (by rw[b6];exact uW.2 ⟨f,hf,rfl⟩);exact this)
      rw[Sem.run_map,this];simp only[uA]
      congr 1
      apply Array.ext';simp
     have hz:=O.zero;simp only[Instr.build,uC,Qp O.info O.zero,Zg O.und,uA,b9];have g2: ∀j,(l.map λf=>(f.offset,((Y.ty f.type).map (·.size)).getD 0))[j]? =Zkq Y fs j:=by
      intro j;rw[b6];unfold Zkq;rw[vH,Array.getElem?_map,Array.getElem?_toList]
      cases hj:l[j]? with
      |none=>rfl
      |some f=>
       have hf:=uP.1 c6 (f.offset,f.type) (by rw[b6];exact uW.2 ⟨f,su (Array.mem_of_getElem? hj),rfl⟩);obtain⟨tf,a4⟩:=Option.isSome_iff_exists.1 hf;simp[a4]
     have e6:(λx=>(l.map λf=>(f.offset,((Y.ty f.type).map (·.size)).getD 0))[x]?)=Zkq Y fs:=funext g2;have d6:z.cells=z.cells.toList.toArray:=sm;rw[e6,d6];have d3:(L.map λp=>(p.1,a.eval p.2)).toList=L.toList.map λp=>(p.1,a.eval p.2):=sm;rw[d3,h2]
     rfl
    .cases A
   .rename_i n et Z;have D:=O.kd;rw[Z]at D;obtain⟨rfl,_⟩:=D;split at A
    .rename_i tf a4;obtain⟨fi,fd,fz,a2⟩:=hY.ty et tf a4;simp only[uG]at A;obtain⟨_,⟨r,hr,rfl⟩,rfl⟩:=A;obtain⟨us,h1,h2⟩:=Zi2 h L.toList _ _ _ (O.zr W) hr;refine mk (s:=Instr.build t (L.map λp=>(p.1,a.eval p.2))) (by simp only[execOp,B]) ⟨_, .agg _ _ h1,λC _=> ?_⟩;simp only[Instr.build,uC,Qp O.info O.zero,Zg O.und,uA,ZS a2.info,a2.size];have d6:z.cells=z.cells.toList.toArray:=sm;have d3:(L.map λp=>(p.1,a.eval p.2)).toList=L.toList.map λp=>(p.1,a.eval p.2):=sm;rw[d6,d3,h2]
     rfl
    .cases A
   .cases A
  .cases A
 |load t x=>
  simp only[opQ,B]at A;split at A;rename_i ti ad a0 a9;simp only[uG]at A;obtain⟨v,K,rfl⟩:=A;exact mk (by simp only[execOp,B]) (Zun hY h a0 a9 K);cases A
 |fieldAddr t x f=>
  simp only[opQ,B,uG]at A;obtain⟨ad,a9,rfl⟩:=A;obtain⟨y,h1,h2⟩:=Zuo hY h a9;exact⟨_,h1.qr,λC a1=>ZEl (by simp only[execOp,B]) (h2 C a1)⟩
 |indexAddr t x ix=>
  simp only[opQ,B,uG]at A;obtain⟨ad,a9,rfl⟩:=A;obtain⟨y,h1,h2⟩:=Zup hY h a9;exact⟨_,h1.qr,λC a1=>ZEl (by simp only[execOp,B]) (h2 C a1)⟩
 |field t x f=>
  simp only[opQ,B]at A;split at A
  .rename_i fs cs b6 f2;obtain⟨l,hl,rfl⟩:=Ze6 hY b6;split at A
   .rename_i c3 ft hg;split at A
    .rename_i tf a4;simp only[uG]at A;obtain⟨v,K,rfl⟩:=A;obtain⟨fi,fd,fz,a2⟩:=hY.ty ft tf a4;rw[vH,uG]at hg;obtain⟨fl,f4,e4⟩:=hg;simp at e4;obtain⟨rfl,rfl⟩:=e4;have e5:l[f]? =some fl:=su f4;have E:=h.ev x;rw[f2]at E;generalize he:a.eval x=ux at E
     cases E with
     |agg _ us hr=>
      unfold Zzq at K;split at K
      .rename_i l' d2;obtain⟨u,hu,hp⟩:=Zpv a2 hr d2 K;exact mk (s:=Instr.field t (.agg us.toArray) f) (by simp only[execOp,B,he]) ⟨u,hu,λC _=>by
        simp only[Instr.field,uC,Zg hl,uA,e5,asAgg,uD,hp]⟩
      .cases K
    .cases A
   .cases A
  .cases A
 |index t x ix=>
  simp only[opQ,B]at A;have E:=h.ev x;have b3:=h.ev ix;split at A
  .rename_i l k i Z G d1;obtain⟨ti,a0,a3⟩:=XH Z;obtain⟨g7,d,z,O⟩:=hY.ty t ti a0;have D:=O.kd;rw[a3]at D;cases D;rw[G]at E;rw[d1]at b3;generalize he:a.eval x=ux at E;generalize c9:a.eval ix=ui at b3;cases E;cases b3;split at A
   .rename_i h0;simp only[uG]at A;obtain⟨_,⟨c,hc,rfl⟩,rfl⟩:=A;refine mk (s:=Instr.index t (.string ⟨l.toArray⟩) (.int k i)) (by simp only[execOp,B,he,c9]) ⟨_, .i _ _,λC _=> ?_⟩;have hg:(⟨l.toArray⟩:ByteArray)[i.toNat]? =some c:=by
     rw[List.getElem?_eq_some_iff]at hc;obtain⟨f8,hc⟩:=hc;rw[getElem?_pos _ _ (by exact f8)];simp[<-hc]
     rfl
    simp only[Instr.index,asIntOf,uC,uD,Zg O.und,uA,h0,vG,hg]
   .cases A
  .rename_i n et cs k i Z G d1;obtain⟨ti,a0,a3⟩:=XH Z;obtain⟨g7,d,z,O⟩:=hY.ty t ti a0;have D:=O.kd;rw[a3]at D;obtain⟨rfl,_⟩:=D;rw[G]at E;rw[d1]at b3;generalize he:a.eval x=ux at E;generalize c9:a.eval ix=ui at b3;cases b3
   cases E with
   |agg _ us hr=>
    split at A
    .rename_i f5;split at A
     .rename_i tf a4;obtain⟨fi,fd,fz,a2⟩:=hY.ty et tf a4;simp only[uG]at A;obtain⟨v,K,rfl⟩:=A;unfold Zzq at K;split at K
      .rename_i l' d2;obtain⟨u,hu,hp⟩:=Zpv a2 hr d2 K;exact mk (s:=Instr.index t (.agg us.toArray) (.int k i)) (by simp only[execOp,B,he,c9]) ⟨u,hu,λC _=>by
        simp only[Instr.index,asIntOf,uC,uD,Zg O.und,uA,Sem.run_ite];rw[uF f5];simp only[ZS a2.info,uA,a2.size,hp]⟩
      .cases K
     .cases A
    .cases A
  .cases A
 |extract t ix=>
  simp only[opQ,B]at A;split at A
  .rename_i vs g5;simp only[uG]at A;obtain⟨v,K,rfl⟩:=A;have O:=h.ev t;rw[g5]at O;generalize he:a.eval t=ut at O
   cases O with
   |tup _ us hr=>
    obtain⟨u,hu,g6⟩:=hr.get K;exact mk (s:=Instr.extract (.tuple us.toArray) ix) (by simp only[execOp,B,he]) ⟨u,g6,λC _=>by simp[Instr.extract,hu]⟩
  .cases A
 |slice t x lo hi mx=>
  simp only[opQ,B,uG]at A;obtain⟨v,K,rfl⟩:=A;obtain⟨u,h1,h2⟩:=Zzr hY K (h.ev x) (h.evo lo) (h.evo hi) (h.evo mx);exact mk (by simp only[execOp,B]) ⟨u,h1,λC _=>h2 C⟩
 |convert b0 a8 x=>
  simp only[opQ,B]at A;have E:=h.ev x;split at A;rename_i kd k k' n b7 D G;simp at A;subst A;obtain⟨ts,c2,b1⟩:=XH b7;obtain⟨is,ds,zs,hs⟩:=hY.ty b0 ts c2;obtain⟨td,c1,a7⟩:=XH D;obtain⟨id,dd,zd,X⟩:=hY.ty a8 td c1;have a6:=X.kd;rw[a7]at a6;cases a6;rw[G]at E;generalize he:a.eval x=ux at E;cases E;refine mk (s:=convert b0 a8 (.int k' n)) (by simp only[execOp,B,he]) ⟨_, .i _ _,λC _=> ?_⟩;simp[convert,Zg hs.und,Zg X.und,Conv.intToInt];rename_i l b7 D G;simp at A;subst A;obtain⟨ts,c2,b1⟩:=XH b7;obtain⟨is,ds,zs,hs⟩:=hY.ty b0 ts c2;obtain⟨td,c1,a7⟩:=XH D;obtain⟨id,dd,zd,X⟩:=hY.ty a8 td c1;have a6:=X.kd;have c0:=hs.kd;rw[a7]at a6;rw[b1]at c0;cases a6;cases c0;rw[G]at E;generalize he:a.eval x=ux at E;cases E;refine mk (s:=convert b0 a8 (.string ⟨l.toArray⟩)) (by simp only[execOp,B,he]) ⟨_, .s _,λC _=> ?_⟩;simp[convert,Zg hs.und,Zg X.und]
  .rename_i et b7 D;split at A
   .rename_i f7;simp only[uG]at A;obtain⟨_,⟨l,hl,rfl⟩,rfl⟩:=A;obtain⟨⟨n,cs⟩,f3,hb⟩:=Option.bind_eq_some_iff.1 hl;obtain⟨ts,c2,b1⟩:=XH b7;obtain⟨is,ds,zs,hs⟩:=hY.ty b0 ts c2;obtain⟨td,c1,a7⟩:=XH D;obtain⟨id,dd,zd,X⟩:=hY.ty a8 td c1;obtain⟨te,g4,e7⟩:=XH f7;obtain⟨ie,de,ze,d8⟩:=hY.ty et te g4;have a6:=X.kd;have c0:=hs.kd;have d9:=d8.kd;rw[a7]at a6;rw[b1]at c0;rw[e7]at d9;cases a6;cases c0;cases d9;obtain⟨us,h1,h2,h3⟩:=Vf h f3 E;obtain⟨ns,rfl,rfl⟩:=Zcz h1 hb;have c5: ∀(x:Value) C,(∃y c,x= .slice (some y) n c)\/x= .slice none 0 0->(convert b0 a8 x).run Y.P C=(Conv.bytesToString x).run Y.P C:=by
     intro x C E;rcases E with ⟨y,c,rfl⟩|rfl<;>simp[convert,Zg hs.und,Zg X.und,Zg d8.und]
    refine mk (s:=convert b0 a8 (a.eval x)) (by simp only[execOp,B]) ⟨_, .s _,λC a1=> ?_⟩;rcases h3 with ⟨hu,rfl⟩|⟨y,cap,hu,h5,hc⟩
    .rw[hu,c5 _ _ (.inr rfl)];simp at h2;subst h2
     rfl
    .rw[hu,c5 _ _ (.inl ⟨y,cap,rfl⟩)];have b8:n=(ns.map (Value.int .u8)).length:=by rw[h2];simp
     have e8:(loadCells y n).run Y.P C= .ok (ns.map (Value.int .u8)).toArray C:=by
      rw[b8];exact run_loadCells_list C y _ (hc.same a1)
     rw[run_bytesToString C y n cap ns e8,Zsk];simp
   .cases A
  .cases A
 |call c=>
  obtain⟨c4,F,N⟩:=c
  cases c4 with
  |value f=>simp[opQ,B]at A
  |invoke r m=>simp[opQ,B]at A
  |builtin b=>
   have b2: ∀(b:Builtin) C,(resolve a.eval ⟨.builtin b,F,N⟩ o.type).run Y.P C= .ok {target:= .builtin b N o.type (F.map fun| .const _=>true|_=>false),args:=F.map a.eval} C:=λb C=>rfl
   cases b with
   |len=>
    simp only[opQ,B]at A;split at A
    .rename_i t x c8 c7;have b5:N= #[t]:=by apply Array.ext';simpa using c8
     have b4:F= #[x]:=by apply Array.ext';simpa using c7
     subst b5 b4;have E:=h.ev x;have H: ∀ {v:V} {u:Value},VR W v u->(∀C,Same w C->(Builtin.len_ #[t] o.type #[a.eval x]).run Y.P C= .ok u C)->
       ∃u,QR W σ a (.val v) u/\ ∀C,Same w C->(execOp a.eval o).run Y.P C= .ok (.value u) C:=by
      intro v u K hr;refine⟨u,K,λC a1=> ?_⟩;have e1:=b2 .len C;have e2:=hr C a1;simp only[execOp,B,uC,e1,uA,invoke,builtin];have e3:(#[x].map a.eval)= #[a.eval x]:=sm;rw[e3];simp only[e2,uA,uD]
     have a5: ∀ {kd},Y.kd t=some kd-> ∃d,Y.P.underlying t=some d/\KdOK Y t kd d:=by
      intro kd Z;obtain⟨ti,a0,a3⟩:=XH Z;obtain⟨i,d,z,O⟩:=hY.ty t ti a0;exact⟨d,O.und,a3▸O.kd⟩
     split at A;rename_i l Z G;simp at A;subst A;obtain⟨d,X,D⟩:=a5 Z;cases D;rw[G]at E;generalize a.eval x=ux at E H;cases E;exact H (.i .i64 _) (λC _=>by simp only[Builtin.len_];simp[Zg X,goInt];rfl);rename_i e q n c k Z G;simp at A;subst A;obtain⟨d,X,D⟩:=a5 Z;cases D;rw[G]at E;generalize a.eval x=ux at E H;cases E;exact H (.i .i64 _) (λC _=>by simp[Builtin.len_,Zg X,goInt]);exact H (.i .i64 _) (λC _=>by simp[Builtin.len_,Zg X,goInt]);rename_i e cs n c Z G;simp at A;subst A;obtain⟨d,X,D⟩:=a5 Z;cases D;rw[G]at E;generalize a.eval x=ux at E H;cases E;exact H (.i .i64 _) (λC _=>by simp[Builtin.len_,Zg X,goInt]);exact H (.i .i64 _) (λC _=>by simp[Builtin.len_,Zg X,goInt]);exact H (.i .i64 _) (λC _=>by simp[Builtin.len_,Zg X,goInt]);rename_i e1 e2 Z G;simp at A;subst A;obtain⟨d,X,D⟩:=a5 Z;cases D;rw[G]at E;generalize a.eval x=ux at E H;cases E;exact H (.i .i64 _) (λC _=>by simp[Builtin.len_,Zg X,goInt])
     .rename_i e1 e2 r Z G;split at A
      .rename_i es e0;simp at A;subst A;obtain⟨d,X,D⟩:=a5 Z;cases D;rw[G]at E;generalize a.eval x=ux at E H
       cases E with
       |mps _ r' d0 hr=>
        have f9:W.lv r:=(h.heap.lv r).2 (by simp[e0]);obtain⟨m,f0,hb,f6,h4⟩:=h.heap.obj r _ e0;have b8:(es.length:Int)=(m.size:Int):=by have:=f6.length;simp at this;omega
        refine H (.i .i64 _) (λC a1=> ?_);have g3:=hr f9;subst g3;simp[Builtin.len_,Zg X,goInt,ZEm (a1 _ _ hb),b8]
      .cases A
     .rename_i n e Z;simp at A;subst A;obtain⟨d,X,D⟩:=a5 Z;obtain⟨rfl,_⟩:=D;exact H (.i .i64 _) (λC _=>by simp[Builtin.len_,Zg X,goInt])
     .cases A
    .cases A
   |cap=>
    simp only[opQ,B]at A;split at A
    .rename_i t x c8 c7;have b5:N= #[t]:=by apply Array.ext';simpa using c8
     have b4:F= #[x]:=by apply Array.ext';simpa using c7
     subst b5 b4;have E:=h.ev x;have H: ∀ {v:V} {u:Value},VR W v u->(∀C,Same w C->(Builtin.cap_ #[t] o.type #[a.eval x]).run Y.P C= .ok u C)->
       ∃u,QR W σ a (.val v) u/\ ∀C,Same w C->(execOp a.eval o).run Y.P C= .ok (.value u) C:=by
      intro v u K hr;refine⟨u,K,λC a1=> ?_⟩;have e1:=b2 .cap C;have e2:=hr C a1;simp only[execOp,B,uC,e1,uA,invoke,builtin];have e3:(#[x].map a.eval)= #[a.eval x]:=sm;rw[e3];simp only[e2,uA,uD]
     have a5: ∀ {kd},Y.kd t=some kd-> ∃d,Y.P.underlying t=some d/\KdOK Y t kd d:=by
      intro kd Z;obtain⟨ti,a0,a3⟩:=XH Z;obtain⟨i,d,z,O⟩:=hY.ty t ti a0;exact⟨d,O.und,a3▸O.kd⟩
     split at A;rename_i e n c k Z G;simp at A;subst A;obtain⟨d,X,D⟩:=a5 Z;cases D;rw[G]at E;generalize a.eval x=ux at E H;cases E;exact H (.i .i64 _) (λC _=>by simp[Builtin.cap_,Zg X,goInt])
     .rename_i e q n c k Z G;simp at A;subst A;obtain⟨d,X,D⟩:=a5 Z;cases D;rw[G]at E;generalize a.eval x=ux at E H
      cases E with
      |sls _ _ _ _ _ a' g9 d0 hl hc ha hn a3=>
       have f1:=hc c rfl;subst f1;exact H (.i .i64 _) (λC _=>by simp[Builtin.cap_,Zg X,goInt])
     .cases A
    .cases A
   |max=>
    simp only[opQ,B,uG]at A;obtain⟨v,K,rfl⟩:=A;have hr:=h.evs F.toList;generalize F.toList.map (ev σ.env)=vs at hr K;unfold Ziz at K;split at K
    .rename_i k x r;generalize d5:F.toList.map a.eval=us at hr
     cases hr with
     |cons _ u _ d7 h1 h2=>
      cases h1;obtain⟨u',d4,hf⟩:=Zc0 (Y:=Y) (f:=Builtin.max2) (λk x y=>rfl) h2 K;refine⟨u',d4,λC _=> ?_⟩;have e1:=b2 .max C;have e3:(F.map a.eval).toList= .int k x::d7:=by rw[<-d5];simp
      simp only[execOp,B,uC,e1,uA,invoke,builtin,Builtin.max_,e3,hf,uD]
    .cases K
   |min=>
    simp only[opQ,B,uG]at A;obtain⟨v,K,rfl⟩:=A;have hr:=h.evs F.toList;generalize F.toList.map (ev σ.env)=vs at hr K;unfold Ziz at K;split at K
    .rename_i k x r;generalize d5:F.toList.map a.eval=us at hr
     cases hr with
     |cons _ u _ d7 h1 h2=>
      cases h1;obtain⟨u',d4,hf⟩:=Zc0 (Y:=Y) (f:=Builtin.min2) (λk x y=>rfl) h2 K;refine⟨u',d4,λC _=> ?_⟩;have e1:=b2 .min C;have e3:(F.map a.eval).toList= .int k x::d7:=by rw[<-d5];simp
      simp only[execOp,B,uC,e1,uA,invoke,builtin,Builtin.min_,e3,hf,uD]
    .cases K
   |_=>simp[opQ,B]at A
 |_=>simp[opQ,B]at A
end
theorem Tr.raw_set: ∀(f:Nat) (t:Tr) (n m:Nat) (o:Option YObj),n+1<2 ^ f->(Tr.set f t n o).raw m=if m=n then some o else t.raw m
 |0,t,n,m,o,h=>by simp at h
 |f+1,t,n,m,o,h=>by
  have e:2 ^ (f+1)=2*2 ^ f:=by rw[Nat.pow_succ];omega
  have b: ∀k,Tr.leaf.raw k=none:=λk=>by cases k<;>rfl
  cases t with
  |leaf=>
   cases n with
   |zero=>
    simp only[Tr.set]
    cases m with
    |zero=>simp[Tr.raw]
    |succ m=>simp[Tr.raw]
   |succ n=>
    simp only[Tr.set];by_cases d:(n+1) % 2=1
    .rw[uF d]
     cases m with
     |zero=>simp[Tr.raw]
     |succ m=>
      simp only[Tr.raw];by_cases c:(m+1) % 2=1;rw[uF c,Tr.raw_set f _ _ _ _ om];have:(m+1) / 2=(n+1) / 2↔m+1=n+1:=om;simp[this,b];rw[uE c];have: ¬(m+1=n+1):=om;simp only[this,vF]
    .rw[uE d]
     cases m with
     |zero=>simp[Tr.raw]
     |succ m=>
      simp only[Tr.raw];by_cases c:(m+1) % 2=1;rw[uF c];have: ¬(m+1=n+1):=om;simp only[this,vF];rw[uE c,Tr.raw_set f _ _ _ _ om];have:(m+1) / 2-1=(n+1) / 2-1↔m+1=n+1:=om;simp[this,b]
  |node l x r=>
   cases n with
   |zero=>
    simp only[Tr.set]
    cases m with
    |zero=>simp[Tr.raw]
    |succ m=>simp[Tr.raw]
   |succ n=>
    simp only[Tr.set];by_cases d:(n+1) % 2=1
    .rw[uF d]
     cases m with
     |zero=>simp[Tr.raw]
     |succ m=>
      simp only[Tr.raw];by_cases c:(m+1) % 2=1;rw[uF c,uF c,Tr.raw_set f _ _ _ _ om];have:(m+1) / 2=(n+1) / 2↔m+1=n+1:=om;simp[this];rw[uE c,uE c];have: ¬(m+1=n+1):=om;simp only[this,vF]
    .rw[uE d]
     cases m with
     |zero=>simp[Tr.raw]
     |succ m=>
      simp only[Tr.raw];by_cases c:(m+1) % 2=1;rw[uF c,uF c];have: ¬(m+1=n+1):=om;simp only[this,vF];rw[uE c,uE c,Tr.raw_set f _ _ _ _ om];have:(m+1) / 2-1=(n+1) / 2-1↔m+1=n+1:=om;simp[this]
theorem Zha(n:Nat):n+1<2 ^ (n+1):=by
 induction n with
 |zero=>decide
 |succ n b=>rw[Nat.pow_succ];omega
theorem Tr.get_set(f:Nat)(t:Tr)(n m:Nat)(o:Option YObj)(h:n+1<2 ^ f):(Tr.set f t n o).get m=if m=n then o else t.get m:=by unfold Tr.get;rw[Tr.raw_set f t n m o h];split<;>rfl
@[simp] theorem Heap.get_set (h : Heap) (i j : Nat) (o : Option YObj) : (h.set i o).get j = if j = i then o else h.get j := Tr.get_set _ _ _ _ _ (Zha i)
@[simp] theorem Heap.get_push (h : Heap) (o : YObj) (j : Nat) : (h.push o).get j = if j = h.nx then some o else h.get j := Tr.get_set _ _ _ _ _ (Zha h.nx)
@[simp] theorem Heap.raw_set (h : Heap) (i j : Nat) (o : Option YObj) : (h.set i o).raw j = if j = i then some o else h.raw j := Tr.raw_set _ _ _ _ _ (Zha i)
@[simp] theorem Heap.raw_push (h : Heap) (o : YObj) (j : Nat) : (h.push o).raw j = if j = h.nx then some (some o) else h.raw j := Tr.raw_set _ _ _ _ _ (Zha h.nx)
theorem Heap.raw_of{h:Heap}{i:Nat}(b:(h.get i).isSome=true):(h.raw i).isSome=true:=by
 unfold Heap.get Tr.get at b;unfold Heap.raw
 cases c:h.t.raw i with
 |none=>rw[c]at b;simp at b
 |some x=>rfl
theorem HRel.ltg{W}{h:Heap}{w}(b:HRel W h w){i:Nat}(c:(h.get i).isSome=true):i<h.nx:=b.lt i (Heap.raw_of c)
theorem HRel.known{W:Vw}{h:Heap}{w}(b:HRel W h w){i:Nat}(c:(h.get i).isSome=true):W.kn i:=b.lk i ((b.lv i).2 c)
theorem HRel.new{W:Vw}{h:Heap}{w}(b:HRel W h w){i:Nat}(d:h.nx<=i): ¬W.kn i:=λc=>by have:=b.lt i (b.kn i c);omega
@[simp] theorem Heap.nx_set (h : Heap) (i : Nat) (o : Option YObj) : (h.set i o).nx = h.nx := rfl
@[simp] theorem Heap.nx_push (h : Heap) (o : YObj) : (h.push o).nx = h.nx + 1 := rfl
section
variable {Y:YP} {W W':Vw} {σ:St} {a:Act} {w w':World}
theorem Qr(a:Act)(d:Nat)(u)(t:Nat):(a.put (some d) u).tmps[t]? =if d=t then(if d<a.tmps.size then some u else none)else a.tmps[t]? :=by
 simp only[Act.put,Array.getElem?_setIfInBounds]
theorem Qd(l:List V)(d:Nat)(v)(t:Nat):(l.set d v)[t]? =if d=t then(if d<l.length then some v else none)else l[t]? :=by
 rw[vK]
theorem VR.ne_box{v:V}{u}(h:VR W v u):(∀b,v≠ .lb b)/\v≠ .rf:=by
 cases h<;>exact⟨λ_ h=>(nomatch h),λh=>(nomatch h)⟩
theorem VR.srel{v}{u}(h:VR W v u):SRel W w v u:=by
 cases h<;>(simp only[SRel];constructor<;>assumption)
theorem Je(a:Act)(d:Option Tmp)(u):(a.put d u).defers=a.defers:=by cases d<;>rfl
theorem Rel.putV(h:Rel W σ a w){v}{u}(n:VR W v u)(d:Option Tmp):Rel W (putV σ d v) (a.put d u) w:=by
 cases d with
 |none=>exact h
 |some d=>
  have j: ∀t b,QJ (Go.Y.putV σ (some d) v) (a.put (some d) u) t b->QJ σ a t b:=by
   rintro t b ⟨⟨p,c⟩,g⟩;simp only[Go.Y.putV,Qd]at c;rw[Qr]at g;split at c;split at c;simp at c;exact absurd c (n.ne_box.1 p);cases c;rename_i m;rw[uE m]at g;exact⟨⟨p,c⟩,g⟩
  refine⟨h.heap,by simp[Act.put,Go.Y.putV,h.size],λt y f=> ?_,λt x b c g=>h.box t x b (j _ _ c) (j _ _ g),λq s o r e b k=> ?_,h.defers.act (Je _ _ _)⟩;simp only[Go.Y.putV,Qd]at f;rw[Qr];split at f;rename_i i;subst i;split at f;rename_i l;simp at f;subst f;rw[uF rfl,uF (by rw[h.size];exact l)];exact⟨u,rfl,n.srel⟩;cases f;rename_i i;rw[uE i];exact h.env t y f;simp only[Go.Y.putV,Qd]at e;rw[Qr];split at e;split at e;simp at e;exact absurd e n.ne_box.2;cases e;rename_i i;rw[uE i];exact h.refs q s o r e b (j _ _ k)
theorem Xq{v}{u}(i:VR W v u)(d:Option Tmp){b:Nat}(h:mine W (putV σ d v) (a.put d u) b):mine W σ a b:=by
 rcases h with h|⟨t,⟨f,c⟩,e⟩|h;exact .inl h
 .cases d with
  |none=>exact .inr (.inl ⟨t,⟨f,c⟩,e⟩)
  |some d=>
   simp only[Go.Y.putV,Qd]at c;rw[Qr]at e;split at c;split at c;simp at c;exact absurd c (i.ne_box.1 f);cases c;rename_i g;rw[uE g]at e;exact .inr (.inl ⟨t,⟨f,c⟩,e⟩)
 .rw[Je]at h;exact .inr (.inr h)
theorem Rel.putRef(h:Rel W σ a w){s o b:Nat}(y:QJ σ a s b)(d:Nat):
  Rel W {σ with env:=σ.env.set d .rf,refs:=(d,s,o)::σ.refs.filter λr=>r.1 !=d} (a.put (some d) (.pointer (some ⟨b,o,none⟩))) w:=by
 have j: ∀t i,QJ {σ with env:=σ.env.set d .rf,refs:=(d,s,o)::σ.refs.filter λr=>r.1 !=d} (a.put (some d) (.pointer (some ⟨b,o,none⟩))) t i->QJ σ a t i:=by
  rintro t i ⟨⟨v,f⟩,g⟩;simp only[Qd]at f;rw[Qr]at g;split at f
  .split at f<;>simp at f
  .rename_i c;rw[uE c]at g;exact⟨⟨v,f⟩,g⟩
 refine⟨h.heap,by simp[Act.put,h.size],λt C n=> ?_,λt B i f g=>h.box t B i (j _ _ f) (j _ _ g),λx A z m p i u=> ?_,h.defers.act (Je _ _ _)⟩;simp only[Qd]at n;rw[Qr];split at n;rename_i k;subst k;split at n;rename_i l;simp at n;subst n;rw[uF rfl,uF (by rw[h.size];exact l)];exact⟨_,rfl,trivial⟩;cases n;rename_i k;rw[uE k];exact h.env t C n;have q:=j _ _ u;simp only[Qd]at p;rw[Qr];simp only[List.mem_cons,List.mem_filter]at m;rcases m with m|⟨m,c⟩;simp at m;obtain⟨rfl,rfl,rfl⟩:=m;rw[uF rfl];split at p;split at p;rename_i l;rw[uF (by rw[h.size];exact l)];have f:=y.2;have g:=q.2;rw[f]at g;simp at g;rw[g];cases p;rename_i k;exact absurd rfl k;simp at c;rw[uE (λe=>c e.symm)];split at p;rename_i k;exact absurd k.symm c;exact h.refs x A z m p i q
theorem Zn3{s o:Nat}(d:Nat){c:Nat}(u:Value)
  (h:mine W {σ with env:=σ.env.set d .rf,refs:=(d,s,o)::σ.refs.filter λr=>r.1 !=d} (a.put (some d) u) c):mine W σ a c:=by
 rcases h with h|⟨t,⟨g,b⟩,e⟩|h;exact .inl h
 .simp only[Qd]at b;rw[Qr]at e;split at b
  .split at b<;>simp at b
  .rename_i f;rw[uE f]at e;exact .inr (.inl ⟨t,⟨g,b⟩,e⟩)
 .rw[Je]at h;exact .inr (.inr h)
theorem Rel.call(h:Rel W σ a w){o:Heap}(g:Stp W W.own w W' W'.own w')(s:HRel W' o w'):Rel W' {σ with h:=o} a w' where
 heap:=s
 size:=h.size
 env t v ht:=by
  obtain⟨u,q,p⟩:=h.env t v ht;refine⟨u,q,?_⟩
  cases v with
  |lb y=>
   obtain⟨b,c,e,x,k,n,i,d⟩:=p;refine⟨b,c,e,x,?_,n.mono g.le,?_,λm=> ?_⟩;rw[g.keep b (Zt k) d];exact k;by_cases j:W'.snap b=none;exact j;rcases g.new b j with f|f|f;exact absurd i f;exact absurd f d;exact absurd (Zt k) (Nat.not_lt.2 f);rcases g.owns b m with f|f;exact d f;exact absurd (Zt k) (Nat.not_lt.2 f)
  |rf=>trivial
  |_=>exact VR.mono g.le p
 box:=h.box
 refs:=h.refs
 defers:=h.defers.turn λr n i d=>by
  have l:=Zt n;refine⟨g.keep r l d,?_,λm=> ?_⟩;by_cases j:W'.snap r=none;exact j;rcases g.new r j with f|f|f;exact absurd i f;exact absurd f d;omega;rcases g.owns r m with f|f;exact d f;omega
theorem Stp.frame(_h:Rel W σ a w){g:Heap}(e:Stp W W.own w W' W'.own w'):Stp W (mine W σ a) w W' (mine W' {σ with h:=g} a) w' where
 le:=e.le
 size:=e.size
 keep b d hn:=e.keep b d (λf=>hn (.inl f))
 owns b d:=by
  rcases d with f|d;rcases e.owns _ f with c|c;exact .inl (.inl c);exact .inr c;exact .inl (.inr d)
 str:=e.str
 new b d:=by
  rcases e.new b d with c|c|c;exact .inl c;exact .inr (.inl (.inl c));exact .inr (.inr c)
@[simp] theorem Heap.get_tagIf (h : Heap) (i : Nat) (t : Option TypeId) (j : Nat) : (h.tagIf i t).get j = h.get j := by cases t <;> rfl
@[simp] theorem Heap.raw_tagIf (h : Heap) (i : Nat) (t : Option TypeId) (j : Nat) : (h.tagIf i t).raw j = h.raw j := by cases t <;> rfl
@[simp] theorem Heap.nx_tagIf (h : Heap) (i : Nat) (t : Option TypeId) : (h.tagIf i t).nx = h.nx := by cases t <;> rfl
@[simp] theorem Heap.lo_tagIf (h : Heap) (i : Nat) (t : Option TypeId) : (h.tagIf i t).lo = h.lo := by cases t <;> rfl
@[simp] theorem Heap.pushT_none (h : Heap) (o : YObj) : h.pushT none o = h.push o := rfl
@[simp] theorem Heap.get_pushT (h : Heap) (t : Option TypeId) (o : YObj) (j : Nat) : (h.pushT t o).get j = if j = h.nx then some o else h.get j := by unfold Heap.pushT; rw [Heap.get_tagIf, Heap.get_push]
@[simp] theorem Heap.raw_pushT (h : Heap) (t : Option TypeId) (o : YObj) (j : Nat) : (h.pushT t o).raw j = if j = h.nx then some (some o) else h.raw j := by unfold Heap.pushT; rw [Heap.raw_tagIf, Heap.raw_push]
@[simp] theorem Heap.nx_pushT (h : Heap) (t : Option TypeId) (o : YObj) : (h.pushT t o).nx = h.nx + 1 := by unfold Heap.pushT; rw [Heap.nx_tagIf, Heap.nx_push]
theorem HRel.tagIf{h:Heap}(b:HRel W h w){i:Nat}{t:Option TypeId}(c:W.kn i)(d: ∀x,t=some x->TagR W w (i,x)):HRel W (h.tagIf i t) w:=by
 cases t with
 |none=>exact b
 |some x=>
  exact⟨b.kn,b.lk,b.lv,b.lt,b.snap,b.obj,b.inj,b.apart,λp hp=>by
   rcases List.mem_cons.1 hp with rfl|hp;exact⟨c,d x rfl⟩
   .exact b.tg p hp,b.gl⟩
theorem Wf: ∀ {l:List (Nat×TypeId)} {i:Nat} {t:TypeId},Zub l i=some t->(i,t)∈l
 |p::l,i,t,h=>by
  simp only[Zub]at h;split at h;rename_i b;simp at h;subst b h;simp;exact uv _ (Wf h)
def Vw.push(W:Vw)(i b sz:Nat):Vw where
 mu id:=if id=i then(b,0)else W.mu id
 sz id:=if id=i then sz else W.sz id
 snap:=W.snap
 lv id:=W.lv id\/id=i
 kn id:=W.kn id\/id=i
theorem Vw.push_le(W:Vw){i:Nat}(d: ¬W.kn i)(c sz:Nat):Le W (W.push i c sz) where
 kn id h:= .inl h
 mu id h:=by have:id≠i:=λe=>d (e▸h);simp[Vw.push,this]
 sz id h:=by have:id≠i:=λe=>d (e▸h);simp[Vw.push,this]
 snap b o h:=h
 lv id h hl:=hl.resolve_right λe=>d (e▸h)
theorem HRel.pushAt{h y:Heap}(f:HRel W h w){i:Nat}(x: ¬W.kn i){o:YObj}{ob:Obj}{sz:Nat}(B:Str w w')(D:Same w w')(a0:w'.heap.size=w.heap.size+1)(_hn:w'.heap[w.heap.size]? =some ob)
  (F: ∀j,y.raw j=if j=i then some (some o)else h.raw j) (hnx:h.nx<=y.nx/\i<y.nx) (K:y.tg=h.tg)
  (ho:ORel (W.push i w.heap.size sz) w' i o):HRel (W.push i w.heap.size sz) y w'/\Stp W W.own w (W.push i w.heap.size sz) (W.push i w.heap.size sz).own w':=by
 have A: ∀j,y.get j=if j=i then some o else h.get j:=λj=>by
  show(y.raw j).join=_;rw[F];by_cases e:j=i;rw[uF e,uF e];rfl;rw[uE e,uE e];rfl
 have u: ∀d,W.lv d->(W.mu d).1<w.heap.size:=by
  intro d s;obtain⟨ob,G⟩:=Option.isSome_iff_exists.1 ((f.lv d).1 s);have:=f.obj d ob G
  cases ob with
  |arr cs wr=>obtain⟨c,e,fr,q,_⟩:=this;exact Zt q
  |map es=>obtain⟨m,k,q,_⟩:=this;exact Zt q
  |siter l p=>exact Zt this
  |loop L=>obtain⟨fn,us,df,q,_⟩:=this;exact Zt q
 refine⟨⟨λd Z=> ?_,λd s=>s.imp_left (f.lk d),λd=> ?_,λd x=> ?_,λb o t=>D _ _ (f.snap b o t),λd P g=> ?_,λd z q E v=> ?_,λd s=> ?_,λp O=> ?_,f.gl.mono (W.push_le x _ _).snap⟩,?_⟩;rw[F];by_cases e:d=i;rw[uF e];rfl;rw[uE e];exact f.kn d (Z.resolve_right e);simp only[Vw.push,A];by_cases r:d=i;simp[r];simp[r,f.lv d];rw[F]at x;split at x;omega;have:=f.lt d x;omega;rw[A]at g;split at g;rename_i r;simp at g;subst g r;exact ho;exact((f.obj d P g).mono (W.push_le x _ _) (f.known (by simp[g]))).same D
 .simp only[Vw.push]at q E v;by_cases n:d=i<;>by_cases C:z=i<;>simp only[n,C,vG,vF]at v
  .rw[n,C]
  .have:=u z (E.resolve_right C);omega
  .have:=u d (q.resolve_right n);omega
  .exact f.inj d z (q.resolve_right n) (E.resolve_right C) v
 .simp only[Vw.push]at s ⊢;by_cases n:d=i
  .simp only[n,vG]
   cases H:W.snap w.heap.size with
   |none=>rfl
   |some P=>have:=Zt (f.snap _ _ H);omega
  .simp only[n,vF];exact f.apart d (s.resolve_right n)
 .rw[K]at O;obtain⟨N,X⟩:=f.tg p O;exact⟨.inl N,(X.mono (W.push_le x _ _) N).same D⟩
 .refine⟨W.push_le x _ _,om,λb t _=> ?_,λb t=> ?_,λb t=> .inl t,B⟩;rw[Array.getElem?_eq_getElem t];exact D b _ (Array.getElem?_eq_getElem t);obtain⟨d,s,v⟩:=t;simp only[Vw.push]at s v;by_cases n:d=i;simp only[n,vG]at v;exact .inr om;simp only[n,vF]at v;exact .inl ⟨d,s.resolve_right n,v⟩
theorem HRel.push{h}(d:HRel W h w){o:YObj}{ob:Obj}{sz:Nat}(b:Str w w')(g:Same w w')(c:w'.heap.size=w.heap.size+1)(e:w'.heap[w.heap.size]? =some ob)
  (f:ORel (W.push h.nx w.heap.size sz) w' h.nx o):HRel (W.push h.nx w.heap.size sz) (h.push o) w'/\Stp W W.own w (W.push h.nx w.heap.size sz) (W.push h.nx w.heap.size sz).own w':=
 d.pushAt (d.new (Nat.le_refl _)) b g c e (λj=>sm) sm rfl f
theorem HRel.blk{h}(g:HRel W h w){d:Nat}(i:W.lv d):(W.mu d).1<w.heap.size:=by
 obtain⟨ob,f⟩:=Option.isSome_iff_exists.1 ((g.lv d).1 i);have:=g.obj d ob f
 cases ob with
 |arr j wr=>obtain⟨c,e,r,b,_⟩:=this;exact Zt b
 |map o=>obtain⟨m,k,b,_⟩:=this;exact Zt b
 |siter l p=>exact Zt this
 |loop L=>obtain⟨q,s,n,b,_⟩:=this;exact Zt b
theorem HRel.others{h:Heap}(t:HRel W h w){b:Nat}(i: ∀c,c≠b->w'.heap[c]? =w.heap[c]?){j:Nat}{o:YObj}(s:h.get j=some o)(d:(W.mu j).1≠b):ORel W w' j o:=by
 have:=t.obj j o s
 cases o with
 |arr v wr=>obtain⟨c,e,r,f,g⟩:=this;exact⟨c,e,r,by rw[i _ d];exact f,g⟩
 |map x=>obtain⟨m,k,f,g⟩:=this;exact⟨m,k,by rw[i _ d];exact f,g⟩
 |siter l p=>unfold ORel;rw[i _ d];exact this
 |loop L=>obtain⟨q,u,n,f,g⟩:=this;exact⟨q,u,n,by rw[i _ d];exact f,g⟩
theorem HRel.write{h}(d:HRel W h w)(q:Str w w'){f:Nat}(m:W.lv f){o:YObj}(s: ∀c,c≠(W.mu f).1->w'.heap[c]? =w.heap[c]?)(F:w'.heap.size=w.heap.size)
  (x: ∀c e k,w.heap[(W.mu f).1]? =some (.cells c e k)->k.1<=k.2->k.2<=c.size-> ∃r g,w'.heap[(W.mu f).1]? =some (.cells r e g)/\g.1<=g.2/\g.2<=r.size)
  (E:ORel W w' f o):HRel W (h.set f (some o)) w'/\Stp W W.own w W W.own w':=by
 have v:f<h.nx:=d.ltg ((d.lv f).1 m);refine⟨⟨λj i=> ?_,d.lk,λj=> ?_,λj i=> ?_,λb C l=> ?_,λj C i=> ?_,d.inj,d.apart,λp B=>⟨(d.tg p B).1,λn=> ?_⟩,d.gl⟩,⟨.refl W,om,λb _ D=> ?_,λb l=> .inl l,λb l=> .inl l,q⟩⟩;rw[Heap.raw_set];split;rfl;exact d.kn j i;rw[Heap.get_set];by_cases e:j=f;subst e;simp[m];simp[e,d.lv j];rw[Heap.raw_set]at i;by_cases e:j=f;subst e;exact v;simp[e]at i;exact d.lt j i;rw[s b (λe=>by have:=d.apart f m;rw[<-e,l]at this;cases this)];exact d.snap b C l;rw[Heap.get_set]at i;by_cases e:j=f;subst e;simp at i;subst i;exact E;simp[e]at i;exact d.others s i (λu=>e (d.inj j f ((d.lv j).2 (by simp[i])) m u));obtain⟨y,c,k,t,z,A⟩:=(d.tg p B).2 n;by_cases e:p.1=f;rw[e]at t;obtain⟨r,g,G,H,K⟩:=x c p.2 k t z A;exact⟨y,r,g,by rw[e];exact G,H,K⟩;exact⟨y,c,k,by rw[s _ (λu=>e (d.inj p.1 f n m u))];exact t,z,A⟩;exact s b (λe=>D ⟨f,m,e.symm⟩)
def Vw.kill(W:Vw)(i:Nat):Vw:= {W with lv:=λb=>W.lv b/\b≠i}
theorem Vw.kill_le(W:Vw)(i:Nat):Le W (W.kill i):=⟨λ_ h=>h,λ_ _=>rfl,λ_ _=>rfl,λ_ _ h=>h,λ_ _ h=>h.1⟩
theorem HRel.kill{h:Heap}(d:HRel W h w){i:Nat}(n:i<h.nx):HRel (W.kill i) (h.set i none) w/\Stp W W.own w (W.kill i) (W.kill i).own w:=by
 refine⟨⟨λj c=> ?_,λj c=>d.lk j c.1,λj=> ?_,λj c=> ?_,d.snap,λj o c=> ?_,λj k f g=>d.inj j k f.1 g.1,λj c=>d.apart j c.1,λp m=>⟨(d.tg p m).1,λq=>(d.tg p m).2 q.1⟩,d.gl.mono (W.kill_le i).snap⟩,
  ⟨W.kill_le i,Nat.le_refl _,λb _ _=>rfl,λb l=> ?_,λb l=> .inl l, .refl w⟩⟩
 .rw[Heap.raw_set];split;rfl;exact d.kn j c
 .rw[Heap.get_set];by_cases e:j=i;subst e;simp[Vw.kill];simp[e,Vw.kill,d.lv j]
 .rw[Heap.raw_set]at c;by_cases e:j=i;subst e;exact n;simp[e]at c;exact d.lt j c
 .rw[Heap.get_set]at c;by_cases e:j=i;simp[e]at c;simp[e]at c;exact(d.obj j o c).mono (W.kill_le i) (d.known (by simp[c]))
 .obtain⟨r,f,g⟩:=l;exact .inl ⟨r,f.1,g⟩
def Vw.go(W:Vw)(n i off:Nat):Vw where
 mu id:=if id=n then((W.mu i).1,(W.mu i).2+off)else W.mu id
 sz id:=if id=n then W.sz i else W.sz id
 snap:=W.snap
 lv id:=(W.lv id/\id≠i)\/id=n
 kn id:=W.kn id\/id=n
theorem Vw.go_le(W:Vw){n:Nat}(c: ¬W.kn n)(i d:Nat):Le W (W.go n i d) where
 kn id h:= .inl h
 mu id h:=by have:id≠n:=λe=>c (e▸h);simp[Vw.go,this]
 sz id h:=by have:id≠n:=λe=>c (e▸h);simp[Vw.go,this]
 snap b o h:=h
 lv id h hl:=(hl.resolve_right λe=>c (e▸h)).1
theorem HRel.go{h}(d:HRel W h w)(z:Str w w'){i off:Nat}(r:W.lv i){o:YObj}(A: ∀c,c≠(W.mu i).1->w'.heap[c]? =w.heap[c]?)(P:w'.heap.size=w.heap.size)
  (N:ORel (W.go h.nx i off) w' h.nx o):HRel (W.go h.nx i off) ((h.set i none).push o) w'/\Stp W W.own w (W.go h.nx i off) (W.go h.nx i off).own w':=by
 have F:i<h.nx:=d.ltg ((d.lv i).1 r);have t:=d.new (Nat.le_refl h.nx);refine⟨⟨λj f=> ?_,λj f=> ?_,λj=> ?_,λj f=> ?_,λb D x=> ?_,λj D f=> ?_,λj k v m n=> ?_,λj f=> ?_,λp O=> ?_,d.gl.mono (W.go_le t i off).snap⟩,
  ⟨W.go_le t i off,om,λb _ L=>A b (λe=>L ⟨i,r,e.symm⟩),λb x=> ?_,λb x=> .inl x,z⟩⟩
 .rw[Heap.raw_push,Heap.raw_set,Heap.nx_set];by_cases e:j=h.nx;rw[uF e];rfl;rw[uE e];split;rfl;exact d.kn j (f.resolve_right e)
 .exact f.imp_left λq=>d.lk j q.1
 .rw[Heap.get_push,Heap.get_set,Heap.nx_set];simp only[Vw.go];by_cases e:j=h.nx;simp[e];by_cases g:j=i;simp[g,Nat.ne_of_lt F];simp[e,g,d.lv j]
 .rw[Heap.raw_push,Heap.raw_set,Heap.nx_set]at f;rw[Heap.nx_push,Heap.nx_set];by_cases e:j=h.nx;omega;by_cases g:j=i;omega;simp[e,g]at f;have:=d.lt j f;omega
 .have u:b≠(W.mu i).1:=λe=>by
   have:=d.apart i r;have B:W.snap b=some D:=x;rw[<-e,B]at this;cases this
  rw[A b u];exact d.snap b D x
 .rw[Heap.get_push,Heap.get_set,Heap.nx_set]at f;by_cases e:j=h.nx;simp[e]at f;subst f;rw[e];exact N;by_cases g:j=i;simp[g,Nat.ne_of_lt F]at f;simp[e,g]at f;have C:W.lv j:=(d.lv j).2 (by simp[f]);exact(d.others A f (λn=>g (d.inj j i C r n))).mono (W.go_le t i off) (d.known (by simp[f]))
 .simp only[Vw.go]at v m n;by_cases l:j=h.nx<;>by_cases g:k=h.nx<;>simp only[l,g,vG,vF]at n
  .rw[l,g]
  .have y:=m.resolve_right g;exact absurd (d.inj k i y.1 r n.symm) y.2
  .have y:=v.resolve_right l;exact absurd (d.inj j i y.1 r n) y.2
  .exact d.inj j k (v.resolve_right l).1 (m.resolve_right g).1 n
 .simp only[Vw.go]at f ⊢;by_cases l:j=h.nx;simp only[l,vG];exact d.apart i r;simp only[l,vF];exact d.apart j (f.resolve_right l).1
 .obtain⟨E,K⟩:=d.tg p O;refine⟨.inl E,λs=> ?_⟩;have u:p.1≠h.nx:=λe=>t (e▸E);simp only[Vw.go,u,vF,or_false]at s ⊢;obtain⟨X,c,H,Z,q3⟩:=K s.1;exact⟨X,c,H,by rw[A _ (λn=>s.2 (d.inj p.1 i s.1 r n))];exact Z,q3⟩
 .obtain⟨G,v,m⟩:=x;simp only[Vw.go]at v m;by_cases l:G=h.nx;simp only[l,vG]at m;exact .inl ⟨i,r,m⟩;simp only[l,vF]at m;exact .inl ⟨G,(v.resolve_right l).1,m⟩
end
end Go.Y
