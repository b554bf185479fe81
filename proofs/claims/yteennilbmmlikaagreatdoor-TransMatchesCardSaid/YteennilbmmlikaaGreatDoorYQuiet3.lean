/- A part of the proof. -/
import Derived.Test.YteennilbmmlikaaGreatDoorYRel
import Derived.Laws.Entries
import Derived.Laws.Slices
namespace Go.Y
set_option maxRecDepth 1000000
set_option maxHeartbeats 0
section
variable {Y:YP} {W:Vw} {σ:St} {a:Act} {w:World}
theorem Ztf{t:TypeId}(d:Y.P.underlying t=some .bool){x y:Bool}{u v:Value}(c:VR W (.b x) u)(e:VR W (.b y) v)(n:Nat)(w:World):
  (Op.equalIn (n+1) t u v).run Y.P w= .ok (x==y) w:=by
 cases c;cases e;exact run_equalIn_bool' w n t _ _ d
theorem Ztg{t:TypeId}{e:TypeId}(d:Y.P.underlying t=some (.pointer e)){u v:Value}(c:VR W (.p none) u)(f:VR W (.p none) v)(n:Nat)(w:World):
  (Op.equalIn (n+1) t u v).run Y.P w= .ok true w:=by
 cases c<;>cases f<;>simp only[Op.equalIn,uC,Zg d,uA,uD]<;>rfl
theorem Zth{t:TypeId}{e:TypeId}(d:Y.P.underlying t=some (.pointer e)){q:Nat×Nat}{u v:Value}(c:VR W (.p none) u)(f:VR W (.p (some q)) v)(n:Nat)(w:World):
  (Op.equalIn (n+1) t u v).run Y.P w= .ok false w:=by
 cases c<;>cases f<;>simp only[Op.equalIn,uC,Zg d,uA,uD]<;>rfl
theorem Zti{t:TypeId}{e:TypeId}(d:Y.P.underlying t=some (.pointer e)){q:Nat×Nat}{u v:Value}(c:VR W (.p (some q)) u)(f:VR W (.p none) v)(n:Nat)(w:World):
  (Op.equalIn (n+1) t u v).run Y.P w= .ok false w:=by
 cases c<;>cases f<;>simp only[Op.equalIn,uC,Zg d,uA,uD]<;>rfl
theorem Ztj{t:TypeId}{e:TypeId}(f:Y.P.underlying t=some (.pointer e)){c}{u v:Value}(d:VR W (.p none) u)(g:VR W (.tp c) v)(n:Nat)(w:World):
  (Op.equalIn (n+1) t u v).run Y.P w= .ok false w:=by
 cases d<;>cases g<;>simp only[Op.equalIn,uC,Zg f,uA,uD]<;>rfl
theorem Ztk{t:TypeId}{e:TypeId}(f:Y.P.underlying t=some (.pointer e)){c}{u v:Value}(d:VR W (.tp c) u)(g:VR W (.p none) v)(n:Nat)(w:World):
  (Op.equalIn (n+1) t u v).run Y.P w= .ok false w:=by
 cases d<;>cases g<;>simp only[Op.equalIn,uC,Zg f,uA,uD]<;>rfl
theorem Zm4{t:TypeId}{e:TypeId}(h:Y.P.underlying t=some (.slice e)){l:Nat}{c}{k:Nat}{d:Nat}{m}{g:Nat}{u v:Value}(f:VR W (.sl none l c k) u)(j:VR W (.sl none d m g) v)(n:Nat)(w:World):
  (Op.equalIn (n+1) t u v).run Y.P w= .ok true w:=by
 cases f<;>cases j<;>simp only[Op.equalIn,uC,Zg h,uA,uD]<;>rfl
theorem Zm5{t:TypeId}{e:TypeId}(h:Y.P.underlying t=some (.slice e)){l:Nat}{c}{k:Nat}{q:Nat×Nat}{d:Nat}{m}{g:Nat}{u v:Value}(f:VR W (.sl none l c k) u)(j:VR W (.sl (some q) d m g) v)(n:Nat)(w:World):
  (Op.equalIn (n+1) t u v).run Y.P w= .ok false w:=by
 cases f<;>cases j<;>simp only[Op.equalIn,uC,Zg h,uA,uD]<;>rfl
theorem Zm6{t:TypeId}{e:TypeId}(h:Y.P.underlying t=some (.slice e)){q:Nat×Nat}{l:Nat}{c}{k:Nat}{d:Nat}{m}{g:Nat}{u v:Value}(f:VR W (.sl (some q) l c k) u)(j:VR W (.sl none d m g) v)(n:Nat)(w:World):
  (Op.equalIn (n+1) t u v).run Y.P w= .ok false w:=by
 cases f<;>cases j<;>simp only[Op.equalIn,uC,Zg h,uA,uD]<;>rfl
theorem Zm7{t:TypeId}{e:TypeId}(h:Y.P.underlying t=some (.slice e)){l:Nat}{c}{k:Nat}{f}{d:Nat}{o}{u v:Value}(g:VR W (.sl none l c k) u)(j:VR W (.ts f d o) v)(m:d≠0)(n:Nat)(w:World):
  (Op.equalIn (n+1) t u v).run Y.P w= .ok false w:=by
 cases g<;>cases j<;>first|exact absurd rfl m|(simp only[Op.equalIn,uC,Zg h,uA,uD]<;>rfl)
theorem Zm8{t:TypeId}{e:TypeId}(j:Y.P.underlying t=some (.slice e)){d}{l:Nat}{c}{f:Nat}{o}{h:Nat}{u v:Value}(g:VR W (.ts d l c) u)(k:VR W (.sl none f o h) v)(m:l≠0)(n:Nat)(w:World):
  (Op.equalIn (n+1) t u v).run Y.P w= .ok false w:=by
 cases g<;>cases k<;>first|exact absurd rfl m|(simp only[Op.equalIn,uC,Zg j,uA,uD]<;>rfl)
theorem Ztl{t:TypeId}{k e:TypeId}(d:Y.P.underlying t=some (.map k e)){u v:Value}(c:VR W (.mp none) u)(f:VR W (.mp none) v)(n:Nat)(w:World):
  (Op.equalIn (n+1) t u v).run Y.P w= .ok true w:=by
 cases c<;>cases f<;>simp only[Op.equalIn,uC,Zg d,uA,uD]<;>rfl
theorem Ztm{t:TypeId}{k e:TypeId}(d:Y.P.underlying t=some (.map k e)){q:Nat}{u v:Value}(c:VR W (.mp none) u)(f:VR W (.mp (some q)) v)(n:Nat)(w:World):
  (Op.equalIn (n+1) t u v).run Y.P w= .ok false w:=by
 cases c<;>cases f<;>simp only[Op.equalIn,uC,Zg d,uA,uD]<;>rfl
theorem Ztn{t:TypeId}{k e:TypeId}(d:Y.P.underlying t=some (.map k e)){q:Nat}{u v:Value}(c:VR W (.mp (some q)) u)(f:VR W (.mp none) v)(n:Nat)(w:World):
  (Op.equalIn (n+1) t u v).run Y.P w= .ok false w:=by
 cases c<;>cases f<;>simp only[Op.equalIn,uC,Zg d,uA,uD]<;>rfl
theorem Zri{t:TypeId}{ps f:Array TypeId}{b:Bool}(d:Y.P.underlying t=some (.func ps f b)){u v:Value}(c:VR W (.nilfn) u)(e:VR W (.nilfn) v)(n:Nat)(w:World):
  (Op.equalIn (n+1) t u v).run Y.P w= .ok true w:=by
 cases c<;>cases e<;>simp only[Op.equalIn,uC,Zg d,uA,uD]<;>rfl
theorem Zrj{t:TypeId}{ps h:Array TypeId}{b:Bool}(e:Y.P.underlying t=some (.func ps h b)){f:Fn}{a c}{u v:Value}(d:VR W (.nilfn) u)(g:VR W (.fn f a c) v)(n:Nat)(w:World):
  (Op.equalIn (n+1) t u v).run Y.P w= .ok false w:=by
 cases d<;>cases g<;>simp only[Op.equalIn,uC,Zg e,uA,uD]<;>rfl
theorem Zrk{t:TypeId}{ps h:Array TypeId}{b:Bool}(e:Y.P.underlying t=some (.func ps h b)){f:Fn}{a c}{u v:Value}(d:VR W (.fn f a c) u)(g:VR W (.nilfn) v)(n:Nat)(w:World):
  (Op.equalIn (n+1) t u v).run Y.P w= .ok false w:=by
 cases d<;>cases g<;>simp only[Op.equalIn,uC,Zg e,uA,uD]<;>rfl
theorem Zm9{t:TypeId}{d:Array (String×TypeId)}(f:Y.P.underlying t=some (.interface d)){e:TypeId}{x}{u v:Value}(c:VR W (.nilifc) u)(g:VR W (.ifc e x) v)(n:Nat)(w:World):
  (Op.equalIn (n+1) t u v).run Y.P w= .ok false w:=by
 cases c<;>cases g<;>simp only[Op.equalIn,uC,Zg f,uA,uD]<;>rfl
theorem Zna{t:TypeId}{d:Array (String×TypeId)}(f:Y.P.underlying t=some (.interface d)){e:TypeId}{x}{u v:Value}(c:VR W (.ifc e x) u)(g:VR W (.nilifc) v)(n:Nat)(w:World):
  (Op.equalIn (n+1) t u v).run Y.P w= .ok false w:=by
 cases c<;>cases g<;>simp only[Op.equalIn,uC,Zg f,uA,uD]<;>rfl
theorem ZHq{t:TypeId}{j:TI}{i:TypeInfo}{d:TypeDesc}{z:Value}(k:TIOK Y t j i d z){x y:V}{r:Bool}(h:eqV j.kd x y=some r){u v:Value}
  (g:VR W x u) (f:VR W y v) (n:Nat) (w:World):(Op.equalIn (n+1) t u v).run Y.P w= .ok r w:=by
 have e:=k.und;have c:=k.kd;generalize j.kd=kd at h c;unfold eqV at h;split at h<;>(try split at h)<;>simp only[uB,reduceCtorEq]at h<;>simp only[KdOK]at c<;>subst h
 case h_1=>subst c;exact Ztf e g f n w
 case h_2=>subst c;exact Ztg e g f n w
 case h_3=>subst c;exact Zth e g f n w
 case h_4=>subst c;exact Zti e g f n w
 case h_5=>subst c;exact Ztj e g f n w
 case h_6=>subst c;exact Ztk e g f n w
 case h_7=>subst c;exact Zm4 e g f n w
 case h_8=>subst c;exact Zm5 e g f n w
 case h_9=>subst c;exact Zm6 e g f n w
 case h_10=>subst c;exact Zm7 e g f (by assumption) n w
 case h_11=>subst c;exact Zm8 e g f (by assumption) n w
 case h_12=>subst c;exact Ztl e g f n w
 case h_13=>subst c;exact Ztm e g f n w
 case h_14=>subst c;exact Ztn e g f n w
 case h_15=>obtain⟨_,_,_,rfl⟩:=c;exact Zri e g f n w
 case h_16=>obtain⟨_,_,_,rfl⟩:=c;exact Zrj e g f n w
 case h_17=>obtain⟨_,_,_,rfl⟩:=c;exact Zrk e g f n w
 case h_18=>obtain⟨_,rfl⟩:=c;exact Zm9 e g f n w
 case h_19=>obtain⟨_,rfl⟩:=c;exact Zna e g f n w
theorem ZBl{t:TypeId}{f:TI}{i:TypeInfo}{d:TypeDesc}{z:Value}(l:TIOK Y t f i d z){x y:V}{r:Bool}(h:eqV f.kd x y=some r){u v:Value}
  (j:VR W x u) (e:VR W y v) (w:World):
  (binOp .eql t u v).run Y.P w= .ok (.bool r) w/\(binOp .neq t u v).run Y.P w= .ok (.bool (!r)) w/\ ∀c k m,eqGuard c t k m u v=pure ():=by
 have g:(Op.equal t u v).run Y.P w= .ok r w:=ZHq l h j e 9999 w;unfold eqV at h;split at h<;>(try split at h)<;>first|(cases h;done)|skip
 all_goals cases j<;>cases e
 all_goals first|(exfalso;contradiction)|skip
 all_goals exact⟨by simp only[binOp,uC,g,uA,uD],by simp only[binOp,uC,g,uA,uD],λc _ _=>by cases c<;>rfl⟩
theorem ZDg(Z:YOK Y){g:BinOp}{t:TypeId}{B D:Operand}{x y v:V}(h:binY Y g t B D x y=some v){u1 u2:Value}(G:VR W x u1)(K:VR W y u2):
  ∃u,VR W v u/\ ∀w,(do eqGuard g t B D u1 u2;binOp g t u1 u2:Sem Value).run Y.P w= .ok u w:=by
 unfold binY at h;split at h
 .rename_i k m k' n;cases G;cases K;have A: ∀w,(eqGuard g t B D (.int k m) (.int k' n)).run Y.P w= .ok () w:=λw=>by cases g<;>rfl
  split at h
  .split at h
   .cases h
   .rename_i hn;simp at h;subst h;exact⟨_, .i _ _,λw=>by simp only[uC,A,uA];simp[binOp,Op.shift,hn]⟩
  .split at h
   .cases h
   .rename_i hn;simp at h;subst h;exact⟨_, .i _ _,λw=>by simp only[uC,A,uA];simp[binOp,Op.shift,hn]⟩
  .split at h
   .rename_i j;subst j;obtain⟨u,hu,F⟩:=Ztd (Y:=Y) (W:=W) h t;exact⟨u,hu,λw=>by simp only[uC,A,uA,F]⟩
   .cases h
 .rename_i l m;cases G;cases K;have A: ∀w,(eqGuard g t B D (.string ⟨l.toArray⟩) (.string ⟨m.toArray⟩)).run Y.P w= .ok () w:=λw=>by cases g<;>rfl
  obtain⟨u,hu,F⟩:=Zte (Y:=Y) (W:=W) h t;exact⟨u,hu,λw=>by simp only[uC,A,uA,F]⟩
 .cases G;cases K;have A:(Zao B||Zao D)=true-> ∀w,(eqGuard g t B D .nilIface .nilIface).run Y.P w= .ok () w:=by
   intro O w;cases B<;>cases D<;>simp[Zao]at O<;>cases g<;>rfl
  have F: ∀L,Y.P.underlying t=some (.interface L)-> ∀w,(Op.equal t .nilIface .nilIface).run Y.P w= .ok true w:=λL hd w=>by
   show(Op.equalIn (9999+1) t .nilIface .nilIface).run Y.P w= .ok true w;generalize 9999=n;simp only[Op.equalIn,uC,Zg hd,uA,uD]
  split at h
  .rename_i j;obtain⟨E,f,e⟩:=XG j;obtain⟨i,d,z,o⟩:=Z.ty t E f;have c:=o.kd;rw[e]at c;obtain⟨L,rfl⟩:=c;split at h
   .rename_i O;simp at h;subst h;exact⟨_, .b _,λw=>by simp only[uC,A O,uA,binOp,F L o.und,uD]⟩
   .cases h
  .rename_i j;obtain⟨E,f,e⟩:=XG j;obtain⟨i,d,z,o⟩:=Z.ty t E f;have c:=o.kd;rw[e]at c;obtain⟨L,rfl⟩:=c;split at h
   .rename_i O;simp at h;subst h;exact⟨_, .b _,λw=>by simp only[uC,A O,uA,binOp,F L o.und,uD,Bool.not_true]⟩
   .cases h
  .cases h
 .rename_i xs ys
  cases G with
  |agg _ us a1=>
   cases K with
   |agg _ vs a2=>
    cases j:Y.kd t with
    |none=>simp[j]at h
    |some kd=>
    simp only[j]at h;obtain⟨E,f,e⟩:=XG j;obtain⟨i,d,z,o⟩:=Z.ty t E f;have c:=o.kd;rw[e]at c;split at h
    case isFalse=>cases h
    rename_i C;have a0:Y.P.eqGuardType Y.P.depth t=false:=by
     cases kd<;>simp[Kd.agg]at C
     .exact c.2
     .obtain⟨_,_,_,_,_,A⟩:=c;exact A
    rw[<-e]at C;have X: ∀r,eqTy Y 8 t xs ys=some r->(∀w,(Op.equal t (.agg us.toArray) (.agg vs.toArray)).run Y.P w= .ok r w)/\ ∀g w,(eqGuard g t B D (.agg us.toArray) (.agg vs.toArray)).run Y.P w= .ok () w:=by
     intro r hr;refine⟨λw=> ?_,λg w=>run_eqGuard_agg w g t B D _ _ a0⟩;exact Zm3 Z 8 t xs ys r hr us vs a1 a2 E f _ _ (by simp[C]) (by simp[C]) 10000 w om
    split at h
    .rename_i r hr;simp at h;subst h;obtain⟨N,H⟩:=X r hr;exact⟨_, .b _,λw=>by simp only[uC,H,uA,binOp,N,uD]⟩
    .rename_i r hr;simp at h;subst h;obtain⟨N,H⟩:=X r hr;exact⟨_, .b _,λw=>by simp only[uC,H,uA,binOp,N,uD]⟩
    .cases h
 .split at h
  .rename_i kd j;obtain⟨E,f,e⟩:=XG j;obtain⟨i,d,z,o⟩:=Z.ty t E f;subst e;split at h
   .rename_i r hr;simp at h;subst h;exact⟨_, .b _,λw=>by
     obtain⟨N,H,h3⟩:=ZBl o hr G K w;simp only[uC,h3,uD,uA,N]⟩
   .rename_i r hr;simp at h;subst h;exact⟨_, .b _,λw=>by
     obtain⟨N,H,h3⟩:=ZBl o hr G K w;simp only[uC,h3,uD,uA,H]⟩
   .cases h
  .cases h
end
section
variable {Y:YP} {W:Vw} {σ:St} {a:Act} {w:World}
theorem ZHr{e:UnOp}{x v:V}(h:unY e x=some v){d:Value}(c:VR W x d): ∃u,VR W v u/\ ∀w,(Op.unary e d).run Y.P w= .ok u w:=by
 unfold unY at h;split at h
 .cases c;simp at h;subst h;exact⟨_, .b _,λw=>rfl⟩
 .cases c;simp at h;subst h;exact⟨_, .i _ _,λw=>by simp[Op.unary,Op.intArith]⟩
 .cases c;simp only[uB]at h;subst h;exact⟨_, .i _ _,λw=>rfl⟩
 .cases h
theorem Zto(C:YOK Y)(h:Rel W σ a w){t:TypeId}{x:Operand}{f}(j:Y.ty t=some f){ad:Ad}(m:addr σ x=some ad){v:V}
  (g:(Xu σ f.size ad).bind (Jj f.kd.agg)=some v): ∃u,VR W v u/\ ∀c,Same w c->(Instr.loadAt t (a.eval x)).run Y.P c= .ok u c:=by
 obtain⟨i,d,z,e⟩:=C.ty t f j;obtain⟨y,r,hr⟩:=Zcq h m;obtain⟨l,E,g⟩:=Option.bind_eq_some_iff.1 g;obtain⟨n,D,F,o⟩:=VE h hr E;obtain⟨u,B,A⟩:=Zgz D g;refine⟨u,B,λc k=> ?_⟩;rw[r];simp only[Instr.loadAt,Instr.sureAddr,uC,uD,uA];exact Zj8 e.und e.info c y n (by rw[F,e.size]) (o.same k) u (by rw[e.agg];exact A)
theorem Zes(u:YOK Y){t:TypeId}{m:List (Nat×TypeId)}(h:fieldsOf Y t=some m):
  ∃l:Array Field,Y.P.underlying t=some (.struct l)/\m=l.toList.map (λf=>(f.offset,f.type)):=by
 unfold fieldsOf at h;split at h
 .rename_i o r;simp at h;subst h;obtain⟨n,e,g⟩:=XG r;obtain⟨i,d,z,k⟩:=u.ty t n e;have c:=k.kd;rw[g]at c;obtain⟨l,rfl,j,_⟩:=c;exact⟨l,k.und,j⟩
 .cases h
theorem Ztp(v:YOK Y)(h:Rel W σ a w){t:TypeId}{x:Operand}{f:Nat}{ad:Ad}(c:Zgy Y σ t x f=some ad):
  ∃y,AdR W σ a ad y/\ ∀g,Same w g->(Instr.fieldAt t (a.eval x) f).run Y.P g= .ok (.pointer (some y)) g:=by
 unfold Zgy at c;split at c
 .rename_i H k;obtain⟨l,G,rfl⟩:=Zes v k;split at c
  .rename_i off B K r F;obtain⟨y,D,hr⟩:=Zcq h F;split at c
   .rename_i C j;split at c
    .rename_i A;simp at c;subst c;obtain⟨i,d,z,o⟩:=v.ty B C j;rw[List.getElem?_map,uG]at r;obtain⟨E,m,u⟩:=r;simp at u;obtain⟨rfl,rfl⟩:=u;refine⟨_,hr.shift _,λg _=> ?_⟩;have e:l[f]? =some E:=by simpa using m
     have n:i.size≠0:=by rw[o.size];exact A
     rw[D];simp only[Instr.fieldAt,uC,Zg G,uA,e,Instr.sureAddr,uD,fieldPlace,ZV o.info,Sem.run_ite,n,vF]
    .cases c
   .cases c
  .cases c
 .cases c
theorem Ztq(K:YOK Y)(h:Rel W σ a w){t:TypeId}{x G:Operand}{ad:Ad}(j:Zbe Y σ t x (ev σ.env G)=some ad):
  ∃y,AdR W σ a ad y/\ ∀m,Same w m->(Instr.indexAt t (a.eval x) (a.eval G)).run Y.P m= .ok (.pointer (some y)) m:=by
 have l:=h.ev G;unfold Zbe at j;split at j
 .rename_i n e k i hk X;rw[X]at l;generalize a.eval G=ui at l;cases l;obtain⟨Z,C,B⟩:=XG hk;obtain⟨a3,d,z,D⟩:=K.ty t Z C;have r:=D.kd;rw[B]at r;obtain⟨rfl,_⟩:=r;split at j
  .rename_i A a0 u N;split at j
   .rename_i E;simp at j;subst j;obtain⟨ie,de,ze,f⟩:=K.ty e A u;obtain⟨y,hy,hr⟩:=Zcq h N;refine⟨_,hr.shift _,λm _=> ?_⟩;rw[hy];simp only[Instr.indexAt,asIntOf,uC,Zg D.und,uA,Instr.sureAddr,uD,Sem.run_ite];rw[uF ⟨E.1,E.2.1⟩];simp only[ZV f.info,uA,f.size]
   .cases j
  .cases j
 .rename_i e k i hk X;rw[X]at l;generalize a.eval G=ui at l;cases l;obtain⟨Z,C,B⟩:=XG hk;obtain⟨a3,d,z,D⟩:=K.ty t Z C;have r:=D.kd;rw[B]at r;cases r;have F:=h.ev x;split at j
  .rename_i A id o len cap k' u v;rw[v]at F;generalize a.eval x=ux at F;split at j
   .rename_i E;obtain⟨O,h1,h2,rfl⟩:=E;simp at j;subst j;obtain⟨ie,de,ze,f⟩:=K.ty e A u
    cases F with
    |sls _ _ _ _ _ y g a2 hl _ N _ _=>
     refine⟨y.add (i.toNat*A.size),⟨a2,λhv=> ?_⟩,λm _=> ?_⟩
     .rw[N hv om];unfold Vw.at;rw[Wb,uX]
     .simp only[Instr.indexAt,asIntOf,uC,Zg D.und,uA,uD,Sem.run_ite];rw[uF ⟨O,h1⟩];simp only[ZV f.info,uA,f.size]
   .cases j
  .rename_i A cs len cap u v;rw[v]at F;generalize a.eval x=ux at F;split at j
   .rename_i E;obtain⟨O,h1,h2⟩:=E;simp at j;subst j;obtain⟨ie,de,ze,f⟩:=K.ty e A u;have H: ∀(y:Addr) (g:Nat) m,(Instr.indexAt t (.slice (some y) len g) (.int k i)).run Y.P m= .ok (.pointer (some (y.add (i.toNat*A.size)))) m:=by
     intro y g m;simp only[Instr.indexAt,asIntOf,uC,Zg D.und,uA,uD,Sem.run_ite];rw[uF ⟨O,h1⟩];simp only[ZV f.info,uA,f.size]
    cases F with
    |tsn _ _ y g=>exact⟨_, .inl sm,λm _=>H y g m⟩
    |tsz=>omega
    |ts _ _ _ g blk off c et fr us hl a4 hs L hr=>
     have a1:AdR W σ a (.ro cs) ⟨blk,off,none⟩:= .inr ⟨blk,off,c,et,fr,us,rfl,hs,L,hr⟩;exact⟨_,a1.shift _,λm _=>H _ g m⟩
   .cases j
  .cases j
 .cases j
theorem Zin{v:V}{u:Value}(h:VR W v u)(D:Zp v.cells=true):VRs W v.cells u.cells.toList:=by
 cases h with
 |agg B y h=>simpa[V.cells,Value.cells]using h
 |undef u=>simp[V.cells,Zp,V.cellOK]at D
 |tup B y h=>simp[V.cells,Zp,V.cellOK]at D
 |b x=>exact .cons _ _ _ _ (.b x) .nil
 |i k n=>exact .cons _ _ _ _ (.i k n) .nil
 |s l=>exact .cons _ _ _ _ (.s l) .nil
 |pn=>exact .cons _ _ _ _ .pn .nil
 |ps m off a j A=>exact .cons _ _ _ _ (.ps m off a j A) .nil
 |tpn a=>exact .cons _ _ _ _ (.tpn a) .nil
 |tp B blk off c e fr y C d hr=>exact .cons _ _ _ _ (.tp B blk off c e fr y C d hr) .nil
 |sln c k=>exact .cons _ _ _ _ (.sln c k) .nil
 |sls m off len cap k a g j o d A H G=>exact .cons _ _ _ _ (.sls m off len cap k a g j o d A H G) .nil
 |tsn len cap a g o d=>exact .cons _ _ _ _ (.tsn len cap a g o d) .nil
 |tsz cap d=>exact .cons _ _ _ _ (.tsz cap d) .nil
 |ts B len cap g blk off c e fr y o z C d hr=>exact .cons _ _ _ _ (.ts B len cap g blk off c e fr y o z C d hr) .nil
 |mpn=>exact .cons _ _ _ _ .mpn .nil
 |mps m r j hr=>exact .cons _ _ _ _ (.mps m r j hr) .nil
 |fn f a c F E A d=>exact .cons _ _ _ _ (.fn f a c F E A d) .nil
 |nilfn=>exact .cons _ _ _ _ .nilfn .nil
 |ifc t v u h=>exact .cons _ _ _ _ (.ifc t v u h) .nil
 |nilifc=>exact .cons _ _ _ _ .nilifc .nil
 |yl m l j o=>exact .cons _ _ _ _ (.yl m l j o) .nil
theorem Jo: ∀ {f:List V} {e:List Value},VRs W f e->Zp f=true-> ∀u∈e,u.oneCell'=true
 |_,_, .nil,_,u,c=>by simp at c
 |_,_, .cons v j l m h g,d,u,c=>by
  simp only[Zp,uH]at d;rcases List.mem_cons.1 c with rfl|c
  .cases h<;>first|rfl|(simp[V.cellOK]at d)
  .exact Jo g d.2 u c
theorem Zj9(n:Nat): ∀(c:List Value) (k:Nat) (d:Array Value),n+k+c.length<=d.size->
  ((c.zipIdx k).foldl (λd (p:Value×Nat)=>d.setIfInBounds (n+p.2) p.1) d).toList=splice d.toList (n+k) c
 | [],k,d,h=>by
  apply vA;intro j;rw[Xt _ _ _ _ (by simpa using h)];simp only[List.zipIdx_nil,List.foldl_nil];split
  .rename_i f;simp at f;omega
  .rfl
 |v::c,k,d,h=>by
  simp only[List.length_cons]at h;simp only[List.zipIdx_cons,uR];rw[Zj9 n c (k+1) _ (by simp;omega)];apply vA;intro j;rw[Xt _ _ _ _ (by simp;omega),Xt _ _ _ _ (by simp;omega)];simp only[List.length_cons,Array.getElem?_toList,Array.getElem?_setIfInBounds];by_cases f:j=n+k
  .subst f;rw[uE om,uF om];simp;omega
  .by_cases g:n+(k+1)<=j/\j<n+(k+1)+c.length
   .rw[uF g,uF om];obtain⟨q,l⟩: ∃q,j=n+k+(q+1):=⟨j-(n+k+1),om⟩;subst l;rw[show n+k+(q+1)-(n+(k+1))=q from om,show n+k+(q+1)-(n+k)=q+1 from om];simp
   .rw[uE g,uE (by omega: ¬(n+k<=j/\j<n+k+(c.length+1))),uE (λe:n+k=j=>f e.symm)]
theorem Zio(h:Rel W σ a w){d:Nat->Option (Nat×Nat)} : ∀(c:List (Nat×Operand)) (j r:List V) (g:List Value),VRs W j g->
  Wa (ev σ.env) d c j=some r-> ∃e,VRs W r e/\Instr.fill d g.toArray (c.map λp=>(p.1,a.eval p.2))=some e.toArray
 | [],j,r,g,hr,f=>by simp[Wa]at f;subst f;exact⟨g,hr,by simp[Instr.fill]⟩
 |p::rest,j,r,g,hr,f=>by
  simp only[Wa]at f;split at f
  .rename_i off size hp;split at f
   .rename_i o;obtain⟨v,B,n⟩:=o;have l:=Zin (h.ev p.2) n;have y:=l.length;have u:=hr.length;have k:=hr.splice l off B;obtain⟨e,m,A⟩:=Zio h rest _ r _ k f;refine⟨e,m,?_⟩;simp only[List.map_cons,Instr.fill,hp];have z:(a.eval p.2).cells.size=size:=by rw[<-Array.length_toList,<-y,v]
    have t: ¬((a.eval p.2).cells.size≠size\/off+(a.eval p.2).cells.size>g.toArray.size):=by
     rw[z];simp;omega
    rw[uE (by simpa using t)];rw[<-A]
    congr 1
    have hz:(a.eval p.2).cells.zipIdx.foldl (λj x=>j.setIfInBounds (off+x.2) x.1) g.toArray=(splice g off (a.eval p.2).cells.toList).toArray:=by
     apply Array.ext';rw[<-Array.foldl_toList,Array.toList_zipIdx];rw[Zj9 off _ 0 _ (by simp;omega)];simp
    exact hz
   .cases f
  .cases f
end
section
variable {Y:YP} {W:Vw} {σ:St} {a:Act} {w:World}
def OR(W:Vw):Option V->Option Value->Prop
 |some v,some u=>VR W v u
 |none,none=>True
 |_,_=>False
theorem Zka{y d n:Nat}{o:Option V}(h:bnd y d o=some n):(o=none->n=d)/\(o≠none->n<=y):=by
 cases o with
 |none=>simp only[bnd,uB]at h;exact⟨λ_=>h.symm,λc=>absurd rfl c⟩
 |some v=>
  refine⟨λc=>(nomatch c),λ_=> ?_⟩;cases v<;>simp[bnd]at h
  omega
theorem Jc{y d n:Nat}{v}(h:bnd y d (some v)=some n){u:Value}(f:VR W v u){e:Nat}(j:y<=e)(c:BoundsCode)(w:World):
  (Instr.sliceBound u e c).run Y.P w= .ok n w:=by
 cases v<;>simp only[bnd,reduceCtorEq]at h
 split at h
 .rename_i k m g;simp at h;subst h;cases f;exact run_sliceBound w k m e c g.1 om
 .cases h
theorem Wd{y d len cap l h:Nat}{n r:Option V}(k:QY y d n r=some (l,h)){e j:Option Value}(c:OR W n e)(g:OR W r j)(t:y<=cap)(x:d=len)
  (f:Bool) (w:World):(Instr.sliceBounds f len cap e j none).run Y.P w= .ok (l,h,cap) w:=by
 unfold QY at k;split at k
 .rename_i z o;split at k
  .rename_i A m;simp at k;obtain⟨rfl,rfl⟩:=k
   cases r with
   |none=>
    cases j with
    |some u=>exact g.elim
    |none=>
     simp only[bnd,uB]at o;subst o x
     cases n with
     |none=>cases e with
      |some u=>exact c.elim
      |none=>
       simp only[bnd,uB]at m;subst m;simp only[Instr.sliceBounds,uC,uD,uA]
     |some v=>cases e with
      |none=>exact c.elim
      |some u=>simp only[Instr.sliceBounds,uC,uD,uA,Jc m c (Nat.le_refl _)]
   |some v=>
    cases j with
    |none=>exact g.elim
    |some u=>
     cases n with
     |none=>cases e with
      |some u=>exact c.elim
      |none=>
       simp only[bnd,uB]at m;subst m;simp only[Instr.sliceBounds,uC,uD,uA,Jc o g t]
     |some v=>cases e with
      |none=>exact c.elim
      |some u=>simp only[Instr.sliceBounds,uC,uD,uA,Jc o g t,Jc m c (Nat.le_refl _)]
  .cases k
 .cases k
theorem Wz{y m len cap l h:Nat}{k:Option V}{o z}(A:bnd y 0 (some z)=some m)(f:QY m 0 k (some o)=some (l,h)){d:Option Value}{B t:Value}(e:OR W k d)
  (g:VR W o B) (j:VR W z t) (r:y<=cap) (c:Bool) (w:World):(Instr.sliceBounds c len cap d (some B) (some t)).run Y.P w= .ok (l,h,m) w:=by
 unfold QY at f;split at f
 .rename_i C x;split at f
  .rename_i D n;simp at f;obtain⟨rfl,rfl⟩:=f
   cases k with
   |none=>cases d with
    |some u=>exact e.elim
    |none=>
     simp only[bnd,uB]at n;subst n;simp only[Instr.sliceBounds,uC,Jc A j r,Jc x g (Nat.le_refl _),uA,uD]
   |some v=>cases d with
    |none=>exact e.elim
    |some u=>simp only[Instr.sliceBounds,uC,Jc A j r,Jc x g (Nat.le_refl _),Jc n e (Nat.le_refl _),uA,uD]
  .cases f
 .cases f
theorem Jp{y d l h:Nat}{g f:Option V}(c:QY y d g f=some (l,h)):l<=h/\(f=none->h=d)/\(f≠none->h<=y):=by
 unfold QY at c;split at c
 .rename_i u k;split at c
  .rename_i t n;simp at c;obtain⟨rfl,rfl⟩:=c;obtain⟨o,r⟩:=Zka k;obtain⟨j,m⟩:=Zka n;refine⟨?_,o,r⟩;by_cases e:g=none
   .rw[j e];omega
   .exact m e
  .cases c
 .cases c
theorem OR.some{v}{c:Option Value}(h:OR W (Option.some v) c): ∃u,c=Option.some u/\VR W v u:=by
 cases c with
 |none=>exact h.elim
 |some u=>exact⟨u,rfl,h⟩
theorem OR.none{c:Option Value}(h:OR W Option.none c):c=Option.none:=by
 cases c with
 |none=>rfl
 |some u=>exact h.elim
theorem Zdm(l:List UInt8)(x y:Nat):(⟨l.toArray⟩:ByteArray).extract x y=⟨((l.drop x).take (y-x)).toArray⟩:=by
 apply ByteArray.ext;rw[ByteArray.data_extract];simp
theorem Zyk(hY:YOK Y){t:TypeId}{v r}{lo hi mx:Option V}(h:Zbd Y t v lo hi mx=Option.some r){u:Value}{a3 a2 a1:Option Value}(K:VR W v u)(G:OR W lo a3)(E:OR W hi a2)
  (D:OR W mx a1): ∃u',VR W r u'/\ ∀w,(Instr.sliceAt t u a3 a2 a1).run Y.P w= .ok u' w:=by
 unfold Zbd at h;split at h
 .rename_i H;obtain⟨ti,a9,a6⟩:=XG H;obtain⟨i,d,z,ht⟩:=hY.ty t ti a9;have a0:=ht.kd;rw[a6]at a0;cases a0;split at h
  .rename_i l;split at h
   .rename_i x y C;simp at h;subst h;cases K;have:=D.none;subst this;refine⟨_, .s _,λw=> ?_⟩;have hr:=Wd (Y:=Y) C G E (Nat.le_refl _) rfl false w;have hs:(⟨l.toArray⟩:ByteArray).size=l.length:=rfl;simp only[Instr.sliceAt,Instr.slice,uC,Zg ht.und,uA,Option.isSome_none,uI,vF,hs,hr,uD,Zdm]
   .cases h
  .cases h
 .rename_i e H;obtain⟨ti,a9,a6⟩:=XG H;obtain⟨i,d,z,ht⟩:=hY.ty t ti a9;have a0:=ht.kd;rw[a6]at a0;cases a0;split at h
  .cases h
  .rename_i A b5;obtain⟨ie,de,ze,a5⟩:=hY.ty e A b5;have L: ∀(ao:Option Addr) (len cap l h m:Nat) w,(Instr.sliceBounds true len cap a3 a2 a1).run Y.P w= .ok (l,h,m) w->
     (Instr.sliceAt t (.slice ao len cap) a3 a2 a1).run Y.P w= .ok (.slice (if m=l then ao else ao.map (·.add (l*A.size))) (h-l) (m-l)) w:=by
    intro ao len cap l h m w hr;simp only[Instr.sliceAt,Instr.slice,uC,Zg ht.und,uA,hr,ZV a5.info,uD,a5.size]
   split at h
   .rename_i n c k;split at h
    .split at h
     .rename_i m hm;split at h
      .rename_i lh C;obtain⟨l,hh⟩:=lh;split at h
       .cases h
       .rename_i b6;simp at h;subst h;cases K;refine⟨_, .sln _ _,λw=> ?_⟩;have g:=Jp C
        cases mx with
        |none=>
         have:=D.none;subst this;have hr:=Wd (Y:=Y) C G E (Nat.le_refl 0) rfl true w;rw[L none 0 0 l hh 0 w hr];have h0:hh=0:=by
          by_cases Z:hi=none
          .exact g.2.1 Z
          .have:=g.2.2 Z;omega
         subst h0;simp
        |some vm=>
         obtain⟨um,rfl,O⟩:=D.some
         cases hi with
         |none=>simp at b6
         |some vh=>
          obtain⟨uh,rfl,N⟩:=E.some;have a8:m=0:=by have:=(Zka hm).2 sm;omega
          subst a8;have hr:=Wz (Y:=Y) (len:=0) hm C G N O (Nat.le_refl 0) true w;rw[L none 0 0 l hh 0 w hr];have h0:hh=0:=by have:=g.2.2 sm;omega
          subst h0;simp
      .cases h
     .cases h
    .cases h
   .rename_i id o len c k;split at h
    .rename_i b9;subst b9
     cases K with
     |sls _ _ _ _ _ y f b4 hl hc ha hn b2=>
      have b0:c.getD len<=f:=by
       cases c with
       |none=>simpa using hl
       |some c=>have:=hc c rfl;simp;omega
      cases mx with
      |none=>
       have:=D.none;subst this;simp only at h;split at h
       .rename_i x q C;simp at h;subst h;have g:=Jp C;have hq:q<=f:=by
         by_cases Z:hi=none
         .rw[g.2.1 Z];exact hl
         .have:=g.2.2 Z;omega
        refine⟨_,?_,λw=>L (some y) len f x q f w (Wd (Y:=Y) C G E b0 rfl true w)⟩;have B:(if f=x then some y else(some y).map (·.add (x*A.size)))=some (if f=x then y else y.add (x*A.size)):=by split<;>rfl
        rw[B];refine .sls id (o+x*A.size) (q-x) (c.map (· - x)) A.size _ (f-x) b4 om (λc' F=> ?_) (λK hp=> ?_) (λK a7=> ?_) (λK=> ?_)
        .cases c with
         |none=>simp at F
         |some c=>have:=hc c rfl;simp at F;omega
        .rw[uE om,ha K om];unfold Vw.at;rw[Wb,uX]
        .cases c with
         |none=>
          have:=hn K rfl;have hx:x*A.size+(f-x)*A.size=f*A.size:=by rw[<-ur];congr 1;omega
          omega
         |some c=>simp at a7
        .have:=b2 K;have hx:x*A.size+(f-x)*A.size=f*A.size:=by rw[<-ur];congr 1;omega
         omega
       .cases h
      |some vm=>
       obtain⟨um,rfl,O⟩:=D.some;simp only at h;split at h
       .rename_i m hm
        cases hi with
        |none=>simp at h
        |some vh=>
         obtain⟨uh,rfl,N⟩:=E.some;simp only[Option.isNone_some,uI,vF]at h;split at h
         .rename_i x q C;simp at h;subst h;have g:=Jp C;have c4:m<=f:=by have:=(Zka hm).2 sm;omega
          have hq:q<=m:=g.2.2 sm;refine⟨_,?_,λw=>L (some y) len f x q m w (Wz (Y:=Y) hm C G N O b0 true w)⟩;have B:(if m=x then some y else(some y).map (·.add (x*A.size)))=some (if m=x then y else y.add (x*A.size)):=by split<;>rfl
          rw[B];refine .sls id (o+x*A.size) (q-x) (some (m-x)) A.size _ (m-x) b4 om (λc' F=>by simp at F;exact F.symm▸rfl) (λK hp=> ?_) (λK a7=>nomatch a7) (λK=> ?_)
          .rw[uE om,ha K om];unfold Vw.at;rw[Wb,uX]
          .have:=b2 K;have hx:x*A.size+(m-x)*A.size=m*A.size:=by rw[<-ur];congr 1;omega
           have hy:m*A.size<=f*A.size:=Nat.mul_le_mul_right _ c4;omega
         .cases h
       .cases h
    .cases h
   .rename_i cs len c
    -- read-only
    have X: ∀(y:Addr) (f x q m:Nat) (c':Option Nat),x<=q->q<=m->(∀k,c'=some k->m-x=k)->VR W (.ts cs len c) (.slice (some y) len f)->
      VR W (.ts ((cs.drop (x*A.size)).take ((q-x)*A.size)) (q-x) c') (.slice (some (if m=x then y else y.add (x*A.size))) (q-x) (m-x)):=by
     intro y f x q m c' c5 c6 F b7;by_cases D:m=x
     .have:q=x:=om;subst this;simp only[vK,Nat.zero_mul,uQ];exact .tsn 0 c' _ _ om (λk H=>by rw[<-F k H])
     .rw[uE D]
      cases b7 with
      |tsn _ _ _ _ hl hc=>simp;exact .tsn _ _ _ _ om (λk H=>F k H)
      |ts _ _ _ _ blk off cc et fr us hl a4 hs b1 hr=>
       rw[Wb];refine .ts _ _ _ _ blk (off+x*A.size) cc et fr ((us.drop (x*A.size)).take ((q-x)*A.size)) om (λk H=>F k H) hs (λj u hj=> ?_) ((hr.drop _).take _);rw[List.getElem?_take]at hj;split at hj
       .rw[uz]at hj;rw[uX];exact b1 _ _ hj
       .cases hj
    by_cases hnz:u= .slice none 0 0
    .have b3:len=0/\cs= []/\ ∀k,c=some k->k=0:=by
      subst hnz
      cases K with
      |tsz _ hc=>exact⟨rfl,rfl,hc⟩
     obtain⟨rfl,rfl,b8⟩:=b3;subst hnz
     cases mx with
     |none=>
      have:=D.none;subst this;simp only at h;split at h
      .rename_i x q C;simp at h;subst h;have g:=Jp C;have hq:q=0:=by
        by_cases Z:hi=none
        .exact g.2.1 Z
        .have:=g.2.2 Z;omega
       subst hq;have hx:x=0:=om;subst hx;refine⟨_, .tsz _ (λk H=> ?_),λw=> ?_⟩
       .cases c with
        |none=>simp at H
        |some k'=>have:=b8 k' rfl;simp at H;omega
       .rw[L none 0 0 0 0 0 w (Wd (Y:=Y) C G E (Nat.le_refl 0) rfl true w)];simp
      .cases h
     |some vm=>
      obtain⟨um,rfl,O⟩:=D.some;simp only at h;split at h
      .rename_i m hm
       cases hi with
       |none=>simp at h
       |some vh=>
        obtain⟨uh,rfl,N⟩:=E.some;simp only[Option.isNone_some,uI,vF]at h;split at h
        .rename_i x q C;simp at h;subst h;have g:=Jp C;have a8:m=0:=by have:=(Zka hm).2 sm;omega
         subst a8;have hq:q=0:=by have:=g.2.2 sm;omega
         subst hq;have hx:x=0:=om;subst hx;refine⟨_, .tsz _ (λk H=>by simpa using H.symm),λw=> ?_⟩;rw[L none 0 0 0 0 0 w (Wz (Y:=Y) (len:=0) hm C G N O (Nat.le_refl 0) true w)];simp
        .cases h
      .cases h
    have shape: ∃y f,u= .slice (some y) len f/\len<=f/\(∀k,c=some k->f=k):=by
     cases K with
     |tsz _ _=>exact absurd rfl hnz
     |tsn _ _ y f hl hc=>exact⟨y,f,rfl,hl,hc⟩
     |ts _ _ _ f blk off cc et fr us hl a4 hs b1 hr=>exact⟨_,f,rfl,hl,a4⟩
    obtain⟨y,f,rfl,hl,hc⟩:=shape
    cases mx with
    |none=>
     have:=D.none;subst this;simp only at h;split at h
     .rename_i x q C;simp at h;subst h;have g:=Jp C;have hq:q<=len:=by
       by_cases Z:hi=none
       .rw[g.2.1 Z];omega
       .exact g.2.2 Z
      refine⟨_,?_,λw=>L (some y) len f x q f w (Wd (Y:=Y) C G E hl rfl true w)⟩;have B:(if f=x then some y else(some y).map (·.add (x*A.size)))=some (if f=x then y else y.add (x*A.size)):=by split<;>rfl
      rw[B];refine X y f x q f (c.map (· - x)) g.1 om (λk H=> ?_) K
      cases c with
      |none=>simp at H
      |some c=>have:=hc c rfl;simp at H;omega
     .cases h
    |some vm=>
     obtain⟨um,rfl,O⟩:=D.some;simp only at h;split at h
     .rename_i m hm
      cases hi with
      |none=>simp at h
      |some vh=>
       obtain⟨uh,rfl,N⟩:=E.some;simp only[Option.isNone_some,uI,vF]at h;split at h
       .rename_i x q C;simp at h;subst h;have g:=Jp C;have hq:q<=m:=g.2.2 sm;refine⟨_,?_,λw=>L (some y) len f x q m w (Wz (Y:=Y) hm C G N O hl true w)⟩;have B:(if m=x then some y else(some y).map (·.add (x*A.size)))=some (if m=x then y else y.add (x*A.size)):=by split<;>rfl
        rw[B];exact X y f x q m (some (m-x)) g.1 hq (λk H=>by simpa using H) K
       .cases h
     .cases h
   .cases h
 .cases h
end
end Go.Y
