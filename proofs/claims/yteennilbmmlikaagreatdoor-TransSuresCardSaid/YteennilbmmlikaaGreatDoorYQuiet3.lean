/- A part of the proof. -/
import Derived.Test.YteennilbmmlikaaGreatDoorYRel
import Derived.Laws.Entries
import Derived.Laws.Slices
namespace Go.Y
set_option maxRecDepth 1000000
set_option maxHeartbeats 0
section
variable {Y:YP} {W:Vw} {σ:St} {a:Act} {w:World}
theorem Zue{t:TypeId}(c:Y.P.underlying t=some .bool){x y:Bool}{u v}(d:VR W (.b x) u)(e:VR W (.b y) v)(n:Nat)(w:World):
  (Op.equalIn (n+1) t u v).run Y.P w= .ok (x==y) w:=by
 cases d;cases e;exact run_equalIn_bool' w n t _ _ c
theorem Zuf{t:TypeId}{e}(b:Y.P.underlying t=some (.pointer e)){u v}(c:VR W (.p none) u)(d:VR W (.p none) v)(n:Nat)(w:World):
  (Op.equalIn (n+1) t u v).run Y.P w= .ok true w:=by
 cases c<;>cases d<;>simp only[Op.equalIn,uC,Zg b,uA,uD]<;>rfl
theorem Zug{t:TypeId}{e}(b:Y.P.underlying t=some (.pointer e)){q:Nat×Nat}{u v}(c:VR W (.p none) u)(d:VR W (.p (some q)) v)(n:Nat)(w:World):
  (Op.equalIn (n+1) t u v).run Y.P w= .ok false w:=by
 cases c<;>cases d<;>simp only[Op.equalIn,uC,Zg b,uA,uD]<;>rfl
theorem Zuh{t:TypeId}{e}(b:Y.P.underlying t=some (.pointer e)){q:Nat×Nat}{u v}(c:VR W (.p (some q)) u)(d:VR W (.p none) v)(n:Nat)(w:World):
  (Op.equalIn (n+1) t u v).run Y.P w= .ok false w:=by
 cases c<;>cases d<;>simp only[Op.equalIn,uC,Zg b,uA,uD]<;>rfl
theorem Zui{t:TypeId}{e}(c:Y.P.underlying t=some (.pointer e)){b}{u v}(d:VR W (.p none) u)(f:VR W (.tp b) v)(n:Nat)(w:World):
  (Op.equalIn (n+1) t u v).run Y.P w= .ok false w:=by
 cases d<;>cases f<;>simp only[Op.equalIn,uC,Zg c,uA,uD]<;>rfl
theorem Zuj{t:TypeId}{e}(c:Y.P.underlying t=some (.pointer e)){b}{u v}(d:VR W (.tp b) u)(f:VR W (.p none) v)(n:Nat)(w:World):
  (Op.equalIn (n+1) t u v).run Y.P w= .ok false w:=by
 cases d<;>cases f<;>simp only[Op.equalIn,uC,Zg c,uA,uD]<;>rfl
theorem Znw{t:TypeId}{e}(d:Y.P.underlying t=some (.slice e)){l:Nat}{c}{k:Nat}{i:Nat}{b}{h:Nat}{u v}(f:VR W (.sl none l c k) u)(g:VR W (.sl none i b h) v)(n:Nat)(w:World):
  (Op.equalIn (n+1) t u v).run Y.P w= .ok true w:=by
 cases f<;>cases g<;>simp only[Op.equalIn,uC,Zg d,uA,uD]<;>rfl
theorem Znx{t:TypeId}{e}(d:Y.P.underlying t=some (.slice e)){l:Nat}{c}{k:Nat}{q:Nat×Nat}{i:Nat}{b}{h:Nat}{u v}(f:VR W (.sl none l c k) u)(g:VR W (.sl (some q) i b h) v)(n:Nat)(w:World):
  (Op.equalIn (n+1) t u v).run Y.P w= .ok false w:=by
 cases f<;>cases g<;>simp only[Op.equalIn,uC,Zg d,uA,uD]<;>rfl
theorem Zny{t:TypeId}{e}(d:Y.P.underlying t=some (.slice e)){q:Nat×Nat}{l:Nat}{c}{k:Nat}{i:Nat}{b}{h:Nat}{u v}(f:VR W (.sl (some q) l c k) u)(g:VR W (.sl none i b h) v)(n:Nat)(w:World):
  (Op.equalIn (n+1) t u v).run Y.P w= .ok false w:=by
 cases f<;>cases g<;>simp only[Op.equalIn,uC,Zg d,uA,uD]<;>rfl
theorem Znz{t:TypeId}{e}(h:Y.P.underlying t=some (.slice e)){l:Nat}{c}{k:Nat}{f}{b:Nat}{d}{u v}(i:VR W (.sl none l c k) u)(j:VR W (.ts f b d) v)(g:b≠0)(n:Nat)(w:World):
  (Op.equalIn (n+1) t u v).run Y.P w= .ok false w:=by
 cases i<;>cases j<;>first|exact absurd rfl g|(simp only[Op.equalIn,uC,Zg h,uA,uD]<;>rfl)
theorem Zn0{t:TypeId}{e}(g:Y.P.underlying t=some (.slice e)){d}{l:Nat}{c}{k:Nat}{b}{j:Nat}{u v}(h:VR W (.ts d l c) u)(i:VR W (.sl none k b j) v)(f:l≠0)(n:Nat)(w:World):
  (Op.equalIn (n+1) t u v).run Y.P w= .ok false w:=by
 cases h<;>cases i<;>first|exact absurd rfl f|(simp only[Op.equalIn,uC,Zg g,uA,uD]<;>rfl)
theorem Zuk{t:TypeId}{k e}(b:Y.P.underlying t=some (.map k e)){u v}(c:VR W (.mp none) u)(d:VR W (.mp none) v)(n:Nat)(w:World):
  (Op.equalIn (n+1) t u v).run Y.P w= .ok true w:=by
 cases c<;>cases d<;>simp only[Op.equalIn,uC,Zg b,uA,uD]<;>rfl
theorem Zul{t:TypeId}{k e}(b:Y.P.underlying t=some (.map k e)){q:Nat}{u v}(c:VR W (.mp none) u)(d:VR W (.mp (some q)) v)(n:Nat)(w:World):
  (Op.equalIn (n+1) t u v).run Y.P w= .ok false w:=by
 cases c<;>cases d<;>simp only[Op.equalIn,uC,Zg b,uA,uD]<;>rfl
theorem Zum{t:TypeId}{k e}(b:Y.P.underlying t=some (.map k e)){q:Nat}{u v}(c:VR W (.mp (some q)) u)(d:VR W (.mp none) v)(n:Nat)(w:World):
  (Op.equalIn (n+1) t u v).run Y.P w= .ok false w:=by
 cases c<;>cases d<;>simp only[Op.equalIn,uC,Zg b,uA,uD]<;>rfl
theorem Zsh{t:TypeId}{f g:Array TypeId}{b:Bool}(c:Y.P.underlying t=some (.func f g b)){u v}(d:VR W (.nilfn) u)(e:VR W (.nilfn) v)(n:Nat)(w:World):
  (Op.equalIn (n+1) t u v).run Y.P w= .ok true w:=by
 cases d<;>cases e<;>simp only[Op.equalIn,uC,Zg c,uA,uD]<;>rfl
theorem Zsi{t:TypeId}{h i:Array TypeId}{b:Bool}(d:Y.P.underlying t=some (.func h i b)){f:Fn}{a c}{u v}(e:VR W (.nilfn) u)(g:VR W (.fn f a c) v)(n:Nat)(w:World):
  (Op.equalIn (n+1) t u v).run Y.P w= .ok false w:=by
 cases e<;>cases g<;>simp only[Op.equalIn,uC,Zg d,uA,uD]<;>rfl
theorem Zsj{t:TypeId}{h i:Array TypeId}{b:Bool}(d:Y.P.underlying t=some (.func h i b)){f:Fn}{a c}{u v}(e:VR W (.fn f a c) u)(g:VR W (.nilfn) v)(n:Nat)(w:World):
  (Op.equalIn (n+1) t u v).run Y.P w= .ok false w:=by
 cases e<;>cases g<;>simp only[Op.equalIn,uC,Zg d,uA,uD]<;>rfl
theorem Zn1{t:TypeId}{f:Array (String×TypeId)}(b:Y.P.underlying t=some (.interface f)){e}{x}{u v}(c:VR W (.nilifc) u)(d:VR W (.ifc e x) v)(n:Nat)(w:World):
  (Op.equalIn (n+1) t u v).run Y.P w= .ok false w:=by
 cases c<;>cases d<;>simp only[Op.equalIn,uC,Zg b,uA,uD]<;>rfl
theorem Zn2{t:TypeId}{f:Array (String×TypeId)}(b:Y.P.underlying t=some (.interface f)){e}{x}{u v}(c:VR W (.ifc e x) u)(d:VR W (.nilifc) v)(n:Nat)(w:World):
  (Op.equalIn (n+1) t u v).run Y.P w= .ok false w:=by
 cases c<;>cases d<;>simp only[Op.equalIn,uC,Zg b,uA,uD]<;>rfl
theorem ZIx{t}{g:TI}{i:TypeInfo}{d:TypeDesc}{z}(j:TIOK Y t g i d z){x y:V}{r:Bool}(h:eqV g.kd x y=some r){u v:Value}
  (e:VR W x u) (f:VR W y v) (n:Nat) (w:World):(Op.equalIn (n+1) t u v).run Y.P w= .ok r w:=by
 have c:=j.und;have b:=j.kd;generalize g.kd=k at h b;unfold eqV at h;split at h<;>(try split at h)<;>simp only[uB,reduceCtorEq]at h<;>simp only[KdOK]at b<;>subst h
 case h_1=>subst b;exact Zue c e f n w
 case h_2=>subst b;exact Zuf c e f n w
 case h_3=>subst b;exact Zug c e f n w
 case h_4=>subst b;exact Zuh c e f n w
 case h_5=>subst b;exact Zui c e f n w
 case h_6=>subst b;exact Zuj c e f n w
 case h_7=>subst b;exact Znw c e f n w
 case h_8=>subst b;exact Znx c e f n w
 case h_9=>subst b;exact Zny c e f n w
 case h_10=>subst b;exact Znz c e f (by assumption) n w
 case h_11=>subst b;exact Zn0 c e f (by assumption) n w
 case h_12=>subst b;exact Zuk c e f n w
 case h_13=>subst b;exact Zul c e f n w
 case h_14=>subst b;exact Zum c e f n w
 case h_15=>obtain⟨_,_,_,rfl⟩:=b;exact Zsh c e f n w
 case h_16=>obtain⟨_,_,_,rfl⟩:=b;exact Zsi c e f n w
 case h_17=>obtain⟨_,_,_,rfl⟩:=b;exact Zsj c e f n w
 case h_18=>obtain⟨_,rfl⟩:=b;exact Zn1 c e f n w
 case h_19=>obtain⟨_,rfl⟩:=b;exact Zn2 c e f n w
theorem ZCs{t}{g:TI}{i:TypeInfo}{d:TypeDesc}{z}(j:TIOK Y t g i d z){x y:V}{r:Bool}(h:eqV g.kd x y=some r){u v:Value}
  (e:VR W x u) (f:VR W y v) (w:World):
  (binOp .eql t u v).run Y.P w= .ok (.bool r) w/\(binOp .neq t u v).run Y.P w= .ok (.bool (!r)) w/\ ∀b k l,eqGuard b t k l u v=pure ():=by
 have c:(Op.equal t u v).run Y.P w= .ok r w:=ZIx j h e f 9999 w;unfold eqV at h;split at h<;>(try split at h)<;>first|(cases h;done)|skip
 all_goals cases e<;>cases f
 all_goals first|(exfalso;contradiction)|skip
 all_goals exact⟨by simp only[binOp,uC,c,uA,uD],by simp only[binOp,uC,c,uA,uD],λb _ _=>by cases b<;>rfl⟩
theorem ZEk(L:YOK Y){g:BinOp}{t}{A B}{x y v:V}(h:binY Y g t A B x y=some v){u1 u2}(G:VR W x u1)(H:VR W y u2):
  ∃u,VR W v u/\ ∀w,(do eqGuard g t A B u1 u2;binOp g t u1 u2:Sem Value).run Y.P w= .ok u w:=by
 unfold binY at h;split at h
 .rename_i k m k' n;cases G;cases H;have o: ∀w,(eqGuard g t A B (.int k m) (.int k' n)).run Y.P w= .ok () w:=λw=>by cases g<;>rfl
  split at h;split at h;cases h;rename_i hn;simp at h;subst h;exact⟨_, .i _ _,λw=>by simp only[uC,o,uA];simp[binOp,Op.shift,hn]⟩;split at h;cases h;rename_i hn;simp at h;subst h;exact⟨_, .i _ _,λw=>by simp only[uC,o,uA];simp[binOp,Op.shift,hn]⟩;split at h;rename_i j;subst j;obtain⟨u,hu,F⟩:=Zuc (Y:=Y) (W:=W) h t;exact⟨u,hu,λw=>by simp only[uC,o,uA,F]⟩;cases h
 .rename_i l m;cases G;cases H;have o: ∀w,(eqGuard g t A B (.string ⟨l.toArray⟩) (.string ⟨m.toArray⟩)).run Y.P w= .ok () w:=λw=>by cases g<;>rfl
  obtain⟨u,hu,F⟩:=Zud (Y:=Y) (W:=W) h t;exact⟨u,hu,λw=>by simp only[uC,o,uA,F]⟩
 .cases G;cases H;have o:(Zas A||Zas B)=true-> ∀w,(eqGuard g t A B .nilIface .nilIface).run Y.P w= .ok () w:=by
   intro N w;cases A<;>cases B<;>simp[Zas]at N<;>cases g<;>rfl
  have F: ∀K,Y.P.underlying t=some (.interface K)-> ∀w,(Op.equal t .nilIface .nilIface).run Y.P w= .ok true w:=λK hd w=>by
   show(Op.equalIn (9999+1) t .nilIface .nilIface).run Y.P w= .ok true w;generalize 9999=n;simp only[Op.equalIn,uC,Zg hd,uA,uD]
  split at h;rename_i j;obtain⟨C,f,e⟩:=XH j;obtain⟨i,d,z,p⟩:=L.ty t C f;have c:=p.kd;rw[e]at c;obtain⟨K,rfl⟩:=c;split at h;rename_i N;simp at h;subst h;exact⟨_, .b _,λw=>by simp only[uC,o N,uA,binOp,F K p.und,uD]⟩;cases h;rename_i j;obtain⟨C,f,e⟩:=XH j;obtain⟨i,d,z,p⟩:=L.ty t C f;have c:=p.kd;rw[e]at c;obtain⟨K,rfl⟩:=c;split at h;rename_i N;simp at h;subst h;exact⟨_, .b _,λw=>by simp only[uC,o N,uA,binOp,F K p.und,uD,Bool.not_true]⟩;cases h;cases h
 .rename_i xs ys
  cases G with
  |agg _ us a0=>
   cases H with
   |agg _ vs a1=>
    cases j:Y.kd t with
    |none=>simp[j]at h
    |some kd=>
    simp only[j]at h;obtain⟨C,f,e⟩:=XH j;obtain⟨i,d,z,p⟩:=L.ty t C f;have c:=p.kd;rw[e]at c;split at h
    case isFalse=>cases h
    rename_i q;have Z:Y.P.eqGuardType Y.P.depth t=false:=by
     cases kd<;>simp[Kd.agg]at q
     .exact c.2
     .obtain⟨_,_,_,_,_,o⟩:=c;exact o
    rw[<-e]at q;have O: ∀r,eqTy Y 8 t xs ys=some r->(∀w,(Op.equal t (.agg us.toArray) (.agg vs.toArray)).run Y.P w= .ok r w)/\ ∀g w,(eqGuard g t A B (.agg us.toArray) (.agg vs.toArray)).run Y.P w= .ok () w:=by
     intro r s;refine⟨λw=> ?_,λg w=>run_eqGuard_agg w g t A B _ _ Z⟩;exact Znv L 8 t xs ys r s us vs a0 a1 C f _ _ (by simp[q]) (by simp[q]) 10000 w om
    split at h;rename_i r s;simp at h;subst h;obtain⟨D,E⟩:=O r s;exact⟨_, .b _,λw=>by simp only[uC,E,uA,binOp,D,uD]⟩;rename_i r s;simp at h;subst h;obtain⟨D,E⟩:=O r s;exact⟨_, .b _,λw=>by simp only[uC,E,uA,binOp,D,uD]⟩;cases h
 .split at h
  .rename_i kd j;obtain⟨C,f,e⟩:=XH j;obtain⟨i,d,z,p⟩:=L.ty t C f;subst e;split at h
   .rename_i r s;simp at h;subst h;exact⟨_, .b _,λw=>by
     obtain⟨D,E,X⟩:=ZCs p s G H w;simp only[uC,X,uD,uA,D]⟩
   .rename_i r s;simp at h;subst h;exact⟨_, .b _,λw=>by
     obtain⟨D,E,X⟩:=ZCs p s G H w;simp only[uC,X,uD,uA,E]⟩
   .cases h
  .cases h
end
section
variable {Y:YP} {W:Vw} {σ:St} {a:Act} {w:World}
theorem ZIy{d:UnOp}{x v:V}(h:unY d x=some v){e}(c:VR W x e): ∃u,VR W v u/\ ∀w,(Op.unary d e).run Y.P w= .ok u w:=by
 unfold unY at h;split at h;cases c;simp at h;subst h;exact⟨_, .b _,λw=>rfl⟩;cases c;simp at h;subst h;exact⟨_, .i _ _,λw=>by simp[Op.unary,Op.intArith]⟩;cases c;simp only[uB]at h;subst h;exact⟨_, .i _ _,λw=>rfl⟩;cases h
theorem Zun(p:YOK Y)(h:Rel W σ a w){t:TypeId}{x:Operand}{e}(g:Y.ty t=some e){ad:Ad}(f:addr σ x=some ad){v:V}
  (j:(Xt σ e.size ad).bind (Jh e.kd.agg)=some v): ∃u,VR W v u/\ ∀b,Same w b->(Instr.loadAt t (a.eval x)).run Y.P b= .ok u b:=by
 obtain⟨i,d,z,c⟩:=p.ty t e g;obtain⟨y,B,s⟩:=Zcy h f;obtain⟨l,r,j⟩:=Option.bind_eq_some_iff.1 j;obtain⟨C,m,n,o⟩:=VH h s r;obtain⟨u,A,q⟩:=Zg8 m j;refine⟨u,A,λb k=> ?_⟩;rw[B];simp only[Instr.loadAt,Instr.sureAddr,uC,uD,uA];exact Zku c.und c.info b y C (by rw[n,c.size]) (o.same k) u (by rw[c.agg];exact q)
theorem Ze6(n:YOK Y){t:TypeId}{j:List (Nat×TypeId)}(h:fieldsOf Y t=some j):
  ∃l:Array Field,Y.P.underlying t=some (.struct l)/\j=l.toList.map (λf=>(f.offset,f.type)):=by
 unfold fieldsOf at h;split at h;rename_i m o;simp at h;subst h;obtain⟨p,g,e⟩:=XH o;obtain⟨i,d,z,k⟩:=n.ty t p g;have b:=k.kd;rw[e]at b;obtain⟨l,rfl,c,_⟩:=b;exact⟨l,k.und,c⟩;cases h
theorem Zuo(n:YOK Y)(h:Rel W σ a w){t}{x}{f:Nat}{ad:Ad}(b:Zg7 Y σ t x f=some ad):
  ∃y,AdR W σ a ad y/\ ∀e,Same w e->(Instr.fieldAt t (a.eval x) f).run Y.P e= .ok (.pointer (some y)) e:=by
 unfold Zg7 at b;split at b
 .rename_i G j;obtain⟨l,v,rfl⟩:=Ze6 n j;split at b
  .rename_i D s F p u;obtain⟨y,C,A⟩:=Zcy h u;split at b
   .rename_i E m;split at b
    .rename_i B;simp at b;subst b;obtain⟨i,d,z,q⟩:=n.ty s E m;rw[vH,uG]at p;obtain⟨r,g,o⟩:=p;simp at o;obtain⟨rfl,rfl⟩:=o;refine⟨_,A.shift _,λe _=> ?_⟩;have c:l[f]? =some r:=su g;have k:i.size≠0:=by rw[q.size];exact B
     rw[C];simp only[Instr.fieldAt,uC,Zg v,uA,c,Instr.sureAddr,uD,fieldPlace,ZS q.info,Sem.run_ite,k,vF]
    .cases b
   .cases b
  .cases b
 .cases b
theorem Zup(D:YOK Y)(h:Rel W σ a w){t}{x E}{ad:Ad}(g:Zbj Y σ t x (ev σ.env E)=some ad):
  ∃y,AdR W σ a ad y/\ ∀l,Same w l->(Instr.indexAt t (a.eval x) (a.eval E)).run Y.P l= .ok (.pointer (some y)) l:=by
 have j:=h.ev E;unfold Zbj at g;split at g;rename_i n e k i hk X;rw[X]at j;generalize a.eval E=ui at j;cases j;obtain⟨ti,r,q⟩:=XH hk;obtain⟨a2,d,z,A⟩:=D.ty t ti r;have m:=A.kd;rw[q]at m;obtain⟨rfl,_⟩:=m;split at g;rename_i u a0 p N;split at g;rename_i v;simp at g;subst g;obtain⟨ie,de,ze,b⟩:=D.ty e u p;obtain⟨y,hy,hr⟩:=Zcy h N;refine⟨_,hr.shift _,λl _=> ?_⟩;rw[hy];simp only[Instr.indexAt,asIntOf,uC,Zg A.und,uA,Instr.sureAddr,uD,Sem.run_ite];rw[uF ⟨v.1,v.2.1⟩];simp only[ZS b.info,uA,b.size];cases g;cases g
 .rename_i e k i hk X;rw[X]at j;generalize a.eval E=ui at j;cases j;obtain⟨ti,r,q⟩:=XH hk;obtain⟨a2,d,z,A⟩:=D.ty t ti r;have m:=A.kd;rw[q]at m;cases m;have B:=h.ev x;split at g
  .rename_i u id o F cap k' p s;rw[s]at B;generalize a.eval x=ux at B;split at g
   .rename_i v;obtain⟨K,L,h2,rfl⟩:=v;simp at g;subst g;obtain⟨ie,de,ze,b⟩:=D.ty e u p
    cases B with
    |sls _ _ _ _ _ y f Z hl _ N _ _=>
     refine⟨y.add (i.toNat*u.size),⟨Z,λhv=> ?_⟩,λl _=> ?_⟩;rw[N hv om];unfold Vw.at;rw[Wc,uX];simp only[Instr.indexAt,asIntOf,uC,Zg A.und,uA,uD,Sem.run_ite];rw[uF ⟨K,L⟩];simp only[ZS b.info,uA,b.size]
   .cases g
  .rename_i u cs F cap p s;rw[s]at B;generalize a.eval x=ux at B;split at g
   .rename_i v;obtain⟨K,L,h2⟩:=v;simp at g;subst g;obtain⟨ie,de,ze,b⟩:=D.ty e u p;have H: ∀(y:Addr) (f:Nat) l,(Instr.indexAt t (.slice (some y) F f) (.int k i)).run Y.P l= .ok (.pointer (some (y.add (i.toNat*u.size)))) l:=by
     intro y f l;simp only[Instr.indexAt,asIntOf,uC,Zg A.und,uA,uD,Sem.run_ite];rw[uF ⟨K,L⟩];simp only[ZS b.info,uA,b.size]
    cases B with
    |tsn _ _ y f=>exact⟨_, .inl sm,λl _=>H y f l⟩
    |tsz=>omega
    |ts _ _ _ f C G c et fr us hl a3 hs O hr=>
     have a1:AdR W σ a (.ro cs) ⟨C,G,none⟩:= .inr ⟨C,G,c,et,fr,us,rfl,hs,O,hr⟩;exact⟨_,a1.shift _,λl _=>H _ f l⟩
   .cases g
  .cases g
 .cases g
theorem Zi1{v:V}{u:Value}(h:VR W v u)(G:Zp v.cells=true):VRs W v.cells u.cells.toList:=by
 cases h with
 |agg z D h=>simpa[V.cells,Value.cells]using h
 |undef u=>simp[V.cells,Zp,V.cellOK]at G
 |tup z D h=>simp[V.cells,Zp,V.cellOK]at G
 |b x=>exact .cons _ _ _ _ (.b x) .nil
 |i k n=>exact .cons _ _ _ _ (.i k n) .nil
 |s l=>exact .cons _ _ _ _ (.s l) .nil
 |pn=>exact .cons _ _ _ _ .pn .nil
 |ps y m a j A=>exact .cons _ _ _ _ (.ps y m a j A) .nil
 |tpn a=>exact .cons _ _ _ _ (.tpn a) .nil
 |tp z p m c e E D F d C=>exact .cons _ _ _ _ (.tp z p m c e E D F d C) .nil
 |sln c k=>exact .cons _ _ _ _ (.sln c k) .nil
 |sls y m o cap k a g j q d A K H=>exact .cons _ _ _ _ (.sls y m o cap k a g j q d A K H) .nil
 |tsn o cap a g q d=>exact .cons _ _ _ _ (.tsn o cap a g q d) .nil
 |tsz cap d=>exact .cons _ _ _ _ (.tsz cap d) .nil
 |ts z o cap g p m c e E D q B F d C=>exact .cons _ _ _ _ (.ts z o cap g p m c e E D q B F d C) .nil
 |mpn=>exact .cons _ _ _ _ .mpn .nil
 |mps y r j C=>exact .cons _ _ _ _ (.mps y r j C) .nil
 |fn f a c L N A d=>exact .cons _ _ _ _ (.fn f a c L N A d) .nil
 |nilfn=>exact .cons _ _ _ _ .nilfn .nil
 |ifc t v u h=>exact .cons _ _ _ _ (.ifc t v u h) .nil
 |nilifc=>exact .cons _ _ _ _ .nilifc .nil
 |yl y l j q=>exact .cons _ _ _ _ (.yl y l j q) .nil
theorem Jm: ∀ {d:List V} {e:List Value},VRs W d e->Zp d=true-> ∀u∈e,u.oneCell'=true
 |_,_, .nil,_,u,b=>by simp at b
 |_,_, .cons v g l m h f,c,u,b=>by
  simp only[Zp,uH]at c;rcases List.mem_cons.1 b with rfl|b
  .cases h<;>first|rfl|(simp[V.cellOK]at c)
  .exact Jm f c.2 u b
theorem Zkv(n:Nat): ∀(c:List Value) (k:Nat) (b:Array Value),n+k+c.length<=b.size->
  ((c.zipIdx k).foldl (λb (p:Value×Nat)=>b.setIfInBounds (n+p.2) p.1) b).toList=splice b.toList (n+k) c
 | [],k,b,h=>by
  apply vA;intro j;rw[Xs _ _ _ _ (su h)];simp only[List.zipIdx_nil,List.foldl_nil];split;rename_i d;simp at d;omega;rfl
 |v::c,k,b,h=>by
  simp only[List.length_cons]at h;simp only[List.zipIdx_cons,uR];rw[Zkv n c (k+1) _ (by simp;omega)];apply vA;intro j;rw[Xs _ _ _ _ (by simp;omega),Xs _ _ _ _ (by simp;omega)];simp only[List.length_cons,Array.getElem?_toList,Array.getElem?_setIfInBounds];by_cases d:j=n+k;subst d;rw[uE om,uF om];simp;omega;by_cases f:n+(k+1)<=j/\j<n+(k+1)+c.length;rw[uF f,uF om];obtain⟨q,g⟩: ∃q,j=n+k+(q+1):=⟨j-(n+k+1),om⟩;subst g;rw[show n+k+(q+1)-(n+(k+1))=q from om,show n+k+(q+1)-(n+k)=q+1 from om];simp;rw[uE f,uE (by omega: ¬(n+k<=j/\j<n+k+(c.length+1))),uE (λe:n+k=j=>d e.symm)]
theorem Zi2(h:Rel W σ a w){d:Nat->Option (Nat×Nat)} : ∀(c:List (Nat×Operand)) (j r:List V) (i:List Value),VRs W j i->
  Wb (ev σ.env) d c j=some r-> ∃f,VRs W r f/\Instr.fill d i.toArray (c.map λp=>(p.1,a.eval p.2))=some f.toArray
 | [],j,r,i,k,e=>by simp[Wb]at e;subst e;exact⟨i,k,by simp[Instr.fill]⟩
 |p::rest,j,r,i,k,e=>by
  simp only[Wb]at e;split at e
  .rename_i b g B;split at e
   .rename_i y;obtain⟨q,s,t⟩:=y;have m:=Zi1 (h.ev p.2) t;have z:=m.length;have A:=k.length;have l:=k.splice m b s;obtain⟨f,u,v⟩:=Zi2 h rest _ r _ l e;refine⟨f,u,?_⟩;simp only[List.map_cons,Instr.fill,B];have n:(a.eval p.2).cells.size=g:=by rw[<-Array.length_toList,<-z,q]
    have o: ¬((a.eval p.2).cells.size≠g\/b+(a.eval p.2).cells.size>i.toArray.size):=by
     rw[n];simp;omega
    rw[uE (su o)];rw[<-v]
    congr 1
    have hz:(a.eval p.2).cells.zipIdx.foldl (λj x=>j.setIfInBounds (b+x.2) x.1) i.toArray=(splice i b (a.eval p.2).cells.toList).toArray:=by
     apply Array.ext';rw[<-Array.foldl_toList,Array.toList_zipIdx];rw[Zkv b _ 0 _ (by simp;omega)];simp
    exact hz
   .cases e
  .cases e
end
section
variable {Y:YP} {W:Vw} {σ:St} {a:Act} {w:World}
def OR(W:Vw):Option V->Option Value->Prop
 |some v,some u=>VR W v u
 |none,none=>True
 |_,_=>False
theorem Zkw{y d n:Nat}{o:Option V}(h:bnd y d o=some n):(o=none->n=d)/\(o≠none->n<=y):=by
 cases o with
 |none=>simp only[bnd,uB]at h;exact⟨λ_=>h.symm,λb=>absurd rfl b⟩
 |some v=>
  refine⟨λb=>(nomatch b),λ_=> ?_⟩;cases v<;>simp[bnd]at h
  omega
theorem Ja{y d n:Nat}{v}(h:bnd y d (some v)=some n){u}(f:VR W v u){c:Nat}(g:y<=c)(b:BoundsCode)(w:World):
  (Instr.sliceBound u c b).run Y.P w= .ok n w:=by
 cases v<;>simp only[bnd,reduceCtorEq]at h
 split at h;rename_i k m e;simp at h;subst h;cases f;exact run_sliceBound w k m c b e.1 om;cases h
theorem We{y d k cap l h:Nat}{n o:Option V}(i:QW y d n o=some (l,h)){c g:Option Value}(b:OR W n c)(f:OR W o g)(p:y<=cap)(q:d=k)
  (e:Bool) (w:World):(Instr.sliceBounds e k cap c g none).run Y.P w= .ok (l,h,cap) w:=by
 unfold QW at i;split at i
 .rename_i r m;split at i
  .rename_i s j;simp at i;obtain⟨rfl,rfl⟩:=i
   cases o with
   |none=>
    cases g with
    |some u=>exact f.elim
    |none=>
     simp only[bnd,uB]at m;subst m q
     cases n with
     |none=>cases c with
      |some u=>exact b.elim
      |none=>
       simp only[bnd,uB]at j;subst j;simp only[Instr.sliceBounds,uC,uD,uA]
     |some v=>cases c with
      |none=>exact b.elim
      |some u=>simp only[Instr.sliceBounds,uC,uD,uA,Ja j b (Nat.le_refl _)]
   |some v=>
    cases g with
    |none=>exact f.elim
    |some u=>
     cases n with
     |none=>cases c with
      |some u=>exact b.elim
      |none=>
       simp only[bnd,uB]at j;subst j;simp only[Instr.sliceBounds,uC,uD,uA,Ja m f p]
     |some v=>cases c with
      |none=>exact b.elim
      |some u=>simp only[Instr.sliceBounds,uC,uD,uA,Ja m f p,Ja j b (Nat.le_refl _)]
  .cases i
 .cases i
theorem WC{y m len cap l h:Nat}{j:Option V}{r s}(n:bnd y 0 (some s)=some m)(d:QW m 0 j (some r)=some (l,h)){c:Option Value}{p q:Value}(e:OR W j c)
  (f:VR W r p) (g:VR W s q) (o:y<=cap) (b:Bool) (w:World):(Instr.sliceBounds b len cap c (some p) (some q)).run Y.P w= .ok (l,h,m) w:=by
 unfold QW at d;split at d
 .rename_i t k;split at d
  .rename_i x i;simp at d;obtain⟨rfl,rfl⟩:=d
   cases j with
   |none=>cases c with
    |some u=>exact e.elim
    |none=>
     simp only[bnd,uB]at i;subst i;simp only[Instr.sliceBounds,uC,Ja n g o,Ja k f (Nat.le_refl _),uA,uD]
   |some v=>cases c with
    |none=>exact e.elim
    |some u=>simp only[Instr.sliceBounds,uC,Ja n g o,Ja k f (Nat.le_refl _),Ja i e (Nat.le_refl _),uA,uD]
  .cases d
 .cases d
theorem Jn{y d l h:Nat}{f e:Option V}(b:QW y d f e=some (l,h)):l<=h/\(e=none->h=d)/\(e≠none->h<=y):=by
 unfold QW at b;split at b;rename_i o m;split at b;rename_i p n;simp at b;obtain⟨rfl,rfl⟩:=b;obtain⟨g,i⟩:=Zkw m;obtain⟨j,k⟩:=Zkw n;refine⟨?_,g,i⟩;by_cases c:f=none;rw[j c];omega;exact k c;cases b;cases b
theorem OR.some{v}{b:Option Value}(h:OR W (Option.some v) b): ∃u,b=Option.some u/\VR W v u:=by
 cases b with
 |none=>exact h.elim
 |some u=>exact⟨u,rfl,h⟩
theorem OR.none{b:Option Value}(h:OR W Option.none b):b=Option.none:=by
 cases b with
 |none=>rfl
 |some u=>exact h.elim
theorem Zdw(l:List UInt8)(x y:Nat):(⟨l.toArray⟩:ByteArray).extract x y=⟨((l.drop x).take (y-x)).toArray⟩:=by
 apply ByteArray.ext;rw[ByteArray.data_extract];simp
theorem Zzr(hY:YOK Y){t}{v r}{lo hi mx:Option V}(h:Zbi Y t v lo hi mx=Option.some r){u}{a1 a0 a2:Option Value}(H:VR W v u)(G:OR W lo a1)(E:OR W hi a0)
  (C:OR W mx a2): ∃u',VR W r u'/\ ∀w,(Instr.sliceAt t u a1 a0 a2).run Y.P w= .ok u' w:=by
 unfold Zbi at h;split at h;rename_i F;obtain⟨ti,a8,a6⟩:=XH F;obtain⟨i,d,z,ht⟩:=hY.ty t ti a8;have Z:=ht.kd;rw[a6]at Z;cases Z;split at h;rename_i l;split at h;rename_i x y B;simp at h;subst h;cases H;have:=C.none;subst this;refine⟨_, .s _,λw=> ?_⟩;have hr:=We (Y:=Y) B G E (Nat.le_refl _) rfl false w;have hs:(⟨l.toArray⟩:ByteArray).size=l.length:=rfl;simp only[Instr.sliceAt,Instr.slice,uC,Zg ht.und,uA,Option.isSome_none,uI,vF,hs,hr,uD,Zdw];cases h;cases h
 .rename_i e F;obtain⟨ti,a8,a6⟩:=XH F;obtain⟨i,d,z,ht⟩:=hY.ty t ti a8;have Z:=ht.kd;rw[a6]at Z;cases Z;split at h;cases h
  .rename_i A c0;obtain⟨ie,de,ze,a4⟩:=hY.ty e A c0;have K: ∀(ao:Option Addr) (g cap l h m:Nat) w,(Instr.sliceBounds true g cap a1 a0 a2).run Y.P w= .ok (l,h,m) w->
     (Instr.sliceAt t (.slice ao g cap) a1 a0 a2).run Y.P w= .ok (.slice (if m=l then ao else ao.map (·.add (l*A.size))) (h-l) (m-l)) w:=by
    intro ao g cap l h m w hr;simp only[Instr.sliceAt,Instr.slice,uC,Zg ht.und,uA,hr,ZS a4.info,uD,a4.size]
   split at h
   .rename_i n c k;split at h
    .split at h
     .rename_i m hm;split at h
      .rename_i lh B;obtain⟨l,hh⟩:=lh;split at h;cases h
       .rename_i b8;simp at h;subst h;cases H;refine⟨_, .sln _ _,λw=> ?_⟩;have f:=Jn B
        cases mx with
        |none=>
         have:=C.none;subst this;have hr:=We (Y:=Y) B G E (Nat.le_refl 0) rfl true w;rw[K none 0 0 l hh 0 w hr];have h0:hh=0:=by
          by_cases X:hi=none;exact f.2.1 X;have:=f.2.2 X;omega
         subst h0;simp
        |some vm=>
         obtain⟨um,rfl,N⟩:=C.some
         cases hi with
         |none=>simp at b8
         |some vh=>
          obtain⟨uh,rfl,L⟩:=E.some;have a7:m=0:=by have:=(Zkw hm).2 sm;omega
          subst a7;have hr:=WC (Y:=Y) (len:=0) hm B G L N (Nat.le_refl 0) true w;rw[K none 0 0 l hh 0 w hr];have h0:hh=0:=by have:=f.2.2 sm;omega
          subst h0;simp
      .cases h
     .cases h
    .cases h
   .rename_i id o g c k;split at h
    .rename_i b7;subst b7
     cases H with
     |sls _ _ _ _ _ y b b2 hl hc ha hn b3=>
      have b1:c.getD g<=b:=by
       cases c with
       |none=>simpa using hl
       |some c=>have:=hc c rfl;simp;omega
      cases mx with
      |none=>
       have:=C.none;subst this;simp only at h;split at h
       .rename_i x q B;simp at h;subst h;have f:=Jn B;have hq:q<=b:=by
         by_cases X:hi=none;rw[f.2.1 X];exact hl;have:=f.2.2 X;omega
        refine⟨_,?_,λw=>K (some y) g b x q b w (We (Y:=Y) B G E b1 rfl true w)⟩;have p:(if b=x then some y else(some y).map (·.add (x*A.size)))=some (if b=x then y else y.add (x*A.size)):=by split<;>rfl
        rw[p];refine .sls id (o+x*A.size) (q-x) (c.map (· - x)) A.size _ (b-x) b2 om (λc' D=> ?_) (λH hp=> ?_) (λH a5=> ?_) (λH=> ?_)
        .cases c with
         |none=>simp at D
         |some c=>have:=hc c rfl;simp at D;omega
        .rw[uE om,ha H om];unfold Vw.at;rw[Wc,uX]
        .cases c with
         |none=>
          have:=hn H rfl;have hx:x*A.size+(b-x)*A.size=b*A.size:=by rw[<-ur];congr 1;omega
          omega
         |some c=>simp at a5
        .have:=b3 H;have hx:x*A.size+(b-x)*A.size=b*A.size:=by rw[<-ur];congr 1;omega
         omega
       .cases h
      |some vm=>
       obtain⟨um,rfl,N⟩:=C.some;simp only at h;split at h
       .rename_i m hm
        cases hi with
        |none=>simp at h
        |some vh=>
         obtain⟨uh,rfl,L⟩:=E.some;simp only[Option.isNone_some,uI,vF]at h;split at h
         .rename_i x q B;simp at h;subst h;have f:=Jn B;have b9:m<=b:=by have:=(Zkw hm).2 sm;omega
          have hq:q<=m:=f.2.2 sm;refine⟨_,?_,λw=>K (some y) g b x q m w (WC (Y:=Y) hm B G L N b1 true w)⟩;have p:(if m=x then some y else(some y).map (·.add (x*A.size)))=some (if m=x then y else y.add (x*A.size)):=by split<;>rfl
          rw[p];refine .sls id (o+x*A.size) (q-x) (some (m-x)) A.size _ (m-x) b2 om (λc' D=>by simp at D;exact D.symm▸rfl) (λH hp=> ?_) (λH a5=>nomatch a5) (λH=> ?_);rw[uE om,ha H om];unfold Vw.at;rw[Wc,uX]
          .have:=b3 H;have hx:x*A.size+(m-x)*A.size=m*A.size:=by rw[<-ur];congr 1;omega
           have hy:m*A.size<=b*A.size:=Nat.mul_le_mul_right _ b9;omega
         .cases h
       .cases h
    .cases h
   .rename_i cs g c
    -- read-only
    have O: ∀(y:Addr) (b x q m:Nat) (c':Option Nat),x<=q->q<=m->(∀k,c'=some k->m-x=k)->VR W (.ts cs g c) (.slice (some y) g b)->
      VR W (.ts ((cs.drop (x*A.size)).take ((q-x)*A.size)) (q-x) c') (.slice (some (if m=x then y else y.add (x*A.size))) (q-x) (m-x)):=by
     intro y b x q m c' c3 c2 D c1;by_cases C:m=x;have:q=x:=om;subst this;simp only[vM,Nat.zero_mul,uQ];exact .tsn 0 c' _ _ om (λk F=>by rw[<-D k F])
     .rw[uE C]
      cases c1 with
      |tsn _ _ _ _ hl hc=>simp;exact .tsn _ _ _ _ om (λk F=>D k F)
      |ts _ _ _ _ a9 b5 cc et fr us hl a3 hs b0 hr=>
       rw[Wc];refine .ts _ _ _ _ a9 (b5+x*A.size) cc et fr ((us.drop (x*A.size)).take ((q-x)*A.size)) om (λk F=>D k F) hs (λj u hj=> ?_) ((hr.drop _).take _);rw[List.getElem?_take]at hj;split at hj;rw[uz]at hj;rw[uX];exact b0 _ _ hj;cases hj
    by_cases hnz:u= .slice none 0 0
    .have b4:g=0/\cs= []/\ ∀k,c=some k->k=0:=by
      subst hnz
      cases H with
      |tsz _ hc=>exact⟨rfl,rfl,hc⟩
     obtain⟨rfl,rfl,b6⟩:=b4;subst hnz
     cases mx with
     |none=>
      have:=C.none;subst this;simp only at h;split at h
      .rename_i x q B;simp at h;subst h;have f:=Jn B;have hq:q=0:=by
        by_cases X:hi=none;exact f.2.1 X;have:=f.2.2 X;omega
       subst hq;have hx:x=0:=om;subst hx;refine⟨_, .tsz _ (λk F=> ?_),λw=> ?_⟩
       .cases c with
        |none=>simp at F
        |some k'=>have:=b6 k' rfl;simp at F;omega
       .rw[K none 0 0 0 0 0 w (We (Y:=Y) B G E (Nat.le_refl 0) rfl true w)];simp
      .cases h
     |some vm=>
      obtain⟨um,rfl,N⟩:=C.some;simp only at h;split at h
      .rename_i m hm
       cases hi with
       |none=>simp at h
       |some vh=>
        obtain⟨uh,rfl,L⟩:=E.some;simp only[Option.isNone_some,uI,vF]at h;split at h
        .rename_i x q B;simp at h;subst h;have f:=Jn B;have a7:m=0:=by have:=(Zkw hm).2 sm;omega
         subst a7;have hq:q=0:=by have:=f.2.2 sm;omega
         subst hq;have hx:x=0:=om;subst hx;refine⟨_, .tsz _ (λk F=>su F.symm),λw=> ?_⟩;rw[K none 0 0 0 0 0 w (WC (Y:=Y) (len:=0) hm B G L N (Nat.le_refl 0) true w)];simp
        .cases h
      .cases h
    have shape: ∃y b,u= .slice (some y) g b/\g<=b/\(∀k,c=some k->b=k):=by
     cases H with
     |tsz _ _=>exact absurd rfl hnz
     |tsn _ _ y b hl hc=>exact⟨y,b,rfl,hl,hc⟩
     |ts _ _ _ b a9 b5 cc et fr us hl a3 hs b0 hr=>exact⟨_,b,rfl,hl,a3⟩
    obtain⟨y,b,rfl,hl,hc⟩:=shape
    cases mx with
    |none=>
     have:=C.none;subst this;simp only at h;split at h
     .rename_i x q B;simp at h;subst h;have f:=Jn B;have hq:q<=g:=by
       by_cases X:hi=none;rw[f.2.1 X];omega;exact f.2.2 X
      refine⟨_,?_,λw=>K (some y) g b x q b w (We (Y:=Y) B G E hl rfl true w)⟩;have p:(if b=x then some y else(some y).map (·.add (x*A.size)))=some (if b=x then y else y.add (x*A.size)):=by split<;>rfl
      rw[p];refine O y b x q b (c.map (· - x)) f.1 om (λk F=> ?_) H
      cases c with
      |none=>simp at F
      |some c=>have:=hc c rfl;simp at F;omega
     .cases h
    |some vm=>
     obtain⟨um,rfl,N⟩:=C.some;simp only at h;split at h
     .rename_i m hm
      cases hi with
      |none=>simp at h
      |some vh=>
       obtain⟨uh,rfl,L⟩:=E.some;simp only[Option.isNone_some,uI,vF]at h;split at h
       .rename_i x q B;simp at h;subst h;have f:=Jn B;have hq:q<=m:=f.2.2 sm;refine⟨_,?_,λw=>K (some y) g b x q m w (WC (Y:=Y) hm B G L N hl true w)⟩;have p:(if m=x then some y else(some y).map (·.add (x*A.size)))=some (if m=x then y else y.add (x*A.size)):=by split<;>rfl
        rw[p];exact O y b x q m (some (m-x)) f.1 hq (λk F=>su F) H
       .cases h
     .cases h
   .cases h
 .cases h
end
end Go.Y
