/- A part of the proof. -/
import Derived.Test.YteennilbmmlikaaGreatDoorYRel
import Derived.Laws.Entries
import Derived.Laws.Slices
namespace Go.Y
set_option maxRecDepth 1000000
set_option maxHeartbeats 0
section
variable {Y:YP} {W:Vw} {σ:St} {a:Act} {w:World}

theorem Zpf{t:TypeId}(hd:Y.P.underlying t=some .bool){x y:Bool}{u v:Value}(hx:VR W (.b x) u)(hy:VR W (.b y) v)(n:Nat)(w:World):
  (Op.equalIn (n+1) t u v).run Y.P w= .ok (x==y) w:=by
 cases hx;cases hy;exact run_equalIn_bool' w n t _ _ hd
theorem Zpg{t:TypeId}{e:TypeId}(hd:Y.P.underlying t=some (.pointer e)){u v:Value}(hx:VR W (.p none) u)(hy:VR W (.p none) v)(n:Nat)(w:World):
  (Op.equalIn (n+1) t u v).run Y.P w= .ok true w:=by
 cases hx<;>cases hy<;>simp only[Op.equalIn,Sem.run_bind,Ze hd,Result.andThen_ok,Sem.run_pure]<;>rfl
theorem Zph{t:TypeId}{e:TypeId}(hd:Y.P.underlying t=some (.pointer e)){q:Nat×Nat}{u v:Value}(hx:VR W (.p none) u)(hy:VR W (.p (some q)) v)(n:Nat)(w:World):
  (Op.equalIn (n+1) t u v).run Y.P w= .ok false w:=by
 cases hx<;>cases hy<;>simp only[Op.equalIn,Sem.run_bind,Ze hd,Result.andThen_ok,Sem.run_pure]<;>rfl
theorem Zpi{t:TypeId}{e:TypeId}(hd:Y.P.underlying t=some (.pointer e)){q:Nat×Nat}{u v:Value}(hx:VR W (.p (some q)) u)(hy:VR W (.p none) v)(n:Nat)(w:World):
  (Op.equalIn (n+1) t u v).run Y.P w= .ok false w:=by
 cases hx<;>cases hy<;>simp only[Op.equalIn,Sem.run_bind,Ze hd,Result.andThen_ok,Sem.run_pure]<;>rfl
theorem Zpj{t:TypeId}{e:TypeId}(hd:Y.P.underlying t=some (.pointer e)){cs:List V}{u v:Value}(hx:VR W (.p none) u)(hy:VR W (.tp cs) v)(n:Nat)(w:World):
  (Op.equalIn (n+1) t u v).run Y.P w= .ok false w:=by
 cases hx<;>cases hy<;>simp only[Op.equalIn,Sem.run_bind,Ze hd,Result.andThen_ok,Sem.run_pure]<;>rfl
theorem Zpk{t:TypeId}{e:TypeId}(hd:Y.P.underlying t=some (.pointer e)){cs:List V}{u v:Value}(hx:VR W (.tp cs) u)(hy:VR W (.p none) v)(n:Nat)(w:World):
  (Op.equalIn (n+1) t u v).run Y.P w= .ok false w:=by
 cases hx<;>cases hy<;>simp only[Op.equalIn,Sem.run_bind,Ze hd,Result.andThen_ok,Sem.run_pure]<;>rfl
theorem Zj4{t:TypeId}{e:TypeId}(hd:Y.P.underlying t=some (.slice e)){l:Nat}{c:Option Nat}{k:Nat}{l':Nat}{c':Option Nat}{k':Nat}{u v:Value}(hx:VR W (.sl none l c k) u)(hy:VR W (.sl none l' c' k') v)(n:Nat)(w:World):
  (Op.equalIn (n+1) t u v).run Y.P w= .ok true w:=by
 cases hx<;>cases hy<;>simp only[Op.equalIn,Sem.run_bind,Ze hd,Result.andThen_ok,Sem.run_pure]<;>rfl
theorem Zj5{t:TypeId}{e:TypeId}(hd:Y.P.underlying t=some (.slice e)){l:Nat}{c:Option Nat}{k:Nat}{q:Nat×Nat}{l':Nat}{c':Option Nat}{k':Nat}{u v:Value}(hx:VR W (.sl none l c k) u)(hy:VR W (.sl (some q) l' c' k') v)(n:Nat)(w:World):
  (Op.equalIn (n+1) t u v).run Y.P w= .ok false w:=by
 cases hx<;>cases hy<;>simp only[Op.equalIn,Sem.run_bind,Ze hd,Result.andThen_ok,Sem.run_pure]<;>rfl
theorem Zj6{t:TypeId}{e:TypeId}(hd:Y.P.underlying t=some (.slice e)){q:Nat×Nat}{l:Nat}{c:Option Nat}{k:Nat}{l':Nat}{c':Option Nat}{k':Nat}{u v:Value}(hx:VR W (.sl (some q) l c k) u)(hy:VR W (.sl none l' c' k') v)(n:Nat)(w:World):
  (Op.equalIn (n+1) t u v).run Y.P w= .ok false w:=by
 cases hx<;>cases hy<;>simp only[Op.equalIn,Sem.run_bind,Ze hd,Result.andThen_ok,Sem.run_pure]<;>rfl
theorem Zj7{t:TypeId}{e:TypeId}(hd:Y.P.underlying t=some (.slice e)){l:Nat}{c:Option Nat}{k:Nat}{cs:List V}{l':Nat}{c':Option Nat}{u v:Value}(hx:VR W (.sl none l c k) u)(hy:VR W (.ts cs l' c') v)(h0:l'≠0)(n:Nat)(w:World):
  (Op.equalIn (n+1) t u v).run Y.P w= .ok false w:=by
 cases hx<;>cases hy<;>first|exact absurd rfl h0|(simp only[Op.equalIn,Sem.run_bind,Ze hd,Result.andThen_ok,Sem.run_pure]<;>rfl)
theorem Zj8{t:TypeId}{e:TypeId}(hd:Y.P.underlying t=some (.slice e)){cs:List V}{l:Nat}{c:Option Nat}{l':Nat}{c':Option Nat}{k':Nat}{u v:Value}(hx:VR W (.ts cs l c) u)(hy:VR W (.sl none l' c' k') v)(h0:l≠0)(n:Nat)(w:World):
  (Op.equalIn (n+1) t u v).run Y.P w= .ok false w:=by
 cases hx<;>cases hy<;>first|exact absurd rfl h0|(simp only[Op.equalIn,Sem.run_bind,Ze hd,Result.andThen_ok,Sem.run_pure]<;>rfl)
theorem Zpl{t:TypeId}{k e:TypeId}(hd:Y.P.underlying t=some (.map k e)){u v:Value}(hx:VR W (.mp none) u)(hy:VR W (.mp none) v)(n:Nat)(w:World):
  (Op.equalIn (n+1) t u v).run Y.P w= .ok true w:=by
 cases hx<;>cases hy<;>simp only[Op.equalIn,Sem.run_bind,Ze hd,Result.andThen_ok,Sem.run_pure]<;>rfl
theorem Zpm{t:TypeId}{k e:TypeId}(hd:Y.P.underlying t=some (.map k e)){q:Nat}{u v:Value}(hx:VR W (.mp none) u)(hy:VR W (.mp (some q)) v)(n:Nat)(w:World):
  (Op.equalIn (n+1) t u v).run Y.P w= .ok false w:=by
 cases hx<;>cases hy<;>simp only[Op.equalIn,Sem.run_bind,Ze hd,Result.andThen_ok,Sem.run_pure]<;>rfl
theorem Zpn{t:TypeId}{k e:TypeId}(hd:Y.P.underlying t=some (.map k e)){q:Nat}{u v:Value}(hx:VR W (.mp (some q)) u)(hy:VR W (.mp none) v)(n:Nat)(w:World):
  (Op.equalIn (n+1) t u v).run Y.P w= .ok false w:=by
 cases hx<;>cases hy<;>simp only[Op.equalIn,Sem.run_bind,Ze hd,Result.andThen_ok,Sem.run_pure]<;>rfl
theorem Znt{t:TypeId}{ps rs:Array TypeId}{b:Bool}(hd:Y.P.underlying t=some (.func ps rs b)){u v:Value}(hx:VR W (.nilfn) u)(hy:VR W (.nilfn) v)(n:Nat)(w:World):
  (Op.equalIn (n+1) t u v).run Y.P w= .ok true w:=by
 cases hx<;>cases hy<;>simp only[Op.equalIn,Sem.run_bind,Ze hd,Result.andThen_ok,Sem.run_pure]<;>rfl
theorem Znu{t:TypeId}{ps rs:Array TypeId}{b:Bool}(hd:Y.P.underlying t=some (.func ps rs b)){f:Fn}{a c:List V}{u v:Value}(hx:VR W (.nilfn) u)(hy:VR W (.fn f a c) v)(n:Nat)(w:World):
  (Op.equalIn (n+1) t u v).run Y.P w= .ok false w:=by
 cases hx<;>cases hy<;>simp only[Op.equalIn,Sem.run_bind,Ze hd,Result.andThen_ok,Sem.run_pure]<;>rfl
theorem Znv{t:TypeId}{ps rs:Array TypeId}{b:Bool}(hd:Y.P.underlying t=some (.func ps rs b)){f:Fn}{a c:List V}{u v:Value}(hx:VR W (.fn f a c) u)(hy:VR W (.nilfn) v)(n:Nat)(w:World):
  (Op.equalIn (n+1) t u v).run Y.P w= .ok false w:=by
 cases hx<;>cases hy<;>simp only[Op.equalIn,Sem.run_bind,Ze hd,Result.andThen_ok,Sem.run_pure]<;>rfl
theorem Zj9{t:TypeId}{ms:Array (String×TypeId)}(hd:Y.P.underlying t=some (.interface ms)){e:TypeId}{x:V}{u v:Value}(hx:VR W (.nilifc) u)(hy:VR W (.ifc e x) v)(n:Nat)(w:World):
  (Op.equalIn (n+1) t u v).run Y.P w= .ok false w:=by
 cases hx<;>cases hy<;>simp only[Op.equalIn,Sem.run_bind,Ze hd,Result.andThen_ok,Sem.run_pure]<;>rfl
theorem Zka{t:TypeId}{ms:Array (String×TypeId)}(hd:Y.P.underlying t=some (.interface ms)){e:TypeId}{x:V}{u v:Value}(hx:VR W (.ifc e x) u)(hy:VR W (.nilifc) v)(n:Nat)(w:World):
  (Op.equalIn (n+1) t u v).run Y.P w= .ok false w:=by
 cases hx<;>cases hy<;>simp only[Op.equalIn,Sem.run_bind,Ze hd,Result.andThen_ok,Sem.run_pure]<;>rfl
theorem ZBu{t:TypeId}{ti:TI}{i:TypeInfo}{d:TypeDesc}{z:Value}(ht:TIOK Y t ti i d z){x y:V}{r:Bool}(h:eqV ti.kd x y=some r){u v:Value}
  (hx:VR W x u) (hy:VR W y v) (n:Nat) (w:World):(Op.equalIn (n+1) t u v).run Y.P w= .ok r w:=by
 have hd:=ht.und
 have hk:=ht.kd
 generalize ti.kd=kd at h hk
 unfold eqV at h
 split at h<;>(try split at h)<;>simp only[Option.some.injEq,reduceCtorEq]at h<;>simp only[KdOK]at hk<;>subst h
 case h_1=>subst hk;exact Zpf hd hx hy n w
 case h_2=>subst hk;exact Zpg hd hx hy n w
 case h_3=>subst hk;exact Zph hd hx hy n w
 case h_4=>subst hk;exact Zpi hd hx hy n w
 case h_5=>subst hk;exact Zpj hd hx hy n w
 case h_6=>subst hk;exact Zpk hd hx hy n w
 case h_7=>subst hk;exact Zj4 hd hx hy n w
 case h_8=>subst hk;exact Zj5 hd hx hy n w
 case h_9=>subst hk;exact Zj6 hd hx hy n w
 case h_10=>subst hk;exact Zj7 hd hx hy (by assumption) n w
 case h_11=>subst hk;exact Zj8 hd hx hy (by assumption) n w
 case h_12=>subst hk;exact Zpl hd hx hy n w
 case h_13=>subst hk;exact Zpm hd hx hy n w
 case h_14=>subst hk;exact Zpn hd hx hy n w
 case h_15=>obtain⟨_,_,_,rfl⟩:=hk;exact Znt hd hx hy n w
 case h_16=>obtain⟨_,_,_,rfl⟩:=hk;exact Znu hd hx hy n w
 case h_17=>obtain⟨_,_,_,rfl⟩:=hk;exact Znv hd hx hy n w
 case h_18=>obtain⟨_,rfl⟩:=hk;exact Zj9 hd hx hy n w
 case h_19=>obtain⟨_,rfl⟩:=hk;exact Zka hd hx hy n w

theorem Zwd{t:TypeId}{ti:TI}{i:TypeInfo}{d:TypeDesc}{z:Value}(ht:TIOK Y t ti i d z){x y:V}{r:Bool}(h:eqV ti.kd x y=some r){u v:Value}
  (hx:VR W x u) (hy:VR W y v) (w:World):
  (binOp .eql t u v).run Y.P w= .ok (.bool r) w∧(binOp .neq t u v).run Y.P w= .ok (.bool (!r)) w∧ ∀op xo yo,eqGuard op t xo yo u v=pure ():=by
 have he:(Op.equal t u v).run Y.P w= .ok r w:=ZBu ht h hx hy 9999 w
 unfold eqV at h
 split at h<;>(try split at h)<;>first|(cases h;done)|skip
 all_goals cases hx<;>cases hy
 all_goals first|(exfalso;contradiction)|skip
 all_goals exact⟨by simp only[binOp,Sem.run_bind,he,Result.andThen_ok,Sem.run_pure],by simp only[binOp,Sem.run_bind,he,Result.andThen_ok,Sem.run_pure],fun op _ _=>by cases op<;>rfl⟩

theorem Zx1(hY:YOK Y){op:BinOp}{t:TypeId}{xo yo:Operand}{x y v:V}(h:binY Y op t xo yo x y=some v){u1 u2:Value}(hx:VR W x u1)(hy:VR W y u2):
  ∃u,VR W v u∧ ∀w,(do eqGuard op t xo yo u1 u2;binOp op t u1 u2:Sem Value).run Y.P w= .ok u w:=by
 unfold binY at h
 split at h
 ·rename_i k m k' n
  cases hx;cases hy
  have hg: ∀w,(eqGuard op t xo yo (.int k m) (.int k' n)).run Y.P w= .ok () w:=fun w=>by cases op<;>rfl
  split at h
  ·split at h
   ·cases h
   ·rename_i hn
    simp at h;subst h
    exact⟨_, .i _ _,fun w=>by simp only[Sem.run_bind,hg,Result.andThen_ok];simp[binOp,Op.shift,hn]⟩
  ·split at h
   ·cases h
   ·rename_i hn
    simp at h;subst h
    exact⟨_, .i _ _,fun w=>by simp only[Sem.run_bind,hg,Result.andThen_ok];simp[binOp,Op.shift,hn]⟩
  ·split at h
   ·rename_i hk
    subst hk
    obtain⟨u,hu,he⟩:=Zpd (Y:=Y) (W:=W) h t
    exact⟨u,hu,fun w=>by simp only[Sem.run_bind,hg,Result.andThen_ok,he]⟩
   ·cases h
 ·rename_i l m
  cases hx;cases hy
  have hg: ∀w,(eqGuard op t xo yo (.string ⟨l.toArray⟩) (.string ⟨m.toArray⟩)).run Y.P w= .ok () w:=fun w=>by cases op<;>rfl
  obtain⟨u,hu,he⟩:=Zpe (Y:=Y) (W:=W) h t
  exact⟨u,hu,fun w=>by simp only[Sem.run_bind,hg,Result.andThen_ok,he]⟩
 ·cases hx;cases hy
  have hg:(Vq xo||Vq yo)=true-> ∀w,(eqGuard op t xo yo .nilIface .nilIface).run Y.P w= .ok () w:=by
   intro hc w
   cases xo<;>cases yo<;>simp[Vq]at hc<;>cases op<;>rfl
  have he: ∀ms,Y.P.underlying t=some (.interface ms)-> ∀w,(Op.equal t .nilIface .nilIface).run Y.P w= .ok true w:=fun ms hd w=>by
   show(Op.equalIn (9999+1) t .nilIface .nilIface).run Y.P w= .ok true w
   generalize 9999=n
   simp only[Op.equalIn,Sem.run_bind,Ze hd,Result.andThen_ok,Sem.run_pure]
  split at h
  ·rename_i hk
   obtain⟨ti,hti,hk'⟩:=Xx hk
   obtain⟨i,d,z,ht⟩:=hY.ty t ti hti
   have hkd:=ht.kd
   rw[hk']at hkd
   obtain⟨ms,rfl⟩:=hkd
   split at h
   ·rename_i hc
    simp at h;subst h
    exact⟨_, .b _,fun w=>by simp only[Sem.run_bind,hg hc,Result.andThen_ok,binOp,he ms ht.und,Sem.run_pure]⟩
   ·cases h
  ·rename_i hk
   obtain⟨ti,hti,hk'⟩:=Xx hk
   obtain⟨i,d,z,ht⟩:=hY.ty t ti hti
   have hkd:=ht.kd
   rw[hk']at hkd
   obtain⟨ms,rfl⟩:=hkd
   split at h
   ·rename_i hc
    simp at h;subst h
    exact⟨_, .b _,fun w=>by simp only[Sem.run_bind,hg hc,Result.andThen_ok,binOp,he ms ht.und,Sem.run_pure,Bool.not_true]⟩
   ·cases h
  ·cases h
 ·rename_i xs ys
  cases hx with
  |agg _ us hxs=>
   cases hy with
   |agg _ vs hys=>
    cases hk:Y.kd t with
    |none=>simp[hk]at h
    |some kd=>
    simp only[hk]at h
    obtain⟨ti,hti,hk'⟩:=Xx hk
    obtain⟨i,d,z,ht⟩:=hY.ty t ti hti
    have hkd:=ht.kd
    rw[hk']at hkd
    split at h
    case isFalse=>cases h
    rename_i hag
    have hgt:Y.P.eqGuardType Y.P.depth t=false:=by
     cases kd<;>simp[Kd.agg]at hag
     ·exact hkd.2
     ·obtain⟨_,_,_,_,_,hg⟩:=hkd;exact hg
    rw[<-hk']at hag
    have key: ∀r,eqTy Y 8 t xs ys=some r->(∀w,(Op.equal t (.agg us.toArray) (.agg vs.toArray)).run Y.P w= .ok r w)∧ ∀op w,(eqGuard op t xo yo (.agg us.toArray) (.agg vs.toArray)).run Y.P w= .ok () w:=by
     intro r hr
     refine⟨fun w=> ?_,fun op w=>run_eqGuard_agg w op t xo yo _ _ hgt⟩
     exact Zj3 hY 8 t xs ys r hr us vs hxs hys ti hti _ _ (by simp[hag]) (by simp[hag]) 10000 w (by omega)
    split at h
    ·rename_i r hr
     simp at h;subst h
     obtain⟨h1,h2⟩:=key r hr
     exact⟨_, .b _,fun w=>by simp only[Sem.run_bind,h2,Result.andThen_ok,binOp,h1,Sem.run_pure]⟩
    ·rename_i r hr
     simp at h;subst h
     obtain⟨h1,h2⟩:=key r hr
     exact⟨_, .b _,fun w=>by simp only[Sem.run_bind,h2,Result.andThen_ok,binOp,h1,Sem.run_pure]⟩
    ·cases h
 ·split at h
  ·rename_i kd hk
   obtain⟨ti,hti,hk'⟩:=Xx hk
   obtain⟨i,d,z,ht⟩:=hY.ty t ti hti
   subst hk'
   split at h
   ·rename_i r hr
    simp at h;subst h
    exact⟨_, .b _,fun w=>by
     obtain⟨h1,h2,h3⟩:=Zwd ht hr hx hy w
     simp only[Sem.run_bind,h3,Sem.run_pure,Result.andThen_ok,h1]⟩
   ·rename_i r hr
    simp at h;subst h
    exact⟨_, .b _,fun w=>by
     obtain⟨h1,h2,h3⟩:=Zwd ht hr hx hy w
     simp only[Sem.run_bind,h3,Sem.run_pure,Result.andThen_ok,h2]⟩
   ·cases h
  ·cases h
end
section
variable {Y:YP} {W:Vw} {σ:St} {a:Act} {w:World}

theorem ZBv{op:UnOp}{x v:V}(h:unY op x=some v){u1:Value}(hx:VR W x u1): ∃u,VR W v u∧ ∀w,(Op.unary op u1).run Y.P w= .ok u w:=by
 unfold unY at h
 split at h
 ·cases hx;simp at h;subst h;exact⟨_, .b _,fun w=>rfl⟩
 ·cases hx;simp at h;subst h;exact⟨_, .i _ _,fun w=>by simp[Op.unary,Op.intArith]⟩
 ·cases hx;simp only[Option.some.injEq]at h;subst h;exact⟨_, .i _ _,fun w=>rfl⟩
 ·cases h

theorem Zpo(hY:YOK Y)(h:Rel W σ a w){t:TypeId}{x:Operand}{ti:TI}(hti:Y.ty t=some ti){ad:Ad}(had:addr σ x=some ad){v:V}
  (hv:(Xg σ ti.size ad).bind (QK ti.kd.agg)=some v): ∃u,VR W v u∧ ∀w',Same w w'->(Instr.loadAt t (a.eval x)).run Y.P w'= .ok u w':=by
 obtain⟨i,d,z,ht⟩:=hY.ty t ti hti
 obtain⟨y,hy,hr⟩:=Za8 h had
 obtain⟨l,hl,hv⟩:=Option.bind_eq_some_iff.1 hv
 obtain⟨us,h1,h2,h3⟩:=WM h hr hl
 obtain⟨u,hu,he⟩:=Zet h1 hv
 refine⟨u,hu,fun w' hw'=> ?_⟩
 rw[hy]
 simp only[Instr.loadAt,Instr.sureAddr,Sem.run_bind,Sem.run_pure,Result.andThen_ok]
 exact Zhr ht.und ht.info w' y us (by rw[h2,ht.size]) (h3.same hw') u (by rw[ht.agg];exact he)

theorem Zcz(hY:YOK Y){t:TypeId}{fs:List (Nat×TypeId)}(h:fieldsOf Y t=some fs):
  ∃l:Array Field,Y.P.underlying t=some (.struct l)∧fs=l.toList.map (fun f=>(f.offset,f.type)):=by
 unfold fieldsOf at h
 split at h
 ·rename_i fs' hk
  simp at h;subst h
  obtain⟨ti,hti,hk'⟩:=Xx hk
  obtain⟨i,d,z,ht⟩:=hY.ty t ti hti
  have hkd:=ht.kd
  rw[hk']at hkd
  obtain⟨l,rfl,hfs,_⟩:=hkd
  exact⟨l,ht.und,hfs⟩
 ·cases h

theorem Zpp(hY:YOK Y)(h:Rel W σ a w){t:TypeId}{x:Operand}{f:Nat}{ad:Ad}(hf:Zes Y σ t x f=some ad):
  ∃y,AdR W σ a ad y∧ ∀w',Same w w'->(Instr.fieldAt t (a.eval x) f).run Y.P w'= .ok (.pointer (some y)) w':=by
 unfold Zes at hf
 split at hf
 ·rename_i fs hfs
  obtain⟨l,hl,rfl⟩:=Zcz hY hfs
  split at hf
  ·rename_i off ft a0 hg ha
   obtain⟨y,hy,hr⟩:=Za8 h ha
   split at hf
   ·rename_i ti hti
    split at hf
    ·rename_i hs
     simp at hf;subst hf
     obtain⟨i,d,z,ht⟩:=hY.ty ft ti hti
     rw[List.getElem?_map,Option.map_eq_some_iff]at hg
     obtain⟨fd,hfd,he⟩:=hg
     simp at he
     obtain⟨rfl,rfl⟩:=he
     refine⟨_,hr.shift _,fun w' _=> ?_⟩
     have hfd':l[f]? =some fd:=by simpa using hfd
     have hs':i.size≠0:=by rw[ht.size];exact hs
     rw[hy]
     simp only[Instr.fieldAt,Sem.run_bind,Ze hl,Result.andThen_ok,hfd',Instr.sureAddr,Sem.run_pure,fieldPlace,ZM ht.info,Sem.run_ite,hs',if_false]
    ·cases hf
   ·cases hf
  ·cases hf
 ·cases hf

theorem Zpq(hY:YOK Y)(h:Rel W σ a w){t:TypeId}{x ix:Operand}{ad:Ad}(hf:VO Y σ t x (ev σ.env ix)=some ad):
  ∃y,AdR W σ a ad y∧ ∀w',Same w w'->(Instr.indexAt t (a.eval x) (a.eval ix)).run Y.P w'= .ok (.pointer (some y)) w':=by
 have hix:=h.ev ix
 unfold VO at hf
 split at hf
 ·rename_i n e k i hk hi
  rw[hi]at hix
  generalize a.eval ix=ui at hix
  cases hix
  obtain⟨ti,hti,hk'⟩:=Xx hk
  obtain⟨inf,d,z,ht⟩:=hY.ty t ti hti
  have hkd:=ht.kd
  rw[hk']at hkd
  obtain⟨rfl,_⟩:=hkd
  split at hf
  ·rename_i te a0 hte ha
   split at hf
   ·rename_i hc
    simp at hf;subst hf
    obtain⟨ie,de,ze,hte'⟩:=hY.ty e te hte
    obtain⟨y,hy,hr⟩:=Za8 h ha
    refine⟨_,hr.shift _,fun w' _=> ?_⟩
    rw[hy]
    simp only[Instr.indexAt,asIntOf,Sem.run_bind,Ze ht.und,Result.andThen_ok,Instr.sureAddr,Sem.run_pure,Sem.run_ite]
    rw[if_pos ⟨hc.1,hc.2.1⟩]
    simp only[ZM hte'.info,Result.andThen_ok,hte'.size]
   ·cases hf
  ·cases hf
 ·rename_i e k i hk hi
  rw[hi]at hix
  generalize a.eval ix=ui at hix
  cases hix
  obtain⟨ti,hti,hk'⟩:=Xx hk
  obtain⟨inf,d,z,ht⟩:=hY.ty t ti hti
  have hkd:=ht.kd
  rw[hk']at hkd
  cases hkd
  have hx:=h.ev x
  split at hf
  ·rename_i te id o len cap k' hte hxv
   rw[hxv]at hx
   generalize a.eval x=ux at hx
   split at hf
   ·rename_i hc
    obtain⟨h0,h1,h2,rfl⟩:=hc
    simp at hf;subst hf
    obtain⟨ie,de,ze,hte'⟩:=hY.ty e te hte
    cases hx with
    |sls _ _ _ _ _ y cap' hid hl _ ha _ _=>
     refine⟨y.add (i.toNat*te.size),⟨hid,fun hv=> ?_⟩,fun w' _=> ?_⟩
     ·rw[ha hv (by omega)];unfold Vw.at;rw[Jv,Nat.add_assoc]
     ·simp only[Instr.indexAt,asIntOf,Sem.run_bind,Ze ht.und,Result.andThen_ok,Sem.run_pure,Sem.run_ite]
      rw[if_pos ⟨h0,h1⟩]
      simp only[ZM hte'.info,Result.andThen_ok,hte'.size]
   ·cases hf
  ·rename_i te cs len cap hte hxv
   rw[hxv]at hx
   generalize a.eval x=ux at hx
   split at hf
   ·rename_i hc
    obtain⟨h0,h1,h2⟩:=hc
    simp at hf;subst hf
    obtain⟨ie,de,ze,hte'⟩:=hY.ty e te hte
    have run: ∀(y:Addr) (cap':Nat) w',(Instr.indexAt t (.slice (some y) len cap') (.int k i)).run Y.P w'= .ok (.pointer (some (y.add (i.toNat*te.size)))) w':=by
     intro y cap' w'
     simp only[Instr.indexAt,asIntOf,Sem.run_bind,Ze ht.und,Result.andThen_ok,Sem.run_pure,Sem.run_ite]
     rw[if_pos ⟨h0,h1⟩]
     simp only[ZM hte'.info,Result.andThen_ok,hte'.size]
    cases hx with
    |tsn _ _ y cap'=>exact⟨_, .inl (by simp),fun w' _=>run y cap' w'⟩
    |tsz=>omega
    |ts _ _ _ cap' blk off c et fr us hl hcap hs hcc hr=>
     have hr':AdR W σ a (.ro cs) ⟨blk,off,none⟩:= .inr ⟨blk,off,c,et,fr,us,rfl,hs,hcc,hr⟩
     exact⟨_,hr'.shift _,fun w' _=>run _ cap' w'⟩
   ·cases hf
  ·cases hf
 ·cases hf

theorem Zf9{v:V}{u:Value}(h:VR W v u)(hc:Zk v.cells=true):VRs W v.cells u.cells.toList:=by
 cases h with
 |agg cs us h=>simpa[V.cells,Value.cells]using h
 |undef u=>simp[V.cells,Zk,V.cellOK]at hc
 |tup cs us h=>simp[V.cells,Zk,V.cellOK]at hc
 |b x=>exact .cons _ _ _ _ (.b x) .nil
 |i k n=>exact .cons _ _ _ _ (.i k n) .nil
 |s l=>exact .cons _ _ _ _ (.s l) .nil
 |pn=>exact .cons _ _ _ _ .pn .nil
 |ps id off a hid ha=>exact .cons _ _ _ _ (.ps id off a hid ha) .nil
 |tpn a=>exact .cons _ _ _ _ (.tpn a) .nil
 |tp cs blk off c e fr us hs hc' hr=>exact .cons _ _ _ _ (.tp cs blk off c e fr us hs hc' hr) .nil
 |sln c k=>exact .cons _ _ _ _ (.sln c k) .nil
 |sls id off len cap k a cap' hid hl hc' ha hn hk=>exact .cons _ _ _ _ (.sls id off len cap k a cap' hid hl hc' ha hn hk) .nil
 |tsn len cap a cap' hl hc'=>exact .cons _ _ _ _ (.tsn len cap a cap' hl hc') .nil
 |tsz cap hc'=>exact .cons _ _ _ _ (.tsz cap hc') .nil
 |ts cs len cap cap' blk off c e fr us hl hcap hs hc' hr=>exact .cons _ _ _ _ (.ts cs len cap cap' blk off c e fr us hl hcap hs hc' hr) .nil
 |mpn=>exact .cons _ _ _ _ .mpn .nil
 |mps id r hid hr=>exact .cons _ _ _ _ (.mps id r hid hr) .nil
 |fn f a c ua uc ha hc'=>exact .cons _ _ _ _ (.fn f a c ua uc ha hc') .nil
 |nilfn=>exact .cons _ _ _ _ .nilfn .nil
 |ifc t v u h=>exact .cons _ _ _ _ (.ifc t v u h) .nil
 |nilifc=>exact .cons _ _ _ _ .nilifc .nil
 |yl id l hid hl=>exact .cons _ _ _ _ (.yl id l hid hl) .nil

theorem QT: ∀ {cs:List V} {us:List Value},VRs W cs us->Zk cs=true-> ∀u∈us,u.oneCell'=true
 |_,_, .nil,_,u,hu=>by simp at hu
 |_,_, .cons v u' l m h hs,hc,u,hu=>by
  simp only[Zk,Bool.and_eq_true]at hc
  rcases List.mem_cons.1 hu with rfl|hu
  ·cases h<;>first|rfl|(simp[V.cellOK]at hc)
  ·exact QT hs hc.2 u hu

theorem Zhs(n:Nat): ∀(vs:List Value) (k:Nat) (cs:Array Value),n+k+vs.length<=cs.size->
  ((vs.zipIdx k).foldl (fun cs (p:Value×Nat)=>cs.setIfInBounds (n+p.2) p.1) cs).toList=splice cs.toList (n+k) vs
 | [],k,cs,h=>by
  apply List.ext_getElem?
  intro j
  rw[Xn _ _ _ _ (by simpa using h)]
  simp only[List.zipIdx_nil,List.foldl_nil]
  split
  ·rename_i hj;simp at hj;omega
  ·rfl
 |v::vs,k,cs,h=>by
  simp only[List.length_cons]at h
  simp only[List.zipIdx_cons,List.foldl_cons]
  rw[Zhs n vs (k+1) _ (by simp;omega)]
  apply List.ext_getElem?
  intro j
  rw[Xn _ _ _ _ (by simp;omega),Xn _ _ _ _ (by simp;omega)]
  simp only[List.length_cons,Array.getElem?_toList,Array.getElem?_setIfInBounds]
  by_cases hj:j=n+k
  ·subst hj
   rw[if_neg (by omega),if_pos (by omega)]
   simp;omega
  ·by_cases hc:n+(k+1)<=j∧j<n+(k+1)+vs.length
   ·rw[if_pos hc,if_pos (by omega)]
    obtain⟨q,hq⟩: ∃q,j=n+k+(q+1):=⟨j-(n+k+1),by omega⟩
    subst hq
    rw[show n+k+(q+1)-(n+(k+1))=q by omega,show n+k+(q+1)-(n+k)=q+1 by omega]
    simp
   ·rw[if_neg hc,if_neg (by omega: ¬(n+k<=j∧j<n+k+(vs.length+1))),if_neg (fun e:n+k=j=>hj e.symm)]

theorem Zga(h:Rel W σ a w){place:Nat->Option (Nat×Nat)} : ∀(parts:List (Nat×Operand)) (cs r:List V) (us:List Value),VRs W cs us->
  Ju (ev σ.env) place parts cs=some r-> ∃us',VRs W r us'∧Instr.fill place us.toArray (parts.map fun p=>(p.1,a.eval p.2))=some us'.toArray
 | [],cs,r,us,hr,hf=>by simp[Ju]at hf;subst hf;exact⟨us,hr,by simp[Instr.fill]⟩
 |p::rest,cs,r,us,hr,hf=>by
  simp only[Ju]at hf
  split at hf
  ·rename_i off size hp
   split at hf
   ·rename_i hc
    obtain⟨h1,h2,h3⟩:=hc
    have hv:=Zf9 (h.ev p.2) h3
    have hl:=hv.length
    have hl2:=hr.length
    have hsp:=hr.splice hv off h2
    obtain⟨us',h4,h5⟩:=Zga h rest _ r _ hsp hf
    refine⟨us',h4,?_⟩
    simp only[List.map_cons,Instr.fill,hp]
    have e1:(a.eval p.2).cells.size=size:=by rw[<-Array.length_toList,<-hl,h1]
    have e2: ¬((a.eval p.2).cells.size≠size∨off+(a.eval p.2).cells.size>us.toArray.size):=by
     rw[e1];simp;omega
    rw[if_neg (by simpa using e2)]
    rw[<-h5]
    congr 1
    have hz:(a.eval p.2).cells.zipIdx.foldl (fun cs x=>cs.setIfInBounds (off+x.2) x.1) us.toArray=(splice us off (a.eval p.2).cells.toList).toArray:=by
     apply Array.ext'
     rw[<-Array.foldl_toList,Array.toList_zipIdx]
     rw[Zhs off _ 0 _ (by simp;omega)]
     simp
    exact hz
   ·cases hf
  ·cases hf
end
section
variable {Y:YP} {W:Vw} {σ:St} {a:Act} {w:World}

def OR(W:Vw):Option V->Option Value->Prop
 |some v,some u=>VR W v u
 |none,none=>True
 |_,_=>False

theorem Zht{y d n:Nat}{o:Option V}(h:bnd y d o=some n):(o=none->n=d)∧(o≠none->n<=y):=by
 cases o with
 |none=>simp only[bnd,Option.some.injEq]at h;exact⟨fun _=>h.symm,fun hn=>absurd rfl hn⟩
 |some v=>
  refine⟨fun hn=>(nomatch hn),fun _=> ?_⟩
  cases v<;>simp[bnd]at h
  omega

theorem QD{y d n:Nat}{v:V}(h:bnd y d (some v)=some n){u:Value}(ho:VR W v u){y':Nat}(hy:y<=y')(code:BoundsCode)(w:World):
  (Instr.sliceBound u y' code).run Y.P w= .ok n w:=by
 cases v<;>simp only[bnd,reduceCtorEq]at h
 split at h
 ·rename_i k m hc
  simp at h;subst h
  cases ho
  exact run_sliceBound w k m y' code hc.1 (by omega)
 ·cases h

theorem Jx{y d len cap l h:Nat}{lo hi:Option V}(hb:Qz y d lo hi=some (l,h)){ulo uhi:Option Value}(hlo:OR W lo ulo)(hhi:OR W hi uhi)(hy:y<=cap)(hd:d=len)
  (isSlice:Bool) (w:World):(Instr.sliceBounds isSlice len cap ulo uhi none).run Y.P w= .ok (l,h,cap) w:=by
 unfold Qz at hb
 split at hb
 ·rename_i h' hh
  split at hb
  ·rename_i l' hl
   simp at hb
   obtain⟨rfl,rfl⟩:=hb
   cases hi with
   |none=>
    cases uhi with
    |some u=>exact hhi.elim
    |none=>
     simp only[bnd,Option.some.injEq]at hh
     subst hh hd
     cases lo with
     |none=>cases ulo with
      |some u=>exact hlo.elim
      |none=>
       simp only[bnd,Option.some.injEq]at hl
       subst hl
       simp only[Instr.sliceBounds,Sem.run_bind,Sem.run_pure,Result.andThen_ok]
     |some v=>cases ulo with
      |none=>exact hlo.elim
      |some u=>simp only[Instr.sliceBounds,Sem.run_bind,Sem.run_pure,Result.andThen_ok,QD hl hlo (Nat.le_refl _)]
   |some v=>
    cases uhi with
    |none=>exact hhi.elim
    |some u=>
     cases lo with
     |none=>cases ulo with
      |some u=>exact hlo.elim
      |none=>
       simp only[bnd,Option.some.injEq]at hl
       subst hl
       simp only[Instr.sliceBounds,Sem.run_bind,Sem.run_pure,Result.andThen_ok,QD hh hhi hy]
     |some v=>cases ulo with
      |none=>exact hlo.elim
      |some u=>simp only[Instr.sliceBounds,Sem.run_bind,Sem.run_pure,Result.andThen_ok,QD hh hhi hy,QD hl hlo (Nat.le_refl _)]
  ·cases hb
 ·cases hb

theorem JS{y m len cap l h:Nat}{lo:Option V}{vh vm:V}(hm:bnd y 0 (some vm)=some m)(hb:Qz m 0 lo (some vh)=some (l,h)){ulo:Option Value}{uh um:Value}(hlo:OR W lo ulo)
  (hhi:VR W vh uh) (hmx:VR W vm um) (hy:y<=cap) (isSlice:Bool) (w:World):(Instr.sliceBounds isSlice len cap ulo (some uh) (some um)).run Y.P w= .ok (l,h,m) w:=by
 unfold Qz at hb
 split at hb
 ·rename_i h' hh
  split at hb
  ·rename_i l' hl
   simp at hb
   obtain⟨rfl,rfl⟩:=hb
   cases lo with
   |none=>cases ulo with
    |some u=>exact hlo.elim
    |none=>
     simp only[bnd,Option.some.injEq]at hl
     subst hl
     simp only[Instr.sliceBounds,Sem.run_bind,QD hm hmx hy,QD hh hhi (Nat.le_refl _),Result.andThen_ok,Sem.run_pure]
   |some v=>cases ulo with
    |none=>exact hlo.elim
    |some u=>simp only[Instr.sliceBounds,Sem.run_bind,QD hm hmx hy,QD hh hhi (Nat.le_refl _),QD hl hlo (Nat.le_refl _),Result.andThen_ok,Sem.run_pure]
  ·cases hb
 ·cases hb

theorem QU{y d l h:Nat}{lo hi:Option V}(hb:Qz y d lo hi=some (l,h)):l<=h∧(hi=none->h=d)∧(hi≠none->h<=y):=by
 unfold Qz at hb
 split at hb
 ·rename_i h' hh
  split at hb
  ·rename_i l' hl
   simp at hb
   obtain⟨rfl,rfl⟩:=hb
   obtain⟨a1,a2⟩:=Zht hh
   obtain⟨b1,b2⟩:=Zht hl
   refine⟨?_,a1,a2⟩
   by_cases hlo:lo=none
   ·rw[b1 hlo];omega
   ·exact b2 hlo
  ·cases hb
 ·cases hb

theorem OR.some{v:V}{uo:Option Value}(h:OR W (Option.some v) uo): ∃u,uo=Option.some u∧VR W v u:=by
 cases uo with
 |none=>exact h.elim
 |some u=>exact⟨u,rfl,h⟩

theorem OR.none{uo:Option Value}(h:OR W Option.none uo):uo=Option.none:=by
 cases uo with
 |none=>rfl
 |some u=>exact h.elim

theorem Zb2(l:List UInt8)(x y:Nat):(⟨l.toArray⟩:ByteArray).extract x y=⟨((l.drop x).take (y-x)).toArray⟩:=by
 apply ByteArray.ext
 rw[ByteArray.data_extract]
 simp

theorem Zto(hY:YOK Y){t:TypeId}{v r:V}{lo hi mx:Option V}(h:VN Y t v lo hi mx=Option.some r){u:Value}{ulo uhi umx:Option Value}(hv:VR W v u)(hlo:OR W lo ulo)(hhi:OR W hi uhi)
  (hmx:OR W mx umx): ∃u',VR W r u'∧ ∀w,(Instr.sliceAt t u ulo uhi umx).run Y.P w= .ok u' w:=by
 unfold VN at h
 split at h
 ·rename_i hk
  obtain⟨ti,hti,hk'⟩:=Xx hk
  obtain⟨i,d,z,ht⟩:=hY.ty t ti hti
  have hkd:=ht.kd
  rw[hk']at hkd
  cases hkd
  split at h
  ·rename_i l
   split at h
   ·rename_i x y hb
    simp at h;subst h
    cases hv
    have:=hmx.none
    subst this
    refine⟨_, .s _,fun w=> ?_⟩
    have hr:=Jx (Y:=Y) hb hlo hhi (Nat.le_refl _) rfl false w
    have hs:(⟨l.toArray⟩:ByteArray).size=l.length:=rfl
    simp only[Instr.sliceAt,Instr.slice,Sem.run_bind,Ze ht.und,Result.andThen_ok,Option.isSome_none,Bool.false_eq_true,if_false,hs,hr,Sem.run_pure,Zb2]
   ·cases h
  ·cases h
 ·rename_i e hk
  obtain⟨ti,hti,hk'⟩:=Xx hk
  obtain⟨i,d,z,ht⟩:=hY.ty t ti hti
  have hkd:=ht.kd
  rw[hk']at hkd
  cases hkd
  split at h
  ·cases h
  ·rename_i te hte
   obtain⟨ie,de,ze,hte'⟩:=hY.ty e te hte
   have run: ∀(ao:Option Addr) (len cap l h m:Nat) w,(Instr.sliceBounds true len cap ulo uhi umx).run Y.P w= .ok (l,h,m) w->
     (Instr.sliceAt t (.slice ao len cap) ulo uhi umx).run Y.P w= .ok (.slice (if m=l then ao else ao.map (·.add (l*te.size))) (h-l) (m-l)) w:=by
    intro ao len cap l h m w hr
    simp only[Instr.sliceAt,Instr.slice,Sem.run_bind,Ze ht.und,Result.andThen_ok,hr,ZM hte'.info,Sem.run_pure,hte'.size]
   split at h
   ·rename_i n c k
    split at h
    ·split at h
     ·rename_i m hm
      split at h
      ·rename_i lh hb
       obtain⟨l,hh⟩:=lh
       split at h
       ·cases h
       ·rename_i hmh
        simp at h;subst h
        cases hv
        refine⟨_, .sln _ _,fun w=> ?_⟩
        have hle:=QU hb
        cases mx with
        |none=>
         have:=hmx.none
         subst this
         have hr:=Jx (Y:=Y) hb hlo hhi (Nat.le_refl 0) rfl true w
         rw[run none 0 0 l hh 0 w hr]
         have h0:hh=0:=by
          by_cases e0:hi=none
          ·exact hle.2.1 e0
          ·have:=hle.2.2 e0;omega
         subst h0
         simp
        |some vm=>
         obtain⟨um,rfl,hum⟩:=hmx.some
         cases hi with
         |none=>simp at hmh
         |some vh=>
          obtain⟨uh,rfl,huh⟩:=hhi.some
          have hm0:m=0:=by have:=(Zht hm).2 (by simp);omega
          subst hm0
          have hr:=JS (Y:=Y) (len:=0) hm hb hlo huh hum (Nat.le_refl 0) true w
          rw[run none 0 0 l hh 0 w hr]
          have h0:hh=0:=by have:=hle.2.2 (by simp);omega
          subst h0
          simp
      ·cases h
     ·cases h
    ·cases h
   ·rename_i id o len c k
    split at h
    ·rename_i hks
     subst hks
     cases hv with
     |sls _ _ _ _ _ y cap' hid hl hc ha hn hkk=>
      have hcl:c.getD len<=cap':=by
       cases c with
       |none=>simpa using hl
       |some c=>have:=hc c rfl;simp;omega
      cases mx with
      |none=>
       have:=hmx.none
       subst this
       simp only at h
       split at h
       ·rename_i x q hb
        simp at h;subst h
        have hle:=QU hb
        have hq:q<=cap':=by
         by_cases e0:hi=none
         ·rw[hle.2.1 e0];exact hl
         ·have:=hle.2.2 e0;omega
        refine⟨_,?_,fun w=>run (some y) len cap' x q cap' w (Jx (Y:=Y) hb hlo hhi hcl rfl true w)⟩
        have hsome:(if cap'=x then some y else(some y).map (·.add (x*te.size)))=some (if cap'=x then y else y.add (x*te.size)):=by split<;>rfl
        rw[hsome]
        refine .sls id (o+x*te.size) (q-x) (c.map (· - x)) te.size _ (cap'-x) hid (by omega) (fun c' hc'=> ?_) (fun hv hp=> ?_) (fun hv hcn=> ?_) (fun hv=> ?_)
        ·cases c with
         |none=>simp at hc'
         |some c=>have:=hc c rfl;simp at hc';omega
        ·rw[if_neg (by omega),ha hv (by omega)];unfold Vw.at;rw[Jv,Nat.add_assoc]
        ·cases c with
         |none=>
          have:=hn hv rfl
          have hx:x*te.size+(cap'-x)*te.size=cap'*te.size:=by rw[<-Nat.add_mul];congr 1;omega
          omega
         |some c=>simp at hcn
        ·have:=hkk hv
         have hx:x*te.size+(cap'-x)*te.size=cap'*te.size:=by rw[<-Nat.add_mul];congr 1;omega
         omega
       ·cases h
      |some vm=>
       obtain⟨um,rfl,hum⟩:=hmx.some
       simp only at h
       split at h
       ·rename_i m hm
        cases hi with
        |none=>simp at h
        |some vh=>
         obtain⟨uh,rfl,huh⟩:=hhi.some
         simp only[Option.isNone_some,Bool.false_eq_true,if_false]at h
         split at h
         ·rename_i x q hb
          simp at h;subst h
          have hle:=QU hb
          have hml:m<=cap':=by have:=(Zht hm).2 (by simp);omega
          have hq:q<=m:=hle.2.2 (by simp)
          refine⟨_,?_,fun w=>run (some y) len cap' x q m w (JS (Y:=Y) hm hb hlo huh hum hcl true w)⟩
          have hsome:(if m=x then some y else(some y).map (·.add (x*te.size)))=some (if m=x then y else y.add (x*te.size)):=by split<;>rfl
          rw[hsome]
          refine .sls id (o+x*te.size) (q-x) (some (m-x)) te.size _ (m-x) hid (by omega) (fun c' hc'=>by simp at hc';exact hc'.symm▸rfl) (fun hv hp=> ?_) (fun hv hcn=>nomatch hcn) (fun hv=> ?_)
          ·rw[if_neg (by omega),ha hv (by omega)];unfold Vw.at;rw[Jv,Nat.add_assoc]
          ·have:=hkk hv
           have hx:x*te.size+(m-x)*te.size=m*te.size:=by rw[<-Nat.add_mul];congr 1;omega
           have hy:m*te.size<=cap'*te.size:=Nat.mul_le_mul_right _ hml
           omega
         ·cases h
       ·cases h
    ·cases h
   ·rename_i cs len c
    -- read-only
    have build: ∀(y:Addr) (cap' x q m:Nat) (c':Option Nat),x<=q->q<=m->(∀k,c'=some k->m-x=k)->VR W (.ts cs len c) (.slice (some y) len cap')->
      VR W (.ts ((cs.drop (x*te.size)).take ((q-x)*te.size)) (q-x) c') (.slice (some (if m=x then y else y.add (x*te.size))) (q-x) (m-x)):=by
     intro y cap' x q m c' hxq hqm hc' hvr
     by_cases hmx:m=x
     ·have:q=x:=by omega
      subst this
      simp only[Nat.sub_self,Nat.zero_mul,List.take_zero]
      exact .tsn 0 c' _ _ (by omega) (fun k hk=>by rw[<-hc' k hk])
     ·rw[if_neg hmx]
      cases hvr with
      |tsn _ _ _ _ hl hc=>simp;exact .tsn _ _ _ _ (by omega) (fun k hk=>hc' k hk)
      |ts _ _ _ _ blk off cc et fr us hl hcap hs hcc hr=>
       rw[Jv]
       refine .ts _ _ _ _ blk (off+x*te.size) cc et fr ((us.drop (x*te.size)).take ((q-x)*te.size)) (by omega) (fun k hk=>hc' k hk) hs (fun j u hj=> ?_) ((hr.drop _).take _)
       rw[List.getElem?_take]at hj
       split at hj
       ·rw[List.getElem?_drop]at hj
        rw[Nat.add_assoc];exact hcc _ _ hj
       ·cases hj
    by_cases hnz:u= .slice none 0 0
    ·have hlen:len=0∧cs= []∧ ∀k,c=some k->k=0:=by
      subst hnz
      cases hv with
      |tsz _ hc=>exact⟨rfl,rfl,hc⟩
     obtain⟨rfl,rfl,hc0⟩:=hlen
     subst hnz
     cases mx with
     |none=>
      have:=hmx.none
      subst this
      simp only at h
      split at h
      ·rename_i x q hb
       simp at h;subst h
       have hle:=QU hb
       have hq:q=0:=by
        by_cases e0:hi=none
        ·exact hle.2.1 e0
        ·have:=hle.2.2 e0;omega
       subst hq
       have hx:x=0:=by omega
       subst hx
       refine⟨_, .tsz _ (fun k hk=> ?_),fun w=> ?_⟩
       ·cases c with
        |none=>simp at hk
        |some k'=>have:=hc0 k' rfl;simp at hk;omega
       ·rw[run none 0 0 0 0 0 w (Jx (Y:=Y) hb hlo hhi (Nat.le_refl 0) rfl true w)]
        simp
      ·cases h
     |some vm=>
      obtain⟨um,rfl,hum⟩:=hmx.some
      simp only at h
      split at h
      ·rename_i m hm
       cases hi with
       |none=>simp at h
       |some vh=>
        obtain⟨uh,rfl,huh⟩:=hhi.some
        simp only[Option.isNone_some,Bool.false_eq_true,if_false]at h
        split at h
        ·rename_i x q hb
         simp at h;subst h
         have hle:=QU hb
         have hm0:m=0:=by have:=(Zht hm).2 (by simp);omega
         subst hm0
         have hq:q=0:=by have:=hle.2.2 (by simp);omega
         subst hq
         have hx:x=0:=by omega
         subst hx
         refine⟨_, .tsz _ (fun k hk=>by simpa using hk.symm),fun w=> ?_⟩
         rw[run none 0 0 0 0 0 w (JS (Y:=Y) (len:=0) hm hb hlo huh hum (Nat.le_refl 0) true w)]
         simp
        ·cases h
      ·cases h
    have shape: ∃y cap',u= .slice (some y) len cap'∧len<=cap'∧(∀k,c=some k->cap'=k):=by
     cases hv with
     |tsz _ _=>exact absurd rfl hnz
     |tsn _ _ y cap' hl hc=>exact⟨y,cap',rfl,hl,hc⟩
     |ts _ _ _ cap' blk off cc et fr us hl hcap hs hcc hr=>exact⟨_,cap',rfl,hl,hcap⟩
    obtain⟨y,cap',rfl,hl,hc⟩:=shape
    cases mx with
    |none=>
     have:=hmx.none
     subst this
     simp only at h
     split at h
     ·rename_i x q hb
      simp at h;subst h
      have hle:=QU hb
      have hq:q<=len:=by
       by_cases e0:hi=none
       ·rw[hle.2.1 e0];omega
       ·exact hle.2.2 e0
      refine⟨_,?_,fun w=>run (some y) len cap' x q cap' w (Jx (Y:=Y) hb hlo hhi hl rfl true w)⟩
      have hsome:(if cap'=x then some y else(some y).map (·.add (x*te.size)))=some (if cap'=x then y else y.add (x*te.size)):=by split<;>rfl
      rw[hsome]
      refine build y cap' x q cap' (c.map (· - x)) hle.1 (by omega) (fun k hk=> ?_) hv
      cases c with
      |none=>simp at hk
      |some c=>have:=hc c rfl;simp at hk;omega
     ·cases h
    |some vm=>
     obtain⟨um,rfl,hum⟩:=hmx.some
     simp only at h
     split at h
     ·rename_i m hm
      cases hi with
      |none=>simp at h
      |some vh=>
       obtain⟨uh,rfl,huh⟩:=hhi.some
       simp only[Option.isNone_some,Bool.false_eq_true,if_false]at h
       split at h
       ·rename_i x q hb
        simp at h;subst h
        have hle:=QU hb
        have hq:q<=m:=hle.2.2 (by simp)
        refine⟨_,?_,fun w=>run (some y) len cap' x q m w (JS (Y:=Y) hm hb hlo huh hum hl true w)⟩
        have hsome:(if m=x then some y else(some y).map (·.add (x*te.size)))=some (if m=x then y else y.add (x*te.size)):=by split<;>rfl
        rw[hsome]
        exact build y cap' x q m (some (m-x)) hle.1 hq (fun k hk=>by simpa using hk) hv
       ·cases h
     ·cases h
   ·cases h
 ·cases h
end
end Go.Y
