/- A part of the proof. -/
import Derived.Test.YteennilbmmlikaaGreatDoorYExo
namespace Go.Y
set_option maxRecDepth 1000000
set_option maxHeartbeats 0
def PlainD:Kd->TypeDesc->Prop
 | .int k,d=>d= .int k
 | .str,d=>d= .string
 | .bool,d=>d= .bool
 |_,_=>False

theorem ZB2{Y:YP}{t:TypeId}{kk:Kd}{d:TypeDesc}(h:KdOK Y t kk d)(hp:Wp kk=true):PlainD kk d:=by
 cases kk<;>first|exact h|cases hp

theorem Zh3(j:IntKind)(a:Int):Instr.sameBits 10000 (.int j a) (.int j a)=true:=by simp[Instr.sameBits]
theorem ZB3(x y:Array UInt8):((⟨x⟩:ByteArray)==⟨y⟩)=(x==y):=rfl
theorem Zh4(a:ByteArray):Instr.sameBits 10000 (.string a) (.string a)=true:=by
 have:(a==a)=true:=by cases a;rw[ZB3];simp
 simp[Instr.sameBits,this]
theorem Zgh(a:Bool):Instr.sameBits 10000 (.bool a) (.bool a)=true:=by simp[Instr.sameBits]

theorem Zx9{W:Vw}{kk:Kd}{d:TypeDesc}(hd:PlainD kk d){k e:V}{u ue:Value}{r:Bool}(h:JO kk k e=some r)(hk:VR W k u)(he:VR W e ue):
  Instr.sameNow d u ue=some r∧(r=true->Instr.sameBits 10000 ue u=true):=by
 unfold JO at h
 split at h
 ·simp only[Option.some.injEq]at h
  subst h
  cases hk;cases he;cases hd
  refine⟨rfl,fun h=> ?_⟩
  have:=eq_of_beq h
  subst this;exact Zgh _
 ·split at h
  ·rename_i hj
   simp only[Option.some.injEq]at h
   subst h hj
   cases hk;cases he;cases hd
   refine⟨by simp[Instr.sameNow],fun h=> ?_⟩
   have:=eq_of_beq h
   subst this;exact Zh3 _ _
  ·cases h
 ·rename_i x y
  simp only[Option.some.injEq]at h
  subst h
  cases hk;cases he;cases hd
  have e1:((⟨x.toArray⟩:ByteArray)==⟨y.toArray⟩)=(x==y):=by rw[ZB3];simp
  refine⟨by simp only[Instr.sameNow,e1],fun h=> ?_⟩
  have:=eq_of_beq h
  subst this;exact Zh4 _
 ·cases h

theorem Zh5{kk:Kd}(hp:Wp kk=true)(k e:V):Zcv kk k e=JO kk k e:=by
 cases kk<;>first|rfl|cases hp
theorem PlainD.kind{kk:Kd}{d:TypeDesc}(hd:PlainD kk d):Wp kk=true:=by
 cases kk<;>first|rfl|exact hd.elim
theorem Zwg{W:Vw}{kk:Kd}{d:TypeDesc}(hd:PlainD kk d){k v:V}{u x:Value}(hk:VR W k u)(hv:VR W v x): ∀(es:List (V×V)) (m:List MapEntry) (i:Nat),VRs W (es.map (·.1)) (m.map (·.key))->VRs W (es.map (·.2)) (m.map (·.val))->ZP kk k es=true->
  (XF kk k es=none∧Instr.findNow d u m i=some none∧Xh kk k v es=es++ [(k,v)])∨
  ∃j e v0,XF kk k es=some v0∧VR W v0 e.val∧m[j]? =some e∧Instr.findNow d u m i=some (some (i+j,e.val))∧Instr.sameBits 10000 e.key u=true∧
   VRs W ((Xh kk k v es).map (·.1)) ((m.modify j fun e=> {e with key:=u,val:=x}).map (·.key))∧VRs W ((Xh kk k v es).map (·.2)) ((m.modify j fun e=> {e with key:=u,val:=x}).map (·.val))
 | [],m,i,h1,_,_=>by
  cases m with
  |nil=>exact .inl ⟨rfl,rfl,rfl⟩
  |cons e m=>cases h1
 |e::es,m,i,h1,h2,hp=>by
  cases m with
  |nil=>cases h1
  |cons e' m=>
   simp only[List.map_cons]at h1 h2
   cases h1 with|cons _ _ _ _ h1a h1b=>
   cases h2 with|cons _ _ _ _ h2a h2b=>
   simp only[ZP,Bool.and_eq_true]at hp
   obtain⟨r,hr⟩:=Option.isSome_iff_exists.1 hp.1
   have hr':JO kk k e.1=some r:=by rw[<-Zh5 hd.kind];exact hr
   obtain⟨hs,hb⟩:=Zx9 hd hr' hk h1a
   cases r with
   |true=>
    refine .inr ⟨0,e',e.2,?_,h2a,rfl,?_,hb rfl,?_,?_⟩
    ·simp[XF,QM,hr]
    ·simp[Instr.findNow,hs]
    ·simp only[Xh,QM,hr,if_true,List.map_cons,List.modify_zero_cons]
     exact .cons _ _ _ _ hk h1b
    ·simp only[Xh,QM,hr,if_true,List.map_cons,List.modify_zero_cons]
     exact .cons _ _ _ _ hv h2b
   |false=>
    rcases Zwg hd hk hv es m (i+1) h1b h2b hp.2 with ⟨g1,g2,g3⟩|⟨j,e0,v0,g1,g2,g3,g4,g5,g6,g7⟩
    ·refine .inl ⟨by simp[XF,QM,hr,g1],by simp[Instr.findNow,hs,g2],by simp[Xh,QM,hr,g3]⟩
    ·refine .inr ⟨j+1,e0,v0,by simp[XF,QM,hr,g1],g2,by simpa using g3,?_,g5,?_,?_⟩
     ·simp only[Instr.findNow,hs,g4]
      rw[show i+1+j=i+(j+1) by omega]
     ·simp only[Xh,QM,hr,Bool.false_eq_true,if_false,List.map_cons,List.modify_succ_cons]
      exact .cons _ _ _ _ h1a g6
     ·simp only[Xh,QM,hr,Bool.false_eq_true,if_false,List.map_cons,List.modify_succ_cons]
      exact .cons _ _ _ _ h2a g7

section
variable {Y:YP} {W W':Vw} {σ σ':St} {a:Act} {w w':World}

theorem Zkg{P:Program}{r:Nat}{es:Array MapEntry}{k:Nat}(h:w.heap[r]? =some (.map es k)):(getObj r).run P w= .ok (.map es k) w:=by simp[getObj,Sem.run,h]
theorem Zya{P:Program}{r:Nat}{es:Array MapEntry}{k:Nat}(o:Obj)(h:w.heap[r]? =some (.map es k)):(setObj r o).run P w= .ok () (w.putB r o):=by simp[setObj,Sem.run,h,World.putB]

theorem Zh6: ∀l:List UInt8,VRs W (l.map fun c=>V.i .u8 c.toNat) (l.map fun c=>Value.int .u8 c.toNat)
 | []=> .nil
 |_::l=> .cons _ _ _ _ (.i _ _) (Zh6 l)

theorem Zh7{P:Program}{b:Bool}{t:TypeId}{d:TypeDesc}(hd:P.underlying t=some d){kk:Kd}(hk:PlainD kk d)(u:Value)(w:World):(Instr.checkKey b 10000 t u).run P w= .ok () w:=by
 have: ∀n,(Instr.checkKey b (n+1) t u).run P w= .ok () w:=fun n=>by
  simp only[Instr.checkKey,Sem.run_bind,run_underlying hd,Result.andThen_ok]
  cases kk<;>simp only[PlainD]at hk<;>first|exact hk.elim|(subst hk;rfl)
 exact this 9999

theorem Zc4{P:Program}{t:TypeId}{d:TypeDesc}(hd:P.underlying t=some d){u:Value}{m:List MapEntry}{r:Option (Nat×Value)}(h:Instr.findNow d u m 0=some r)(w:World):(Instr.findKey t u m).run P w= .ok r w:=by
 simp only[Instr.findKey,Sem.run_bind,run_underlying hd,Result.andThen_ok,h,Sem.run_pure]

/-! ### Arrays of whole numbers as keys -/
theorem Vx: ∀ {xs ys:List V} {r:Bool},XQ xs ys=some r-> ∀ {x:V},x∈xs-> ∃j a,x= .i j a
 | [],[],_,_,x,hx=>by cases hx
 |x::xs,y::ys,r,h,z,hz=>by
  cases x<;>cases y<;>simp only[XQ]at h<;>first|(cases h;done)|skip
  split at h
  ·cases hr:XQ xs ys with
   |none=>rw[hr]at h;cases h
   |some q=>
    rcases List.mem_cons.1 hz with e|hz
    ·exact⟨_,_,e⟩
    ·exact Vx hr hz
  ·cases h
 | [],y::ys,_,h,_,_=>by simp[XQ]at h
 |x::xs,[],_,h,_,_=>by cases x<;>simp[XQ]at h
theorem Zc5{W:Vw} : ∀ {xs ys:List V} {us vs:List Value},XQ xs ys=some true->VRs W xs us->VRs W ys vs->us=vs∧(us.zip us).all fun p=>Instr.sameBits 9999 p.1 p.2
 | [],[],us,vs,_,h1,h2=>by cases h1;cases h2;exact⟨rfl,rfl⟩
 |x::xs,y::ys,us,vs,h,h1,h2=>by
  cases x<;>cases y<;>simp only[XQ]at h<;>first|(cases h;done)|skip
  split at h
  ·rename_i hj
   cases hr:XQ xs ys with
   |none=>rw[hr]at h;cases h
   |some q=>
    rw[hr]at h
    simp only[Option.map_some,Option.some.injEq,Bool.and_eq_true]at h
    obtain⟨h3,rfl⟩:=h
    cases h1 with|cons _ u1 _ us1 a1 a2=>
    cases h2 with|cons _ u2 _ us2 b1 b2=>
    cases a1;cases b1
    obtain⟨rfl,g⟩:=Zc5 hr a2 b2
    have:=eq_of_beq h3
    subst this hj
    refine⟨rfl,?_⟩
    simp only[List.zip_cons_cons,List.all_cons,g,Bool.and_true]
    simp[Instr.sameBits]
  ·cases h
 | [],y::ys,_,_,h,_,_=>by simp[XQ]at h
 |x::xs,[],_,_,h,_,_=>by cases x<;>simp[XQ]at h

theorem Zyb{xs:List V}{s:Nat}{x:V}{l:List V}(h:xs.drop s=x::l):Zo 1 (xs.drop (s*1))=some [x]:=by
 rw[Nat.mul_one,h];rfl
theorem Zh8{xs:List V}{s:Nat}{x:V}{l:List V}(h:xs.drop s=x::l):xs.drop (s+1)=l:=by
 rw[<-List.drop_drop,h];rfl

theorem Zl2{te:TI}{e:TypeId}{ei:TypeInfo}{ed:TypeDesc}{ez:Value}(ht:TIOK Y e te ei ed ez)(hs:te.size=1){k0:IntKind}(hk:te.kd= .int k0){xs ys:List V}{us vs:List Value}(hx:VRs W xs us)(hy:VRs W ys vs)(n:Nat)(w:World):
  ∀(xs' ys':List V) (s:Nat) (r:Bool),xs.drop s=xs'->ys.drop s=ys'->XQ xs' ys'=some r->(JQ (n+1) e te.size us.toArray vs.toArray (List.range' s xs'.length)).run Y.P w= .ok r w
 | [],[],s,r,_,_,h=>by
  simp only[XQ,Option.some.injEq]at h
  subst h
  simp[JQ]
 |x::xs',y::ys',s,r,h1,h2,h=>by
  have hcx:=Vx h (List.mem_cons_self ..)
  obtain⟨j,a,rfl⟩:=hcx
  cases y<;>simp only[XQ]at h<;>first|(cases h;done)|skip
  split at h
  ·rename_i k b hj
   subst hj
   cases hr:XQ xs' ys' with
   |none=>rw[hr]at h;cases h
   |some q=>
    rw[hr]at h
    simp only[Option.map_some,Option.some.injEq]at h
    obtain⟨ua,u',g1,g2,g3⟩:=Wq ht hx (off:=s*1) (l:= [.i j a]) (by rw[hs];exact Zyb h1)
    obtain⟨ub,v',g4,g5,g6⟩:=Wq ht hy (off:=s*1) (l:= [.i j b]) (by rw[hs];exact Zyb h2)
    rw[hk]at g3 g6
    simp only[Kd.agg,Bool.false_eq_true,if_false]at g3 g6
    subst g3 g6
    cases g1 with|cons _ _ _ _ g1 _=>
    cases g4 with|cons _ _ _ _ g4 _=>
    have hq:(Op.equalIn (n+1) e u' v').run Y.P w= .ok (a==b) w:=Zeu ht (x:= .i j a) (y:= .i j b) (by rw[hk];simp[JO]) g1 g4 n w
    have ih:=Zl2 ht hs hk hx hy n w xs' ys' (s+1) q (Zh8 h1) (Zh8 h2) hr
    simp only[List.length_cons,List.range'_succ,JQ,hs,Sem.run_bind,g2,g5,hq,Result.andThen_ok,Sem.run_ite]
    rw[hs]at ih
    rw[<-h]
    cases a==b
    ·simp
    ·simpa using ih
  ·cases h
 | [],y::ys',_,_,_,_,h=>by simp[XQ]at h
 |x::xs',[],_,_,_,_,h=>by cases x<;>simp[XQ]at h

theorem Zp1{t e:TypeId}{len:Nat}{te:TI}{ei:TypeInfo}{ed:TypeDesc}{ez:Value}(hu:Y.P.underlying t=some (.array len e))(ht:TIOK Y e te ei ed ez)(hs:te.size=1){k0:IntKind}(hk:te.kd= .int k0){xs:List V}{us:List Value}(hx:VRs W xs us)
  (hlen:xs.length=len) (hi: ∀x∈xs,∃j a,x= .i j a) (b:Bool) (w:World):(Instr.checkKey b 10000 t (.agg us.toArray)).run Y.P w= .ok () w:=by
 have hed:ed= .int k0:=by have:=ht.kd;rw[hk]at this;exact this
 have hund:Y.P.underlying e=some (.int k0):=by rw[<-hed];exact ht.und
 have hsz:ei.size=1:=by rw[ht.size];exact hs
 have one: ∀i,i<len-> ∃u',(∀w,(part e us.toArray (i*1)).run Y.P w= .ok u' w)∧ ∀n w,(Instr.checkKey b (n+1) e u').run Y.P w= .ok () w:=by
  intro i hil
  have hil2:i<xs.length:=by omega
  obtain⟨j,a,hxa⟩:=hi xs[i] (List.getElem_mem hil2)
  have hd:xs.drop i= .i j a::xs.drop (i+1):=by rw[List.drop_eq_getElem_cons hil2,hxa]
  obtain⟨ua,u',g1,g2,g3⟩:=Wq ht hx (off:=i*1) (l:= [.i j a]) (by rw[hs];exact Zyb hd)
  rw[hk]at g3
  simp only[Kd.agg,Bool.false_eq_true,if_false]at g3
  subst g3
  cases g1 with|cons _ _ _ _ g1 _=>
  cases g1
  refine⟨_,g2,fun n w=> ?_⟩
  simp only[Instr.checkKey,Sem.run_bind,run_underlying hund,Result.andThen_ok]
  rfl
 have all: ∀(l:List Nat) (n:Nat) (w:World),(∀i∈l,i<len)->((forIn l PUnit.unit fun i (_:PUnit)=>(do Instr.checkKey b (n+1) e (<-part e us.toArray (i*(<-sizeOf e)));pure (ForInStep.yield PUnit.unit):Sem (ForInStep PUnit))):Sem PUnit).run Y.P w= .ok PUnit.unit w:=by
  intro l
  induction l with
  |nil=>intro n w _;simp
  |cons i l ih=>
   intro n w hl
   obtain⟨u',g1,g2⟩:=one i (hl i (List.mem_cons_self ..))
   simp only[List.forIn_cons,Sem.run_bind,ZM ht.info,Result.andThen_ok,hsz,g1,g2,Sem.run_pure]
   exact ih n w fun x hx=>hl x (List.mem_cons_of_mem _ hx)
 have top: ∀n,(Instr.checkKey b (n+2) t (.agg us.toArray)).run Y.P w= .ok () w:=fun n=>by
  rw[Instr.checkKey]
  simp only[Sem.run_bind,run_underlying hu,Result.andThen_ok,Std.Legacy.Range.forIn_eq_forIn_range',Std.Legacy.Range.size,Nat.sub_zero,Nat.add_sub_cancel,Nat.div_one]
  have:=all (List.range' 0 len) n w (fun i hi=>by rw[List.mem_range'_1]at hi;omega)
  simp at this ⊢
  rw[this];rfl
 exact top 9998

theorem Ztx(hY:YOK Y){t:TypeId}{ti:TI}(h:Y.ty t=some ti): ∃z,(∀w,(zeroValue t).run Y.P w= .ok z w)∧ ∀W,VR W (Zj2 Y t) z:=by
 obtain⟨i,d,z,ht⟩:=hY.ty t ti h
 refine⟨z,Qa ht.info ht.zero,fun W=> ?_⟩
 unfold Zj2
 simp only[ht.info,Option.bind_some,ht.zero]
 exact VR.ofC W z

theorem Zp2{kk:Kd}{k:V} : ∀ {es:List (V×V)},ZP kk k es=true->Zj1 kk k=true
 | [],h=>h
 |e::es,h=>by
  simp only[ZP,Bool.and_eq_true]at h
  exact Zp2 h.2

theorem Zl3{kt e:TypeId}{len:Nat}{te:TI}{ei:TypeInfo}{ed:TypeDesc}{ez:Value}(hu:Y.P.underlying kt=some (.array len e))(ht:TIOK Y e te ei ed ez)(hs:te.size=1){k0:IntKind}(hk0:te.kd= .int k0){xs:List V}{us:List Value}(hx:VRs W xs us)(hlen:xs.length=len)
  {v:V} {x:Value} (hv:VR W v x) (w:World): ∀(es:List (V×V)) (m:List MapEntry) (i:Nat),VRs W (es.map (·.1)) (m.map (·.key))->VRs W (es.map (·.2)) (m.map (·.val))->ZP (.arr len e) (.agg xs) es=true->
  (XF (.arr len e) (.agg xs) es=none∧(Instr.findAsking kt (.agg us.toArray) m i).run Y.P w= .ok none w∧Xh (.arr len e) (.agg xs) v es=es++ [(.agg xs,v)])∨
  ∃j e' v0,XF (.arr len e) (.agg xs) es=some v0∧VR W v0 e'.val∧m[j]? =some e'∧(Instr.findAsking kt (.agg us.toArray) m i).run Y.P w= .ok (some (i+j,e'.val)) w∧Instr.sameBits 10000 e'.key (.agg us.toArray)=true∧
   VRs W ((Xh (.arr len e) (.agg xs) v es).map (·.1)) ((m.modify j fun e=> {e with key:= .agg us.toArray,val:=x}).map (·.key))∧VRs W ((Xh (.arr len e) (.agg xs) v es).map (·.2)) ((m.modify j fun e=> {e with key:= .agg us.toArray,val:=x}).map (·.val))
 | [],m,i,h1,_,_=>by
  cases m with
  |nil=>exact .inl ⟨rfl,rfl,rfl⟩
  |cons e m=>cases h1
 |c::es,m,i,h1,h2,hp=>by
  cases m with
  |nil=>cases h1
  |cons e' m=>
   simp only[List.map_cons]at h1 h2
   cases h1 with|cons _ _ _ _ h1a h1b=>
   cases h2 with|cons _ _ _ _ h2a h2b=>
   simp only[ZP,Bool.and_eq_true]at hp
   obtain⟨r,hr⟩:=Option.isSome_iff_exists.1 hp.1
   obtain⟨ys,hys,hri⟩: ∃ys,c.1= .agg ys∧XQ xs ys=some r:=by
    have hr2:=hr
    unfold Zcv at hr2
    simp only[]at hr2
    generalize c.1=cv at hr2
    cases cv<;>first|exact⟨_,rfl,hr2⟩|cases hr2
   rw[hys]at h1a
   generalize hkey:e'.key=ke at h1a
   cases h1a with|agg _ vs hyv=>
   have heq:(Op.equal kt (.agg us.toArray) (.agg vs.toArray)).run Y.P w= .ok r w:=by
    have h3:=Jw (Y:=Y) 9999 kt e len us.toArray vs.toArray hu ht.info w
    have h4:=Zl2 ht hs hk0 hx hyv 9998 w xs ys 0 r rfl rfl hri
    rw[hlen,<-List.range_eq_range']at h4
    rw[<-ht.size]at h4
    exact h3.trans h4
   have hfa:(Instr.findAsking kt (.agg us.toArray) (e'::m) i).run Y.P w=if r=true then .ok (some (i,e'.val)) w else(Instr.findAsking kt (.agg us.toArray) m (i+1)).run Y.P w:=by
    rw[Instr.findAsking]
    simp only[Sem.run_bind,hkey,heq,Result.andThen_ok,Sem.run_ite,Sem.run_pure]
   cases r with
   |true=>
    obtain⟨huv,hzip⟩:=Zc5 hri hx hyv
    subst huv
    refine .inr ⟨0,e',c.2,?_,h2a,rfl,?_,?_,?_,?_⟩
    ·simp[XF,QM,hr]
    ·rw[hfa,if_pos rfl];rfl
    ·rw[hkey]
     simp only[Instr.sameBits,beq_self_eq_true,Bool.true_and]
     exact hzip
    ·simp only[Xh,QM,hr,if_true,List.map_cons,List.modify_zero_cons]
     exact .cons _ _ _ _ (.agg _ _ hx) h1b
    ·simp only[Xh,QM,hr,if_true,List.map_cons,List.modify_zero_cons]
     exact .cons _ _ _ _ hv h2b
   |false=>
    rcases Zl3 hu ht hs hk0 hx hlen hv w es m (i+1) h1b h2b hp.2 with ⟨g1,g2,g3⟩|⟨j,e0,v0,g1,g2,g3,g4,g5,g6,g7⟩
    ·refine .inl ⟨by simp[XF,QM,hr,g1],by rw[hfa,if_neg (by decide)];exact g2,by simp[Xh,QM,hr,g3]⟩
    ·refine .inr ⟨j+1,e0,v0,by simp[XF,QM,hr,g1],g2,by simpa using g3,?_,g5,?_,?_⟩
     ·rw[hfa,if_neg (by decide),g4,show i+1+j=i+(j+1) by omega]
     ·simp only[Xh,QM,hr,Bool.false_eq_true,if_false,List.map_cons,List.modify_succ_cons]
      refine .cons _ _ _ _ ?_ g6
      rw[hys,hkey];exact .agg _ _ hyv
     ·simp only[Xh,QM,hr,Bool.false_eq_true,if_false,List.map_cons,List.modify_succ_cons]
      exact .cons _ _ _ _ h2a g7

theorem Zwh(hY:YOK Y){kt:TypeId}{kk:Kd}{tk:TI}(htk:Y.ty kt=some tk)(hkk:tk.kd=kk)(hp:Qm Y kt=true){k v:V}{u x:Value}(hk:VR W k u)(hv:VR W v x){es:List (V×V)}{m:List MapEntry}
  (h1:VRs W (es.map (·.1)) (m.map (·.key))) (h2:VRs W (es.map (·.2)) (m.map (·.val))) (hpl:ZP kk k es=true) (w:World):
  (∀b,(Instr.checkKey b 10000 kt u).run Y.P w= .ok () w)∧
  ((XF kk k es=none∧(Instr.findKey kt u m).run Y.P w= .ok none w∧Xh kk k v es=es++ [(k,v)])∨
  ∃j e v0,XF kk k es=some v0∧VR W v0 e.val∧m[j]? =some e∧(Instr.findKey kt u m).run Y.P w= .ok (some (j,e.val)) w∧Instr.sameBits 10000 e.key u=true∧
   VRs W ((Xh kk k v es).map (·.1)) ((m.modify j fun e=> {e with key:=u,val:=x}).map (·.key))∧VRs W ((Xh kk k v es).map (·.2)) ((m.modify j fun e=> {e with key:=u,val:=x}).map (·.val))):=by
 obtain⟨ik,dk,zk,htkk⟩:=hY.ty kt tk htk
 have hkd2:=htkk.kd
 rw[hkk]at hkd2
 have hkdt:Y.kd kt=some kk:=by unfold YP.kd;rw[htk,Option.map_some,hkk]
 unfold Qm at hp
 rw[hkdt]at hp
 by_cases harr: ∃n e,kk= .arr n e
 ·obtain⟨n,e,rfl⟩:=harr
  simp only[]at hp
  split at hp
  ·rename_i te hte
   simp only[Bool.and_eq_true]at hp
   obtain⟨hsz,hkind⟩:=hp
   have hsz:te.size=1:=by simpa using hsz
   obtain⟨k0,hk0⟩: ∃k0,te.kd= .int k0:=by
    revert hkind
    cases te.kd<;>intro h<;>first|exact⟨_,rfl⟩|cases h
   obtain⟨ei,ed,ez,het⟩:=hY.ty e te hte
   obtain⟨rfl,_⟩:=hkd2
   have hself:=Zp2 hpl
   unfold Zj1 at hself
   simp only[]at hself
   split at hself
   ·rename_i xs
    simp only[Bool.and_eq_true]at hself
    have hlen:xs.length=n:=by simpa using hself.1
    obtain⟨r0,hr0⟩:=Option.isSome_iff_exists.1 hself.2
    cases hk with|agg _ us hx=>
    refine⟨fun b=>Zp1 htkk.und het hsz hk0 hx hlen (fun z hz=>Vx hr0 hz) b w,?_⟩
    have hfind:(Instr.findKey kt (.agg us.toArray) m).run Y.P w=(Instr.findAsking kt (.agg us.toArray) m 0).run Y.P w:=by
     simp only[Instr.findKey,Sem.run_bind,run_underlying htkk.und,Result.andThen_ok]
     cases m with
     |nil=>rfl
     |cons e' m=>rfl
    rw[hfind]
    have:=Zl3 htkk.und het hsz hk0 hx hlen hv w es m 0 h1 h2 hpl
    simpa only[Nat.zero_add]using this
   ·cases hself
  ·cases hp
 ·have hp:Wp kk=true:=by
   cases kk<;>first|exact hp|exact absurd ⟨_,_,rfl⟩ harr
  have hd:=ZB2 hkd2 hp
  refine⟨fun b=>Zh7 htkk.und hd u w,?_⟩
  rcases Zwg hd hk hv es m 0 h1 h2 hpl with ⟨g1,g2,g3⟩|⟨j,e,v0,g1,g2,g3,g4,g5,g6,g7⟩
  ·exact .inl ⟨g1,Zc4 htkk.und g2 w,g3⟩
  ·rw[Nat.zero_add]at g4
   exact .inr ⟨j,e,v0,g1,g2,g3,Zc4 htkk.und g4 w,g5,g6,g7⟩

theorem Zp3(hY:YOK Y)(h:Rel W σ a w){o:Oper}{v:V}{h':Heap}(hs:mapH Y σ o=some (h',v)):StepR Y W σ a w o (putV {σ with h:=h'} o.dst v):=by
 unfold mapH at hs
 have upd: ∀(t:TypeId) (m k x:Operand),(execOp a.eval o=do let _<-Instr.mapUpdate t (a.eval m) (a.eval k) (a.eval x);pure .skip)->
   ((match Y.kd t,ev σ.env m with
   |some (.map kt _), .mp (some r)=>match Y.kd kt,σ.h.get r with
    |some kk,some (.map es)=>if Qm Y kt&&ZP kk (ev σ.env k) es then some (σ.h.set r (some (.map (Xh kk (ev σ.env k) (ev σ.env x) es))),V.undef)else none
    |_,_=>none
   |_,_=>none)=some (h',v))->StepR Y W σ a w o (putV {σ with h:=h'} o.dst v):=by
  intro t m k x hex hs
  split at hs
  ·rename_i kt et r hk hm
   split at hs
   ·rename_i kk es hkk hg
    split at hs
    ·rename_i hc
     simp only[Bool.and_eq_true]at hc
     simp only[Option.some.injEq,Prod.mk.injEq]at hs
     obtain⟨rfl,rfl⟩:=hs
     obtain⟨ti,hti,hk'⟩:=Xx hk
     obtain⟨i,d,z,ht⟩:=hY.ty t ti hti
     have hkd:=ht.kd
     rw[hk']at hkd
     cases hkd
     obtain⟨tk,htk,hkk'⟩:=Xx hkk
     obtain⟨ik,dk,zk,htkk⟩:=hY.ty kt tk htk
     have hkd2:=htkk.kd
     rw[hkk']at hkd2
     have hmv:=h.ev m
     rw[hm]at hmv
     generalize hum:a.eval m=um at hmv hex
     have hlv:W.lv r:=(h.heap.lv r).2 (by simp[hg])
     obtain⟨me,clock,hb,hks,hvs⟩:=h.heap.obj r _ hg
     cases hmv with
     |mps _ rr hid hr=>
      have hrr:=hr hlv
      subst hrr
      have hblk:=Zq hb
      have wr: ∀(me':Array MapEntry) (clock':Nat),VRs W ((Xh kk (ev σ.env k) (ev σ.env x) es).map (·.1)) (me'.toList.map (·.key))->VRs W ((Xh kk (ev σ.env k) (ev σ.env x) es).map (·.2)) (me'.toList.map (·.val))->
        (Instr.mapUpdate t (.map (some (W.mu r).1)) (a.eval k) (a.eval x)).run Y.P w= .ok () (w.putB (W.mu r).1 (.map me' clock'))->
        StepR Y W σ a w o (putV {σ with h:=σ.h.set r (some (.map (Xh kk (ev σ.env k) (ev σ.env x) es)))} o.dst .undef):=by
       intro me' clock' q1 q2 hrun
       obtain⟨g1,g2⟩:=h.heap.write (w':=w.putB (W.mu r).1 (.map me' clock')) ⟨rfl,rfl,rfl⟩ hlv (o:= .map (Xh kk (ev σ.env k) (ev σ.env x) es)) (Vs _ _ _) (Zcx _ _ _) (fun c e fr hcc=>by rw[hb]at hcc;cases hcc)
        ⟨me',clock',QO _ _ _ hblk,q1,q2⟩
       refine StepR.heap h g1 g2 (n:= .skip) (.undef Go.undef) ?_ (.inr ⟨rfl,rfl⟩)
       rw[hex]
       simp only[Sem.run_bind,hrun,Result.andThen_ok,Sem.run_pure]
      have hset: ∀(me':Array MapEntry) (clock':Nat),(setObj (W.mu r).1 (.map me' clock')).run Y.P w= .ok () (w.putB (W.mu r).1 (.map me' clock')):=fun me' clock'=>Zya _ hb
      obtain⟨hchk,hfd⟩:=Zwh hY htk hkk' hc.1 (h.ev k) (h.ev x) hks hvs hc.2 w
      rcases hfd with ⟨g1,g2,g3⟩|⟨j,e,v0,g1,g2,g3,g4,g5,g6,g7⟩
      ·refine wr (me.push {key:=a.eval k,val:=a.eval x,born:=clock}) (clock+1) ?_ ?_ ?_
       ·rw[g3]
        simp only[List.map_append,Array.toList_push]
        exact hks.append (.cons _ _ _ _ (h.ev k) .nil)
       ·rw[g3]
        simp only[List.map_append,Array.toList_push]
        exact hvs.append (.cons _ _ _ _ (h.ev x) .nil)
       ·simp only[Instr.mapUpdate,Sem.run_bind,run_underlying ht.und,Result.andThen_ok,Zkg hb,hchk,g2,hset]
      ·refine wr (me.modify j fun e=> {e with key:=a.eval k,val:=a.eval x}) clock (by rw[Array.toList_modify];exact g6) (by rw[Array.toList_modify];exact g7) ?_
       have hj:me[j]? =some e:=by simpa using g3
       have hkt:(Instr.keyThatStays e.key (a.eval k)).run Y.P w= .ok (a.eval k) w:=by
        simp only[Instr.keyThatStays,g5,if_true,Sem.run_pure]
       simp only[Instr.mapUpdate,Sem.run_bind,run_underlying ht.und,Result.andThen_ok,Zkg hb,hchk,g4,hj,Option.map_some,Option.getD_some,hkt,hset]
    ·cases hs
   ·cases hs
  ·cases hs
 split at hs
 ·rename_i t m k ok hop
  split at hs
  ·rename_i kt et r hk hm
   split at hs
   ·rename_i kk es hkk hes
    split at hs
    ·rename_i hc
     simp only[Bool.and_eq_true]at hc
     obtain⟨te,hte⟩:=Option.isSome_iff_exists.1 hc.2
     obtain⟨z,hz,hzr⟩:=Ztx hY hte
     obtain⟨ti,hti,hk'⟩:=Xx hk
     obtain⟨i,d,zz,ht⟩:=hY.ty t ti hti
     have hkd:=ht.kd
     rw[hk']at hkd
     cases hkd
     obtain⟨tk,htk,hkk'⟩:=Xx hkk
     obtain⟨ik,dk,zk,htkk⟩:=hY.ty kt tk htk
     have hkd2:=htkk.kd
     rw[hkk']at hkd2
     have hmv:=h.ev m
     rw[hm]at hmv
     have look: ∃me:Array MapEntry,VRs W (es.map (·.1)) (me.toList.map (·.key))∧VRs W (es.map (·.2)) (me.toList.map (·.val))∧ ∀r,(∀b,(Instr.checkKey b 10000 kt (a.eval k)).run Y.P w= .ok () w)->(Instr.findKey kt (a.eval k) me.toList).run Y.P w= .ok r w->
       (Instr.lookup t (a.eval m) (a.eval k) ok).run Y.P w=(match r with
        |some (_,v)=> .ok (if ok then .tuple #[v, .bool true]else v) w
        |none=> .ok (if ok then .tuple #[z, .bool false]else z) w):=by
      generalize a.eval m=um at hmv
      cases hmv with
      |mpn=>
       simp only[VS,Option.some.injEq]at hes
       subst hes
       refine⟨#[], .nil, .nil,fun r hchk hr=> ?_⟩
       simp only[Instr.lookup,Sem.run_bind,run_underlying ht.und,Result.andThen_ok,Sem.run_pure,hchk,hr]
       cases r with
       |none=>simp only[hz w,Sem.run_bind,Result.andThen_ok,Sem.run_pure]
       |some p=>rfl
      |mps id rr hid hr0=>
       simp only[VS]at hes
       split at hes
       ·rename_i es' hg
        simp only[Option.some.injEq]at hes
        subst hes
        obtain⟨me,clock,hb,hks,hvs⟩:=h.heap.obj id _ hg
        have hrr:=hr0 ((h.heap.lv id).2 (by simp[hg]))
        subst hrr
        refine⟨me,hks,hvs,fun r hchk hr=> ?_⟩
        simp only[Instr.lookup,Sem.run_bind,run_underlying ht.und,Result.andThen_ok,Sem.run_pure,Zkg hb,hchk,hr]
        cases r with
        |none=>simp only[hz w,Sem.run_bind,Result.andThen_ok,Sem.run_pure]
        |some p=>rfl
       ·cases hes
     obtain⟨me,hks,hvs,hl⟩:=look
     have fin: ∀(x:V) (u:Value),VR W x u->h'=σ.h->v=x->(Instr.lookup t (a.eval m) (a.eval k) ok).run Y.P w= .ok u w->StepR Y W σ a w o (putV {σ with h:=h'} o.dst v):=by
      intro x u hxu e1 e2 hrun
      subst e1 e2
      refine StepR.heap h h.heap (Stp.refl W _ w) hxu ?_ (.inl rfl)
      simp only[execOp,hop,Sem.run_bind,hrun,Result.andThen_ok,Sem.run_pure]
     obtain⟨hchk,hfd⟩:=Zwh hY htk hkk' hc.1.1 (h.ev k) (.undef Go.undef) hks hvs hc.1.2 w
     rcases hfd with ⟨g1,g2,_⟩|⟨j,e,v0,g1,g2,g3,g4,_⟩
     ·rw[g1]at hs
      simp only[Option.some.injEq,Prod.mk.injEq]at hs
      refine fin _ (if ok then .tuple #[z, .bool false]else z) ?_ hs.1.symm hs.2.symm (hl _ hchk g2)
      cases ok
      ·exact hzr W
      ·exact .tup _ [z, .bool false] (.cons _ _ _ _ (hzr W) (.cons _ _ _ _ (.b false) .nil))
     ·rw[g1]at hs
      simp only[Option.some.injEq,Prod.mk.injEq]at hs
      refine fin _ (if ok then .tuple #[e.val, .bool true]else e.val) ?_ hs.1.symm hs.2.symm (hl _ hchk g4)
      cases ok
      ·exact g2
      ·exact .tup _ [e.val, .bool true] (.cons _ _ _ _ g2 (.cons _ _ _ _ (.b true) .nil))
    ·cases hs
   ·cases hs
  ·cases hs
 ·rename_i t m k x hop
  exact upd t m k x (by simp only[execOp,hop]) hs
 ·rename_i t m k x hop
  exact upd t m k x (by simp only[execOp,hop]) hs
 ·rename_i args ats hop
  split at hs
  ·rename_i x t har hat
   have har':args= #[x]:=by apply Array.ext';simpa using har
   have hat':ats= #[t]:=by apply Array.ext';simpa using hat
   subst har' hat'
   have hrun: ∀u w',(Builtin.clear_ #[t] o.type #[a.eval x]).run Y.P w= .ok u w'->(execOp a.eval o).run Y.P w= .ok (.value u) w':=by
    intro u w' hu
    have e1:(resolve a.eval ⟨.builtin .clear,#[x],#[t]⟩ o.type).run Y.P w= .ok {target:= .builtin .clear #[t] o.type (#[x].map fun| .const _=>true|_=>false),args:= #[x].map a.eval} w:=rfl
    have e3:(#[x].map a.eval)= #[a.eval x]:=by simp
    simp only[execOp,hop,Sem.run_bind,e1,Result.andThen_ok,invoke,builtin]
    rw[e3]
    simp only[hu,Result.andThen_ok,Sem.run_pure]
   split at hs
   ·rename_i e q1 q2 q3 hk hxv
    simp only[Option.some.injEq,Prod.mk.injEq]at hs
    obtain⟨rfl,rfl⟩:=hs
    obtain⟨ti,hti,hk'⟩:=Xx hk
    obtain⟨i,d,zz,ht⟩:=hY.ty t ti hti
    have hx:=h.ev x
    rw[hxv]at hx
    generalize a.eval x=ux at hx hrun
    cases hx
    refine StepR.heap h h.heap (Stp.refl W _ w) (u:= .tuple #[]) (.tup [] [] .nil) (hrun _ _ ?_) (.inl rfl)
    have hkd:=ht.kd
    rw[hk']at hkd
    cases hkd
    simp[Builtin.clear_,run_underlying ht.und]
   ·rename_i e id off len q1 k hk hxv
    obtain⟨ti,hti,hk'⟩:=Xx hk
    obtain⟨i,d,zz,ht⟩:=hY.ty t ti hti
    have hkd:=ht.kd
    rw[hk']at hkd
    cases hkd
    have hx:=h.ev x
    rw[hxv]at hx
    generalize a.eval x=ux at hx hrun
    split at hs
    ·rename_i te hte
     split at hs
     ·rename_i hl0
      subst hl0
      simp only[Option.some.injEq,Prod.mk.injEq]at hs
      obtain⟨rfl,rfl⟩:=hs
      cases hx with
      |sls _ _ _ _ _ y cap' hid hl hc ha hn hkk=>
       refine StepR.heap h h.heap (Stp.refl W _ w) (u:= .tuple #[]) (.tup [] [] .nil) (hrun _ _ ?_) (.inl rfl)
       simp[Builtin.clear_,run_underlying ht.und]
     ·rename_i hl0
      split at hs
      ·rename_i hkt
       subst hkt
       split at hs
       ·rename_i cs hg
        split at hs
        ·rename_i hb
         simp only[Option.some.injEq,Prod.mk.injEq]at hs
         obtain⟨rfl,rfl⟩:=hs
         obtain⟨ie,de,ze,hee⟩:=hY.ty e te hte
         have hlv:W.lv id:=(h.heap.lv id).2 (by simp[hg])
         have hrow:=VT (hee.zr W) len
         have hac:Zk (List.replicate len te.zero).flatten=true:=by
          clear hb hrow
          have hz:=hee.zc
          have happ: ∀l m:List V,Zk (l++m)=(Zk l&&Zk m):=fun l m=>by
           induction l with
           |nil=>rfl
           |cons v r ih=>simp only[List.cons_append,Zk,ih,Bool.and_assoc]
          have: ∀n,Zk (List.replicate n te.zero).flatten=true:=fun n=>by
           induction n with
           |zero=>rfl
           |succ n ih=>rw[List.replicate_succ,List.flatten_cons,happ,hz,ih];rfl
          exact this len
         have h1:=QT hrow hac
         obtain⟨w',g1,g2,g3⟩:=h.heap.spliceAt hg (off:=off) (new:=(List.replicate len te.zero).flatten) (by rw[Vt,hee.zl];exact hb) hrow h1 Y.P
         cases hx with
         |sls _ _ _ _ _ y cap' hid hl hc ha hn hkk=>
          have hy:=ha hlv (by omega)
          subst hy
          refine StepR.heap h g2 g3 (u:= .tuple #[]) (.tup [] [] .nil) (hrun _ _ ?_) (.inl rfl)
          have hzc:(Builtin.zeroCells ze.cells len).toList=(List.range (len*ze.cells.size)).map fun i=>ze.cells[i % ze.cells.size]! :=by
           rw[Builtin.zeroCells,Ws]
          obtain⟨n,rfl⟩: ∃n,len=n+1:=⟨len-1,by omega⟩
          simp only[Builtin.clear_,Sem.run_bind,run_underlying ht.und,Result.andThen_ok,Qa hee.info hee.zero,hzc,g1,Sem.run_pure,List.getElem?_toArray,List.getElem?_cons_zero]
        ·cases hs
       ·cases hs
      ·cases hs
    ·cases hs
   ·cases hs
  ·cases hs
 ·rename_i args ats hop
  split at hs
  ·rename_i d x st rest har hat
   have har':args= #[d,x]:=by apply Array.ext';simpa using har
   have hat':ats=(st::rest).toArray:=by apply Array.ext';simpa using hat
   subst har' hat'
   have hrun: ∀u w',(Builtin.copy_ (st::rest).toArray o.type #[a.eval d,a.eval x]).run Y.P w= .ok u w'->(execOp a.eval o).run Y.P w= .ok (.value u) w':=by
    intro u w' hu
    have e1:(resolve a.eval ⟨.builtin .copy,#[d,x],(st::rest).toArray⟩ o.type).run Y.P w= .ok {target:= .builtin .copy (st::rest).toArray o.type (#[d,x].map fun| .const _=>true|_=>false),args:= #[d,x].map a.eval} w:=rfl
    have e3:(#[d,x].map a.eval)= #[a.eval d,a.eval x]:=by simp
    simp only[execOp,hop,Sem.run_bind,e1,Result.andThen_ok,invoke,builtin]
    rw[e3]
    simp only[hu,Result.andThen_ok,Sem.run_pure]
   split at hs
   ·rename_i e id off len q1 k hk hdv
    obtain⟨ti,hti,hk'⟩:=Xx hk
    obtain⟨i,dd,zz,ht⟩:=hY.ty st ti hti
    have hkd:=ht.kd
    rw[hk']at hkd
    cases hkd
    split at hs
    ·rename_i te hte
     obtain⟨ie,de,ze,hee⟩:=hY.ty e te hte
     split at hs
     ·rename_i n cs hel
      split at hs
      ·rename_i hc
       obtain⟨rfl,hsz,hac⟩:=hc
       split at hs
       ·rename_i cs0 hg
        split at hs
        ·rename_i hb
         simp only[Option.some.injEq,Prod.mk.injEq]at hs
         obtain⟨rfl,rfl⟩:=hs
         have hlv:W.lv id:=(h.heap.lv id).2 (by simp[hg])
         -- the Xz
         have src: ∃us:List Value,VRs W cs us∧(Builtin.lenOf (a.eval x)).run Y.P w= .ok n w∧(Builtin.firstCells te.size (min n len) (a.eval x)).run Y.P w= .ok (us.take (min n len*te.size)).toArray w:=by
          have hx:=h.ev x
          unfold QL at hel
          split at hel
          ·rename_i l hxv
           rw[hxv]at hx
           split at hel
           ·rename_i hk1
            simp only[Option.some.injEq,Prod.mk.injEq]at hel
            obtain⟨rfl,rfl⟩:=hel
            generalize a.eval x=ux at hx
            cases hx
            refine⟨l.map fun c=>Value.int .u8 c.toNat,?_,rfl,?_⟩
            ·exact Zh6 l
            ·simp only[Builtin.firstCells,Sem.run_pure,hk1,Nat.mul_one]
             congr 1
             apply Array.ext'
             simp[ByteArray.data_extract]
           ·cases hel
          ·obtain⟨us,h1,h2,h3⟩:=Wr h hel hx
           refine⟨us,h1,?_,?_⟩
           ·rcases h3 with ⟨he,rfl⟩|⟨y,cap,he,_,_⟩<;>rw[he]<;>rfl
           ·rcases h3 with ⟨he,rfl⟩|⟨y,cap,he,_,hcw⟩
            ·rw[he]
             have:us= []:=by simpa using h2
             subst this
             simp[Builtin.firstCells]
            ·rw[he]
             refine run_firstCells_some w te.size (min n len) y n cap _ ?_ fun j v hj=> ?_
             ·rw[List.length_take,h2]
              exact Nat.min_eq_left (Nat.mul_le_mul_right _ (Nat.min_le_left _ _))
             ·rw[List.getElem?_take]at hj
              split at hj
              ·exact hcw j v hj
              ·cases hj
         obtain⟨us,hv,hln,hfc⟩:=src
         have h1:=QT hv hac
         obtain⟨w',g1,g2,g3⟩:=h.heap.spliceAt hg (off:=off) (new:=cs.take (min n len*te.size)) hb (hv.take _) (fun u hu=>h1 u (List.mem_of_mem_take hu)) Y.P
         have hd:=h.ev d
         rw[hdv]at hd
         generalize a.eval d=ud at hd hrun
         cases hd with
         |sls _ _ _ _ _ y cap' hid hl hcc ha hn hkk=>
          have hst:(storeCells y (us.take (min n len*te.size))).run Y.P w= .ok () w':=by
           by_cases hl0:0<cap'
           ·rw[ha hlv hl0];exact g1
           ·have:len=0:=by omega
            subst this
            simp only[Nat.min_zero,Nat.zero_mul,List.take_zero]at g1 ⊢
            have e1: ∀y,(storeCells y []).run Y.P w= .ok () w:=fun y=>rfl
            rw[e1]at g1 ⊢
            exact g1
          refine StepR.heap h g2 g3 (u:= .int .i64 ((min n len:Nat):Int)) (.i _ _) (hrun _ _ ?_) (.inl rfl)
          have e4:Nat.min n len=min n len:=rfl
          simp only[Builtin.copy_,List.getElem?_toArray,List.getElem?_cons_zero,List.getElem?_cons_succ,Sem.run_bind,run_underlying ht.und,Result.andThen_ok,hln,ZM hee.info,hee.size,e4,hfc,hst,Sem.run_pure]
          rfl
        ·cases hs
       ·cases hs
      ·cases hs
     ·cases hs
    ·cases hs
   ·cases hs
  ·cases hs
 ·cases hs

theorem Znz{o:Oper}{v:V}(hs:Zel Y σ o=some v):mapH Y σ o=some (σ.h,v):=by
 unfold Zel at hs
 split at hs
 ·rename_i t m k ok hop
  simp only[Option.map_eq_some_iff]at hs
  obtain⟨⟨h',v'⟩,h1,h2⟩:=hs
  simp only at h2
  subst h2
  have h3:=h1
  unfold mapH at h3
  rw[hop]at h3
  simp only at h3
  repeat' (split at h3<;>try (cases h3;done))
  all_goals (simp only[Option.some.injEq,Prod.mk.injEq]at h3;obtain⟨rfl,_⟩:=h3;exact h1)
 ·cases hs

theorem Zty(hY:YOK Y)(h:Rel W σ a w){o:Oper}{v:V}(hs:Zel Y σ o=some v):StepR Y W σ a w o (putV σ o.dst v):=Zp3 hY h (Znz hs)
end
end Go.Y
