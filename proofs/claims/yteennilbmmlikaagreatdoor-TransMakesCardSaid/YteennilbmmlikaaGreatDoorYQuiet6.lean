/- A part of the proof. -/
import Derived.Test.YteennilbmmlikaaGreatDoorYQuiet3
import Derived.Laws.BytesString
namespace Go.Y
set_option maxRecDepth 1000000
set_option maxHeartbeats 0
section
variable {Y:YP} {W:Vw} {σ:St} {a:Act} {w:World}

theorem Zx2{o:Oper}{ρ:Operand->Value}{s:Sem Value}{P:Program}{u:Value}{w:World}(he:execOp ρ o=(do pure (.value (<-s))))(h:s.run P w= .ok u w):
  (execOp ρ o).run P w= .ok (.value u) w:=by
 rw[he]
 show(s>>=fun x=>pure (Next.value x)).run P w=_
 rw[Sem.run_bind,h]
 rfl

theorem Za9: ∀ {cs:List V} {us:List Value} {l:List UInt8},VRs W cs us->Qi cs=some l-> ∃ns:List Int,us=ns.map (Value.int .u8)∧l=ns.map fun n=>UInt8.ofNat n.toNat
 |_,_,l, .nil,h=>by simp[Qi]at h;subst h;exact⟨[],rfl,rfl⟩
 |_,_,l, .cons v u cs us hv hs,h=>by
  cases v with
  |i k n=>
   cases k with
   |u8=>
    simp only[Qi,Option.map_eq_some_iff]at h
    obtain⟨l',hl',rfl⟩:=h
    cases hv
    obtain⟨ns,h1,h2⟩:=Za9 hs hl'
    exact⟨n::ns,by simp[h1],by simp[h2]⟩
   |_=>simp[Qi]at h
  |_=>simp[Qi]at h

theorem Zba{op:Int->Int->Int}{f:Value->Value->Sem Value}(hf: ∀k x y,f (.int k x) (.int k y)=pure (.int k (op x y))):
  ∀ {vs:List V} {us:List Value} {k:IntKind} {m:Int} {r:V},VRs W vs us->VP op k m vs=some r-> ∃u,VR W r u∧ ∀w,(us.foldlM f (.int k m):Sem Value).run Y.P w= .ok u w
 |_,_,k,m,r, .nil,h=>by simp[VP]at h;subst h;exact⟨_, .i _ _,fun w=>rfl⟩
 |_,_,k,m,r, .cons v u vs us hv hs,h=>by
  cases v<;>simp only[VP,reduceCtorEq]at h
  split at h
  ·rename_i hk;subst hk
   cases hv
   obtain⟨u',h1,h2⟩:=Zba hf hs h
   exact⟨u',h1,fun w=>by simp only[List.foldlM_cons,hf,Sem.run_bind,Sem.run_pure,Result.andThen_ok,h2]⟩
  ·cases h

theorem Rel.evs(h:Rel W σ a w): ∀(xs:List Operand),VRs W (xs.map (Go.Y.ev σ.env)) (xs.map a.eval)
 | []=> .nil
 |x::xs=> .cons _ _ _ _ (h.ev x) (h.evs xs)

theorem Rel.evo(h:Rel W σ a w)(x:Option Operand):OR W (x.map (Go.Y.ev σ.env)) (x.map a.eval):=by
 cases x with
 |none=>trivial
 |some x=>exact h.ev x

theorem Wr(h:Rel W σ a w){k n:Nat}{v:V}{l:List V}(he:XE σ k v=some (n,l)){u:Value}(hv:VR W v u):
  ∃us,VRs W l us∧us.length=n*k∧((u= .slice none 0 0∧n=0)∨ ∃y cap,u= .slice (some y) n cap∧n<=cap∧CellsW w y us):=by
 unfold XE at he
 split at he
 ·split at he
  ·rename_i hn;subst hn
   simp at he;obtain⟨rfl,rfl⟩:=he
   cases hv
   exact⟨[], .nil,by simp, .inl ⟨rfl,rfl⟩⟩
  ·cases he
 ·rename_i id o len cap k'
  split at he
  ·rename_i hk;subst hk
   simp only[Option.map_eq_some_iff]at he
   obtain⟨l',hl,he⟩:=he
   simp at he;obtain⟨rfl,rfl⟩:=he
   cases hv with
   |sls _ _ _ _ _ y cap' hid hlc hc ha hn hk=>
    by_cases hz:len*k'=0
    ·have hnil:l'= []:=by
      rw[hz]at hl
      simp only[Xg]at hl
      split at hl
      ·simpa[Zo]using hl.symm
      ·cases hl
     subst hnil
     exact⟨[], .nil,by simp[hz], .inr ⟨y,cap',rfl,hlc,fun j u hj=>by simp at hj⟩⟩
    ·have hpos:0<cap':=by
      rcases Nat.eq_zero_or_pos len with h0|h0
      ·simp[h0]at hz
      ·omega
     obtain⟨us,h1,h2,h3⟩:=WM (W:=W) (σ:=σ) (a:=a) (w:=w) h (ad:= .hp id o) (y:=y) ⟨hid,fun hv=>ha hv hpos⟩ hl
     exact⟨us,h1,h2, .inr ⟨y,cap',rfl,hlc,h3⟩⟩
  ·cases he
 ·rename_i cs len cap
  simp only[Option.map_eq_some_iff]at he
  obtain⟨l',hl,he⟩:=he
  simp at he;obtain⟨rfl,rfl⟩:=he
  cases hv with
  |tsz _ hc=>
   have hl0:l'= []:=by simpa[Zo]using hl.symm
   subst hl0
   exact⟨[], .nil,by simp, .inl ⟨rfl,rfl⟩⟩
  |tsn _ _ y cap' hlc hc=>
   obtain⟨us,h1,h2,h3⟩:=WM (W:=W) (σ:=σ) (a:=a) (w:=w) h (ad:= .ro []) (y:=y) (.inl rfl) hl
   exact⟨us,h1,h2, .inr ⟨y,cap',rfl,hlc,h3⟩⟩
  |ts _ _ _ cap' blk off cc et fr us hlc hcap hs hcc hr=>
   obtain⟨us,h1,h2,h3⟩:=WM (W:=W) (σ:=σ) (a:=a) (w:=w) h (ad:= .ro cs) (y:=⟨blk,off,none⟩) (.inr ⟨blk,off,cc,et,fr,us,rfl,hs,hcc,hr⟩) hl
   exact⟨us,h1,h2, .inr ⟨_,cap',rfl,hlc,h3⟩⟩
 ·cases he

theorem Znw(ns:List Int): ∀s:ByteArray,ns.foldl (fun r n=>r.push (UInt8.ofNat n.toNat)) s=⟨(s.data.toList++ns.map fun n=>UInt8.ofNat n.toNat).toArray⟩:=by
 induction ns with
 |nil=>intro s;simp
 |cons n ns ih=>
  intro s
  simp only[List.foldl_cons,ih]
  apply ByteArray.ext
  simp[ByteArray.push]

theorem Zx3{r:Nat}{m:Array MapEntry}{clock:Nat}(h:w.heap[r]? =some (.map m clock)):(getObj r).run Y.P w= .ok (.map m clock) w:=by simp[getObj,Sem.run,h]

theorem Zlu{ti:TI}{t:TypeId}{i:TypeInfo}{d:TypeDesc}{z:Value}(ht:TIOK Y t ti i d z){xs l:List V}{us:List Value}(hr:VRs W xs us){off:Nat}
  (hl:Zo ti.size (xs.drop off)=some l) {v:V} (hv:QK ti.kd.agg l=some v): ∃u,VR W v u∧ ∀w,(part t us.toArray off).run Y.P w= .ok u w:=by
 obtain⟨us',u,h1,h2,h3⟩:=Wq ht hr hl
 obtain⟨u',hu',he'⟩:=Zet h1 hv
 have huu:u=u':=by
  cases hag:ti.kd.agg<;>simp only[hag,Bool.false_eq_true,if_false,if_true]at h3 he'
  ·rw[h3]at he';simpa using he'
  ·rw[h3,he']
 subst huu
 exact⟨u,hu',h2⟩

set_option maxHeartbeats 1000000 in
theorem ZBw(hY:YOK Y)(h:Rel W σ a w){o:Oper}{q:Q}(hq:opQ Y σ o=some q):
  ∃u,QR W σ a q u∧ ∀w',Same w w'->(execOp a.eval o).run Y.P w'= .ok (.value u) w':=by
 have mk: ∀ {s:Sem Value} {v:V},execOp a.eval o=(do pure (.value (<-s)))->(∃u,VR W v u∧ ∀w',Same w w'->s.run Y.P w'= .ok u w')->
   ∃u,QR W σ a (.val v) u∧ ∀w',Same w w'->(execOp a.eval o).run Y.P w'= .ok (.value u) w':=by
  rintro s v he ⟨u,h1,h2⟩
  exact⟨u,h1,fun w' hw'=>Zx2 he (h2 w' hw')⟩
 cases hop:o.op with
 |move x=>simp only[opQ,hop,Option.some.injEq]at hq;subst hq;exact⟨_,h.ev x,fun w' _=>by simp[execOp,hop]⟩
 |assign x=>simp only[opQ,hop,Option.some.injEq]at hq;subst hq;exact⟨_,h.ev x,fun w' _=>by simp[execOp,hop]⟩
 |pick c x y=>
  simp only[opQ,hop]at hq
  split at hq
  ·rename_i b hb
   simp at hq;subst hq
   have hc:=h.ev c
   rw[hb]at hc
   generalize he:a.eval c=uc at hc
   cases hc
   refine⟨if b then a.eval x else a.eval y,?_,fun w' _=>by simp[execOp,hop,he,asBool]⟩
   cases b
   ·exact h.ev y
   ·exact h.ev x
  ·cases hq
 |nilCheck x=>
  simp only[opQ,hop]at hq
  have hx:=h.ev x
  split at hq
  ·rename_i p hp
   simp at hq;subst hq
   rw[hp]at hx
   generalize he:a.eval x=ux at hx
   cases hx with
   |ps id off y hid ha=>exact⟨_, .ps id off y hid ha,fun w' _=>by simp[execOp,hop,he]⟩
  ·rename_i cs hp
   simp at hq;subst hq
   rw[hp]at hx
   generalize he:a.eval x=ux at hx
   cases hx with
   |tpn y=>exact⟨_, .tpn y,fun w' _=>by simp[execOp,hop,he]⟩
   |tp _ blk off c e fr us hs hc hr=>exact⟨_, .tp cs blk off c e fr us hs hc hr,fun w' _=>by simp[execOp,hop,he]⟩
  ·rename_i f fa fc hp
   simp at hq;subst hq
   rw[hp]at hx
   generalize he:a.eval x=ux at hx
   cases hx with
   |fn _ _ _ ua uc ha hc=>exact⟨_, .fn _ _ _ ua uc ha hc,fun w' _=>by simp[execOp,hop,he]⟩
  ·split at hq
   ·rename_i s off had
    simp at hq;subst hq
    obtain⟨y,hy,b,hb,rfl⟩:=Za8 h had
    exact⟨_,⟨b,hb,rfl⟩,fun w' _=>by simp[execOp,hop,hy]⟩
   ·cases hq
  ·cases hq
 |binOp op t x y yt=>
  simp only[opQ,hop,Option.map_eq_some_iff]at hq
  obtain⟨v,hv,rfl⟩:=hq
  obtain⟨u,h1,h2⟩:=Zx1 hY hv (h.ev x) (h.ev y)
  exact mk (by simp only[execOp,hop]) ⟨u,h1,fun w' _=>h2 w'⟩
 |unOp op t x=>
  simp only[opQ,hop,Option.map_eq_some_iff]at hq
  obtain⟨v,hv,rfl⟩:=hq
  obtain⟨u,h1,h2⟩:=ZBv (Y:=Y) hv (h.ev x)
  exact mk (by simp only[execOp,hop]) ⟨u,h1,fun w' _=>h2 w'⟩
 |makeFunc f fa fc=>
  simp only[opQ,hop,Option.some.injEq]at hq;subst hq
  refine⟨.func f (fa.map a.eval) (fc.map a.eval),?_,fun w' _=>by simp[execOp,hop,Instr.makeFunc]⟩
  have:=VR.fn (W:=W) f _ _ _ _ (h.evs fa.toList) (h.evs fc.toList)
  have e1:(fa.toList.map a.eval).toArray=fa.map a.eval:=by apply Array.ext';simp
  have e2:(fc.toList.map a.eval).toArray=fc.map a.eval:=by apply Array.ext';simp
  rw[e1,e2]at this
  exact this
 |makeInterface t x=>
  simp only[opQ,hop]at hq
  split at hq
  ·cases hq
  ·rename_i kd hnk hk
   simp at hq;subst hq
   obtain⟨ti,hti,hk'⟩:=Xx hk
   obtain⟨i,d,z,ht⟩:=hY.ty t ti hti
   refine mk (v:= .ifc t (ev σ.env x)) (s:=Instr.makeInterface t (a.eval x)) (by simp only[execOp,hop]) ⟨.iface t (a.eval x), .ifc t _ _ (h.ev x),fun w' _=> ?_⟩
   have hkd:=ht.kd
   have hni: ∀ms,d≠ .interface ms:=by
    intro ms hd
    subst hd
    rw[hk']at hkd
    cases kd<;>simp[KdOK]at hkd
    exact hnk rfl
   simp only[Instr.makeInterface,Sem.run_bind,Ze ht.und,Result.andThen_ok]
   cases d<;>first|rfl|exact absurd rfl (hni _)
  ·cases hq
 |build t parts=>
  simp only[opQ,hop]at hq
  split at hq
  ·rename_i ti hti
   obtain⟨i,d,z,ht⟩:=hY.ty t ti hti
   split at hq
   ·rename_i fs hk
    have hkd:=ht.kd
    rw[hk]at hkd
    obtain⟨l,rfl,hfs,_⟩:=hkd
    split at hq
    ·rename_i hall
     simp only[Option.map_eq_some_iff]at hq
     obtain⟨_,⟨r,hr,rfl⟩,rfl⟩:=hq
     obtain⟨us,h1,h2⟩:=Zga h parts.toList _ _ _ (ht.zr W) hr
     refine mk (s:=Instr.build t (parts.map fun p=>(p.1,a.eval p.2))) (by simp only[execOp,hop]) ⟨_, .agg _ _ h1,fun w' _=> ?_⟩
     have hplaces: ∀w,(l.mapM (fun f:Field=>do pure (f.offset,<-sizeOf f.type):Field->Sem (Nat×Nat))).run Y.P w= .ok (l.map fun f=>(f.offset,((Y.ty f.type).map (·.size)).getD 0)) w:=by
      intro w
      rw[Array.mapM_eq_mapM_toList]
      have key: ∀(fl:List Field),(∀f∈fl,(Y.ty f.type).isSome=true)->
        (fl.mapM (fun f:Field=>do pure (f.offset,<-sizeOf f.type):Field->Sem (Nat×Nat))).run Y.P w= .ok (fl.map fun f=>(f.offset,((Y.ty f.type).map (·.size)).getD 0)) w:=by
       intro fl
       induction fl with
       |nil=>intro _;simp
       |cons f fl ih=>
        intro hf
        obtain⟨tf,htf⟩:=Option.isSome_iff_exists.1 (hf f (by simp))
        obtain⟨fi,fd,fz,hft⟩:=hY.ty _ tf htf
        simp only[List.mapM_cons,Sem.run_bind,ZM hft.info,Sem.run_pure,Result.andThen_ok,ih (fun g hg=>hf g (by simp[hg])),List.map_cons,htf,Option.map_some,Option.getD_some,hft.size]
      have:=key l.toList (fun f hf=>by
       have:=List.all_eq_true.1 hall (f.offset,f.type) (by rw[hfs];exact List.mem_map.2 ⟨f,hf,rfl⟩)
       exact this)
      rw[Sem.run_map,this]
      simp only[Result.andThen_ok]
      congr 1
      apply Array.ext'
      simp
     have hz:=ht.zero
     simp only[Instr.build,Sem.run_bind,Qa ht.info ht.zero,Ze ht.und,Result.andThen_ok,hplaces]
     have hpl: ∀j,(l.map fun f=>(f.offset,((Y.ty f.type).map (·.size)).getD 0))[j]? =Zhn Y fs j:=by
      intro j
      rw[hfs]
      unfold Zhn
      rw[List.getElem?_map,Array.getElem?_map,Array.getElem?_toList]
      cases hj:l[j]? with
      |none=>rfl
      |some f=>
       have hf:=List.all_eq_true.1 hall (f.offset,f.type) (by rw[hfs];exact List.mem_map.2 ⟨f,by simpa using Array.mem_of_getElem? hj,rfl⟩)
       obtain⟨tf,htf⟩:=Option.isSome_iff_exists.1 hf
       simp[htf]
     have hfun:(fun x=>(l.map fun f=>(f.offset,((Y.ty f.type).map (·.size)).getD 0))[x]?)=Zhn Y fs:=funext hpl
     have hzt:z.cells=z.cells.toList.toArray:=by simp
     rw[hfun,hzt]
     have hpt:(parts.map fun p=>(p.1,a.eval p.2)).toList=parts.toList.map fun p=>(p.1,a.eval p.2):=by simp
     rw[hpt,h2]
     rfl
    ·cases hq
   ·rename_i n et hk
    have hkd:=ht.kd
    rw[hk]at hkd
    obtain⟨rfl,_⟩:=hkd
    split at hq
    ·rename_i tf htf
     obtain⟨fi,fd,fz,hft⟩:=hY.ty et tf htf
     simp only[Option.map_eq_some_iff]at hq
     obtain⟨_,⟨r,hr,rfl⟩,rfl⟩:=hq
     obtain⟨us,h1,h2⟩:=Zga h parts.toList _ _ _ (ht.zr W) hr
     refine mk (s:=Instr.build t (parts.map fun p=>(p.1,a.eval p.2))) (by simp only[execOp,hop]) ⟨_, .agg _ _ h1,fun w' _=> ?_⟩
     simp only[Instr.build,Sem.run_bind,Qa ht.info ht.zero,Ze ht.und,Result.andThen_ok,ZM hft.info,hft.size]
     have hzt:z.cells=z.cells.toList.toArray:=by simp
     have hpt:(parts.map fun p=>(p.1,a.eval p.2)).toList=parts.toList.map fun p=>(p.1,a.eval p.2):=by simp
     rw[hzt,hpt,h2]
     rfl
    ·cases hq
   ·cases hq
  ·cases hq
 |load t x=>
  simp only[opQ,hop]at hq
  split at hq
  ·rename_i ti ad hti had
   simp only[Option.map_eq_some_iff]at hq
   obtain⟨v,hv,rfl⟩:=hq
   exact mk (by simp only[execOp,hop]) (Zpo hY h hti had hv)
  ·cases hq
 |fieldAddr t x f=>
  simp only[opQ,hop,Option.map_eq_some_iff]at hq
  obtain⟨ad,had,rfl⟩:=hq
  obtain⟨y,h1,h2⟩:=Zpp hY h had
  exact⟨_,h1.qr,fun w' hw'=>Zx2 (by simp only[execOp,hop]) (h2 w' hw')⟩
 |indexAddr t x ix=>
  simp only[opQ,hop,Option.map_eq_some_iff]at hq
  obtain⟨ad,had,rfl⟩:=hq
  obtain⟨y,h1,h2⟩:=Zpq hY h had
  exact⟨_,h1.qr,fun w' hw'=>Zx2 (by simp only[execOp,hop]) (h2 w' hw')⟩
 |field t x f=>
  simp only[opQ,hop]at hq
  split at hq
  ·rename_i fs cs hfs hcs
   obtain⟨l,hl,rfl⟩:=Zcz hY hfs
   split at hq
   ·rename_i off ft hg
    split at hq
    ·rename_i tf htf
     simp only[Option.map_eq_some_iff]at hq
     obtain⟨v,hv,rfl⟩:=hq
     obtain⟨fi,fd,fz,hft⟩:=hY.ty ft tf htf
     rw[List.getElem?_map,Option.map_eq_some_iff]at hg
     obtain⟨fl,hfl,hfe⟩:=hg
     simp at hfe
     obtain⟨rfl,rfl⟩:=hfe
     have hfl':l[f]? =some fl:=by simpa using hfl
     have hx:=h.ev x
     rw[hcs]at hx
     generalize he:a.eval x=ux at hx
     cases hx with
     |agg _ us hr=>
      unfold Ztn at hv
      split at hv
      ·rename_i l' hl'
       obtain⟨u,hu,hp⟩:=Zlu hft hr hl' hv
       exact mk (s:=Instr.field t (.agg us.toArray) f) (by simp only[execOp,hop,he]) ⟨u,hu,fun w' _=>by
        simp only[Instr.field,Sem.run_bind,Ze hl,Result.andThen_ok,hfl',asAgg,Sem.run_pure,hp]⟩
      ·cases hv
    ·cases hq
   ·cases hq
  ·cases hq
 |index t x ix=>
  simp only[opQ,hop]at hq
  have hx:=h.ev x
  have hix:=h.ev ix
  split at hq
  ·rename_i l k i hk hxv hiv
   obtain⟨ti,hti,hk'⟩:=Xx hk
   obtain⟨inf,d,z,ht⟩:=hY.ty t ti hti
   have hkd:=ht.kd
   rw[hk']at hkd
   cases hkd
   rw[hxv]at hx
   rw[hiv]at hix
   generalize he:a.eval x=ux at hx
   generalize hei:a.eval ix=ui at hix
   cases hx;cases hix
   split at hq
   ·rename_i h0
    simp only[Option.map_eq_some_iff]at hq
    obtain⟨_,⟨c,hc,rfl⟩,rfl⟩:=hq
    refine mk (s:=Instr.index t (.string ⟨l.toArray⟩) (.int k i)) (by simp only[execOp,hop,he,hei]) ⟨_, .i _ _,fun w' _=> ?_⟩
    have hg:(⟨l.toArray⟩:ByteArray)[i.toNat]? =some c:=by
     rw[List.getElem?_eq_some_iff]at hc
     obtain⟨hlt,hc⟩:=hc
     rw[getElem?_pos _ _ (by exact hlt)]
     simp[<-hc]
     rfl
    simp only[Instr.index,asIntOf,Sem.run_bind,Sem.run_pure,Ze ht.und,Result.andThen_ok,h0,if_true,hg]
   ·cases hq
  ·rename_i n et cs k i hk hxv hiv
   obtain⟨ti,hti,hk'⟩:=Xx hk
   obtain⟨inf,d,z,ht⟩:=hY.ty t ti hti
   have hkd:=ht.kd
   rw[hk']at hkd
   obtain⟨rfl,_⟩:=hkd
   rw[hxv]at hx
   rw[hiv]at hix
   generalize he:a.eval x=ux at hx
   generalize hei:a.eval ix=ui at hix
   cases hix
   cases hx with
   |agg _ us hr=>
    split at hq
    ·rename_i hin
     split at hq
     ·rename_i tf htf
      obtain⟨fi,fd,fz,hft⟩:=hY.ty et tf htf
      simp only[Option.map_eq_some_iff]at hq
      obtain⟨v,hv,rfl⟩:=hq
      unfold Ztn at hv
      split at hv
      ·rename_i l' hl'
       obtain⟨u,hu,hp⟩:=Zlu hft hr hl' hv
       exact mk (s:=Instr.index t (.agg us.toArray) (.int k i)) (by simp only[execOp,hop,he,hei]) ⟨u,hu,fun w' _=>by
        simp only[Instr.index,asIntOf,Sem.run_bind,Sem.run_pure,Ze ht.und,Result.andThen_ok,Sem.run_ite]
        rw[if_pos hin]
        simp only[ZM hft.info,Result.andThen_ok,hft.size,hp]⟩
      ·cases hv
     ·cases hq
    ·cases hq
  ·cases hq
 |extract t ix=>
  simp only[opQ,hop]at hq
  split at hq
  ·rename_i vs hvs
   simp only[Option.map_eq_some_iff]at hq
   obtain⟨v,hv,rfl⟩:=hq
   have ht:=h.ev t
   rw[hvs]at ht
   generalize he:a.eval t=ut at ht
   cases ht with
   |tup _ us hr=>
    obtain⟨u,hu,hvu⟩:=hr.get hv
    exact mk (s:=Instr.extract (.tuple us.toArray) ix) (by simp only[execOp,hop,he]) ⟨u,hvu,fun w' _=>by simp[Instr.extract,hu]⟩
  ·cases hq
 |slice t x lo hi mx=>
  simp only[opQ,hop,Option.map_eq_some_iff]at hq
  obtain⟨v,hv,rfl⟩:=hq
  obtain⟨u,h1,h2⟩:=Zto hY hv (h.ev x) (h.evo lo) (h.evo hi) (h.evo mx)
  exact mk (by simp only[execOp,hop]) ⟨u,h1,fun w' _=>h2 w'⟩
 |convert src dst x=>
  simp only[opQ,hop]at hq
  have hx:=h.ev x
  split at hq
  ·rename_i kd k k' n hks hkd hxv
   simp at hq;subst hq
   obtain⟨ts,hts,hks'⟩:=Xx hks
   obtain⟨is,ds,zs,hs⟩:=hY.ty src ts hts
   obtain⟨td,htd,hkd'⟩:=Xx hkd
   obtain⟨id,dd,zd,hd⟩:=hY.ty dst td htd
   have hdk:=hd.kd
   rw[hkd']at hdk
   cases hdk
   rw[hxv]at hx
   generalize he:a.eval x=ux at hx
   cases hx
   refine mk (s:=convert src dst (.int k' n)) (by simp only[execOp,hop,he]) ⟨_, .i _ _,fun w' _=> ?_⟩
   simp[convert,Ze hs.und,Ze hd.und,Conv.intToInt]
  ·rename_i l hks hkd hxv
   simp at hq;subst hq
   obtain⟨ts,hts,hks'⟩:=Xx hks
   obtain⟨is,ds,zs,hs⟩:=hY.ty src ts hts
   obtain⟨td,htd,hkd'⟩:=Xx hkd
   obtain⟨id,dd,zd,hd⟩:=hY.ty dst td htd
   have hdk:=hd.kd
   have hsk:=hs.kd
   rw[hkd']at hdk
   rw[hks']at hsk
   cases hdk;cases hsk
   rw[hxv]at hx
   generalize he:a.eval x=ux at hx
   cases hx
   refine mk (s:=convert src dst (.string ⟨l.toArray⟩)) (by simp only[execOp,hop,he]) ⟨_, .s _,fun w' _=> ?_⟩
   simp[convert,Ze hs.und,Ze hd.und]
  ·rename_i et hks hkd
   split at hq
   ·rename_i hke
    simp only[Option.map_eq_some_iff]at hq
    obtain⟨_,⟨l,hl,rfl⟩,rfl⟩:=hq
    obtain⟨⟨n,cs⟩,hel,hb⟩:=Option.bind_eq_some_iff.1 hl
    obtain⟨ts,hts,hks'⟩:=Xx hks
    obtain⟨is,ds,zs,hs⟩:=hY.ty src ts hts
    obtain⟨td,htd,hkd'⟩:=Xx hkd
    obtain⟨id,dd,zd,hd⟩:=hY.ty dst td htd
    obtain⟨te,hte,hke'⟩:=Xx hke
    obtain⟨ie,de,ze,hee⟩:=hY.ty et te hte
    have hdk:=hd.kd
    have hsk:=hs.kd
    have hek:=hee.kd
    rw[hkd']at hdk
    rw[hks']at hsk
    rw[hke']at hek
    cases hdk;cases hsk;cases hek
    obtain⟨us,h1,h2,h3⟩:=Wr h hel hx
    obtain⟨ns,rfl,rfl⟩:=Za9 h1 hb
    have conv: ∀(x:Value) w',(∃y c,x= .slice (some y) n c)∨x= .slice none 0 0->(convert src dst x).run Y.P w'=(Conv.bytesToString x).run Y.P w':=by
     intro x w' hx
     rcases hx with ⟨y,c,rfl⟩|rfl<;>simp[convert,Ze hs.und,Ze hd.und,Ze hee.und]
    refine mk (s:=convert src dst (a.eval x)) (by simp only[execOp,hop]) ⟨_, .s _,fun w' hw'=> ?_⟩
    rcases h3 with ⟨hu,rfl⟩|⟨y,cap,hu,hle,hc⟩
    ·rw[hu,conv _ _ (.inr rfl)]
     simp at h2
     subst h2
     rfl
    ·rw[hu,conv _ _ (.inl ⟨y,cap,rfl⟩)]
     have hlen:n=(ns.map (Value.int .u8)).length:=by rw[h2];simp
     have hrun:(loadCells y n).run Y.P w'= .ok (ns.map (Value.int .u8)).toArray w':=by
      rw[hlen];exact run_loadCells_list w' y _ (hc.same hw')
     rw[run_bytesToString w' y n cap ns hrun,Znw]
     simp
   ·cases hq
  ·cases hq
 |call c=>
  obtain⟨callee,args,argTypes⟩:=c
  cases callee with
  |value f=>simp[opQ,hop]at hq
  |invoke r m=>simp[opQ,hop]at hq
  |builtin b=>
   have hres: ∀(b:Builtin) w',(resolve a.eval ⟨.builtin b,args,argTypes⟩ o.type).run Y.P w'= .ok {target:= .builtin b argTypes o.type (args.map fun| .const _=>true|_=>false),args:=args.map a.eval} w':=fun b w'=>rfl
   cases b with
   |len=>
    simp only[opQ,hop]at hq
    split at hq
    ·rename_i t x hat har
     have hat':argTypes= #[t]:=by apply Array.ext';simpa using hat
     have har':args= #[x]:=by apply Array.ext';simpa using har
     subst hat' har'
     have hx:=h.ev x
     have fin: ∀ {v:V} {u:Value},VR W v u->(∀w',Same w w'->(Builtin.len_ #[t] o.type #[a.eval x]).run Y.P w'= .ok u w')->
       ∃u,QR W σ a (.val v) u∧ ∀w',Same w w'->(execOp a.eval o).run Y.P w'= .ok (.value u) w':=by
      intro v u hv hr
      refine⟨u,hv,fun w' hw'=> ?_⟩
      have e1:=hres .len w'
      have e2:=hr w' hw'
      simp only[execOp,hop,Sem.run_bind,e1,Result.andThen_ok,invoke,builtin]
      have e3:(#[x].map a.eval)= #[a.eval x]:=by simp
      rw[e3]
      simp only[e2,Result.andThen_ok,Sem.run_pure]
     have kdt: ∀ {kd},Y.kd t=some kd-> ∃d,Y.P.underlying t=some d∧KdOK Y t kd d:=by
      intro kd hk
      obtain⟨ti,hti,hk'⟩:=Xx hk
      obtain⟨i,d,z,ht⟩:=hY.ty t ti hti
      exact⟨d,ht.und,hk'▸ht.kd⟩
     split at hq
     ·rename_i l hk hxv
      simp at hq;subst hq
      obtain⟨d,hd,hkd⟩:=kdt hk
      cases hkd
      rw[hxv]at hx
      generalize a.eval x=ux at hx fin
      cases hx
      exact fin (.i .i64 _) (fun w' _=>by simp only[Builtin.len_];simp[Ze hd,goInt];rfl)
     ·rename_i e q n c k hk hxv
      simp at hq;subst hq
      obtain⟨d,hd,hkd⟩:=kdt hk
      cases hkd
      rw[hxv]at hx
      generalize a.eval x=ux at hx fin
      cases hx
      ·exact fin (.i .i64 _) (fun w' _=>by simp[Builtin.len_,Ze hd,goInt])
      ·exact fin (.i .i64 _) (fun w' _=>by simp[Builtin.len_,Ze hd,goInt])
     ·rename_i e cs n c hk hxv
      simp at hq;subst hq
      obtain⟨d,hd,hkd⟩:=kdt hk
      cases hkd
      rw[hxv]at hx
      generalize a.eval x=ux at hx fin
      cases hx
      ·exact fin (.i .i64 _) (fun w' _=>by simp[Builtin.len_,Ze hd,goInt])
      ·exact fin (.i .i64 _) (fun w' _=>by simp[Builtin.len_,Ze hd,goInt])
      ·exact fin (.i .i64 _) (fun w' _=>by simp[Builtin.len_,Ze hd,goInt])
     ·rename_i e1 e2 hk hxv
      simp at hq;subst hq
      obtain⟨d,hd,hkd⟩:=kdt hk
      cases hkd
      rw[hxv]at hx
      generalize a.eval x=ux at hx fin
      cases hx
      exact fin (.i .i64 _) (fun w' _=>by simp[Builtin.len_,Ze hd,goInt])
     ·rename_i e1 e2 r hk hxv
      split at hq
      ·rename_i es hes
       simp at hq;subst hq
       obtain⟨d,hd,hkd⟩:=kdt hk
       cases hkd
       rw[hxv]at hx
       generalize a.eval x=ux at hx fin
       cases hx with
       |mps _ r' hid hr=>
        have hlv:W.lv r:=(h.heap.lv r).2 (by simp[hes])
        obtain⟨m,clock,hb,hk1,hk2⟩:=h.heap.obj r _ hes
        have hlen:(es.length:Int)=(m.size:Int):=by have:=hk1.length;simp at this;omega
        refine fin (.i .i64 _) (fun w' hw'=> ?_)
        have hrr:=hr hlv
        subst hrr
        simp[Builtin.len_,Ze hd,goInt,Zx3 (hw' _ _ hb),hlen]
      ·cases hq
     ·rename_i n e hk
      simp at hq;subst hq
      obtain⟨d,hd,hkd⟩:=kdt hk
      obtain⟨rfl,_⟩:=hkd
      exact fin (.i .i64 _) (fun w' _=>by simp[Builtin.len_,Ze hd,goInt])
     ·cases hq
    ·cases hq
   |cap=>
    simp only[opQ,hop]at hq
    split at hq
    ·rename_i t x hat har
     have hat':argTypes= #[t]:=by apply Array.ext';simpa using hat
     have har':args= #[x]:=by apply Array.ext';simpa using har
     subst hat' har'
     have hx:=h.ev x
     have fin: ∀ {v:V} {u:Value},VR W v u->(∀w',Same w w'->(Builtin.cap_ #[t] o.type #[a.eval x]).run Y.P w'= .ok u w')->
       ∃u,QR W σ a (.val v) u∧ ∀w',Same w w'->(execOp a.eval o).run Y.P w'= .ok (.value u) w':=by
      intro v u hv hr
      refine⟨u,hv,fun w' hw'=> ?_⟩
      have e1:=hres .cap w'
      have e2:=hr w' hw'
      simp only[execOp,hop,Sem.run_bind,e1,Result.andThen_ok,invoke,builtin]
      have e3:(#[x].map a.eval)= #[a.eval x]:=by simp
      rw[e3]
      simp only[e2,Result.andThen_ok,Sem.run_pure]
     have kdt: ∀ {kd},Y.kd t=some kd-> ∃d,Y.P.underlying t=some d∧KdOK Y t kd d:=by
      intro kd hk
      obtain⟨ti,hti,hk'⟩:=Xx hk
      obtain⟨i,d,z,ht⟩:=hY.ty t ti hti
      exact⟨d,ht.und,hk'▸ht.kd⟩
     split at hq
     ·rename_i e n c k hk hxv
      simp at hq;subst hq
      obtain⟨d,hd,hkd⟩:=kdt hk
      cases hkd
      rw[hxv]at hx
      generalize a.eval x=ux at hx fin
      cases hx
      exact fin (.i .i64 _) (fun w' _=>by simp[Builtin.cap_,Ze hd,goInt])
     ·rename_i e q n c k hk hxv
      simp at hq;subst hq
      obtain⟨d,hd,hkd⟩:=kdt hk
      cases hkd
      rw[hxv]at hx
      generalize a.eval x=ux at hx fin
      cases hx with
      |sls _ _ _ _ _ a' cap' hid hl hc ha hn hk'=>
       have hcc:=hc c rfl
       subst hcc
       exact fin (.i .i64 _) (fun w' _=>by simp[Builtin.cap_,Ze hd,goInt])
     ·cases hq
    ·cases hq
   |max=>
    simp only[opQ,hop,Option.map_eq_some_iff]at hq
    obtain⟨v,hv,rfl⟩:=hq
    have hr:=h.evs args.toList
    generalize args.toList.map (ev σ.env)=vs at hr hv
    unfold Zf7 at hv
    split at hv
    ·rename_i k x r
     generalize hus:args.toList.map a.eval=us at hr
     cases hr with
     |cons _ u _ us' h1 h2=>
      cases h1
      obtain⟨u',hu',hf⟩:=Zba (Y:=Y) (f:=Builtin.max2) (fun k x y=>rfl) h2 hv
      refine⟨u',hu',fun w' _=> ?_⟩
      have e1:=hres .max w'
      have e3:(args.map a.eval).toList= .int k x::us':=by rw[<-hus];simp
      simp only[execOp,hop,Sem.run_bind,e1,Result.andThen_ok,invoke,builtin,Builtin.max_,e3,hf,Sem.run_pure]
    ·cases hv
   |min=>
    simp only[opQ,hop,Option.map_eq_some_iff]at hq
    obtain⟨v,hv,rfl⟩:=hq
    have hr:=h.evs args.toList
    generalize args.toList.map (ev σ.env)=vs at hr hv
    unfold Zf7 at hv
    split at hv
    ·rename_i k x r
     generalize hus:args.toList.map a.eval=us at hr
     cases hr with
     |cons _ u _ us' h1 h2=>
      cases h1
      obtain⟨u',hu',hf⟩:=Zba (Y:=Y) (f:=Builtin.min2) (fun k x y=>rfl) h2 hv
      refine⟨u',hu',fun w' _=> ?_⟩
      have e1:=hres .min w'
      have e3:(args.map a.eval).toList= .int k x::us':=by rw[<-hus];simp
      simp only[execOp,hop,Sem.run_bind,e1,Result.andThen_ok,invoke,builtin,Builtin.min_,e3,hf,Sem.run_pure]
    ·cases hv
   |_=>simp[opQ,hop]at hq
 |_=>simp[opQ,hop]at hq
end
theorem Tr.raw_set: ∀(f:Nat) (t:Tr) (n m:Nat) (o:Option YObj),n+1<2 ^ f->(Tr.set f t n o).raw m=if m=n then some o else t.raw m
 |0,t,n,m,o,h=>by simp at h
 |f+1,t,n,m,o,h=>by
  have hp:2 ^ (f+1)=2*2 ^ f:=by rw[Nat.pow_succ];omega
  have leafget: ∀k,Tr.leaf.raw k=none:=fun k=>by cases k<;>rfl
  cases t with
  |leaf=>
   cases n with
   |zero=>
    simp only[Tr.set]
    cases m with
    |zero=>simp[Tr.raw]
    |succ m=>simp[Tr.raw]
   |succ n=>
    simp only[Tr.set]
    by_cases hn:(n+1) % 2=1
    ·rw[if_pos hn]
     cases m with
     |zero=>simp[Tr.raw]
     |succ m=>
      simp only[Tr.raw]
      by_cases hm:(m+1) % 2=1
      ·rw[if_pos hm,Tr.raw_set f _ _ _ _ (by omega)]
       have:(m+1) / 2=(n+1) / 2↔m+1=n+1:=by omega
       simp[this,leafget]
      ·rw[if_neg hm]
       have: ¬(m+1=n+1):=by omega
       simp only[this,if_false]
    ·rw[if_neg hn]
     cases m with
     |zero=>simp[Tr.raw]
     |succ m=>
      simp only[Tr.raw]
      by_cases hm:(m+1) % 2=1
      ·rw[if_pos hm]
       have: ¬(m+1=n+1):=by omega
       simp only[this,if_false]
      ·rw[if_neg hm,Tr.raw_set f _ _ _ _ (by omega)]
       have:(m+1) / 2-1=(n+1) / 2-1↔m+1=n+1:=by omega
       simp[this,leafget]
  |node l x r=>
   cases n with
   |zero=>
    simp only[Tr.set]
    cases m with
    |zero=>simp[Tr.raw]
    |succ m=>simp[Tr.raw]
   |succ n=>
    simp only[Tr.set]
    by_cases hn:(n+1) % 2=1
    ·rw[if_pos hn]
     cases m with
     |zero=>simp[Tr.raw]
     |succ m=>
      simp only[Tr.raw]
      by_cases hm:(m+1) % 2=1
      ·rw[if_pos hm,if_pos hm,Tr.raw_set f _ _ _ _ (by omega)]
       have:(m+1) / 2=(n+1) / 2↔m+1=n+1:=by omega
       simp[this]
      ·rw[if_neg hm,if_neg hm]
       have: ¬(m+1=n+1):=by omega
       simp only[this,if_false]
    ·rw[if_neg hn]
     cases m with
     |zero=>simp[Tr.raw]
     |succ m=>
      simp only[Tr.raw]
      by_cases hm:(m+1) % 2=1
      ·rw[if_pos hm,if_pos hm]
       have: ¬(m+1=n+1):=by omega
       simp only[this,if_false]
      ·rw[if_neg hm,if_neg hm,Tr.raw_set f _ _ _ _ (by omega)]
       have:(m+1) / 2-1=(n+1) / 2-1↔m+1=n+1:=by omega
       simp[this]

theorem Zev(n:Nat):n+1<2 ^ (n+1):=by
 induction n with
 |zero=>decide
 |succ n ih=>rw[Nat.pow_succ];omega

theorem Tr.get_set(f:Nat)(t:Tr)(n m:Nat)(o:Option YObj)(h:n+1<2 ^ f):(Tr.set f t n o).get m=if m=n then o else t.get m:=by
 unfold Tr.get;rw[Tr.raw_set f t n m o h];split<;>rfl
@[simp] theorem Heap.get_set (h : Heap) (i j : Nat) (o : Option YObj) : (h.set i o).get j = if j = i then o else h.get j := Tr.get_set _ _ _ _ _ (Zev i)
@[simp] theorem Heap.get_push (h : Heap) (o : YObj) (j : Nat) : (h.push o).get j = if j = h.nx then some o else h.get j := Tr.get_set _ _ _ _ _ (Zev h.nx)
@[simp] theorem Heap.raw_set (h : Heap) (i j : Nat) (o : Option YObj) : (h.set i o).raw j = if j = i then some o else h.raw j := Tr.raw_set _ _ _ _ _ (Zev i)
@[simp] theorem Heap.raw_push (h : Heap) (o : YObj) (j : Nat) : (h.push o).raw j = if j = h.nx then some (some o) else h.raw j := Tr.raw_set _ _ _ _ _ (Zev h.nx)
theorem Heap.raw_of{h:Heap}{i:Nat}(hs:(h.get i).isSome=true):(h.raw i).isSome=true:=by
 unfold Heap.get Tr.get at hs;unfold Heap.raw
 cases hr:h.t.raw i with
 |none=>rw[hr]at hs;simp at hs
 |some x=>rfl
theorem HRel.ltg{W:Vw}{h:Heap}{w:World}(hr:HRel W h w){i:Nat}(hs:(h.get i).isSome=true):i<h.nx:=hr.lt i (Heap.raw_of hs)
theorem HRel.known{W:Vw}{h:Heap}{w:World}(hr:HRel W h w){i:Nat}(hs:(h.get i).isSome=true):W.kn i:=hr.lk i ((hr.lv i).2 hs)
theorem HRel.new{W:Vw}{h:Heap}{w:World}(hr:HRel W h w){i:Nat}(hi:h.nx<=i): ¬W.kn i:=fun hk=>by have:=hr.lt i (hr.kn i hk);omega
@[simp] theorem Heap.nx_set (h : Heap) (i : Nat) (o : Option YObj) : (h.set i o).nx = h.nx := rfl
@[simp] theorem Heap.nx_push (h : Heap) (o : YObj) : (h.push o).nx = h.nx + 1 := rfl

section
variable {Y:YP} {W W':Vw} {σ:St} {a:Act} {w w':World}

theorem Qc(a:Act)(d:Nat)(u:Value)(t:Nat):(a.put (some d) u).tmps[t]? =if d=t then(if d<a.tmps.size then some u else none)else a.tmps[t]? :=by
 simp only[Act.put,Array.getElem?_setIfInBounds]

theorem XN(l:List V)(d:Nat)(v:V)(t:Nat):(l.set d v)[t]? =if d=t then(if d<l.length then some v else none)else l[t]? :=by
 rw[List.getElem?_set]

theorem VR.ne_box{v:V}{u:Value}(h:VR W v u):(∀cs,v≠ .lb cs)∧v≠ .rf:=by
 cases h<;>exact⟨fun _ h=>(nomatch h),fun h=>(nomatch h)⟩

theorem VR.srel{v:V}{u:Value}(h:VR W v u):SRel W w v u:=by
 cases h<;>(simp only[SRel];constructor<;>assumption)

theorem QF(a:Act)(d:Option Tmp)(u:Value):(a.put d u).defers=a.defers:=by cases d<;>rfl

theorem Rel.putV(h:Rel W σ a w){v:V}{u:Value}(hv:VR W v u)(d:Option Tmp):Rel W (putV σ d v) (a.put d u) w:=by
 cases d with
 |none=>exact h
 |some d=>
  have hb: ∀t b,QC (Go.Y.putV σ (some d) v) (a.put (some d) u) t b->QC σ a t b:=by
   rintro t b ⟨⟨cs,h1⟩,h2⟩
   simp only[Go.Y.putV,XN]at h1
   rw[Qc]at h2
   split at h1
   ·split at h1
    ·simp at h1;exact absurd h1 (hv.ne_box.1 cs)
    ·cases h1
   ·rename_i hne;rw[if_neg hne]at h2;exact⟨⟨cs,h1⟩,h2⟩
  refine⟨h.heap,by simp[Act.put,Go.Y.putV,h.size],fun t v' ht=> ?_,fun t t' b h1 h2=>h.box t t' b (hb _ _ h1) (hb _ _ h2),fun d' s o hm hr b hbx=> ?_,h.defers.act (QF _ _ _)⟩
  ·simp only[Go.Y.putV,XN]at ht
   rw[Qc]
   split at ht
   ·rename_i hd;subst hd
    split at ht
    ·rename_i hlt
     simp at ht;subst ht
     rw[if_pos rfl,if_pos (by rw[h.size];exact hlt)]
     exact⟨u,rfl,hv.srel⟩
    ·cases ht
   ·rename_i hd
    rw[if_neg hd]
    exact h.env t v' ht
  ·simp only[Go.Y.putV,XN]at hr
   rw[Qc]
   split at hr
   ·split at hr
    ·simp at hr;exact absurd hr hv.ne_box.2
    ·cases hr
   ·rename_i hd
    rw[if_neg hd]
    exact h.refs d' s o hm hr b (hb _ _ hbx)

theorem Xd{v:V}{u:Value}(hv:VR W v u)(d:Option Tmp){b:Nat}(h:mine W (putV σ d v) (a.put d u) b):mine W σ a b:=by
 rcases h with h|⟨t,⟨cs,h1⟩,h2⟩|h
 ·exact .inl h
 ·cases d with
  |none=>exact .inr (.inl ⟨t,⟨cs,h1⟩,h2⟩)
  |some d=>
   simp only[Go.Y.putV,XN]at h1
   rw[Qc]at h2
   split at h1
   ·split at h1
    ·simp at h1;exact absurd h1 (hv.ne_box.1 cs)
    ·cases h1
   ·rename_i hne;rw[if_neg hne]at h2;exact .inr (.inl ⟨t,⟨cs,h1⟩,h2⟩)
 ·rw[QF]at h;exact .inr (.inr h)

theorem Rel.putRef(h:Rel W σ a w){s o b:Nat}(hb:QC σ a s b)(d:Nat):
  Rel W {σ with env:=σ.env.set d .rf,refs:=(d,s,o)::σ.refs.filter fun r=>r.1 !=d} (a.put (some d) (.pointer (some ⟨b,o,none⟩))) w:=by
 have hbx: ∀t b',QC {σ with env:=σ.env.set d .rf,refs:=(d,s,o)::σ.refs.filter fun r=>r.1 !=d} (a.put (some d) (.pointer (some ⟨b,o,none⟩))) t b'->QC σ a t b':=by
  rintro t b' ⟨⟨cs,h1⟩,h2⟩
  simp only[XN]at h1
  rw[Qc]at h2
  split at h1
  ·split at h1<;>simp at h1
  ·rename_i hne;rw[if_neg hne]at h2;exact⟨⟨cs,h1⟩,h2⟩
 refine⟨h.heap,by simp[Act.put,h.size],fun t v' ht=> ?_,fun t t' b' h1 h2=>h.box t t' b' (hbx _ _ h1) (hbx _ _ h2),fun d' s' o' hm hr b' hb'=> ?_,h.defers.act (QF _ _ _)⟩
 ·simp only[XN]at ht
  rw[Qc]
  split at ht
  ·rename_i hd;subst hd
   split at ht
   ·rename_i hlt
    simp at ht;subst ht
    rw[if_pos rfl,if_pos (by rw[h.size];exact hlt)]
    exact⟨_,rfl,trivial⟩
   ·cases ht
  ·rename_i hd;rw[if_neg hd];exact h.env t v' ht
 ·have hb2:=hbx _ _ hb'
  simp only[XN]at hr
  rw[Qc]
  simp only[List.mem_cons,List.mem_filter]at hm
  rcases hm with hm|⟨hm,hne⟩
  ·simp at hm
   obtain⟨rfl,rfl,rfl⟩:=hm
   rw[if_pos rfl]
   split at hr
   ·split at hr
    ·rename_i hlt
     rw[if_pos (by rw[h.size];exact hlt)]
     have h1:=hb.2
     have h2:=hb2.2
     rw[h1]at h2;simp at h2;rw[h2]
    ·cases hr
   ·rename_i hd;exact absurd rfl hd
  ·simp at hne
   rw[if_neg (fun e=>hne e.symm)]
   split at hr
   ·rename_i hd;exact absurd hd.symm hne
   ·exact h.refs d' s' o' hm hr b' hb2

theorem Zkb{s o:Nat}(d:Nat){c:Nat}(u:Value)
  (h:mine W {σ with env:=σ.env.set d .rf,refs:=(d,s,o)::σ.refs.filter fun r=>r.1 !=d} (a.put (some d) u) c):mine W σ a c:=by
 rcases h with h|⟨t,⟨cs,h1⟩,h2⟩|h
 ·exact .inl h
 ·simp only[XN]at h1
  rw[Qc]at h2
  split at h1
  ·split at h1<;>simp at h1
  ·rename_i hne;rw[if_neg hne]at h2;exact .inr (.inl ⟨t,⟨cs,h1⟩,h2⟩)
 ·rw[QF]at h;exact .inr (.inr h)

theorem Rel.call(h:Rel W σ a w){h':Heap}(hs:Stp W W.own w W' W'.own w')(hh:HRel W' h' w'):Rel W' {σ with h:=h'} a w' where
 heap:=hh
 size:=h.size
 env t v ht:=by
  obtain⟨u,h1,h2⟩:=h.env t v ht
  refine⟨u,h1,?_⟩
  cases v with
  |lb cs=>
   obtain⟨b,c,e,hu,hb,hr,hsn,hown⟩:=h2
   refine⟨b,c,e,hu,?_,hr.mono hs.le,?_,fun ho=> ?_⟩
   ·rw[hs.keep b (Zq hb) hown];exact hb
   ·by_cases hc:W'.snap b=none
    ·exact hc
    ·rcases hs.new b hc with h3|h3|h3
     ·exact absurd hsn h3
     ·exact absurd h3 hown
     ·exact absurd (Zq hb) (Nat.not_lt.2 h3)
   ·rcases hs.owns b ho with h3|h3
    ·exact hown h3
    ·exact absurd (Zq hb) (Nat.not_lt.2 h3)
  |rf=>trivial
  |_=>exact VR.mono hs.le h2
 box:=h.box
 refs:=h.refs
 defers:=h.defers.turn fun r hr hsn hown=>by
  have hlt:=Zq hr
  refine⟨hs.keep r hlt hown,?_,fun ho=> ?_⟩
  ·by_cases hc:W'.snap r=none
   ·exact hc
   ·rcases hs.new r hc with h3|h3|h3
    ·exact absurd hsn h3
    ·exact absurd h3 hown
    ·omega
  ·rcases hs.owns r ho with h3|h3
   ·exact hown h3
   ·omega

theorem Stp.frame(_h:Rel W σ a w){h':Heap}(hs:Stp W W.own w W' W'.own w'):Stp W (mine W σ a) w W' (mine W' {σ with h:=h'} a) w' where
 le:=hs.le
 size:=hs.size
 keep b hb hn:=hs.keep b hb (fun ho=>hn (.inl ho))
 owns b hb:=by
  rcases hb with ho|hb
  ·rcases hs.owns _ ho with h1|h1
   ·exact .inl (.inl h1)
   ·exact .inr h1
  ·exact .inl (.inr hb)
 str:=hs.str
 new b hb:=by
  rcases hs.new b hb with h1|h1|h1
  ·exact .inl h1
  ·exact .inr (.inl (.inl h1))
  ·exact .inr (.inr h1)

@[simp] theorem Heap.get_tagIf (h : Heap) (i : Nat) (t : Option TypeId) (j : Nat) : (h.tagIf i t).get j = h.get j := by cases t <;> rfl
@[simp] theorem Heap.raw_tagIf (h : Heap) (i : Nat) (t : Option TypeId) (j : Nat) : (h.tagIf i t).raw j = h.raw j := by cases t <;> rfl
@[simp] theorem Heap.nx_tagIf (h : Heap) (i : Nat) (t : Option TypeId) : (h.tagIf i t).nx = h.nx := by cases t <;> rfl
@[simp] theorem Heap.lo_tagIf (h : Heap) (i : Nat) (t : Option TypeId) : (h.tagIf i t).lo = h.lo := by cases t <;> rfl
@[simp] theorem Heap.pushT_none (h : Heap) (o : YObj) : h.pushT none o = h.push o := rfl
@[simp] theorem Heap.get_pushT (h : Heap) (t : Option TypeId) (o : YObj) (j : Nat) : (h.pushT t o).get j = if j = h.nx then some o else h.get j := by unfold Heap.pushT; rw [Heap.get_tagIf, Heap.get_push]
@[simp] theorem Heap.raw_pushT (h : Heap) (t : Option TypeId) (o : YObj) (j : Nat) : (h.pushT t o).raw j = if j = h.nx then some (some o) else h.raw j := by unfold Heap.pushT; rw [Heap.raw_tagIf, Heap.raw_push]
@[simp] theorem Heap.nx_pushT (h : Heap) (t : Option TypeId) (o : YObj) : (h.pushT t o).nx = h.nx + 1 := by unfold Heap.pushT; rw [Heap.nx_tagIf, Heap.nx_push]

theorem HRel.tagIf{h:Heap}(hr:HRel W h w){i:Nat}{t:Option TypeId}(hi:W.kn i)(ht: ∀x,t=some x->TagR W w (i,x)):HRel W (h.tagIf i t) w:=by
 cases t with
 |none=>exact hr
 |some x=>
  exact⟨hr.kn,hr.lk,hr.lv,hr.lt,hr.snap,hr.obj,hr.inj,hr.apart,fun p hp=>by
   rcases List.mem_cons.1 hp with rfl|hp
   ·exact⟨hi,ht x rfl⟩
   ·exact hr.tg p hp,hr.gl⟩

theorem Jy: ∀ {l:List (Nat×TypeId)} {i:Nat} {t:TypeId},Zpc l i=some t->(i,t)∈l
 |p::l,i,t,h=>by
  simp only[Zpc]at h
  split at h
  ·rename_i hp;simp at h;subst hp h;simp
  ·exact List.mem_cons_of_mem _ (Jy h)

def Vw.push(W:Vw)(i blk sz:Nat):Vw where
 mu id:=if id=i then(blk,0)else W.mu id
 sz id:=if id=i then sz else W.sz id
 snap:=W.snap
 lv id:=W.lv id∨id=i
 kn id:=W.kn id∨id=i

theorem Vw.push_le(W:Vw){i:Nat}(hi: ¬W.kn i)(blk sz:Nat):Le W (W.push i blk sz) where
 kn id h:= .inl h
 mu id h:=by have:id≠i:=fun e=>hi (e▸h);simp[Vw.push,this]
 sz id h:=by have:id≠i:=fun e=>hi (e▸h);simp[Vw.push,this]
 snap b o h:=h
 lv id h hl:=hl.resolve_right fun e=>hi (e▸h)

theorem HRel.pushAt{h h':Heap}(hr:HRel W h w){i:Nat}(hi: ¬W.kn i){o:YObj}{ob:Obj}{sz:Nat}(hstr:Str w w')(hs:Same w w')(hsz:w'.heap.size=w.heap.size+1)(_hn:w'.heap[w.heap.size]? =some ob)
  (hg: ∀j,h'.raw j=if j=i then some (some o)else h.raw j) (hnx:h.nx<=h'.nx∧i<h'.nx) (htg:h'.tg=h.tg)
  (ho:ORel (W.push i w.heap.size sz) w' i o):HRel (W.push i w.heap.size sz) h' w'∧Stp W W.own w (W.push i w.heap.size sz) (W.push i w.heap.size sz).own w':=by
 have hgg: ∀j,h'.get j=if j=i then some o else h.get j:=fun j=>by
  show(h'.raw j).join=_
  rw[hg]
  by_cases e:j=i
  ·rw[if_pos e,if_pos e];rfl
  ·rw[if_neg e,if_neg e];rfl
 have hblk: ∀id,W.lv id->(W.mu id).1<w.heap.size:=by
  intro id hl
  obtain⟨ob,hob⟩:=Option.isSome_iff_exists.1 ((hr.lv id).1 hl)
  have:=hr.obj id ob hob
  cases ob with
  |arr cs wr=>obtain⟨c,e,fr,h1,_⟩:=this;exact Zq h1
  |map es=>obtain⟨m,k,h1,_⟩:=this;exact Zq h1
  |siter l p=>exact Zq this
  |loop L=>obtain⟨fn,us,df,h1,_⟩:=this;exact Zq h1
 refine⟨⟨fun id hk=> ?_,fun id hl=>hl.imp_left (hr.lk id),fun id=> ?_,fun id hi=> ?_,fun b o hb=>hs _ _ (hr.snap b o hb),fun id o' ho'=> ?_,fun id id' h1 h2 he=> ?_,fun id hl=> ?_,fun p hp=> ?_,hr.gl.mono (W.push_le hi _ _).snap⟩,?_⟩
 ·rw[hg]
  by_cases e:id=i
  ·rw[if_pos e];rfl
  ·rw[if_neg e];exact hr.kn id (hk.resolve_right e)
 ·simp only[Vw.push,hgg]
  by_cases hid:id=i
  ·simp[hid]
  ·simp[hid,hr.lv id]
 ·rw[hg]at hi
  split at hi
  ·omega
  ·have:=hr.lt id hi;omega
 ·rw[hgg]at ho'
  split at ho'
  ·rename_i hid
   simp at ho';subst ho' hid
   exact ho
  ·exact((hr.obj id o' ho').mono (W.push_le hi _ _) (hr.known (by simp[ho']))).same hs
 ·simp only[Vw.push]at h1 h2 he
  by_cases e1:id=i<;>by_cases e2:id'=i<;>simp only[e1,e2,if_true,if_false]at he
  ·rw[e1,e2]
  ·have:=hblk id' (h2.resolve_right e2);omega
  ·have:=hblk id (h1.resolve_right e1);omega
  ·exact hr.inj id id' (h1.resolve_right e1) (h2.resolve_right e2) he
 ·simp only[Vw.push]at hl ⊢
  by_cases e1:id=i
  ·simp only[e1,if_true]
   cases hsn:W.snap w.heap.size with
   |none=>rfl
   |some o'=>have:=Zq (hr.snap _ _ hsn);omega
  ·simp only[e1,if_false]
   exact hr.apart id (hl.resolve_right e1)
 ·rw[htg]at hp
  obtain⟨g1,g2⟩:=hr.tg p hp
  exact⟨.inl g1,(g2.mono (W.push_le hi _ _) g1).same hs⟩
 ·refine⟨W.push_le hi _ _,by omega,fun b hb _=> ?_,fun b hb=> ?_,fun b hb=> .inl hb,hstr⟩
  ·rw[Array.getElem?_eq_getElem hb]
   exact hs b _ (Array.getElem?_eq_getElem hb)
  ·obtain⟨id,hl,he⟩:=hb
   simp only[Vw.push]at hl he
   by_cases e1:id=i
   ·simp only[e1,if_true]at he;exact .inr (by omega)
   ·simp only[e1,if_false]at he;exact .inl ⟨id,hl.resolve_right e1,he⟩

theorem HRel.push{h:Heap}(hr:HRel W h w){o:YObj}{ob:Obj}{sz:Nat}(hstr:Str w w')(hs:Same w w')(hsz:w'.heap.size=w.heap.size+1)(hn:w'.heap[w.heap.size]? =some ob)
  (ho:ORel (W.push h.nx w.heap.size sz) w' h.nx o):HRel (W.push h.nx w.heap.size sz) (h.push o) w'∧Stp W W.own w (W.push h.nx w.heap.size sz) (W.push h.nx w.heap.size sz).own w':=
 hr.pushAt (hr.new (Nat.le_refl _)) hstr hs hsz hn (fun j=>by simp) (by simp) rfl ho

theorem HRel.blk{h:Heap}(hr:HRel W h w){id:Nat}(hl:W.lv id):(W.mu id).1<w.heap.size:=by
 obtain⟨ob,hob⟩:=Option.isSome_iff_exists.1 ((hr.lv id).1 hl)
 have:=hr.obj id ob hob
 cases ob with
 |arr cs wr=>obtain⟨c,e,fr,h1,_⟩:=this;exact Zq h1
 |map es=>obtain⟨m,k,h1,_⟩:=this;exact Zq h1
 |siter l p=>exact Zq this
 |loop L=>obtain⟨fn,us,df,h1,_⟩:=this;exact Zq h1

theorem HRel.others{h:Heap}(hr:HRel W h w){b:Nat}(hk: ∀c,c≠b->w'.heap[c]? =w.heap[c]?){id:Nat}{o:YObj}(ho:h.get id=some o)(hne:(W.mu id).1≠b):ORel W w' id o:=by
 have:=hr.obj id o ho
 cases o with
 |arr cs wr=>obtain⟨c,e,fr,h1,h2⟩:=this;exact⟨c,e,fr,by rw[hk _ hne];exact h1,h2⟩
 |map es=>obtain⟨m,k,h1,h2⟩:=this;exact⟨m,k,by rw[hk _ hne];exact h1,h2⟩
 |siter l p=>unfold ORel;rw[hk _ hne];exact this
 |loop L=>obtain⟨fn,us,df,h1,h2⟩:=this;exact⟨fn,us,df,by rw[hk _ hne];exact h1,h2⟩

theorem HRel.write{h:Heap}(hr:HRel W h w)(hstr:Str w w'){id:Nat}(hl:W.lv id){o:YObj}(hk: ∀c,c≠(W.mu id).1->w'.heap[c]? =w.heap[c]?)(hsz:w'.heap.size=w.heap.size)
  (hty: ∀c e fr,w.heap[(W.mu id).1]? =some (.cells c e fr)->fr.1<=fr.2->fr.2<=c.size-> ∃c' fr',w'.heap[(W.mu id).1]? =some (.cells c' e fr')∧fr'.1<=fr'.2∧fr'.2<=c'.size)
  (ho:ORel W w' id o):HRel W (h.set id (some o)) w'∧Stp W W.own w W W.own w':=by
 have hid:id<h.nx:=hr.ltg ((hr.lv id).1 hl)
 refine⟨⟨fun j hj=> ?_,hr.lk,fun j=> ?_,fun j hj=> ?_,fun b o' hb=> ?_,fun j o' hj=> ?_,hr.inj,hr.apart,fun p hp=>⟨(hr.tg p hp).1,fun hl'=> ?_⟩,hr.gl⟩,⟨.refl W,by omega,fun b _ hn=> ?_,fun b hb=> .inl hb,fun b hb=> .inl hb,hstr⟩⟩
 ·rw[Heap.raw_set]
  split
  ·rfl
  ·exact hr.kn j hj
 ·rw[Heap.get_set]
  by_cases e:j=id
  ·subst e;simp[hl]
  ·simp[e,hr.lv j]
 ·rw[Heap.raw_set]at hj
  by_cases e:j=id
  ·subst e;exact hid
  ·simp[e]at hj;exact hr.lt j hj
 ·rw[hk b (fun e=>by have:=hr.apart id hl;rw[<-e,hb]at this;cases this)]
  exact hr.snap b o' hb
 ·rw[Heap.get_set]at hj
  by_cases e:j=id
  ·subst e;simp at hj;subst hj;exact ho
  ·simp[e]at hj
   exact hr.others hk hj (fun he=>e (hr.inj j id ((hr.lv j).2 (by simp[hj])) hl he))
 ·obtain⟨g1,c,fr,g2,g3,g4⟩:=(hr.tg p hp).2 hl'
  by_cases e:p.1=id
  ·rw[e]at g2
   obtain⟨c',fr',q1,q2,q3⟩:=hty c p.2 fr g2 g3 g4
   exact⟨g1,c',fr',by rw[e];exact q1,q2,q3⟩
  ·exact⟨g1,c,fr,by rw[hk _ (fun he=>e (hr.inj p.1 id hl' hl he))];exact g2,g3,g4⟩
 ·exact hk b (fun e=>hn ⟨id,hl,e.symm⟩)

def Vw.kill(W:Vw)(i:Nat):Vw:= {W with lv:=fun id=>W.lv id∧id≠i}

theorem Vw.kill_le(W:Vw)(i:Nat):Le W (W.kill i):=⟨fun _ h=>h,fun _ _=>rfl,fun _ _=>rfl,fun _ _ h=>h,fun _ _ h=>h.1⟩

theorem HRel.kill{h:Heap}(hr:HRel W h w){i:Nat}(hi:i<h.nx):HRel (W.kill i) (h.set i none) w∧Stp W W.own w (W.kill i) (W.kill i).own w:=by
 refine⟨⟨fun j hj=> ?_,fun j hj=>hr.lk j hj.1,fun j=> ?_,fun j hj=> ?_,hr.snap,fun j o hj=> ?_,fun j k h1 h2=>hr.inj j k h1.1 h2.1,fun j hj=>hr.apart j hj.1,fun p hp=>⟨(hr.tg p hp).1,fun hl=>(hr.tg p hp).2 hl.1⟩,hr.gl.mono (W.kill_le i).snap⟩,
  ⟨W.kill_le i,Nat.le_refl _,fun b _ _=>rfl,fun b hb=> ?_,fun b hb=> .inl hb, .refl w⟩⟩
 ·rw[Heap.raw_set]
  split
  ·rfl
  ·exact hr.kn j hj
 ·rw[Heap.get_set]
  by_cases e:j=i
  ·subst e;simp[Vw.kill]
  ·simp[e,Vw.kill,hr.lv j]
 ·rw[Heap.raw_set]at hj
  by_cases e:j=i
  ·subst e;exact hi
  ·simp[e]at hj;exact hr.lt j hj
 ·rw[Heap.get_set]at hj
  by_cases e:j=i
  ·simp[e]at hj
  ·simp[e]at hj
   exact(hr.obj j o hj).mono (W.kill_le i) (hr.known (by simp[hj]))
 ·obtain⟨id,h1,h2⟩:=hb
  exact .inl ⟨id,h1.1,h2⟩

def Vw.go(W:Vw)(n i off:Nat):Vw where
 mu id:=if id=n then((W.mu i).1,(W.mu i).2+off)else W.mu id
 sz id:=if id=n then W.sz i else W.sz id
 snap:=W.snap
 lv id:=(W.lv id∧id≠i)∨id=n
 kn id:=W.kn id∨id=n

theorem Vw.go_le(W:Vw){n:Nat}(hn: ¬W.kn n)(i off:Nat):Le W (W.go n i off) where
 kn id h:= .inl h
 mu id h:=by have:id≠n:=fun e=>hn (e▸h);simp[Vw.go,this]
 sz id h:=by have:id≠n:=fun e=>hn (e▸h);simp[Vw.go,this]
 snap b o h:=h
 lv id h hl:=(hl.resolve_right fun e=>hn (e▸h)).1

theorem HRel.go{h:Heap}(hr:HRel W h w)(hstr:Str w w'){i off:Nat}(hl:W.lv i){o:YObj}(hk: ∀c,c≠(W.mu i).1->w'.heap[c]? =w.heap[c]?)(hsz:w'.heap.size=w.heap.size)
  (ho:ORel (W.go h.nx i off) w' h.nx o):HRel (W.go h.nx i off) ((h.set i none).push o) w'∧Stp W W.own w (W.go h.nx i off) (W.go h.nx i off).own w':=by
 have hi:i<h.nx:=hr.ltg ((hr.lv i).1 hl)
 have hnn:=hr.new (Nat.le_refl h.nx)
 refine⟨⟨fun j hj=> ?_,fun j hj=> ?_,fun j=> ?_,fun j hj=> ?_,fun b o' hb=> ?_,fun j o' hj=> ?_,fun j k h1 h2 he=> ?_,fun j hj=> ?_,fun p hp=> ?_,hr.gl.mono (W.go_le hnn i off).snap⟩,
  ⟨W.go_le hnn i off,by omega,fun b _ hn=>hk b (fun e=>hn ⟨i,hl,e.symm⟩),fun b hb=> ?_,fun b hb=> .inl hb,hstr⟩⟩
 ·rw[Heap.raw_push,Heap.raw_set,Heap.nx_set]
  by_cases e:j=h.nx
  ·rw[if_pos e];rfl
  ·rw[if_neg e]
   split
   ·rfl
   ·exact hr.kn j (hj.resolve_right e)
 ·exact hj.imp_left fun q=>hr.lk j q.1
 ·rw[Heap.get_push,Heap.get_set,Heap.nx_set]
  simp only[Vw.go]
  by_cases e:j=h.nx
  ·simp[e]
  ·by_cases e2:j=i
   ·simp[e2,Nat.ne_of_lt hi]
   ·simp[e,e2,hr.lv j]
 ·rw[Heap.raw_push,Heap.raw_set,Heap.nx_set]at hj
  rw[Heap.nx_push,Heap.nx_set]
  by_cases e:j=h.nx
  ·omega
  ·by_cases e2:j=i
   ·omega
   ·simp[e,e2]at hj;have:=hr.lt j hj;omega
 ·have hne:b≠(W.mu i).1:=fun e=>by
   have:=hr.apart i hl
   have hb':W.snap b=some o':=hb
   rw[<-e,hb']at this;cases this
  rw[hk b hne];exact hr.snap b o' hb
 ·rw[Heap.get_push,Heap.get_set,Heap.nx_set]at hj
  by_cases e:j=h.nx
  ·simp[e]at hj;subst hj;rw[e];exact ho
  ·by_cases e2:j=i
   ·simp[e2,Nat.ne_of_lt hi]at hj
   ·simp[e,e2]at hj
    have hjl:W.lv j:=(hr.lv j).2 (by simp[hj])
    exact(hr.others hk hj (fun he=>e2 (hr.inj j i hjl hl he))).mono (W.go_le hnn i off) (hr.known (by simp[hj]))
 ·simp only[Vw.go]at h1 h2 he
  by_cases e1:j=h.nx<;>by_cases e2:k=h.nx<;>simp only[e1,e2,if_true,if_false]at he
  ·rw[e1,e2]
  ·have h3:=h2.resolve_right e2
   exact absurd (hr.inj k i h3.1 hl he.symm) h3.2
  ·have h3:=h1.resolve_right e1
   exact absurd (hr.inj j i h3.1 hl he) h3.2
  ·exact hr.inj j k (h1.resolve_right e1).1 (h2.resolve_right e2).1 he
 ·simp only[Vw.go]at hj ⊢
  by_cases e1:j=h.nx
  ·simp only[e1,if_true];exact hr.apart i hl
  ·simp only[e1,if_false];exact hr.apart j (hj.resolve_right e1).1
 ·obtain⟨g1,g2⟩:=hr.tg p hp
  refine⟨.inl g1,fun hl'=> ?_⟩
  have hne:p.1≠h.nx:=fun e=>hnn (e▸g1)
  simp only[Vw.go,hne,if_false,or_false]at hl' ⊢
  obtain⟨q1,c,fr,q2,q3⟩:=g2 hl'.1
  exact⟨q1,c,fr,by rw[hk _ (fun he=>hl'.2 (hr.inj p.1 i hl'.1 hl he))];exact q2,q3⟩
 ·obtain⟨id,h1,h2⟩:=hb
  simp only[Vw.go]at h1 h2
  by_cases e1:id=h.nx
  ·simp only[e1,if_true]at h2;exact .inl ⟨i,hl,h2⟩
  ·simp only[e1,if_false]at h2;exact .inl ⟨id,(h1.resolve_right e1).1,h2⟩
end
end Go.Y
