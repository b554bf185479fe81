/- A part of the proof. -/
import Derived.Test.YteennilbmmlikaaGreatDoorEE8
import Derived.Test.YteennilbmmlikaaGreatDoorYTryzP
import Derived.Test.YteennilbmmlikaaGreatDoorYLoop
namespace Go.Y
open Go.Proofs
set_option maxRecDepth 1000000
set_option maxHeartbeats 0
def Zst:List Code->Bool
 | .cond _ _ _::_=>true
 |_=>false
theorem Zjq{Y:YP}(n:Nat)(slots:List Nat){σ:St}{l:List Code}{Q:Out->St->Prop}(hl:Zst l=true)(hd:(l.drop 1).isEmpty=false){b:Bool}(hx:ev σ.env (ZCa l)= .b b)
  (h:TriL Y (flat (if b then Zdh l else Vc l)) σ (VQ slots (PreV Y n slots (l.drop 1) Q))):TriL Y l σ Q:=by
 unfold Zst at hl
 split at hl
 ·rename_i x p q r
  have hne:r≠ []:=fun e=>by subst e;cases hd
  have h3:=XG (c:=if b then p else q) (r:= []) (by rw[qi];exact h)
  refine Xq (Zgc hx (Tri.mono h3 fun o σ' ho=> ?_))
  cases o with
  |normal=>exact Qt hne ho.1 rfl rfl ho.2
  |exit i=>exact ho σ' rfl rfl rfl
  |ret=>exact ho σ' rfl rfl rfl
 ·cases hl
theorem slo{id off:Nat}{n:Prop}{p:Nat->Nat->Prop}(h:p id off):SlO (some (id,off)) n p:=h
theorem ZF3{h:Heap}{a}{l:Nat}{c}{kk:Nat}{out:List PR2}(x:PR2){new}(hx:encP x=new)(hl:LX encP 2 h a l c kk out)(hb:out.length<2 ^ 29):
  ∃a' l' c' k' h',Zf UY h 57 57 (.sl a l c kk) (.ts new 1 (some 1))=some (.sl a' l' c' k',h')∧LX encP 2 h' a' l' c' k' (out++ [x]):=by
 obtain⟨a',l',c',k',h',q1,q2,_⟩:=LX.app (Y:=UY) (e:=155) (te:=⟨2,2, .struct [(0,5),(1,5)],[.i .u8 0, .i .u8 0]⟩) x hx Zaw (by kernel_rfl) (by kernel_rfl) rfl (by decide) (by rw[<-hx];rfl) (by decide) hl hb
 exact⟨a',l',c',k',h',q1,q2⟩

theorem Zhd{h:Heap}{id:Nat}{L:List PR2}(hg:h.get id=some (.arr (row encP L) true)){i:Nat}(hi:i<L.length):
  Zb h id (0+(i:Int).toNat*2+0) 1=some [.i .u8 (L[i].1.toNat:Nat)]∧Zb h id (0+(i:Int).toNat*2+1) 1=some [.i .u8 (L[i].2.toNat:Nat)]∧Zb h id (0+(i:Int).toNat*2) 2=some [.i .u8 (L[i].1.toNat:Nat), .i .u8 (L[i].2.toNat:Nat)]:=by
 have hc:=Zag (f:=encP) (k:=2) Zaw L hi
 rw[qdq,Nat.zero_add]
 refine⟨?_,?_,?_⟩
 ·rw[Zr hg,Nat.add_zero,hc];rfl
 ·rw[Zr hg,<-List.drop_drop,hc];rfl
 ·rw[Zr hg,hc];rfl

theorem ZAm{h:Heap}{id:Nat}{init:List PR2}{q:PR2}(hg:h.get id=some (.arr (row encP (init++ [q])) true))(c:UInt8):
  Zj h id (0+init.length*2+1) [.i .u8 (c.toNat:Nat)]=some (h.set id (some (.arr (row encP (init++ [(q.1,c)])) true))):=by
 have e1:row encP (init++ [q])=(row encP init++ [.i .u8 (q.1.toNat:Nat)])++ [.i .u8 (q.2.toNat:Nat)]:=by rw[Xo];simp[row]
 have e2:row encP (init++ [(q.1,c)])=(row encP init++ [.i .u8 (q.1.toNat:Nat)])++ [.i .u8 (c.toNat:Nat)]:=by rw[Xo];simp[row]
 have hlen:(row encP init++ [V.i .u8 (q.1.toNat:Nat)]).length=0+init.length*2+1:=by rw[qf,Xf Zaw];simp
 rw[Zeb hg (by rw[e1,qf,hlen];simp),e1,e2,<-hlen,Zbx]
 rfl

def StI(x:S4)(m:Nat)(vs:List V)(h:Heap):Prop:=
 ∃(c:Nat) (a:Option (Nat×Nat)) (l:Nat) (cp:Option Nat) (kk:Nat) (out:List PR2),vs= [.lb (setC x), .sl a l cp kk, .i .i64 (c:Nat), .undef]∧c<=256∧m=256-c∧LX encP 2 h a l cp kk out∧out.length<=c∧Zb0 (hasN x) (256-c) c out=JK (hasN x)

theorem Zvr(x:S4)(hx:nnS x):PCon UY 80 [.agg (setC x)] (· = .s (setT x)):=by
  refine ZE UK (fn:=Tryz.f80) rfl ?_
  refine Zl UK 168 ZK0 rfl ?_
  refine⟨rfl,ZL [1,3,4,10] [1,3,4,10,11] (StI x) 256 Zy ⟨0,none,0,some 0,0,[],rfl,by omega,by omega,LX.start _ _ _ _ _,qnq _,Zoz _⟩ ?_⟩
  rintro m vs h ⟨c,a,l,cp,kk,out,rfl,hc,rfl,hL,hol,hsc⟩
  refine Zs UK ZK1 rfl ?_
  refine XC (fun hlt=> ?_) (fun hge=> ?_)
  · have hlt:c<256:=by omega
    obtain⟨n,hn⟩: ∃n,256-c=n+1:=⟨255-c,by omega⟩
    rw[hn,Zb0]at hsc
    have hn2:n=256-(c+1):=by omega
    subst hn2
    have hh:=Zvp x hx c hlt
    rw[Zdr hlt]
    refine⟨_,hh,Zg (fun hb=> ?_) (fun hb=> ?_)⟩
    · have hb:hasN x c=false:=by simpa using hb
      have:Vg (hasN x) c out=out:=by unfold Vg;rw[if_neg (by rw[hb];decide)]
      rw[this]at hsc
      exact⟨rfl,256-(c+1),by omega,c+1,a,l,cp,kk,out,by rw[Zh (by omega)];rfl,by omega,rfl,hL,by omega,hsc⟩
    have hb:hasN x c=true:=by simpa using hb
    have e8:(c:Int)=(((UInt8.ofNat c).toNat:Nat):Int):=by rw[UInt8.toNat_ofNat',Nat.mod_eq_of_lt hlt]
    have hlen:=hL.len
    have more:Vg (hasN x) c out=out++ [(UInt8.ofNat c,UInt8.ofNat c)]-> ∃a' l' c' k' h1,Zf UY h 57 57 (.sl a l cp kk) (.ts [.i .u8 (c:Nat), .i .u8 (c:Nat)] 1 (some 1))=some (.sl a' l' c' k',h1)∧StI x (256-(c+1)) [.lb (setC x), .sl a' l' c' k',I (IntKind.i64.wrap ((c:Nat)+1)), .undef] h1:=by
      intro hs
      rw[hs]at hsc
      obtain⟨a',l',c',k',h1,q1,q2⟩:=ZF3 (UInt8.ofNat c,UInt8.ofNat c) (new:= [.i .u8 (c:Nat), .i .u8 (c:Nat)]) (by rw[e8]) hL (by omega)
      exact⟨a',l',c',k',h1,q1,c+1,a',l',c',k',_,by rw[Zh (by omega)],by omega,rfl,q2,by simp;omega,hsc⟩
    by_cases hne:out= []
    · have ha:=hL.nil hne
      subst hne ha
      have hl0:l=0:=hlen
      subst hl0
      obtain⟨a',l',c',k',h1,q1,q2⟩:=more (by unfold Vg;rw[if_pos hb];rfl)
      exact ifF rfl ⟨a',l',c',k',h1,q1,rfl,256-(c+1),by omega,q2⟩
    · obtain⟨id,rfl,rfl,hid,hg,hcap⟩:=hL.cells hne
      have hpos:0<out.length:=List.length_pos_iff.2 hne
      obtain⟨init,q,rfl⟩: ∃init q,out=init++ [q]:=⟨out.dropLast,out.getLast hne,(List.dropLast_concat_getLast hne).symm⟩
      have hl1:l=init.length+1:=by rw[hlen];simp
      subst hl1
      have hi:init.length<(init++ [q]).length:=by simp
      have hce:=Zhd hg hi
      have hq:(init++ [q])[init.length]=q:=by simp
      rw[hq]at hce
      have w1:IntKind.i64.wrap (((init.length+1:Nat):Int)-1)=((init.length:Nat):Int):=by rw[ZG (by omega) (by omega)];omega
      have hq2:=q.2.toNat_lt
      have w2:IntKind.i64.wrap ((q.2.toNat:Nat):Int)=(q.2.toNat:Nat):=ZG (by omega) (by omega)
      have w3:IntKind.i64.wrap ((c:Int)-1)=(c:Int)-1:=ZG (by omega) (by omega)
      have bnd:(0:Int)<=((init.length:Nat):Int)∧((init.length:Nat):Int)<((init.length+1:Nat):Int):=⟨by omega,by omega⟩
      have hlast:(init++ [q]).getLast? =some q:=by simp
      rw[w1,w3]
      refine XC (fun _=>slo ⟨bnd,rfl,_,hce.2.1,?_⟩) (fun h0=>by omega)
      rw[w2]
      refine Zg (fun heq=>slo ⟨bnd,rfl,?_⟩) (fun heq=> ?_)
      · have heq:((q.2.toNat:Nat):Int)=(c:Int)-1:=by simpa using heq
        have hst:Vg (hasN x) c (init++ [q])=init++ [(q.1,UInt8.ofNat c)]:=by
          unfold Vg
          rw[if_pos hb,hlast]
          simp only[]
          rw[if_pos (by omega),List.dropLast_concat]
        rw[hst]at hsc
        have hp:=ZAm hg (UInt8.ofNat c)
        rw[<-e8]at hp
        refine⟨_,hp,rfl,256-(c+1),by omega,c+1,some (id,0),init.length+1,cp,2,init++ [(q.1,UInt8.ofNat c)],by rw[Zh (by omega)];rfl,by omega,rfl,⟨fun e=>by simp at e,fun _=>⟨id,rfl,rfl,hid,by rw[qc,if_pos rfl],hcap⟩,by simp⟩,by simp at hol ⊢;omega,hsc⟩
      · have heq:((q.2.toNat:Nat):Int)≠(c:Int)-1:=by simpa using heq
        have hst:Vg (hasN x) c (init++ [q])=(init++ [q])++ [(UInt8.ofNat c,UInt8.ofNat c)]:=by
          unfold Vg
          rw[if_pos hb,hlast]
          simp only[]
          rw[if_neg (by omega)]
        obtain⟨a',l',c',k',h1,q1,q2⟩:=more hst
        exact⟨a',l',c',k',h1,q1,rfl,256-(c+1),by omega,q2⟩
  · have he:c=256:=by omega
    subst he
    have hsc:out=JK (hasN x):=hsc
    refine Zi [3,10,11] ?_
    refine Zl UK 168 ZK2 rfl ?_
    obtain⟨p,rfl⟩:=hx
    have hall:=Zvq p
    rw[<-hsc]at hall
    generalize hT:setT (Zw p)=T
    unfold setT at hT
    rw[<-hsc]at hT
    clear hsc
    have hlen:=hL.len
    by_cases hne:out= []
    · have ha:=hL.nil hne
      subst hne ha
      have hl0:l=0:=hlen
      subst hl0
      exact ifT rfl (fin1 (.inr rfl) rfl (.s _) (by rw[<-hT]))
    obtain⟨id,rfl,rfl,hid,hg,hcap⟩:=hL.cells hne
    subst hlen
    have hpos:0<out.length:=List.length_pos_iff.2 hne
    obtain⟨q,L,rfl⟩: ∃q L,out=q::L:=by
      cases out with
      |nil=>exact absurd rfl hne
      |cons q L=>exact⟨q,L,rfl⟩
    simp only[]at hT
    replace hT:(if allM (Zw p)=true then [46]else if L= []∧(((q.1.toNat:Nat):Int)==((q.2.toNat:Nat):Int))=true then Zav q.1 specB else [91]++(q::L).flatMap XB++ [93])=T:=hT
    have hce:=Zhd hg (i:=0) (by simp)
    have b0:(0:Int)<=0∧(0:Int)<(((q::L).length:Nat):Int):=⟨by decide,by omega⟩
    refine Zg (fun h0=>absurd h0 (by simp;omega)) (fun _=> ?_)
    have items: ¬(allM (Zw p)=true)-> ¬(L= []∧(((q.1.toNat:Nat):Int)==((q.2.toNat:Nat):Int))=true)-> ∀(v2 v11:V),PreV UY 168 [2,3,11,85] (post ((post (flat (Za Tryz.f80))).drop 1)) (FinS UY Tryz.f80 fun v h=> ∃r,Frz h v r∧r= .s T) .normal 168 [.undef, .sl (some (id,0)) (q::L).length cp 2,I 256, .b false] h:=by
      intro hna hnl _ _
      rw[if_neg hna,if_neg hnl]at hT
      refine⟨rfl,Zjq 168 [3,11] (b:=false) (by kernel_rfl) (by kernel_rfl) (by kernel_rfl) ?_⟩
      refine Zs UK ZK6 rfl ?_
      refine⟨rfl,?_⟩
      refine Zl UK 168 ZK7 rfl ?_
      clear hna hnl hall hce b0 hL
      generalize q::L=L at hT hg hol
      refine⟨rfl,ZL [3,8,9,11] [3,8,9,11] (fun m vs g=> ∃i:Nat,vs= [.sl (some (id,0)) L.length cp 2, .s ([91]++(L.take i).flatMap XB),I (i:Nat),I 256]∧i<=L.length∧m=L.length-i∧g=h) L.length Zy ⟨0,rfl,by omega,by omega,rfl⟩ ?_⟩
      rintro m vs g ⟨i,rfl,hi,rfl,rfl⟩
      refine Zs UK ZK8 rfl ?_
      have hp5:=WY (L.take i)
      rw[List.length_take]at hp5
      refine Zm (fun hlt=> ?_) (fun hge=> ?_)
      · have hsn:(L.take (i+1)).flatMap XB=(L.take i).flatMap XB++XB L[i]:=by rw[qa hlt,List.flatMap_append];simp
        have hpu:XB L[i]=Wl L[i].1 L[i].2:=(Zss _ _).symm
        have hce:=Zhd hg hlt
        rw[hpu]at hsn
        have bi:=Zz hlt
        generalize L[i].1=lo at hce hsn
        generalize L[i].2=hi2 at hce hsn
        obtain⟨c0,c1,c2⟩:=hce
        have w1:=We lo
        have w2:=We hi2
        have wll:(VK (lo,lo)).length<=2:=by unfold VK;rw[if_pos rfl];exact w1
        have wlh:(VK (lo,hi2)).length<=5:=by
          show(if hi2=lo then XP lo else XP lo++ [45]++XP hi2).length<=5
          split
          · omega
          · simp only[qf,qh,qp];omega
        have hX:([91]++(L.take i).flatMap XB).length<=2000:=by
          simp only[qf,qh,qp];omega
        have fin: ∀str:List UInt8,str=([91]++(L.take i).flatMap XB)++Wl lo hi2->XH UY 168 [3,8,9,11] [3,8,9,11] (fun m vs g'=> ∃i:Nat,vs= [.sl (some (id,0)) L.length cp 2, .s ([91]++(L.take i).flatMap XB),I (i:Nat),I 256]∧i<=L.length∧m=L.length-i∧g'=g) (L.length-i) (Xa (post ((post ((post (flat (Za Tryz.f80))).drop 1)).drop 1))) ((post ((post ((post (flat (Za Tryz.f80))).drop 1)).drop 1)).drop 1) (FinS UY Tryz.f80 fun v h=> ∃r,Frz h v r∧r= .s T) .normal 168 [.sl (some (id,0)) L.length cp 2, .s str,I (IntKind.i64.wrap ((i:Nat)+1)),I 256] g:=fun str hstr=>
          ⟨rfl,L.length-(i+1),by omega,i+1,by rw[Zh (by omega),hsn,hstr,<-List.append_assoc];rfl,by omega,rfl,rfl⟩
        revert fin
        generalize [91]++(L.take i).flatMap XB=X at hX
        generalize XH UY 168 [3,8,9,11] [3,8,9,11] _ _ _ _ _=K
        intro fin
        refine slo ⟨bi,rfl,_,c0,Zg (fun h94=> ?_) (fun h94=> ?_)⟩
        · have h94:=ZI (d:=94) h94
          have hu: ∀t,Wl lo hi2= [92]++t->X++ [92]++t=X++Wl lo hi2:=fun t ht=>by rw[ht];simp
          refine⟨by simp;omega,slo ⟨bi,rfl,_,c0,slo ⟨bi,rfl,_,c1,Zg (fun hne=>slo ⟨bi,rfl,_,c1,Zg (fun h2=>slo ⟨bi,rfl,_,c0,slo ⟨bi,rfl,_,c0,_,Zft lo lo,?_,?_,fin _ ?_⟩⟩) (fun h2=>slo ⟨bi,rfl,_,_,c2,_,Zft lo hi2,?_,fin _ ?_⟩)⟩) (fun hne=>slo ⟨bi,rfl,_,_,c2,_,Zft lo hi2,?_,fin _ ?_⟩)⟩⟩⟩
          · simp only[qf,qh,qp];omega
          · simp only[qf,qh,qp];omega
          · have h2:=ZI (d:=94) h2
            have hne:lo≠hi2:=fun e=>by subst e;simp at hne
            rw[List.append_assoc (X++ [92])]
            refine hu _ ?_
            unfold Wl;rw[if_pos h94,if_pos ⟨hne,h2⟩]
          · simp only[qf,qh,qp];omega
          · have h2:=ZF (d:=94) h2
            refine hu _ ?_
            unfold Wl;rw[if_pos h94,if_neg (fun h=>h2 h.2)]
          · simp only[qf,qh,qp];omega
          · have hne:lo=hi2:=by
              have:((lo.toNat:Nat):Int)=((hi2.toNat:Nat):Int):=by simpa using hne
              exact UInt8.toNat_inj.1 (by omega)
            refine hu _ ?_
            unfold Wl;rw[if_pos h94,if_neg (fun h=>h.1 hne)]
        · have h94:=ZF (d:=94) h94
          refine slo ⟨bi,rfl,_,c0,slo ⟨bi,rfl,_,c1,Zg (fun hne=>slo ⟨bi,rfl,_,c1,Zg (fun h2=>slo ⟨bi,rfl,_,c0,slo ⟨bi,rfl,_,c0,_,Zft lo lo,?_,?_,fin _ ?_⟩⟩) (fun h2=>slo ⟨bi,rfl,_,_,c2,_,Zft lo hi2,?_,fin _ ?_⟩)⟩) (fun hne=>slo ⟨bi,rfl,_,_,c2,_,Zft lo hi2,?_,fin _ ?_⟩)⟩⟩
          · omega
          · simp only[qf,qh,qp];omega
          · have h2:=ZI (d:=94) h2
            have hne:lo≠hi2:=fun e=>by subst e;simp at hne
            unfold Wl;rw[if_neg h94,if_pos ⟨hne,h2⟩,qy,List.append_assoc]
          · omega
          · have h2:=ZF (d:=94) h2
            unfold Wl;rw[if_neg h94,if_neg (fun h=>h2 h.2),qy]
          · omega
          · have hne:lo=hi2:=by
              have:((lo.toNat:Nat):Int)=((hi2.toNat:Nat):Int):=by simpa using hne
              exact UInt8.toNat_inj.1 (by omega)
            unfold Wl;rw[if_neg h94,if_neg (fun h=>h.1 hne),qy]
      · have he:i=L.length:=by omega
        subst he
        refine Zi [8] ?_
        refine Zn UK ZK9 rfl ?_
        rw[qm]at hp5 ⊢
        exact⟨by simp only[qf,qh,qp];omega,Zv (.inr rfl) rfl (.s _) (by rw[<-hT])⟩
    have one:L= []-> ¬(allM (Zw p)=true)-> ∀b:Bool,b=(((q.1.toNat:Nat):Int)==((q.2.toNat:Nat):Int))->PreV UY 168 [2,3,11,85] (post ((post (flat (Za Tryz.f80))).drop 1)) (FinS UY Tryz.f80 fun v h=> ∃r,Frz h v r∧r= .s T) .normal 168 [.undef, .sl (some (id,0)) (q::L).length cp 2,I 256, .b b] h:=by
      intro hL1 hna b hb
      cases b
      · exact items hna (fun h=>by rw[<-hb]at h;exact absurd h.2 (by decide)) .undef .undef
      · rw[if_neg hna,if_pos ⟨hL1,hb.symm⟩]at hT
        refine⟨rfl,Zjq 168 [2,3,11] (b:=true) (by kernel_rfl) (by kernel_rfl) (by kernel_rfl) ?_⟩
        refine Zl UK 168 ZK3 rfl ?_
        refine slo ⟨b0,rfl,_,hce.1,rfl,ZL [5,6,7] [2,5,6,7] (fun m vs g=> ∃i:Nat,vs= [.i .u8 (q.1.toNat:Nat), .s specB,I (i:Nat)]∧i<=specB.length∧m=specB.length-i∧(specB.take i).contains q.1=false) specB.length Zy ⟨0,rfl,by decide,rfl,rfl⟩ ?_⟩
        rintro m vs g ⟨i,rfl,hi,rfl,hno⟩
        refine Zs UK ZK4 rfl ?_
        rw[Zjp]at hT
        refine Zm (fun hlt=> ?_) (fun hge=> ?_)
        · refine⟨specB[i],Vd hlt,Zg (fun he=> ?_) (fun he=> ?_)⟩
          · have he:=ZI he
            rw[if_pos (by rw[List.contains_iff_mem,<-he];exact qe hlt)]at hT
            refine⟨_,rfl,by simp,?_⟩
            refine Zyj fun τ _ h2 _=> ?_
            have e2:lv 2 τ= .s [92,q.1]:=by
              have h3:=congrArg (fun l=>l.head?) h2
              have h4:lv 2 τ=V.s ([92]++(fun x=>UInt8.ofNat (((q.1.toNat:Nat):Int)).toNat::x) []):=by simpa using h3
              rw[h4,Zb1];rfl
            show AtV [2,3,11] (FinS UY Tryz.f80 fun v h=> ∃r,Frz h v r∧r= .s T) .ret 168 [lv 2 τ,lv 3 τ,lv 11 τ] g
            rw[e2]
            exact fin1 (.inr rfl) rfl (.s _) (by rw[<-hT])
          · have he:=ZF he
            have hlt':i<12:=hlt
            refine⟨rfl,specB.length-(i+1),by show 12-(i+1)<12-i;omega,i+1,by rw[Zh (by omega)];rfl,by show i+1<=12;omega,rfl,?_⟩
            rw[qa hlt]
            rw[Bool.eq_false_iff]at hno ⊢
            intro hc
            rw[List.contains_iff_mem,qA]at hc
            rcases hc with hc|hc
            · exact hno (by rw[List.contains_iff_mem];exact hc)
            · rw[List.mem_singleton]at hc;exact he hc.symm
        · have he:i=specB.length:=by
            have h1:i<=12:=hi
            have h2:12<=i:=hge
            show i=12;omega
          subst he
          rw[qm]at hno
          rw[if_neg (by rw[hno];decide)]at hT
          refine Zi [5] ?_
          refine Zs UK ZK5 rfl ?_
          exact⟨_,rfl,fin1 (.inr rfl) rfl (.s _) (by rw[Zb1,<-hT])⟩
    refine Zg (fun h1=> ?_) (fun h1=> ?_)
    · have hL1:L= []:=by
        have:(((q::L).length:Nat):Int)=1:=by simpa using h1
        exact qg (by simp at this;omega)
      have again: ¬(allM (Zw p)=true)->If ((((q::L).length:Nat):Int)==1) (SlO (some (id,0)) False fun id off=>((0:Int)<=0∧(0:Int)<(((q::L).length:Nat):Int))∧2=2∧ ∃n:Int,Zb h id (off+Int.toNat (0:Int)*2+0) 1=some [.i .u8 n]∧SlO (some (id,0)) False fun id off=>((0:Int)<=0∧(0:Int)<(((q::L).length:Nat):Int))∧2=2∧ ∃n_1:Int,Zb h id (off+Int.toNat (0:Int)*2+1) 1=some [.i .u8 n_1]∧PreV UY 168 [2,3,11,85] (post ((post (flat (Za Tryz.f80))).drop 1)) (FinS UY Tryz.f80 fun v h=> ∃r,Frz h v r∧r= .s T) .normal 168 [.undef, .sl (some (id,0)) (q::L).length cp 2,I 256, .b (n==n_1)] h)
          (PreV UY 168 [2,3,11,85] (post ((post (flat (Za Tryz.f80))).drop 1)) (FinS UY Tryz.f80 fun v h=> ∃r,Frz h v r∧r= .s T) .normal 168 [.undef, .sl (some (id,0)) (q::L).length cp 2,I 256, .b false] h):=fun hna=>
        ifT h1 (slo ⟨b0,rfl,_,hce.1,slo ⟨b0,rfl,_,hce.2.1,one hL1 hna _ rfl⟩⟩)
      refine slo ⟨b0,rfl,_,hce.1,Zg (fun hz=>slo ⟨b0,rfl,_,hce.2.1,Zg (fun hy=> ?_) (fun hy=>again ?_)⟩) (fun hz=>again ?_)⟩
      · have hz:=ZI (d:=0) hz
        have hy:=ZI (d:=255) hy
        have hq:q::L= [(0,255)]:=by
          rw[hL1]
          show [(q.1,q.2)]=_
          have hz:q.1=0:=hz
          have hy:q.2=255:=hy
          rw[hz,hy]
        rw[if_pos (hall.2 hq)]at hT
        exact fin1 (.inr rfl) rfl (.s _) (by rw[<-hT])
      · intro ha
        have:=hall.1 ha
        rw[hL1]at this
        have hy:=ZF (d:=255) hy
        exact hy (by have h2:q=(0,255):=by simpa using this
                     show q.2=255
                     rw[h2])
      · intro ha
        have:=hall.1 ha
        rw[hL1]at this
        have hz:=ZF (d:=0) hz
        exact hz (by have h2:q=(0,255):=by simpa using this
                     show q.1=0
                     rw[h2])
    · have hL1:L≠ []:=by
        intro e
        subst e
        simp at h1
      refine ifF h1 (items ?_ (fun h=>hL1 h.1) .undef .undef)
      intro ha
      have:=hall.1 ha
      simp at this
      exact hL1 this.2
def TxR(r:Re):Prop:=PCon UY 37 [.agg (Zd r)] (· = .s (textF r))
theorem Zle{k:Int}{l:List Re}(h:cntN.cntsN l<=10000)(i:Nat):(textF.textsF k false (l.take i)).length<=14000000:=by
 have h1:=Zbt k l i
 have h2:=Zbr k false l
 omega
theorem Zo0{B:Nat}(hB:B<2 ^ 20){k:Int}{s:S4}{kids:List Re}{lo hi n:Int}(hwf:wfRe B (.mk k s kids lo hi n))(hnn:nnS s)(hcnt:cntN.cntsN kids<=10000)(ih: ∀x∈kids,TxR x∧(textF x).length<=14000000):TxR (.mk k s kids lo hi n):=by
 unfold TxR
 rw[wfRe]at hwf
 obtain⟨h6,hk0,hl,_⟩:=hwf
 rw[ZD,textF]
 refine ZE UK (fn:=Tryz.f37) rfl ?_
 refine Zl UK 58 ZLc rfl ?_
 refine Zg (fun h1=> ?_) (fun h1=>Zg (fun h2=> ?_) (fun h2=>Zg (fun h3=> ?_) (fun h3=> ?_)))
 ·have hk:k=1:=by simpa using h1
  subst hk
  have hkids:=hk0 (by decide) (by decide) (by decide) (by decide)
  subst hkids
  refine⟨_,Zvr s hnn,fin1 (.inr rfl) rfl (.s _) ?_⟩
  simp[preT,Ve,textF.textsF]
 ·have hk:k=2:=by simpa using h2
  subst hk
  have hkids:=hk0 (by decide) (by decide) (by decide) (by decide)
  subst hkids
  refine fin1 (.inr rfl) rfl (.s _) ?_
  simp[preT,Ve,textF.textsF]
 ·have hk:k=3:=by simpa using h3
  subst hk
  have hkids:=hk0 (by decide) (by decide) (by decide) (by decide)
  subst hkids
  refine fin1 (.inr rfl) rfl (.s _) ?_
  simp[preT,Ve,textF.textsF]
 have hsm:=fun i=>Zle (k:=k) hcnt i
 refine⟨rfl,ZL [1,2,3,4] [1,2,3,4] (fun m vs g=> ∃i:Nat,vs= [.lb [I k,U s.1,U s.2.1,U s.2.2.1,U s.2.2.2,lst Zd kids,I lo,I hi,I n], .s [], .s (textF.textsF k false (kids.take i)),I (i:Nat)]∧i<=kids.length∧m=kids.length-i) kids.length Zy ⟨0,rfl,by omega,by omega⟩ ?_⟩
 rintro m vs g ⟨i,rfl,hi2,rfl⟩
 refine Zs UK ZLd rfl ?_
 have hs1:=hsm i
 refine Zm (fun hlt=> ?_) (fun hge=> ?_)
 ·obtain⟨hc,hcl⟩:=ih kids[i] (qe hlt)
  unfold TxR at hc
  have hrow:=Jp hlt
  have hsn:=Zdy k kids hlt
  generalize textF kids[i]=t at hc hcl hsn
  generalize kids[i]=x at hc hrow
  obtain⟨xk,xs,xl,xlo,xhi,xn⟩:=x
  rw[Zp]at hrow
  rw[ZD]at hc
  have bi:=Zz hlt
  refine XC (fun h0=>Zg (fun h5=> ?_) (fun h5=> ?_)) (fun h0=> ?_)
  ·refine⟨by simp only[qh,qp];omega,bi,_,_,_,_,_,_,_,_,_,_,_,hrow,_,hc,by simp only[qf,qh,qp];omega,rfl,kids.length-(i+1),by omega,i+1,?_,by omega,rfl⟩
   rw[Zh (by omega),hsn,if_pos ⟨by omega,h5⟩,<-List.append_assoc];rfl
  ·refine⟨bi,_,_,_,_,_,_,_,_,_,_,_,hrow,_,hc,by omega,rfl,kids.length-(i+1),by omega,i+1,?_,by omega,rfl⟩
   rw[Zh (by omega),hsn,if_neg (fun h=>by rw[h.2]at h5;cases h5),qy];rfl
  ·refine⟨bi,_,_,_,_,_,_,_,_,_,_,_,hrow,_,hc,by omega,rfl,kids.length-(i+1),by omega,i+1,?_,by omega,rfl⟩
   rw[Zh (by omega),hsn,if_neg (fun h=>by omega),qy];rfl
 ·have he:i=kids.length:=by omega
  subst he
  rw[qm]at hs1
  refine Zi [1,3] ?_
  refine Zn UK ZLe rfl ?_
  rw[qm]
  refine Zg (fun h7=> ?_) (fun h7=>Zg (fun h6'=> ?_) (fun h6'=> ?_))
  ·have hk:k=7:=by simpa using h7
   subst hk
   refine⟨by simp only[qh,qp];omega,by simp only[qf,qh,qp];omega,Zv (.inr rfl) rfl (.s _) ?_⟩
   simp[preT,Ve]
  ·have hk:k=6:=by simpa using h6'
   subst hk
   obtain⟨q1,q2,q3,_⟩:=h6 rfl
   have hsl:=Zdw lo hi
   refine⟨_,Zsp ⟨q1,q2⟩ q3,by omega,Zv (.inr rfl) rfl (.s _) ?_⟩
   simp[preT,Ve]
  ·refine Zv (.inr rfl) rfl (.s _) ?_
   have e1:preT k s= []:=by unfold preT;rw[if_neg (by rw[h1];decide),if_neg (by rw[h2];decide),if_neg (by rw[h3];decide),if_neg (by rw[h7];decide)]
   have e2:Ve k lo hi= []:=by unfold Ve;rw[if_neg (by rw[h6'];decide),if_neg (by rw[h7];decide)]
   rw[e1,e2,qy,qi]

mutual
theorem Zhe{B:Nat}(hB:B<2 ^ 20): ∀r:Re,wfRe B r->nnRe r->cntN r<=10000->TxR r
 | .mk k s kids lo hi n,h,hn,hc=>by
  have h':=h
  rw[wfRe]at h'
  rw[nnRe]at hn
  rw[cntN]at hc
  exact Zo0 hB h hn.1 (by omega) (Znh hB kids h'.2.2.2 hn.2 (by omega))
theorem Znh{B:Nat}(hB:B<2 ^ 20): ∀l:List Re,wfRe.wfRes B l->nnRe.nnRes l->cntN.cntsN l<=10000-> ∀x∈l,TxR x∧(textF x).length<=14000000
 | [],_,_,_,x,hx=>by cases hx
 |r::l,h,hn,hc,x,hx=>by
  rw[wfRe.wfRes]at h
  rw[nnRe.nnRes]at hn
  rw[cntN.cntsN]at hc
  have h1:=Zhe hB r h.1 hn.1 (by omega)
  have h2:=Znh hB l h.2 hn.2 (by omega)
  have h3:=WD r
  rcases qu.1 hx with e|hx
  ·rw[e];exact⟨h1,by omega⟩
  ·exact h2 x hx
end

structure FineR(r:Re):Prop where
 wf:wfRe 1000 r
 nn:nnRe r
 cnt:cntN r<=10000
theorem Zni(r:Re):mayE r=((formF r 0 0 0).1&&decide ((textF r).length<=200)):=by rw[ZAi];rfl
theorem Zvs{r:Re}(h:FineR r):PCon UY 45 [.agg (Zd r)] (· =fitV r):=by
 have ht:=Zhe (B:=1000) (by decide) r h.wf h.nn h.cnt
 have hf:=ZAh (B:=1000) (by decide) r h.wf 0 0 0
 unfold TxR at ht
 unfold fitV
 rw[Zni]
 generalize formF r 0 0 0=q at hf
 generalize textF r=t at ht
 have fz:=WI Heap.empty r
 generalize hx:Zd r=cs at fz ht hf
 obtain⟨xk,xs,xl,xlo,xhi,xn⟩:=r
 rw[Zp]at hx
 subst hx
 refine Zt UK (fn:=Tryz.f45) rfl ZLb rfl ?_
 refine⟨_,ht,XC (fun hl=> ?_) (fun hl=>⟨_,_,hf,Zg (fun hb=> ?_) (fun hb=> ?_)⟩)⟩
 ·refine JM (.inr rfl) rfl (Xu _) (.i _ _) ?_
  rw[if_neg]
  rw[decide_eq_false (by omega),Bool.and_false];decide
 ·refine JM (.inr rfl) rfl (Xu _) (.i _ _) ?_
  have hb:q.1=false:=by simpa using hb
  rw[if_neg]
  rw[hb,Bool.false_and];decide
 ·refine JM (.inr rfl) rfl fz (.i _ _) ?_
  have hb:q.1=true:=by simpa using hb
  rw[if_pos]
  rw[hb,decide_eq_true (by omega)];rfl

theorem Zsu{r:Re}(h:FineR r):PCon UY 42 [.agg (Zd r)] (· = .b (mayE r)):=by
 have ht:=Zhe (B:=1000) (by decide) r h.wf h.nn h.cnt
 have hf:=ZAh (B:=1000) (by decide) r h.wf 0 0 0
 unfold TxR at ht
 rw[Zni]
 generalize formF r 0 0 0=q at hf
 generalize textF r=t at ht
 have hp:PCon UY 93 [.agg (Zd r)] (· =if q.1=false then .tup [.s [],I 5]else if 200<t.length then .tup [.s [],I 2]else .tup [.s t,I 0]):=by
  obtain⟨xk,xs,xl,xlo,xhi,xn⟩:=r
  rw[ZD]at ht hf ⊢
  refine Zt UK (fn:=Tryz.f93) rfl ZLg rfl ?_
  refine⟨_,_,hf,Zg (fun hb=> ?_) (fun hb=>⟨_,ht,XC (fun hl=> ?_) (fun hl=> ?_)⟩)⟩
  ·have hb:q.1=false:=by simpa using hb
   exact JM (.inr rfl) rfl (.s _) (.i _ _) (by rw[if_pos hb])
  ·have hb:q.1=true:=by simpa using hb
   exact JM (.inr rfl) rfl (.s _) (.i _ _) (by rw[if_neg (by rw[hb];decide),if_pos (by omega)])
  ·have hb:q.1=true:=by simpa using hb
   exact JM (.inr rfl) rfl (.s _) (.i _ _) (by rw[if_neg (by rw[hb];decide),if_neg (by omega)])
 obtain⟨xk,xs,xl,xlo,xhi,xn⟩:=r
 rw[ZD]at hp ⊢
 refine Zt UK (fn:=Tryz.f42) rfl ZLf rfl ?_
 by_cases h1:q.1=false
 ·rw[if_pos h1]at hp
  exact⟨_,_,hp,Zv (.inr rfl) rfl (.b _) (by rw[h1];rfl)⟩
 ·rw[if_neg h1]at hp
  have h1:q.1=true:=by simpa using h1
  by_cases h2:200<t.length
  ·rw[if_pos h2]at hp
   exact⟨_,_,hp,Zv (.inr rfl) rfl (.b _) (by rw[h1,decide_eq_false (by omega)];rfl)⟩
  ·rw[if_neg h2]at hp
   exact⟨_,_,hp,Zv (.inr rfl) rfl (.b _) (by rw[h1,decide_eq_true (by omega)];rfl)⟩
theorem ZLh{a n0 h}(K):CP UY 46 (flat (Za Tryz.f46)) (J a n0 none::Rp 14) h [2] K=(If ((↑n0:Int)==(0:Int)) (K .ret 15 [.lb R0] h) (If ((↑n0:Int)==(1:Int)) (((0:Int)<=(0:Int)∧(0:Int)<(n0:Int))∧ ∃b c d e f g i j l m n,Zo 9 a=some (R9 b c d e f g i j l m n)∧K .ret 15 [.lb (R9 b c d e f g i j l m n)] h) (K .ret 15 [.lb (R9 4 0 0 0 0 a n0 none 0 0 0)] h))):=by kernel_rfl
theorem ZLi{s0 h}(K):CP UY 47 (pre (flat (Za Tryz.f47))) (.s s0::Rp 19) h [0,3,4] K=(K .normal 20 [.s s0,S0,I 0] h):=by kernel_rfl
theorem ZLj{s0 a3 l3 c3 k3 x4 h}(K):CP UY 47 (flat (Zx (post (flat (Za Tryz.f47))))) (MZ 20 [0,3,4] [.s s0,S a3 l3 c3 k3,I x4]) h [0,3,4] K=(If (ltI x4 (↑s0.length:Int)) (∃a,((0:Int)<=x4∧s0[x4.toNat]? =some a)∧ ∃b c d e,(PCon UY 96 [.i .u8 (↑a.toNat:Int)] fun(v:V)=>v=.agg [U b,U c,U d,U e])∧ ∃f g j l m,Zf UY h 26 26 (S a3 l3 c3 k3) (J [I 1,U b,U c,U d,U e,S0,I 0,I 0,I 0] 1 (some 1))=some (S f g j l,m)∧K .normal 20 [.s s0,S f g j l,I (IntKind.i64.wrap (x4+(1:Int)))] m) (K (.exit 0) 20 [.s s0,S a3 l3 c3 k3,I x4] h)):=by kernel_rfl
theorem ZLk{a3 l3 c3 k3 h}(K):CP UY 47 ((post (flat (Za Tryz.f47))).drop 1) (MZ 20 [3] [S a3 l3 c3 k3]) h [2] K=(K .ret 20 [S a3 l3 c3 k3] h):=by kernel_rfl
theorem ZLl{a n0 h}(K):CP UY 51 (pre (flat (Za Tryz.f51))) (J a n0 none::Rp 63) h [0,3,4] K=(K .normal 64 [J a n0 none,S0,I 0] h):=by kernel_rfl
theorem ZLm{e n0 f g j m d h}(K):CP UY 51 (flat (Zx (post (flat (Za Tryz.f51))))) (MZ 64 [0,3,4] [J e n0 none,S f g j m,I d]) h [0,3,4] K=(If (ltI d n0) ((0<=d∧d<n0)∧ ∃a,Zo 1 (List.drop 0 (List.drop (d.toNat*3) e))=some [I a]∧If (a==(0:Int)) ((0<=d∧d<n0)∧ ∃c,Zo 1 (List.drop 1 (List.drop (d.toNat*3) e))=some [.i .u8 c]∧ ∃l n o p,(PCon UY 96 [.i .u8 c] fun(v:V)=>v=.agg [U l,U n,U o,U p])∧ ∃q r s t u,Zf UY h 26 26 (S f g j m) (J [I 1,U l,U n,U o,U p,S0,I 0,I 0,I 0] 1 (some 1))=some (S q r s t,u)∧(0<=d∧d<n0)∧ ∃w,Zo 1 (List.drop 0 (List.drop (d.toNat*3) e))=some [I w]∧If (w==(1:Int)) (∃x y z a0 a1 a2 a3 a4 a5 a6 a7,(PCon UY 102 [] fun(v:V)=>v=.agg (R9 x y z a0 a1 a2 a3 a4 a5 a6 a7))∧ ∃a8 a9 b0 b1 b2,Zf UY u 26 26 (S q r s t) (J (R9 x y z a0 a1 a2 a3 a4 a5 a6 a7) 1 (some 1))=some (S a8 a9 b0 b1,b2)∧((0:Int)<=d∧d<(n0:Int))∧ ∃b3,Zo 1 (List.drop 0 (List.drop (d.toNat*(3:Nat)) e))=some [I b3]∧If (b3==(2:Int)) (∃b4 b5 b6 b7 b8 b9 c0,∃c1,∃c2,∃c3,∃c4,(PCon UY (58:Nat) [] fun(v:V)=>v=.agg (R9 b4 b5 b6 b7 b8 b9 c0 c1 c2 c3 c4))∧ ∃c5,∃c6,∃c7,∃c8,∃c9,Zf UY b2 26 26 (S a8 a9 b0 b1) (J (R9 b4 b5 b6 b7 b8 b9 c0 c1 c2 c3 c4) 1 (some 1))=some (S c5 c6 c7 c8,c9)∧((0:Int)<=d∧d<(↑n0:Int))∧ ∃d0,Zo 1 (List.drop (0:Nat) (List.drop (d.toNat*(3:Nat)) e))=some [I d0]∧If (d0==(3:Int)) (((0:Int)<=d∧d<(↑n0:Int))∧ ∃d1,∃d2,∃d3,Zo 1 (List.drop (2:Nat) (List.drop (d.toNat*(3:Nat)) e))=some [J d1 d2 d3]∧ ∃d4,∃d5,∃d6,∃d7,(PCon UY (103:Nat) [J d1 d2 d3,.b false] fun(v:V)=>v=.agg [U d4,U d5,U d6,U d7])∧ ∃d8,∃d9,∃e0,∃e1,∃e2,Zf UY c9 26 26 (S c5 c6 c7 c8) (J [I (1:Int),U d4,U d5,U d6,U d7,S0,I (0:Int),I (0:Int),I (0:Int)] 1 (some 1))=some (S d8 d9 e0 e1,e2)∧K Out.normal 64 [J e n0 none,S d8 d9 e0 e1,I (IntKind.i64.wrap (d+(1:Int)))] e2) (K Out.normal 64 [J e n0 none,S c5 c6 c7 c8,I (IntKind.i64.wrap (d+(1:Int)))] c9)) (((0:Int)<=d∧d<(n0:Int))∧ ∃b4,Zo 1 (List.drop 0 (List.drop (d.toNat*(3:Nat)) e))=some [I b4]∧If (b4==(3:Int)) (((0:Int)<=d∧d<(n0:Int))∧ ∃b5 b6,∃b7,Zo 1 (List.drop (2:Nat) (List.drop (d.toNat*(3:Nat)) e))=some [J b5 b6 b7]∧ ∃b8,∃b9,∃c0,∃c1,(PCon UY (103:Nat) [J b5 b6 b7,.b false] fun(v:V)=>v=.agg [U b8,U b9,U c0,U c1])∧ ∃c2,∃c3,∃c4,∃c5,∃c6,Zf UY b2 26 26 (S a8 a9 b0 b1) (J [I (1:Int),U b8,U b9,U c0,U c1,S0,I (0:Int),I (0:Int),I (0:Int)] 1 (some 1))=some (S c2 c3 c4 c5,c6)∧K Out.normal 64 [J e n0 none,S c2 c3 c4 c5,I (IntKind.i64.wrap (d+(1:Int)))] c6) (K Out.normal 64 [J e n0 none,S a8 a9 b0 b1,I (IntKind.i64.wrap (d+(1:Int)))] b2))) ((0<=d∧d<n0)∧ ∃x,Zo 1 (List.drop 0 (List.drop (d.toNat*3) e))=some [I x]∧If (x==(2:Int)) (∃y z a0 a1 a2 a3 a4 a5 a6 a7 a8,(PCon UY 58 [] fun(v:V)=>v=.agg (R9 y z a0 a1 a2 a3 a4 a5 a6 a7 a8))∧ ∃a9 b0 b1 b2 b3,Zf UY u 26 26 (S q r s t) (J (R9 y z a0 a1 a2 a3 a4 a5 a6 a7 a8) 1 (some 1))=some (S a9 b0 b1 b2,b3)∧((0:Int)<=d∧d<(n0:Int))∧ ∃b4,Zo 1 (List.drop 0 (List.drop (d.toNat*(3:Nat)) e))=some [I b4]∧If (b4==(3:Int)) (((0:Int)<=d∧d<(n0:Int))∧ ∃b5 b6,∃b7,Zo 1 (List.drop (2:Nat) (List.drop (d.toNat*(3:Nat)) e))=some [J b5 b6 b7]∧ ∃b8,∃b9,∃c0,∃c1,(PCon UY (103:Nat) [J b5 b6 b7,.b false] fun(v:V)=>v=.agg [U b8,U b9,U c0,U c1])∧ ∃c2,∃c3,∃c4,∃c5,∃c6,Zf UY b3 26 26 (S a9 b0 b1 b2) (J [I (1:Int),U b8,U b9,U c0,U c1,S0,I (0:Int),I (0:Int),I (0:Int)] 1 (some 1))=some (S c2 c3 c4 c5,c6)∧K Out.normal 64 [J e n0 none,S c2 c3 c4 c5,I (IntKind.i64.wrap (d+(1:Int)))] c6) (K Out.normal 64 [J e n0 none,S a9 b0 b1 b2,I (IntKind.i64.wrap (d+(1:Int)))] b3)) ((0<=d∧d<n0)∧ ∃y,Zo 1 (List.drop 0 (List.drop (d.toNat*3) e))=some [I y]∧If (y==(3:Int)) ((0<=d∧d<n0)∧ ∃z a0 a1,Zo 1 (List.drop 2 (List.drop (d.toNat*3) e))=some [J z a0 a1]∧ ∃a2 a3 a4 a5,(PCon UY 103 [J z a0 a1,.b false] fun(v:V)=>v=.agg [U a2,U a3,U a4,U a5])∧ ∃a6 a7 a8 a9 b0,Zf UY u 26 26 (S q r s t) (J [I (1:Int),U a2,U a3,U a4,U a5,S0,I (0:Int),I (0:Int),I (0:Int)] 1 (some 1))=some (S a6 a7 a8 a9,b0)∧K .normal 64 [J e n0 none,S a6 a7 a8 a9,I (IntKind.i64.wrap (d+(1:Int)))] b0) (K .normal 64 [J e n0 none,S q r s t,I (IntKind.i64.wrap (d+(1:Int)))] u)))) ((0<=d∧d<n0)∧ ∃c,Zo 1 (List.drop 0 (List.drop (d.toNat*3) e))=some [I c]∧If (c==(1:Int)) (∃l n o p q r s t u w x,(PCon UY 102 [] fun(v:V)=>v=.agg (R9 l n o p q r s t u w x))∧ ∃y z a0 a1 a2,Zf UY h 26 26 (S f g j m) (J (R9 l n o p q r s t u w x) 1 (some 1))=some (S y z a0 a1,a2)∧(0<=d∧d<n0)∧ ∃a3,Zo 1 (List.drop 0 (List.drop (d.toNat*3) e))=some [I a3]∧If (a3==(2:Int)) (∃a4 a5 a6 a7 a8 a9 b0 b1 b2 b3 b4,(PCon UY 58 [] fun(v:V)=>v=.agg (R9 a4 a5 a6 a7 a8 a9 b0 b1 b2 b3 b4))∧ ∃b5 b6 b7 b8 b9,Zf UY a2 26 26 (S y z a0 a1) (J (R9 a4 a5 a6 a7 a8 a9 b0 b1 b2 b3 b4) 1 (some 1))=some (S b5 b6 b7 b8,b9)∧((0:Int)<=d∧d<(n0:Int))∧ ∃c0,Zo 1 (List.drop (0:Nat) (List.drop (d.toNat*(3:Nat)) e))=some [I c0]∧If (c0==(3:Int)) (((0:Int)<=d∧d<(↑n0:Int))∧ ∃c1,∃c2,∃c3,Zo 1 (List.drop (2:Nat) (List.drop (d.toNat*(3:Nat)) e))=some [J c1 c2 c3]∧ ∃c4,∃c5,∃c6,∃c7,(PCon UY (103:Nat) [J c1 c2 c3,.b false] fun(v:V)=>v=.agg [U c4,U c5,U c6,U c7])∧ ∃c8,∃c9,∃d0,∃d1,∃d2,Zf UY b9 26 26 (S b5 b6 b7 b8) (J [I (1:Int),U c4,U c5,U c6,U c7,S0,I (0:Int),I (0:Int),I (0:Int)] 1 (some 1))=some (S c8 c9 d0 d1,d2)∧K Out.normal 64 [J e n0 none,S c8 c9 d0 d1,I (IntKind.i64.wrap (d+(1:Int)))] d2) (K Out.normal 64 [J e n0 none,S b5 b6 b7 b8,I (IntKind.i64.wrap (d+(1:Int)))] b9)) ((0<=d∧d<n0)∧ ∃a4,Zo 1 (List.drop 0 (List.drop (d.toNat*3) e))=some [I a4]∧If (a4==(3:Int)) ((0<=d∧d<n0)∧ ∃a5 a6 a7,Zo 1 (List.drop 2 (List.drop (d.toNat*3) e))=some [J a5 a6 a7]∧ ∃a8 a9 b0 b1,(PCon UY 103 [J a5 a6 a7,.b false] fun(v:V)=>v=.agg [U a8,U a9,U b0,U b1])∧ ∃b2 b3 b4 b5 b6,Zf UY a2 26 26 (S y z a0 a1) (J [I (1:Int),U a8,U a9,U b0,U b1,S0,I (0:Int),I (0:Int),I (0:Int)] 1 (some 1))=some (S b2 b3 b4 b5,b6)∧K Out.normal 64 [J e n0 none,S b2 b3 b4 b5,I (IntKind.i64.wrap (d+(1:Int)))] b6) (K .normal 64 [J e n0 none,S y z a0 a1,I (IntKind.i64.wrap (d+(1:Int)))] a2))) ((0<=d∧d<n0)∧ ∃l,Zo 1 (List.drop 0 (List.drop (d.toNat*3) e))=some [I l]∧If (l==(2:Int)) (∃n o p q r s t u w x y,(PCon UY 58 [] fun(v:V)=>v=.agg (R9 n o p q r s t u w x y))∧ ∃z a0 a1 a2 a3,Zf UY h 26 26 (S f g j m) (J (R9 n o p q r s t u w x y) 1 (some 1))=some (S z a0 a1 a2,a3)∧(0<=d∧d<n0)∧ ∃a4,Zo 1 (List.drop 0 (List.drop (d.toNat*3) e))=some [I a4]∧If (a4==(3:Int)) ((0<=d∧d<n0)∧ ∃a5 a6 a7,Zo 1 (List.drop 2 (List.drop (d.toNat*3) e))=some [J a5 a6 a7]∧ ∃a8 a9 b0 b1,(PCon UY 103 [J a5 a6 a7,.b false] fun(v:V)=>v=.agg [U a8,U a9,U b0,U b1])∧ ∃b2 b3 b4 b5 b6,Zf UY a3 26 26 (S z a0 a1 a2) (J [I (1:Int),U a8,U a9,U b0,U b1,S0,I (0:Int),I (0:Int),I (0:Int)] 1 (some 1))=some (S b2 b3 b4 b5,b6)∧K Out.normal 64 [J e n0 none,S b2 b3 b4 b5,I (IntKind.i64.wrap (d+(1:Int)))] b6) (K .normal 64 [J e n0 none,S z a0 a1 a2,I (IntKind.i64.wrap (d+(1:Int)))] a3)) ((0<=d∧d<n0)∧ ∃n,Zo 1 (List.drop 0 (List.drop (d.toNat*3) e))=some [I n]∧If (n==(3:Int)) ((0<=d∧d<n0)∧ ∃o p q,Zo 1 (List.drop 2 (List.drop (d.toNat*3) e))=some [J o p q]∧ ∃r s t u,(PCon UY 103 [J o p q,.b false] fun(v:V)=>v=.agg [U r,U s,U t,U u])∧ ∃w x y z a0,Zf UY h 26 26 (S f g j m) (J [I 1,U r,U s,U t,U u,S0,I 0,I 0,I 0] 1 (some 1))=some (S w x y z,a0)∧K .normal 64 [J e n0 none,S w x y z,I (IntKind.i64.wrap (d+(1:Int)))] a0) (K .normal 64 [J e n0 none,S f g j m,I (IntKind.i64.wrap (d+(1:Int)))] h))))) (K (.exit 0) 64 [J e n0 none,S f g j m,I d] h)):=by kernel_rfl
theorem ZLn{a b c d h}(K):CP UY 51 ((post (flat (Za Tryz.f51))).drop 1) (MZ 64 [3] [S a b c d]) h [2] K=(K .ret 64 [S a b c d] h):=by kernel_rfl
theorem ZLo{h}(K):CP UY 58 (flat (Za Tryz.f58)) (Rp 4) h [0] K=(∃a b c d e f g i j l m,(PCon UY 102 [] fun(v:V)=>v=.agg (R9 a b c d e f g i j l m))∧K .ret 4 [.lb [I 6,U 0,U 0,U 0,U 0,J (R9 a b c d e f g i j l m) 1 (some 1),I 0,I (-1),I 0]] h):=by kernel_rfl
theorem ZF4{h}(K):CP UY 102 (flat (Za Tryz.f102)) (Rp 3) h [0] K=(∃a c d e,(PCon UY 103 [S0,.b true] fun(v:V)=>v=.agg [U a,U c,U d,U e])∧K .ret 3 [.lb [I 1,U a,U c,U d,U e,S0,I 0,I 0,I 0]] h):=by kernel_rfl
theorem ZLp{s0 h}(K):CP UY 17 (flat (Za Tryz.f17)) (.s s0::Rp 9) h [2,3] K=(∃a b c,(PCon UY 47 [.s s0] fun v=>v=J a b c)∧Con UY 46 [J a b c] h fun(v:V) (h':Heap)=> ∃d e f g i j l m n o p,v=.agg (R9 d e f g i j l m n o p)∧ ∃q r t u w x y z a0 a1 a2 a3,(PCon UY 45 [.agg (R9 d e f g i j l m n o p)] fun(v:V)=>v=.tup [.agg (R9 q r t u w x y z a0 a1 a2),I a3])∧K .ret 10 [.lb (R9 q r t u w x y z a0 a1 a2),I a3] h'):=by kernel_rfl
theorem ZLq{a n0 h}(K):CP UY 19 (flat (Za Tryz.f19)) (J a n0 none::Rp 13) h [2,3] K=(∃b,(PCon UY 50 [J a n0 none] fun v=>v=.b b)∧If (!b) (K .ret 14 [.lb R0,I 5] h) (∃c d e,(PCon UY 51 [J a n0 none] fun v=>v=J c d e)∧Con UY 46 [J c d e] h fun(v:V) (h':Heap)=> ∃f g i j l m n o p q r,v=.agg (R9 f g i j l m n o p q r)∧ ∃s t u w x y z a0 a1 a2 a3 a4,(PCon UY 45 [.agg (R9 f g i j l m n o p q r)] fun(v:V)=>v=.tup [.agg (R9 s t u w x y z a0 a1 a2 a3),I a4])∧K .ret 14 [.lb (R9 s t u w x y z a0 a1 a2 a3),I a4] h')):=by kernel_rfl
theorem ZLr{d e h}(K):CP UY 21 (flat (Za Tryz.f21)) (.agg [I d,.s e]::Rp 66) h [2,3] K=(∃a,(PCon UY 15 [.agg [I d,.s e]] fun v=>v=.b a)∧If (!a) (K .ret 67 [.lb R0,I 5] h) (∃b c f g i j l m n o p,(PCon UY 58 [] fun(v:V)=>v=.agg (R9 b c f g i j l m n o p))∧If (d==(0:Int)) (∃q r t,(PCon UY 47 [.s e] fun v=>v=J q r t)∧ ∃u w x y z,Zf UY (h.push (YObj.arr (R9 b c f g i j l m n o p) true)) 26 26 (S (some (h.nx,0)) 1 (some 1) 9) (J q r t)=some (S u w x y,z)∧If (d==(1:Int)) (∃a0 a1 a2 a3 a4,(PCon UY 24 [.s e] fun(v:V)=>v=.tup [J a0 a1 a2,I a3,I a4])∧ ∃a5 a6 a7,(PCon UY 51 [J a0 a1 a2] fun v=>v=J a5 a6 a7)∧ ∃a8 a9 b0 b1 b2,Zf UY z 26 26 (S u w x y) (J a5 a6 a7)=some (S a8 a9 b0 b1,b2)∧If (d==(2:Int)) (∃b3 b4 b5 b6 b7 b8 b9,∃c0,∃c1,∃c2,∃c3,∃c4,∃c5,(PCon UY (8:Nat) [.s e] fun(v:V)=>v=.tup [.agg (R9 b3 b4 b5 b6 b7 b8 b9 c0 c1 c2 c3),I c4,I c5])∧ ∃c6,(PCon UY (59:Nat) [.agg (R9 b3 b4 b5 b6 b7 b8 b9 c0 c1 c2 c3)] fun(v:V)=>v=.b c6)∧If c6 (K Out.ret 67 [.lb [I (0:Int),U (0:Int),U (0:Int),U (0:Int),U (0:Int),S0,I (0:Int),I (0:Int),I (0:Int)],I (5:Int)] b2) (∃c7,∃c8,∃c9,∃d0,∃d1,∃d2,∃d3,∃d4,∃d5,∃d6,∃d7,(PCon UY (60:Nat) [.agg (R9 b3 b4 b5 b6 b7 b8 b9 c0 c1 c2 c3)] fun(v:V)=>v=.agg (R9 c7 c8 c9 d0 d1 d2 d3 d4 d5 d6 d7))∧ ∃d8,∃d9,∃e0,∃e1,∃e2,Zf UY b2 26 26 (S a8 a9 b0 b1) (J [I (7:Int),U (0:Int),U (0:Int),U (0:Int),U (0:Int),J (R9 c7 c8 c9 d0 d1 d2 d3 d4 d5 d6 d7) 1 (some 1),I (0:Int),I (0:Int),I (1:Int)] 1 (some 1))=some (S d8 d9 e0 e1,e2)∧ ∃e3,∃e4,∃e5,∃e6,∃e7,∃e8,∃e9,∃f0,∃f1,∃f2,∃f3,(PCon UY (58:Nat) [] fun(v:V)=>v=.agg (R9 e3 e4 e5 e6 e7 e8 e9 f0 f1 f2 f3))∧ ∃f4,∃f5,∃f6,∃f7,∃f8,Zf UY e2 26 26 (S d8 d9 e0 e1) (J (R9 e3 e4 e5 e6 e7 e8 e9 f0 f1 f2 f3) 1 (some 1))=some (S f4 f5 f6 f7,f8)∧Con UY (46:Nat) [S f4 f5 f6 f7] f8 fun(v:V) (h':Heap)=> ∃f9,∃g0,∃g1,∃g2,∃g3,∃g4,∃g5,∃g6,∃g7,∃g8,∃g9,v=.agg (R9 f9 g0 g1 g2 g3 g4 g5 g6 g7 g8 g9)∧ ∃i0,∃i1,∃i2,∃i3,∃i4,∃i5,∃i6,∃i7,∃i8,∃i9,∃j0,∃j1,(PCon UY (45:Nat) [.agg (R9 f9 g0 g1 g2 g3 g4 g5 g6 g7 g8 g9)] fun(v:V)=>v=.tup [.agg (R9 i0 i1 i2 i3 i4 i5 i6 i7 i8 i9 j0),I j1])∧K Out.ret 67 [.lb (R9 i0 i1 i2 i3 i4 i5 i6 i7 i8 i9 j0),I j1] h')) (∃b3 b4 b5 b6 b7 b8 b9,∃c0,∃c1,∃c2,∃c3,(PCon UY (58:Nat) [] fun(v:V)=>v=.agg (R9 b3 b4 b5 b6 b7 b8 b9 c0 c1 c2 c3))∧ ∃c4,∃c5,∃c6,∃c7,∃c8,Zf UY b2 26 26 (S a8 a9 b0 b1) (J (R9 b3 b4 b5 b6 b7 b8 b9 c0 c1 c2 c3) 1 (some 1))=some (S c4 c5 c6 c7,c8)∧Con UY (46:Nat) [S c4 c5 c6 c7] c8 fun(v:V) (h':Heap)=> ∃c9,∃d0,∃d1,∃d2,∃d3,∃d4,∃d5,∃d6,∃d7,∃d8,∃d9,v=.agg (R9 c9 d0 d1 d2 d3 d4 d5 d6 d7 d8 d9)∧ ∃e0,∃e1,∃e2,∃e3,∃e4,∃e5,∃e6,∃e7,∃e8,∃e9,∃f0,∃f1,(PCon UY (45:Nat) [.agg (R9 c9 d0 d1 d2 d3 d4 d5 d6 d7 d8 d9)] fun(v:V)=>v=.tup [.agg (R9 e0 e1 e2 e3 e4 e5 e6 e7 e8 e9 f0),I f1])∧K Out.ret 67 [.lb (R9 e0 e1 e2 e3 e4 e5 e6 e7 e8 e9 f0),I f1] h')) (If (d==(2:Int)) (∃a0 a1 a2 a3 a4 a5 a6 a7 a8 a9 b0 b1 b2,(PCon UY 8 [.s e] fun(v:V)=>v=.tup [.agg (R9 a0 a1 a2 a3 a4 a5 a6 a7 a8 a9 b0),I b1,I b2])∧ ∃b3,(PCon UY 59 [.agg (R9 a0 a1 a2 a3 a4 a5 a6 a7 a8 a9 b0)] fun v=>v=.b b3)∧If b3 (K .ret 67 [.lb [I (0:Int),U (0:Int),U (0:Int),U (0:Int),U (0:Int),S0,I (0:Int),I (0:Int),I (0:Int)],I 5] z) (∃b4 b5 b6 b7 b8 b9 c0,∃c1,∃c2,∃c3,∃c4,(PCon UY (60:Nat) [.agg (R9 a0 a1 a2 a3 a4 a5 a6 a7 a8 a9 b0)] fun(v:V)=>v=.agg (R9 b4 b5 b6 b7 b8 b9 c0 c1 c2 c3 c4))∧ ∃c5,∃c6,∃c7,∃c8,∃c9,Zf UY z 26 26 (S u w x y) (J [I (7:Int),U (0:Int),U (0:Int),U (0:Int),U (0:Int),J (R9 b4 b5 b6 b7 b8 b9 c0 c1 c2 c3 c4) 1 (some 1),I (0:Int),I (0:Int),I (1:Int)] 1 (some 1))=some (S c5 c6 c7 c8,c9)∧ ∃d0,∃d1,∃d2,∃d3,∃d4,∃d5,∃d6,∃d7,∃d8,∃d9,∃e0,(PCon UY (58:Nat) [] fun(v:V)=>v=.agg (R9 d0 d1 d2 d3 d4 d5 d6 d7 d8 d9 e0))∧ ∃e1,∃e2,∃e3,∃e4,∃e5,Zf UY c9 26 26 (S c5 c6 c7 c8) (J (R9 d0 d1 d2 d3 d4 d5 d6 d7 d8 d9 e0) 1 (some 1))=some (S e1 e2 e3 e4,e5)∧Con UY (46:Nat) [S e1 e2 e3 e4] e5 fun(v:V) (h':Heap)=> ∃e6,∃e7,∃e8,∃e9,∃f0,∃f1,∃f2,∃f3,∃f4,∃f5,∃f6,v=.agg (R9 e6 e7 e8 e9 f0 f1 f2 f3 f4 f5 f6)∧ ∃f7,∃f8,∃f9,∃g0,∃g1,∃g2,∃g3,∃g4,∃g5,∃g6,∃g7,∃g8,(PCon UY (45:Nat) [.agg (R9 e6 e7 e8 e9 f0 f1 f2 f3 f4 f5 f6)] fun(v:V)=>v=.tup [.agg (R9 f7 f8 f9 g0 g1 g2 g3 g4 g5 g6 g7),I g8])∧K Out.ret 67 [.lb (R9 f7 f8 f9 g0 g1 g2 g3 g4 g5 g6 g7),I g8] h')) (∃a0 a1 a2 a3 a4 a5 a6 a7 a8 a9 b0,(PCon UY 58 [] fun(v:V)=>v=.agg (R9 a0 a1 a2 a3 a4 a5 a6 a7 a8 a9 b0))∧ ∃b1 b2 b3 b4 b5,Zf UY z 26 26 (S u w x y) (J (R9 a0 a1 a2 a3 a4 a5 a6 a7 a8 a9 b0) 1 (some 1))=some (S b1 b2 b3 b4,b5)∧Con UY 46 [S b1 b2 b3 b4] b5 fun(v:V) (h':Heap)=> ∃b6 b7 b8 b9 c0 c1 c2,∃c3,∃c4,∃c5,∃c6,v=.agg (R9 b6 b7 b8 b9 c0 c1 c2 c3 c4 c5 c6)∧ ∃c7,∃c8,∃c9,∃d0,∃d1,∃d2,∃d3,∃d4,∃d5,∃d6,∃d7,∃d8,(PCon UY (45:Nat) [.agg (R9 b6 b7 b8 b9 c0 c1 c2 c3 c4 c5 c6)] fun(v:V)=>v=.tup [.agg (R9 c7 c8 c9 d0 d1 d2 d3 d4 d5 d6 d7),I d8])∧K Out.ret 67 [.lb (R9 c7 c8 c9 d0 d1 d2 d3 d4 d5 d6 d7),I d8] h'))) (If (d==(1:Int)) (∃q r t u w,(PCon UY 24 [.s e] fun(v:V)=>v=.tup [J q r t,I u,I w])∧ ∃x y z,(PCon UY 51 [J q r t] fun(v:V)=>v=J x y z)∧ ∃a0 a1 a2 a3 a4,Zf UY (h.push (YObj.arr (R9 b c f g i j l m n o p) true)) 26 26 (S (some (h.nx,0)) 1 (some 1) 9) (J x y z)=some (S a0 a1 a2 a3,a4)∧If (d==(2:Int)) (∃a5 a6 a7 a8 a9 b0 b1 b2 b3 b4 b5 b6 b7,(PCon UY 8 [.s e] fun(v:V)=>v=.tup [.agg (R9 a5 a6 a7 a8 a9 b0 b1 b2 b3 b4 b5),I b6,I b7])∧ ∃b8,(PCon UY (59:Nat) [.agg (R9 a5 a6 a7 a8 a9 b0 b1 b2 b3 b4 b5)] fun(v:V)=>v=.b b8)∧If b8 (K Out.ret 67 [.lb [I (0:Int),U (0:Int),U (0:Int),U (0:Int),U (0:Int),S0,I (0:Int),I (0:Int),I (0:Int)],I (5:Int)] a4) (∃b9 c0,∃c1,∃c2,∃c3,∃c4,∃c5,∃c6,∃c7,∃c8,∃c9,(PCon UY (60:Nat) [.agg (R9 a5 a6 a7 a8 a9 b0 b1 b2 b3 b4 b5)] fun(v:V)=>v=.agg (R9 b9 c0 c1 c2 c3 c4 c5 c6 c7 c8 c9))∧ ∃d0,∃d1,∃d2,∃d3,∃d4,Zf UY a4 26 26 (S a0 a1 a2 a3) (J [I (7:Int),U (0:Int),U (0:Int),U (0:Int),U (0:Int),J (R9 b9 c0 c1 c2 c3 c4 c5 c6 c7 c8 c9) 1 (some 1),I (0:Int),I (0:Int),I (1:Int)] 1 (some 1))=some (S d0 d1 d2 d3,d4)∧ ∃d5,∃d6,∃d7,∃d8,∃d9,∃e0,∃e1,∃e2,∃e3,∃e4,∃e5,(PCon UY (58:Nat) [] fun(v:V)=>v=.agg (R9 d5 d6 d7 d8 d9 e0 e1 e2 e3 e4 e5))∧ ∃e6,∃e7,∃e8,∃e9,∃f0,Zf UY d4 26 26 (S d0 d1 d2 d3) (J (R9 d5 d6 d7 d8 d9 e0 e1 e2 e3 e4 e5) 1 (some 1))=some (S e6 e7 e8 e9,f0)∧Con UY (46:Nat) [S e6 e7 e8 e9] f0 fun(v:V) (h':Heap)=> ∃f1,∃f2,∃f3,∃f4,∃f5,∃f6,∃f7,∃f8,∃f9,∃g0,∃g1,v=.agg (R9 f1 f2 f3 f4 f5 f6 f7 f8 f9 g0 g1)∧ ∃g2,∃g3,∃g4,∃g5,∃g6,∃g7,∃g8,∃g9,∃i0,∃i1,∃i2,∃i3,(PCon UY (45:Nat) [.agg (R9 f1 f2 f3 f4 f5 f6 f7 f8 f9 g0 g1)] fun(v:V)=>v=.tup [.agg (R9 g2 g3 g4 g5 g6 g7 g8 g9 i0 i1 i2),I i3])∧K Out.ret 67 [.lb (R9 g2 g3 g4 g5 g6 g7 g8 g9 i0 i1 i2),I i3] h')) (∃a5 a6 a7 a8 a9 b0 b1 b2 b3 b4 b5,(PCon UY 58 [] fun(v:V)=>v=.agg (R9 a5 a6 a7 a8 a9 b0 b1 b2 b3 b4 b5))∧ ∃b6,∃b7 b8 b9 c0,Zf UY a4 26 26 (S a0 a1 a2 a3) (J (R9 a5 a6 a7 a8 a9 b0 b1 b2 b3 b4 b5) 1 (some 1))=some (S b6 b7 b8 b9,c0)∧Con UY (46:Nat) [S b6 b7 b8 b9] c0 fun(v:V) (h':Heap)=> ∃c1,∃c2,∃c3,∃c4,∃c5,∃c6,∃c7,∃c8,∃c9,∃d0,∃d1,v=.agg (R9 c1 c2 c3 c4 c5 c6 c7 c8 c9 d0 d1)∧ ∃d2,∃d3,∃d4,∃d5,∃d6,∃d7,∃d8,∃d9,∃e0,∃e1,∃e2,∃e3,(PCon UY (45:Nat) [.agg (R9 c1 c2 c3 c4 c5 c6 c7 c8 c9 d0 d1)] fun(v:V)=>v=.tup [.agg (R9 d2 d3 d4 d5 d6 d7 d8 d9 e0 e1 e2),I e3])∧K Out.ret 67 [.lb (R9 d2 d3 d4 d5 d6 d7 d8 d9 e0 e1 e2),I e3] h')) (If (d==(2:Int)) (∃q r t u w x y z a0 a1 a2 a3 a4,(PCon UY 8 [.s e] fun(v:V)=>v=.tup [.agg (R9 q r t u w x y z a0 a1 a2),I a3,I a4])∧ ∃a5,(PCon UY 59 [.agg (R9 q r t u w x y z a0 a1 a2)] fun v=>v=.b a5)∧If a5 (K .ret 67 [.lb R0,I 5] (h.push (YObj.arr (R9 b c f g i j l m n o p) true))) (∃a6 a7 a8 a9 b0 b1 b2 b3 b4 b5 b6,(PCon UY 60 [.agg (R9 q r t u w x y z a0 a1 a2)] fun(v:V)=>v=.agg (R9 a6 a7 a8 a9 b0 b1 b2 b3 b4 b5 b6))∧ ∃b7,∃b8 b9 c0 c1,Zf UY (h.push (YObj.arr (R9 b c f g i j l m n o p) true)) 26 26 (S (some (h.nx,0)) 1 (some 1) 9) (J [I (7:Int),U (0:Int),U (0:Int),U (0:Int),U (0:Int),J (R9 a6 a7 a8 a9 b0 b1 b2 b3 b4 b5 b6) 1 (some 1),I (0:Int),I (0:Int),I (1:Int)] 1 (some 1))=some (S b7 b8 b9 c0,c1)∧ ∃c2,∃c3,∃c4,∃c5,∃c6,∃c7,∃c8,∃c9,∃d0,∃d1,∃d2,(PCon UY (58:Nat) [] fun(v:V)=>v=.agg (R9 c2 c3 c4 c5 c6 c7 c8 c9 d0 d1 d2))∧ ∃d3,∃d4,∃d5,∃d6,∃d7,Zf UY c1 26 26 (S b7 b8 b9 c0) (J (R9 c2 c3 c4 c5 c6 c7 c8 c9 d0 d1 d2) 1 (some 1))=some (S d3 d4 d5 d6,d7)∧Con UY (46:Nat) [S d3 d4 d5 d6] d7 fun(v:V) (h':Heap)=> ∃d8,∃d9,∃e0,∃e1,∃e2,∃e3,∃e4,∃e5,∃e6,∃e7,∃e8,v=.agg (R9 d8 d9 e0 e1 e2 e3 e4 e5 e6 e7 e8)∧ ∃e9,∃f0,∃f1,∃f2,∃f3,∃f4,∃f5,∃f6,∃f7,∃f8,∃f9,∃g0,(PCon UY (45:Nat) [.agg (R9 d8 d9 e0 e1 e2 e3 e4 e5 e6 e7 e8)] fun(v:V)=>v=.tup [.agg (R9 e9 f0 f1 f2 f3 f4 f5 f6 f7 f8 f9),I g0])∧K Out.ret 67 [.lb (R9 e9 f0 f1 f2 f3 f4 f5 f6 f7 f8 f9),I g0] h')) (∃q r t u w x y z a0 a1 a2,(PCon UY 58 [] fun(v:V)=>v=.agg (R9 q r t u w x y z a0 a1 a2))∧ ∃a3 a4 a5 a6 a7,Zf UY (h.push (YObj.arr (R9 b c f g i j l m n o p) true)) 26 26 (S (some (h.nx,0)) 1 (some 1) 9) (J (R9 q r t u w x y z a0 a1 a2) 1 (some 1))=some (S a3 a4 a5 a6,a7)∧Con UY 46 [S a3 a4 a5 a6] a7 fun(v:V) (h':Heap)=> ∃a8 a9 b0 b1 b2 b3 b4 b5 b6 b7 b8,v=.agg (R9 a8 a9 b0 b1 b2 b3 b4 b5 b6 b7 b8)∧ ∃b9 c0 c1 c2,∃c3,∃c4,∃c5,∃c6,∃c7,∃c8,∃c9,∃d0,(PCon UY (45:Nat) [.agg (R9 a8 a9 b0 b1 b2 b3 b4 b5 b6 b7 b8)] fun(v:V)=>v=.tup [.agg (R9 b9 c0 c1 c2 c3 c4 c5 c6 c7 c8 c9),I d0])∧K Out.ret 67 [.lb (R9 b9 c0 c1 c2 c3 c4 c5 c6 c7 c8 c9),I d0] h'))))):=by kernel_rfl
end Go.Y
