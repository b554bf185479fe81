/- A part of the proof. -/
import Derived.Test.YteennilbmmlikaaGreatDoorEE6
import Derived.Test.YteennilbmmlikaaGreatDoorYTryzP
import Derived.Test.YteennilbmmlikaaGreatDoorYLoop
namespace Go.Y
open Go.Proofs
set_option maxRecDepth 1000000
set_option maxHeartbeats 0
theorem Zjm(r:Re):Zd (Qx r)= [I 7,U 0,U 0,U 0,U 0, .ts (Zd (laterF r)) 1 none,I 0,I 0,I 1]:=by
 unfold Qx;rw[Zp,Zg3]

theorem Zsn{h1:Heap}{a}{l:Nat}{c}{kk:Nat}{out:List Re}(hL:LY h1 a l c kk out)(hb:out.length<2 ^ 20)(hf:FewL (out++ [ZJ])){R:V}(hR:R=fitV (sevS 4 (out++ [ZJ]))){fn:Func}(nn:Nat)(hres: ∀(n n_1 n_2 n_3 n_4:Int) (cs:List V) (l:Nat) (c:Option Nat) (n_5 n_6 n_7 e:Int),resV UY fn ([2,3].zip [.lb [I n,U n_1,U n_2,U n_3,U n_4, .ts cs l c,I n_5,I n_6,I n_7],I e])=some (.tup [.agg [I n,U n_1,U n_2,U n_3,U n_4, .ts cs l c,I n_5,I n_6,I n_7],I e])):
  ∃n n_1 n_2 n_3 n_4 cs l_1 c_1 n_5 n_6 n_7,(PCon UY 53 [] fun v=>v= .agg [I n,U n_1,U n_2,U n_3,U n_4, .ts cs l_1 c_1,I n_5,I n_6,I n_7])∧
   ∃(a_1:Option (Nat×Nat)) (l_3:Nat) (c_3:Option Nat) (k_1:Nat) (h:Heap),Zf UY h1 26 26 (.sl a l c kk) (.ts [I n,U n_1,U n_2,U n_3,U n_4, .ts cs l_1 c_1,I n_5,I n_6,I n_7] 1 (some 1))=some (.sl a_1 l_3 c_3 k_1,h)∧
   Con UY 43 [.sl a_1 l_3 c_3 k_1] h fun v h'=> ∃n n_1 n_2 n_3 n_4 cs l c n_5 n_6 n_7 n_8,v= .tup [.agg [I n,U n_1,U n_2,U n_3,U n_4, .ts cs l c,I n_5,I n_6,I n_7],I n_8]∧
    Go.Y.Fin UY fn [2,3] (fun v h=> ∃r,Frz h v r∧r=R) .ret nn [.lb [I n,U n_1,U n_2,U n_3,U n_4, .ts cs l c,I n_5,I n_6,I n_7],I n_8] h':=by
 refine Qh ZJ Zz6 fun k0 s0 s1 s2 s3 cs l0 cc lo hi n he=> ?_
 obtain⟨a',l',c',k',h',q1,q2⟩:=hL.app1 ZJ he (by omega)
 obtain⟨D,hc⟩:=ZFy hf q2
 exact⟨a',l',c',k',h',q1,Zha hc fun k s0 s1 s2 s3 cs l cc lo hi n e h1 h2=>Zby (hres _ _ _ _ _ _ _ _ _ _ _ _) h1 h2 hR⟩

theorem Zbz(k:Int)(t:List UInt8):PCon UY 20 [.agg [I k, .s t]] (· =Js k t):=by
 refine Zt UK (fn:=Tryz.f20) rfl ZJx rfl ?_
 generalize hV:Js k t=R
 unfold Js at hV
 have hres: ∀(n n_1 n_2 n_3 n_4:Int) (cs:List V) (l:Nat) (c:Option Nat) (n_5 n_6 n_7 e:Int),resV UY Tryz.f20 ([2,3].zip [.lb [I n,U n_1,U n_2,U n_3,U n_4, .ts cs l c,I n_5,I n_6,I n_7],I e])=some (.tup [.agg [I n,U n_1,U n_2,U n_3,U n_4, .ts cs l c,I n_5,I n_6,I n_7],I e]):=fun _ _ _ _ _ _ _ _ _ _ _ _=>rfl
 refine⟨_,Zvj k t,Zg (fun hb=> ?_) (fun hb=> ?_)⟩
 ·have hm:mayP k t=false:=by simpa using hb
  rw[if_pos hm]at hV
  exact JM (.inr rfl) rfl (Xu _) (.i _ _) hV
 have hm:mayP k t=true:=by simpa using hb
 rw[if_neg (by rw[hm];decide)]at hV
 have hfew:=Za3 hm
 refine Qh ZJ Zz6 fun k0 s0 s1 s2 s3 cs l0 cc lo hi n he=> ?_
 have key: ∀L:List Re,WJ k t=L-> ¬((k==2)=true∧anchB (ereL t)=true)->R=fitV (sevS 4 ((ZJ::L)++ [ZJ]))∧FewL ((ZJ::L)++ [ZJ]):=fun L hL hn=>by
  rw[if_neg hn,hL]at hV
  rw[hL]at hfew
  exact⟨hV.symm,hfew⟩
 refine Zg (fun h0=> ?_) (fun h0=>Zg (fun h1=> ?_) (fun h1=>Zg (fun h2=> ?_) (fun h2=> ?_)))
 ·have hk:k=0:=by simpa using h0
  subst hk
  have hl:t.length<=200:=by
   have:leI (t.length:Nat) 200=true:=by unfold mayP at hm;simpa using hm
   have:(t.length:Int)<=200:=by simpa[leI]using this
   omega
  obtain⟨hR,hf⟩:=key (ZZ t) rfl (by simp)
  obtain⟨a',l',c',k',h',q1,q2⟩:=(LY.one (h:=Heap.empty) he).apps (ZZ t) (by rw[XX];simp;omega) none
  exact⟨_,_,_,Zw9 t (by omega),a',l',c',k',h',q1,Zsn q2 (by simp[XX];omega) hf hR _ hres⟩
 ·have hk:k=1:=by simpa using h1
  subst hk
  obtain⟨hR,hf⟩:=key (ZN (Vf t)) rfl (by simp)
  obtain⟨g1,g2⟩:=Zhb t
  have g3:=QI (Vf t)
  have hp:=Zje t
  rw[Za2]at hp
  obtain⟨a',l',c',k',h',q1,q2⟩:=(LY.one (h:=Heap.empty) he).apps (ZN (Vf t)) (by simp;omega) none
  exact⟨_,_,_,_,_,hp,_,_,_,Zxa (Vf t) (by omega) g2.ok g2.b,a',l',c',k',h',q1,Zsn q2 (by simp;omega) hf hR _ hres⟩
 ·have hk:k=2:=by simpa using h2
  subst hk
  have hp:=Zfo t
  rw[Va]at hp
  have ha:=(Zsj (B:=1000) (by decide) (ereL t) (Zea t)).c
  have hla:=Zxd (B:=1000) (by decide) (ereL t) (Zea t)
  unfold LaR at hla
  have hin:WJ 2 t= [Qx (ereL t)]:=rfl
  have eg:=Zjm (ereL t)
  revert hp ha hla hin eg key hV
  generalize ereL t=x
  intro hV key hp ha hla hin eg
  have key2:=key _ hin
  clear key
  revert eg hla
  generalize laterF x=y
  intro hla eg
  obtain⟨xk,xs,xl,xlo,xhi,xn⟩:=x
  rw[ZD]at hp ha hla
  refine⟨_,_,_,_,_,_,_,_,_,_,_,_,_,hp,_,ha,Zg (fun hb=> ?_) (fun hb=> ?_)⟩
  ·rw[if_pos ⟨rfl,hb⟩]at hV
   exact JM (.inr rfl) rfl (Xu _) (.i _ _) hV
  ·obtain⟨hR,hf⟩:=key2 (fun hc=>by rw[hb]at hc;exact absurd hc.2 (by decide))
   refine Qh y hla fun k0 s0 s1 s2 s3 cs l0 cc lo hi n he2=> ?_
   rw[he2]at eg
   obtain⟨a',l',c',k',h',q1,q2⟩:=(LY.one (h:=Heap.empty) he).app [Qx (.mk xk xs xl xlo xhi xn)] (new:= [I 7,U 0,U 0,U 0,U 0, .ts [I k0,U s0,U s1,U s2,U s3, .ts cs l0 cc,I lo,I hi,I n] 1 (some 1),I 0,I 0,I 1]) (by
    have e:row Zd [Qx (.mk xk xs xl xlo xhi xn)]=Zd (Qx (.mk xk xs xl xlo xhi xn)):=by simp[row]
    rw[e,eg]
    exact .cons _ _ _ _ (.i _ _) (.cons _ _ _ _ (.i _ _) (.cons _ _ _ _ (.i _ _) (.cons _ _ _ _ (.i _ _) (.cons _ _ _ _ (.i _ _) (.cons _ _ _ _ (.ts _ _ _ none (fun x hx=>by cases hx)) (.cons _ _ _ _ (.i _ _) (.cons _ _ _ _ (.i _ _) (.cons _ _ _ _ (.i _ _) .nil))))))))) rfl rfl rfl (by simp) rfl (some 1)
   exact⟨a',l',c',k',h',q1,Zsn q2 (by simp) hf hR _ hres⟩
 ·have h0:k≠0:=by simpa using h0
  have h1:k≠1:=by simpa using h1
  have h2:k≠2:=by simpa using h2
  exfalso
  unfold mayP at hm
  rw[if_neg (by simpa using h0),if_neg (by simpa using h1),if_neg (by simpa using h2)]at hm
  cases hm
theorem ZKu{k s0 s1 s2 s3 a nk lo hi gn lv dp nn h}(K):CP UY 95 ((flat (Za Tryz.f95)).take 8) (.agg (R9 k s0 s1 s2 s3 a nk none lo hi gn)::I lv::I dp::I nn::Rp 206) h [1,2,3,4,10] K=(If (k==(1:Int)) (If (k==(6:Int)) (If (k==(7:Int)) (K .normal 210 [I lv,I dp,I nn, .lb (R9 k s0 s1 s2 s3 a nk none lo hi gn), .lb (R9 k s0 s1 s2 s3 a nk none lo hi gn)] h) (K .normal 210 [I lv,I dp,I nn, .lb (R9 k s0 s1 s2 s3 a nk none lo hi gn), .lb (R9 k s0 s1 s2 s3 a nk none lo hi 0)] h)) (If (k==(7:Int)) (K .normal 210 [I lv,I dp,I nn, .lb (R9 k s0 s1 s2 s3 a nk none lo hi gn), .lb (R9 k s0 s1 s2 s3 a nk none 0 0 gn)] h) (K .normal 210 [I lv,I dp,I nn, .lb (R9 k s0 s1 s2 s3 a nk none lo hi gn), .lb (R9 k s0 s1 s2 s3 a nk none 0 0 0)] h))) (If (k==(6:Int)) (If (k==(7:Int)) (K .normal 210 [I lv,I dp,I nn, .lb (R9 k s0 s1 s2 s3 a nk none lo hi gn), .lb (R9 k 0 0 0 0 a nk none lo hi gn)] h) (K .normal 210 [I lv,I dp,I nn, .lb (R9 k s0 s1 s2 s3 a nk none lo hi gn), .lb (R9 k 0 0 0 0 a nk none lo hi 0)] h)) (If (k==(7:Int)) (K .normal 210 [I lv,I dp,I nn, .lb (R9 k s0 s1 s2 s3 a nk none lo hi gn), .lb (R9 k 0 0 0 0 a nk none 0 0 gn)] h) (K .normal 210 [I lv,I dp,I nn, .lb (R9 k s0 s1 s2 s3 a nk none lo hi gn), .lb (R9 k 0 0 0 0 a nk none 0 0 0)] h)))):=by kernel_rfl
theorem ZKv{k s0 s1 s2 s3 a nk lo hi gn lv dp nn p0 p1 p2 p3 c d e h}(K):CP UY 95 (((flat (Za Tryz.f95)).drop 8).take 2) (MZ 210 [1,2,3,4,10] [I lv,I dp,I nn,.lb (R9 k s0 s1 s2 s3 a nk none lo hi gn),.lb (R9 k p0 p1 p2 p3 a nk none c d e)]) h [1,2,3,4,8,9] K=((fun P0=>If (!(p0==s0&&(p1==s1&&(p2==s2&&(p3==s3&&true))))) P0 (If (c !=lo) P0 (If (d !=hi) P0 (If (e !=gn) P0 (K .normal 210 [I lv,I dp,I nn, .lb (R9 k s0 s1 s2 s3 a nk none lo hi gn),Ud,Ud] h))))) (K .ret 210 [I lv,I dp,I nn, .lb (R9 k s0 s1 s2 s3 a nk none lo hi gn), .b false,I nn] h)):=by kernel_rfl
theorem ZKw{k s0 s1 s2 s3 a nk lo hi gn lv dp nn h}(K):CP UY 95 (((flat (Za Tryz.f95)).drop 10).take 4) (MZ 210 [1,2,3,4] [I lv,I dp,I nn,.lb (R9 k s0 s1 s2 s3 a nk none lo hi gn)]) h [2,3,4,8,9,11,12] K=(If (k==(7:Int)) (((fun P3=>fun P1=>If (ltI 9 (IntKind.i64.wrap (nn+(1:Int)))) (If (gn !=(0:Int)) P1 (If (leI 64 dp) P1 P3)) (If (gn !=IntKind.i64.wrap (nn+(1:Int))) P1 (If (leI 64 dp) P1 P3))) (K .normal 210 [I (IntKind.i64.wrap (dp+(1:Int))),I (IntKind.i64.wrap (nn+(1:Int))), .lb (R9 k s0 s1 s2 s3 a nk none lo hi gn),Ud,Ud,I 0, .b false] h)) (K .ret 210 [I dp,I (IntKind.i64.wrap (nn+(1:Int))), .lb (R9 k s0 s1 s2 s3 a nk none lo hi gn), .b false,I (IntKind.i64.wrap (nn+(1:Int))),I 0, .b false] h)) ((fun P0=>If (k==(6:Int)) (If (ltI 2 lv) P0 (If (ltI lo 0) P0 (If (ltI 8 lo) P0 (If (ltI 8 hi) P0 ((fun P4=>If (hi !=(-1:Int)) (If (ltI hi lo) P0 P4) P4) (K .normal 210 [I dp,I nn, .lb (R9 k s0 s1 s2 s3 a nk none lo hi gn),Ud,Ud,I 4, .b false] h)))))) (If (k==(4:Int)) (If (ltI 1 lv) P0 (K .normal 210 [I dp,I nn, .lb (R9 k s0 s1 s2 s3 a nk none lo hi gn),Ud,Ud,I 2, .b true] h)) (If (k==(5:Int)) (If (ltI 0 lv) P0 (K .normal 210 [I dp,I nn, .lb (R9 k s0 s1 s2 s3 a nk none lo hi gn),Ud,Ud,I 1, .b true] h)) (If (ltI 0 nk) P0 (If (ltI k 0) P0 (If (ltI 3 k) P0 ((fun P2=>If (k==(0:Int)) (If (ltI 1 lv) P0 (If (lv==(4:Int)) (If (k !=(1:Int)) P0 P2) P2)) (If (lv==(4:Int)) (If (k !=(1:Int)) P0 P2) P2)) (K .ret 210 [I dp,I nn, .lb (R9 k s0 s1 s2 s3 a nk none lo hi gn), .b true,I nn,I 0, .b false] h)))))))) (K .ret 210 [I dp,I nn, .lb (R9 k s0 s1 s2 s3 a nk none lo hi gn), .b false,I nn,I 0, .b false] h))):=by kernel_rfl
theorem ZKx{k s0 s1 s2 s3 a nk lo hi gn dp nn kd c h}(K):CP UY 95 (pre ((flat (Za Tryz.f95)).drop 14)) (MZ 210 [2,3,4,11,12] [I dp,I nn,.lb (R9 k s0 s1 s2 s3 a nk none lo hi gn),I kd,.b c]) h [2,3,4,8,9,11,14] K=((fun P1=>(fun P0=>If c (If (ltI (nk:Int) (2:Int)) P1 P0) P0) ((fun P2=>If (!c) (If ((↑nk:Int) !=(1:Int)) P1 P2) P2) (K .normal 210 [I dp,I nn, .lb (R9 k s0 s1 s2 s3 a nk none lo hi gn),Ud,Ud,I kd,I 0] h))) (K .ret 210 [I dp,I nn, .lb (R9 k s0 s1 s2 s3 a nk none lo hi gn), .b false,I nn,I kd,Ud] h)):=by kernel_rfl
theorem ZKy{k s0 s1 s2 s3 a nk lo hi gn dp nn kd i h}(K):CP UY 95 (flat (Zx (post ((flat (Za Tryz.f95)).drop 14)))) (MZ 210 [2,3,4,11,14] [I dp,I nn,.lb (R9 k s0 s1 s2 s3 a nk none lo hi gn),I kd,I i]) h [2,3,4,8,9,11,14] K=(If (ltI i nk) ((0<=i∧i<nk)∧ ∃b c d e f g j l m n o,Zo 9 (List.drop (i.toNat*9) a)=some (R9 b c d e f g j l m n o)∧ ∃p q,(PCon UY 95 [.agg (R9 b c d e f g j l m n o),I kd,I dp,I nn] fun v=>v=.tup [.b p,I q])∧If (!p) (K .ret 210 [I dp,I nn, .lb (R9 k s0 s1 s2 s3 a nk none lo hi gn), .b false,I nn,I kd,I i] h) (K .normal 210 [I dp,I q, .lb (R9 k s0 s1 s2 s3 a nk none lo hi gn),Ud,Ud,I kd,I (IntKind.i64.wrap (i+(1:Int)))] h)) (K (.exit 0) 210 [I dp,I nn, .lb (R9 k s0 s1 s2 s3 a nk none lo hi gn),Ud,Ud,I kd,I i] h)):=by kernel_rfl
theorem ZKz{nn h}(K):CP UY 95 ((post ((flat (Za Tryz.f95)).drop 14)).drop 1) (MZ 210 [3] [I nn]) h [8,9] K=(K .ret 210 [.b true,I nn] h):=by kernel_rfl
theorem Zhc{Y:YP}(hY:YOK Y){loc:Nat->Bool}{fuel:Nat}(n k:Nat){slots:List Nat}{σ:St}{env':List V}{h:Heap}{l:List Code}{Q:Out->St->Prop}{T:(KT)->Prop}
  (tree: ∀K,Zc Y loc fuel (l.take k) ⟨env',[],h⟩ (VQ slots K)=T K) (hσ:σ=⟨env',[],h⟩) (hc:(l.drop k).isEmpty=false) (hT:T (PreV Y n slots (l.drop k) Q)):TriL Y l σ Q:=by
 have h1:Zc Y loc fuel (l.take k) σ (VQ slots (PreV Y n slots (l.drop k) Q)):=by rw[hσ,tree];exact hT
 have e:l=l.take k++l.drop k:=(List.take_append_drop k l).symm
 rw[e]
 refine Vz ((Zac hY _ _ _ _ h1).mono ?_)
 intro o σ' ho
 have hne:l.drop k≠ []:=fun e=>by rw[e]at hc;cases hc
 cases o with
 |normal=>exact Qt hne ho.1 rfl rfl ho.2
 |exit i=>exact ho σ' rfl rfl rfl
 |ret=>exact ho σ' rfl rfl rfl

def endF(R:Bool×Int)(len:Nat)(many:Bool)(g:Int):Bool×Int:=
 if(if many=true then ltI len 2 else !((len:Int)==1))=true then(false,g)else R
def formF:Re->Int->Int->Int->Bool×Int
 | .mk k s kids lo hi n,lv,dp,g=>
  if Zeq k s lo hi n=false then(false,g)
  else if(k==7)=true then
   (if(n==if ltI 9 (XS (g+1))=true then 0 else XS (g+1))=true∧leI 64 dp=false then endF (kidsG kids 0 (XS (dp+1)) (XS (g+1))) kids.length false (XS (g+1))else(false,XS (g+1)))
  else if(k==6)=true then
   (if ltI 2 lv=true∨ltI lo 0=true∨ltI 8 lo=true∨ltI 8 hi=true∨((hi != -1)=true∧ltI hi lo=true)then(false,g)else endF (kidsG kids 4 dp g) kids.length false g)
  else if(k==4)=true then(if ltI 1 lv=true then(false,g)else endF (kidsG kids 2 dp g) kids.length true g)
  else if(k==5)=true then(if ltI 0 lv=true then(false,g)else endF (kidsG kids 1 dp g) kids.length true g)
  else if ltI 0 kids.length=true∨ltI k 0=true∨ltI 3 k=true∨((k==0)=true∧ltI 1 lv=true)∨((lv==4)=true∧(k !=1)=true)then(false,g)else(true,g)
where
 kidsG:List Re->Int->Int->Int->Bool×Int
  | [],_,_,g=>(true,g)
  |r::l,kd,dp,g=>if(formF r kd dp g).1=true then kidsG l kd dp (formF r kd dp g).2 else(false,g)

def fV(p:Bool×Int):V:= .tup [.b p.1, .i .i64 p.2]
def FoR(r:Re):Prop:= ∀lv dp g:Int,PCon UY 95 [.agg (Zd r), .i .i64 lv, .i .i64 dp, .i .i64 g] (· =fV (formF r lv dp g))

theorem Zoy(kids:List Re){i:Nat}(hi:i<kids.length)(kd dp g:Int):formF.kidsG (kids.drop i) kd dp g=if(formF kids[i] kd dp g).1=true then formF.kidsG (kids.drop (i+1)) kd dp (formF kids[i] kd dp g).2 else(false,g):=by
 rw[Zms hi,formF.kidsG]

abbrev xLb(k:Int)(s:S4)(kids:List Re)(lo hi n:Int):V:= .lb [I k,U s.1,U s.2.1,U s.2.2.1,U s.2.2.2,lst Zd kids,I lo,I hi,I n]

theorem Zvk{B:Nat}(hB:B<2 ^ 20){k:Int}{s:S4}{kids:List Re}{lo hi n:Int}(hl:kids.length<=B)(ih: ∀x∈kids,FoR x):FoR (.mk k s kids lo hi n):=by
 intro lv dp g
 rw[ZD]
 refine ZE UK (fn:=Tryz.f95) rfl ?_
 refine Zhc UK 210 8 ZKu rfl (by kernel_rfl) ?_
 generalize hR:formF (.mk k s kids lo hi n) lv dp g=R
 rw[formF]at hR
 have e10:((flat (Za Tryz.f95)).drop 8).drop 2=(flat (Za Tryz.f95)).drop 10:=by rw[List.drop_drop]
 have e14:((flat (Za Tryz.f95)).drop 10).drop 4=(flat (Za Tryz.f95)).drop 14:=by rw[List.drop_drop]
 have partD: ∀(dp' g' kd:Int) (many:Bool),endF (formF.kidsG kids kd dp' g') kids.length many g'=R->
   PreV UY 210 [2,3,4,8,9,11,12] ((flat (Za Tryz.f95)).drop 14) (FinS UY Tryz.f95 fun v h=> ∃r,Frz h v r∧r=fV R) .normal 210 [I dp',I g',xLb k s kids lo hi n, .undef, .undef,I kd, .b many] .empty:=by
  intro dp' g' kd many hE
  refine⟨rfl,?_⟩
  refine Zl UK 210 ZKx rfl ?_
  have bad:(if many=true then ltI kids.length 2 else !(((kids.length:Nat):Int)==1))=true->PreV UY 210 [2,3,4,8,9,11,14] (post ((flat (Za Tryz.f95)).drop 14)) (FinS UY Tryz.f95 fun v h=> ∃r,Frz h v r∧r=fV R) .ret 210 [I dp',I g',xLb k s kids lo hi n, .b false,I g',I kd, .undef] .empty:=fun hb=>
   fin2 (.inr rfl) rfl (.b _) (.i _ _) (by rw[<-hE];unfold endF;rw[if_pos hb];rfl)
  have good:(if many=true then ltI kids.length 2 else !(((kids.length:Nat):Int)==1))=false->PreV UY 210 [2,3,4,8,9,11,14] (post ((flat (Za Tryz.f95)).drop 14)) (FinS UY Tryz.f95 fun v h=> ∃r,Frz h v r∧r=fV R) .normal 210 [I dp',I g',xLb k s kids lo hi n, .undef, .undef,I kd,I 0] .empty:=by
   intro hb
   have hE:formF.kidsG kids kd dp' g'=R:=by
    rw[<-hE];unfold endF;rw[if_neg (by rw[hb];decide)]
   refine⟨rfl,ZL [2,3,4,11,14] [2,3,4,8,9,11,14] (fun m vs g=> ∃(i:Nat) (gg:Int),vs= [I dp',I gg,xLb k s kids lo hi n,I kd,I (i:Nat)]∧i<=kids.length∧m=kids.length-i∧formF.kidsG (kids.drop i) kd dp' gg=R) kids.length Zy ⟨0,g',rfl,by omega,by omega,hE⟩ ?_⟩
   rintro m vs g0 ⟨i,gg,rfl,hi2,rfl,hk⟩
   refine Zs UK ZKy rfl ?_
   refine Zm (fun hlt=> ?_) (fun hge=> ?_)
   ·have hc:=ih kids[i] (qe hlt) kd dp' gg
    have hrow:=Jp hlt
    rw[Zoy kids hlt]at hk
    generalize formF kids[i] kd dp' gg=q at hc hk
    generalize kids[i]=x at hc hrow
    obtain⟨xk,xs,xl,xlo,xhi,xn⟩:=x
    rw[Zp]at hrow
    rw[ZD]at hc
    refine⟨Zz hlt,_,_,_,_,_,_,_,_,_,_,_,hrow,q.1,q.2,hc,Zg (fun hb=> ?_) (fun hb=> ?_)⟩
    ·have hb:q.1=false:=by simpa using hb
     rw[if_neg (by rw[hb];decide)]at hk
     exact fin2 (.inr rfl) rfl (.b _) (.i _ _) (by rw[<-hk];rfl)
    ·have hb:q.1=true:=by simpa using hb
     rw[if_pos hb]at hk
     exact⟨rfl,kids.length-(i+1),by omega,i+1,q.2,by rw[Zh (by omega)];rfl,by omega,rfl,hk⟩
   ·have he:i=kids.length:=by omega
    subst he
    rw[List.drop_length,formF.kidsG]at hk
    refine Zi [3] ?_
    refine Zn UK ZKz rfl ?_
    exact JM (.inr rfl) rfl (.b _) (.i _ _) (by rw[<-hk];rfl)
  cases many
  ·refine ifF rfl (ifT rfl (Zg (fun h1=>bad ?_) (fun h1=>good ?_)))
   ·rw[if_neg (by decide)];simpa using h1
   ·rw[if_neg (by decide)];simpa using h1
  ·refine ifT rfl (Zg (fun h1=>bad ?_) (fun h1=>ifF rfl (good ?_)))
   ·rw[if_pos rfl];exact h1
   ·rw[if_pos rfl];exact h1
 have XA:Zeq k s lo hi n=true->PreV UY 210 [1,2,3,4,8,9] ((flat (Za Tryz.f95)).drop 10) (FinS UY Tryz.f95 fun v h=> ∃r,Frz h v r∧r=fV R) .normal 210 [I lv,I dp,I g,xLb k s kids lo hi n, .undef, .undef] .empty:=by
  intro hbare
  rw[if_neg (by rw[hbare];decide)]at hR
  refine⟨rfl,?_⟩
  refine Zhc UK 210 4 ZKw rfl (by kernel_rfl) ?_
  rw[e14]
  have ret: ∀(b:Bool) (g':Int),(b,g')=R-> ∀(vs1 vs2 vs3 vs4 vs5:V),PreV UY 210 [2,3,4,8,9,11,12] ((flat (Za Tryz.f95)).drop 14) (FinS UY Tryz.f95 fun v h=> ∃r,Frz h v r∧r=fV R) .ret 210 [vs1,vs2,vs3, .b b,I g',vs4,vs5] .empty:=fun b g' hr _ _ _ _ _=>
   fin2 (.inr rfl) rfl (.b _) (.i _ _) (by rw[<-hr];rfl)
  refine Zg (fun h7=> ?_) (fun h7=> ?_)
  ·rw[if_pos h7]at hR
   refine Zg (fun h9=> ?_) (fun h9=> ?_)
   ·rw[h9]at hR
    refine Zg (fun hn=>ret _ _ ?_ _ _ _ _ _) (fun hn=>Zg (fun hd=>ret _ _ ?_ _ _ _ _ _) (fun hd=>partD _ _ _ _ ?_))
    ·rw[if_neg (fun hc=>by have:=hc.1;simp at this;simp[this]at hn)]at hR;exact hR
    ·rw[if_neg (fun hc=>by rw[hc.2]at hd;cases hd)]at hR;exact hR
    ·rw[if_pos ⟨by simpa using hn,hd⟩]at hR;exact hR
   ·rw[h9]at hR
    refine Zg (fun hn=>ret _ _ ?_ _ _ _ _ _) (fun hn=>Zg (fun hd=>ret _ _ ?_ _ _ _ _ _) (fun hd=>partD _ _ _ _ ?_))
    ·rw[if_neg (fun hc=>by have:=hc.1;simp at this;simp[this]at hn)]at hR;exact hR
    ·rw[if_neg (fun hc=>by rw[hc.2]at hd;cases hd)]at hR;exact hR
    ·rw[if_pos ⟨by simpa using hn,hd⟩]at hR;exact hR
  rw[if_neg (by rw[h7];decide)]at hR
  refine Zg (fun h6=> ?_) (fun h6=> ?_)
  ·rw[if_pos h6]at hR
   refine Zg (fun a1=>ret _ _ ?_ _ _ _ _ _) (fun a1=>Zg (fun a2=>ret _ _ ?_ _ _ _ _ _) (fun a2=>Zg (fun a3=>ret _ _ ?_ _ _ _ _ _) (fun a3=>Zg (fun a4=>ret _ _ ?_ _ _ _ _ _) (fun a4=>Zg (fun a5=>Zg (fun a6=>ret _ _ ?_ _ _ _ _ _) (fun a6=>partD _ _ _ _ ?_)) (fun a5=>partD _ _ _ _ ?_)))))
   ·rw[if_pos (.inl a1)]at hR;exact hR
   ·rw[if_pos (.inr (.inl a2))]at hR;exact hR
   ·rw[if_pos (.inr (.inr (.inl a3)))]at hR;exact hR
   ·rw[if_pos (.inr (.inr (.inr (.inl a4))))]at hR;exact hR
   ·rw[if_pos (.inr (.inr (.inr (.inr ⟨a5,a6⟩))))]at hR;exact hR
   ·rw[if_neg (by rw[a1,a2,a3,a4,a6];simp)]at hR;exact hR
   ·rw[if_neg (by rw[a1,a2,a3,a4,a5];simp)]at hR;exact hR
  rw[if_neg (by rw[h6];decide)]at hR
  refine Zg (fun h4=> ?_) (fun h4=> ?_)
  ·rw[if_pos h4]at hR
   refine Zg (fun a1=>ret _ _ ?_ _ _ _ _ _) (fun a1=>partD _ _ _ _ ?_)
   ·rw[if_pos a1]at hR;exact hR
   ·rw[if_neg (by rw[a1];decide)]at hR;exact hR
  rw[if_neg (by rw[h4];decide)]at hR
  refine Zg (fun h5=> ?_) (fun h5=> ?_)
  ·rw[if_pos h5]at hR
   refine Zg (fun a1=>ret _ _ ?_ _ _ _ _ _) (fun a1=>partD _ _ _ _ ?_)
   ·rw[if_pos a1]at hR;exact hR
   ·rw[if_neg (by rw[a1];decide)]at hR;exact hR
  rw[if_neg (by rw[h5];decide)]at hR
  refine Zg (fun a1=>ret _ _ ?_ _ _ _ _ _) (fun a1=>Zg (fun a2=>ret _ _ ?_ _ _ _ _ _) (fun a2=>Zg (fun a3=>ret _ _ ?_ _ _ _ _ _) (fun a3=>Zg (fun a4=>Zg (fun a5=>ret _ _ ?_ _ _ _ _ _) (fun a5=>Zg (fun a6=>Zg (fun a7=>ret _ _ ?_ _ _ _ _ _) (fun a7=>ret _ _ ?_ _ _ _ _ _)) (fun a6=>ret _ _ ?_ _ _ _ _ _))) (fun a4=>Zg (fun a6=>Zg (fun a7=>ret _ _ ?_ _ _ _ _ _) (fun a7=>ret _ _ ?_ _ _ _ _ _)) (fun a6=>ret _ _ ?_ _ _ _ _ _)))))
  ·rw[if_pos (.inl a1)]at hR;exact hR
  ·rw[if_pos (.inr (.inl a2))]at hR;exact hR
  ·rw[if_pos (.inr (.inr (.inl a3)))]at hR;exact hR
  ·rw[if_pos (.inr (.inr (.inr (.inl ⟨a4,a5⟩))))]at hR;exact hR
  ·rw[if_pos (.inr (.inr (.inr (.inr ⟨a6,a7⟩))))]at hR;exact hR
  ·rw[if_neg (by rw[a1,a2,a3,a5,a7];simp)]at hR;exact hR
  ·rw[if_neg (by rw[a1,a2,a3,a5,a6];simp)]at hR;exact hR
  ·rw[if_pos (.inr (.inr (.inr (.inr ⟨a6,a7⟩))))]at hR;exact hR
  ·rw[if_neg (by rw[a1,a2,a3,a4,a7];simp)]at hR;exact hR
  ·rw[if_neg (by rw[a1,a2,a3,a4,a6];simp)]at hR;exact hR
 have partB: ∀(p0 p1 p2 p3 plo phi pgn:Int),((p0==s.1&&(p1==s.2.1&&(p2==s.2.2.1&&(p3==s.2.2.2&&true))))&&(plo==lo&&phi==hi)&&pgn==n)=Zeq k s lo hi n->
   PreV UY 210 [1,2,3,4,10] ((flat (Za Tryz.f95)).drop 8) (FinS UY Tryz.f95 fun v h=> ∃r,Frz h v r∧r=fV R) .normal 210 [I lv,I dp,I g,xLb k s kids lo hi n, .lb [I k,U p0,U p1,U p2,U p3,lst Zd kids,I plo,I phi,I pgn]] .empty:=by
  intro p0 p1 p2 p3 plo phi pgn hb
  refine⟨rfl,?_⟩
  refine Zhc UK 210 2 ZKv rfl (by kernel_rfl) ?_
  rw[e10]
  have bad:Zeq k s lo hi n=false->PreV UY 210 [1,2,3,4,8,9] ((flat (Za Tryz.f95)).drop 10) (FinS UY Tryz.f95 fun v h=> ∃r,Frz h v r∧r=fV R) .ret 210 [I lv,I dp,I g,xLb k s kids lo hi n, .b false,I g] .empty:=fun hf=>
   fin2 (.inr rfl) rfl (.b _) (.i _ _) (by rw[if_pos hf]at hR;rw[<-hR];rfl)
  refine Zg (fun a1=>bad ?_) (fun a1=>Zg (fun a2=>bad ?_) (fun a2=>Zg (fun a3=>bad ?_) (fun a3=>Zg (fun a4=>bad ?_) (fun a4=>XA ?_))))
  ·have a1:(p0==s.1&&(p1==s.2.1&&(p2==s.2.2.1&&(p3==s.2.2.2&&true))))=false:=by rwa [Bool.not_eq_true']at a1
   rw[<-hb,a1];rfl
  ·have a2:(plo==lo)=false:=by simpa using a2
   rw[<-hb,a2];simp
  ·have a3:(phi==hi)=false:=by simpa using a3
   rw[<-hb,a3];simp
  ·have a4:(pgn==n)=false:=by simpa using a4
   rw[<-hb,a4];simp
  ·have a1:(p0==s.1&&(p1==s.2.1&&(p2==s.2.2.1&&(p3==s.2.2.2&&true))))=true:=by rwa [Bool.not_eq_false']at a1
   have a2:(plo==lo)=true:=by simpa using a2
   have a3:(phi==hi)=true:=by simpa using a3
   have a4:(pgn==n)=true:=by simpa using a4
   rw[<-hb,a1,a2,a3,a4];rfl
 have c0: ∀x:Int,((0:Int)==x)=(x==0):=fun x=>by
  by_cases h:x=0
  ·subst h;rfl
  ·have h2:((0:Int)==x)=false:=by
    rw[beq_eq_false_iff_ne];exact fun e=>h e.symm
   have h3:(x==0)=false:=by
    rw[beq_eq_false_iff_ne];exact h
   rw[h2,h3]
 refine Zg (fun h1=>Zg (fun h6=>Zg (fun h7=> ?_) (fun h7=> ?_)) (fun h6=>Zg (fun h7=> ?_) (fun h7=> ?_))) (fun h1=>Zg (fun h6=>Zg (fun h7=> ?_) (fun h7=> ?_)) (fun h6=>Zg (fun h7=> ?_) (fun h7=> ?_)))
 all_goals
  refine partB _ _ _ _ _ _ _ ?_
  unfold Zeq
  rw[h1,h6,h7]
  first|simp[c0]|skip

mutual
theorem ZAh{B:Nat}(hB:B<2 ^ 20): ∀r:Re,wfRe B r->FoR r
 | .mk k s kids lo hi n,h=>by
  rw[wfRe]at h
  exact Zvk hB h.2.2.1 (Zxg hB kids h.2.2.2)
theorem Zxg{B:Nat}(hB:B<2 ^ 20): ∀l:List Re,wfRe.wfRes B l-> ∀x∈l,FoR x
 | [],_,x,hx=>by cases hx
 |r::l,h,x,hx=>by
  rw[wfRe.wfRes]at h
  have h1:=ZAh hB r h.1
  have h2:=Zxg hB l h.2
  rcases qu.1 hx with e|hx
  ·exact e▸h1
  ·exact h2 x hx
end
end Go.Y
namespace Go.Y
set_option maxRecDepth 1000000
set_option maxHeartbeats 0
def lvM(lv:Int):Int:=if lv=3 then 4 else lv
def FR(o:Option Int)(p:Bool×Int):Prop:=(∀g,o=some g->p=(true,g))∧(o=none->p.1=false)
theorem FR.none{g:Int} :FR Option.none (false,g):=⟨(fun _ h=>by cases h),fun _=>rfl⟩
theorem FR.some{g:Int} :FR (Option.some g) (true,g):=⟨(fun _ h=>by cases h;rfl),fun h=>by cases h⟩
theorem FR.ite{c:Prop} [Decidable c] {d:Prop} [Decidable d] {o:Option Int} {p:Bool×Int} {g:Int} (h:FR o p) (hcd:c↔ ¬d):FR (if c then o else Option.none) (if d then(false,g)else p):=by
 by_cases hd:d
 ·rw[if_pos hd,if_neg (fun hc=>(hcd.1 hc) hd)];exact FR.none
 ·rw[if_neg hd,if_pos (hcd.2 hd)];exact h

mutual
theorem Zfs: ∀(r:Re) (lv dp g:Int),(lv=0∨lv=1∨lv=2∨lv=3)->FR (rightF r lv dp g) (formF r (lvM lv) dp g)
 | .mk k s kids lo hi n,lv,dp,g,hlv=>by
  have hk:=Zec kids
  rw[rightF,formF]
  by_cases hb:Zeq k s lo hi n=false
  ·rw[if_pos hb,if_pos hb];exact FR.none
  rw[if_neg hb,if_neg hb]
  by_cases k0:k=0
  ·subst k0
   rw[if_pos rfl,if_neg (show¬((0:Int)==7)=true by decide),if_neg (show¬((0:Int)==6)=true by decide),if_neg (show¬((0:Int)==4)=true by decide),if_neg (show¬((0:Int)==5)=true by decide)]
   refine FR.ite FR.some ?_
   rcases hlv with rfl|rfl|rfl|rfl<;>cases kids<;>simp[lvM,ltI,leI]<;>omega
  rw[if_neg k0]
  by_cases k1:k=1
  ·subst k1
   rw[if_pos rfl,if_neg (show¬((1:Int)==7)=true by decide),if_neg (show¬((1:Int)==6)=true by decide),if_neg (show¬((1:Int)==4)=true by decide),if_neg (show¬((1:Int)==5)=true by decide)]
   refine FR.ite FR.some ?_
   rcases hlv with rfl|rfl|rfl|rfl<;>cases kids<;>simp[lvM,ltI,leI]<;>omega
  rw[if_neg k1]
  by_cases k23:k=2∨k=3
  ·rw[if_pos k23]
   have e7: ¬(k==7)=true:=by rcases k23 with rfl|rfl<;>decide
   have e6: ¬(k==6)=true:=by rcases k23 with rfl|rfl<;>decide
   have e4: ¬(k==4)=true:=by rcases k23 with rfl|rfl<;>decide
   have e5: ¬(k==5)=true:=by rcases k23 with rfl|rfl<;>decide
   rw[if_neg e7,if_neg e6,if_neg e4,if_neg e5]
   refine FR.ite FR.some ?_
   rcases k23 with rfl|rfl<;>rcases hlv with rfl|rfl|rfl|rfl<;>cases kids<;>simp[lvM,ltI,leI]<;>omega
  rw[if_neg k23]
  by_cases k4:k=4
  ·subst k4
   rw[if_pos rfl,if_neg (show¬((4:Int)==7)=true by decide),if_neg (show¬((4:Int)==6)=true by decide),if_pos (show((4:Int)==4)=true from rfl)]
   have h2:=hk 2 dp g (by simp)
   rw[show lvM 2=2 from rfl]at h2
   unfold endF
   by_cases h1:ltI 1 (lvM lv)=true
   ·rw[if_pos h1,if_neg]; · exact FR.none
    rcases hlv with rfl|rfl|rfl|rfl<;>simp_all [lvM,ltI,leI]
   ·rw[if_neg h1]
    refine FR.ite h2 ?_
    rcases hlv with rfl|rfl|rfl|rfl<;>simp_all [lvM,ltI,leI]<;>omega
  rw[if_neg k4]
  by_cases k5:k=5
  ·subst k5
   rw[if_pos rfl,if_neg (show¬((5:Int)==7)=true by decide),if_neg (show¬((5:Int)==6)=true by decide),if_neg (show¬((5:Int)==4)=true by decide),if_pos (show((5:Int)==5)=true from rfl)]
   have h2:=hk 1 dp g (by simp)
   rw[show lvM 1=1 from rfl]at h2
   unfold endF
   by_cases h1:ltI 0 (lvM lv)=true
   ·rw[if_pos h1,if_neg]; · exact FR.none
    rcases hlv with rfl|rfl|rfl|rfl<;>simp_all [lvM,ltI,leI]
   ·rw[if_neg h1]
    refine FR.ite h2 ?_
    rcases hlv with rfl|rfl|rfl|rfl<;>simp_all [lvM,ltI,leI]<;>omega
  rw[if_neg k5]
  by_cases k6:k=6
  ·subst k6
   rw[if_pos rfl,if_neg (show¬((6:Int)==7)=true by decide),if_pos (show((6:Int)==6)=true from rfl)]
   have h2:=hk 3 dp g (by simp)
   rw[show lvM 3=4 from rfl]at h2
   unfold endF
   by_cases h1:ltI 2 (lvM lv)=true∨ltI lo 0=true∨ltI 8 lo=true∨ltI 8 hi=true∨((hi != -1)=true∧ltI hi lo=true)
   ·rw[if_pos h1,if_neg]; · exact FR.none
    rcases hlv with rfl|rfl|rfl|rfl<;>simp[lvM,ltI,leI]at h1 ⊢<;>omega
   ·rw[if_neg h1]
    refine FR.ite h2 ?_
    rcases hlv with rfl|rfl|rfl|rfl<;>simp[lvM,ltI,leI]at h1 ⊢<;>omega
  rw[if_neg k6]
  by_cases k7:k=7
  ·subst k7
   rw[if_pos rfl,if_pos (show((7:Int)==7)=true from rfl)]
   have h2:=hk 0 (XS (dp+1)) (XS (g+1)) (by simp)
   rw[show lvM 0=0 from rfl]at h2
   unfold endF
   by_cases h1:(n==if ltI 9 (XS (g+1))=true then 0 else XS (g+1))=true∧leI 64 dp=false
   ·rw[if_pos h1]
    refine FR.ite h2 ?_
    have hd:dp<64:=by have:=h1.2;simp[leI]at this;exact this
    rw[h1.1]
    simp[ltI,hd]
   ·rw[if_neg h1,if_neg]; · exact FR.none
    intro hc
    simp only[qrq]at hc
    refine h1 ⟨hc.1.1,?_⟩
    have hd:dp<64:=by have:=hc.1.2;simpa[ltI]using this
    simp[leI,hd]
  rw[if_neg k7]
  have e7: ¬(k==7)=true:=by simpa using k7
  have e6: ¬(k==6)=true:=by simpa using k6
  have e4: ¬(k==4)=true:=by simpa using k4
  have e5: ¬(k==5)=true:=by simpa using k5
  rw[if_neg e7,if_neg e6,if_neg e4,if_neg e5,if_pos]
  ·exact FR.none
  ·by_cases h:k<0
   ·exact .inr (.inl (by simpa[ltI]using h))
   ·refine .inr (.inr (.inl ?_))
    simp[ltI];omega
theorem Zec: ∀(l:List Re) (lv dp g:Int),(lv=0∨lv=1∨lv=2∨lv=3)->FR (rightF.kidsF l lv dp g) (formF.kidsG l (lvM lv) dp g)
 | [],lv,dp,g,_=>by rw[rightF.kidsF,formF.kidsG];exact FR.some
 |r::l,lv,dp,g,hlv=>by
  have h1:=Zfs r lv dp g hlv
  rw[rightF.kidsF,formF.kidsG]
  cases hr:rightF r lv dp g with
  |none=>
   have:=h1.2 hr
   rw[if_neg (by rw[this];decide)]
   exact FR.none
  |some g'=>
   have:=h1.1 g' hr
   rw[this,if_pos rfl]
   exact Zec l lv dp g' hlv
end
theorem ZAi(r:Re):(formF r 0 0 0).1=(rightF r 0 0 0).isSome:=by
 have h:=Zfs r 0 0 0 (.inl rfl)
 rw[show lvM 0=0 from rfl]at h
 cases hr:rightF r 0 0 0 with
 |none=>exact h.2 hr
 |some g=>rw[h.1 g hr];rfl
def nnS(s:S4):Prop:= ∃p,s=Zw p
def nnRe:Re->Prop
 | .mk _ s kids _ _ _=>nnS s∧nnRes kids
where
 nnRes:List Re->Prop
  | []=>True
  |r::l=>nnRe r∧nnRes l
theorem Qp(p:Nat->Bool):nnS (Zw p):=⟨p,rfl⟩
theorem ZAj:nnS (0,0,0,0):=⟨_,setOf_no.symm⟩
theorem JN: ∀ {l m:List Re},nnRe.nnRes l->nnRe.nnRes m->nnRe.nnRes (l++m)
 | [],m,_,h=>h
 |r::l,m,h,g=>by
  rw[qs,nnRe.nnRes]
  rw[nnRe.nnRes]at h
  exact⟨h.1,JN h.2 g⟩
theorem Zvl{k:Int}{kids:List Re}{lo hi n:Int}(h:nnRe.nnRes kids):nnRe (.mk k (0,0,0,0) kids lo hi n):=by rw[nnRe];exact⟨ZAj,h⟩
theorem Zjn{k:Int} : ∀ {l:List Re},nnRe.nnRes l->nnRe (sevS k l)
 | [],h=>Zvl h
 | [r],h=>by rw[nnRe.nnRes]at h;exact h.1
 |_::_::_,h=>Zvl h
theorem Zed{k:Int}{r:Re}{lo hi n:Int}(h:nnRe r):nnRe (.mk k (0,0,0,0) [r] lo hi n):=Zvl (by rw[nnRe.nnRes,nnRe.nnRes];exact⟨h,trivial⟩)
theorem Vo{x:S4}(h:nnS x):nnRe (XY x):=by unfold XY;rw[nnRe,nnRe.nnRes];exact⟨h,trivial⟩
theorem Vb{k:Int} :nnRe (.mk k (0,0,0,0) [] 0 0 0):=Zvl (by rw[nnRe.nnRes];trivial)
theorem Zvm{s:List UInt8}{i j:Nat}{x:S4}(h:Qv s i= .ok (x,j)):nnRe (XY x):=by
 unfold Qv at h
 simp only[]at h
 split at h
 ·cases h
 ·cases h;exact Vo (Qp _)

theorem Zxh(s:List UInt8): ∀n,
  (∀ {d i g r j g'},altE n d s i g= .ok (r,j,g')->i<=s.length->g<=i->nnRe r)∧
  (∀ {d i g l r j g'},JY n d s i g l= .ok (r,j,g')->i<=s.length->g<=i->l.length<=i+1->nnRe.nnRes l->nnRe r)∧
  (∀ {d i g l r j g'},rowE n d s i g l= .ok (r,j,g')->i<=s.length->g<=i->l.length<=i->nnRe.nnRes l->nnRe r)∧
  (∀ {d i g r j g'},XR n d s i g= .ok (r,j,g')->i<=s.length->g<=i->nnRe r)∧
  (∀ {d i g r j g'},Jo n d s i g= .ok (r,j,g')->i<=s.length->g<=i->nnRe r)
 |0=>⟨fun h=>by simp[altE]at h,fun h=>by simp[JY]at h,fun h=>by simp[rowE]at h,fun h=>by simp[XR]at h,fun h=>by simp[Jo]at h⟩
 |n+1=>by
  obtain⟨w1,w2,w3,w4,w5⟩:=Zxh s n
  obtain⟨p1,p2,p3,p4,p5⟩:=XD s n
  refine⟨fun {d i g r j g'} h hi hg=> ?_,fun {d i g l r j g'} h hi hg hl hw=> ?_,fun {d i g l r j g'} h hi hg hl hw=> ?_,fun {d i g r j g'} h hi hg=> ?_,fun {d i g r j g'} h hi hg=> ?_⟩
  ·rw[altE]at h
   split at h
   ·cases h
   ·rename_i r1 i1 g1 h1
    have a1:=p3 h1 hi hg
    exact w2 h a1.2.1 a1.2.2 (by simp) (by rw[nnRe.nnRes,nnRe.nnRes];exact⟨w3 h1 hi hg (qx _) (by rw[nnRe.nnRes];trivial),trivial⟩)
  ·rw[JY]at h
   split at h
   ·rename_i h0
    have hlt:=(qb.1 h0).1
    split at h
    ·cases h
    ·rename_i r1 i1 g1 h1
     have a1:=p3 h1 (by omega) (by omega)
     exact w2 h a1.2.1 a1.2.2 (by simp;omega) (JN hw (by rw[nnRe.nnRes,nnRe.nnRes];exact⟨w3 h1 (by omega) (by omega) (qx _) (by rw[nnRe.nnRes];trivial),trivial⟩))
   ·cases h;exact Zjn hw
  ·rw[rowE]at h
   split at h
   ·cases h;exact Zjn hw
   ·split at h
    ·cases h;exact Zjn hw
    ·split at h
     ·cases h
     ·rename_i r1 i1 g1 h1
      have a1:=p4 h1 hi hg
      exact w3 h a1.2.1 a1.2.2 (by simp;omega) (JN hw (by rw[nnRe.nnRes,nnRe.nnRes];exact⟨w4 h1 hi hg,trivial⟩))
  ·rw[XR]at h
   split at h
   ·cases h
   ·rename_i r1 i1 g1 h1
    have a1:=w5 h1 hi hg
    split at h
    ·cases h;exact a1
    ·split at h
     ·split at h
      ·cases h
      ·split at h
       ·cases h;exact Zed a1
       ·split at h
        ·cases h;exact Zed a1
        ·split at h
         ·cases h;exact Zed a1
         ·split at h
          ·cases h
          ·rename_i lo hi2 j2 h2
           cases h;exact Zed a1
     ·cases h;exact a1
  ·rw[Jo]at h
   split at h
   ·cases h
   ·rename_i c hc
    have hl:=(qb.1 hc).1
    split at h
    ·cases h
    ·split at h
     ·split at h
      ·cases h
      ·split at h
       ·cases h
       ·rename_i r1 i1 g1 h1
        split at h
        ·cases h;exact Zed (w1 h1 (by omega) (by omega))
        ·cases h
     ·split at h
      ·split at h
       ·cases h
       ·rename_i x j2 h2
        cases h;exact Zvm h2
      ·split at h
       ·cases h;first|exact Vb|exact Vo (Qp _)
       ·split at h
        ·cases h;first|exact Vb|exact Vo (Qp _)
        ·split at h
         ·cases h;first|exact Vb|exact Vo (Qp _)
         ·split at h
          ·split at h
           ·cases h
           ·cases h;first|exact Vb|exact Vo (Qp _)
          ·cases h;first|exact Vb|exact Vo (Qp _)
theorem Zvn{s:List UInt8}{r:Re}(h:Qg s= .ok r):nnRe r:=by
 unfold Qg at h
 split at h
 ·cases h
 ·split at h
  ·cases h
  ·rename_i r1 i1 g1 h1
   split at h
   ·cases h
   ·cases h
    exact(Zxh s _).1 h1 (qx _) (qx _)
theorem Zxi(s:List UInt8):nnRe (ereL s):=by
 unfold ereL
 cases hp:Qg s with
 |error e=>exact Vb
 |ok x=>exact Zvn hp
mutual
theorem Znd: ∀r:Re,nnRe r->nnRe (laterF r)
 | .mk k s kids lo hi n,h=>by
  rw[nnRe]at h
  rw[Za0,nnRe]
  exact⟨h.1,Zjo kids h.2⟩
theorem Zjo: ∀l:List Re,nnRe.nnRes l->nnRe.nnRes (l.map laterF)
 | [],_=>by rw[List.map_nil,nnRe.nnRes];trivial
 |r::l,h=>by
  rw[nnRe.nnRes]at h
  rw[qz,nnRe.nnRes]
  exact⟨Znd r h.1,Zjo l h.2⟩
end
theorem Zxj:nnRe Wn:=Vo (Qp _)
theorem Zlc:nnRe ZJ:=Zed Zxj
theorem Za4: ∀s:List UInt8,nnRe.nnRes (ZZ s)
 | []=>by simp only[ZZ,List.map_nil];rw[nnRe.nnRes];trivial
 |c::s=>by
  have e:ZZ (c::s)=Vn c::ZZ s:=by simp[ZZ]
  rw[e,nnRe.nnRes];exact⟨Vo (Qp _),Za4 s⟩
theorem Zso(g:Glob):nnRe.nnRes (Xe g):=by
 unfold Xe
 split
 ·rw[nnRe.nnRes,nnRe.nnRes];exact⟨Vo (Qp _),trivial⟩
 split
 ·rw[nnRe.nnRes,nnRe.nnRes];exact⟨Zxj,trivial⟩
 split
 ·rw[nnRe.nnRes,nnRe.nnRes];exact⟨Zlc,trivial⟩
 split
 ·rw[nnRe.nnRes,nnRe.nnRes];exact⟨Vo (Qp _),trivial⟩
 ·rw[nnRe.nnRes];trivial
theorem Zee: ∀l:List Glob,nnRe.nnRes (ZN l)
 | []=>by simp only[ZN,List.flatMap_nil];rw[nnRe.nnRes];trivial
 |g::l=>by
  have e:ZN (g::l)=Xe g++ZN l:=by simp[ZN]
  rw[e];exact JN (Zso g) (Zee l)
theorem Zvo(k:Int)(t:List UInt8):nnRe.nnRes (ZJ::(WJ k t++ [ZJ])):=by
 rw[nnRe.nnRes]
 refine⟨Zlc,JN ?_ (by rw[nnRe.nnRes,nnRe.nnRes];exact⟨Zlc,trivial⟩)⟩
 unfold WJ
 split
 ·exact Za4 t
 split
 ·exact Zee _
 split
 ·rw[nnRe.nnRes,nnRe.nnRes];exact⟨Zed (Znd _ (Zxi t)),trivial⟩
 ·rw[nnRe.nnRes];trivial

/-! ### Runs, byte by byte -/
abbrev PR2:=UInt8×UInt8
def Vg(p:Nat->Bool)(c:Nat)(out:List PR2):List PR2:=
 if p c=true then(match out.getLast? with
  |some q=>if q.2.toNat+1=c then out.dropLast++ [(q.1,UInt8.ofNat c)]else out++ [(UInt8.ofNat c,UInt8.ofNat c)]
  |none=>out++ [(UInt8.ofNat c,UInt8.ofNat c)])else out
def Zb0(p:Nat->Bool):Nat->Nat->List PR2->List PR2
 |0,_,out=>out
 |n+1,c,out=>Zb0 p n (c+1) (Vg p c out)

theorem Zne(p:Nat->Bool)(out:List PR2)(lo:UInt8): ∀(n c:Nat),n=256-c->0<c->c<=256->Zb0 p n c (out++ [(lo,UInt8.ofNat (c-1))])=Zb0 p (256-runE p n c) (runE p n c) (out++ [(lo,UInt8.ofNat (runE p n c-1))])∧c<=runE p n c∧runE p n c<=256∧(runE p n c<256->p (runE p n c)=false)
 |0,c,hn,_,hc=>by
  have:c=256:=by omega
  subst this
  exact⟨rfl,qnq _,qnq _,fun h=>absurd h (by rw[runE];omega)⟩
 |n+1,c,hn,h0,hc=>by
  by_cases hp:p c=true
  ·rw[runE,if_pos hp]
   have ih:=Zne p out lo n (c+1) (by omega) (by omega) (by omega)
   refine⟨?_,by omega,ih.2.2.1,ih.2.2.2⟩
   rw[<-ih.1,Zb0]
   congr 1
   have e:((UInt8.ofNat (c-1)).toNat)+1=c:=by
    rw[UInt8.toNat_ofNat'];omega
   unfold Vg
   rw[if_pos hp]
   simp only[List.getLast?_append,List.getLast?_singleton,Option.some_or,List.dropLast_concat]
   rw[if_pos e,show c+1-1=c by omega]
  ·rw[runE,if_neg hp]
   exact⟨by rw[hn],qnq _,hc,fun _=>by simpa using hp⟩

theorem Zld(p:Nat->Bool): ∀(f c:Nat) (out:List PR2),257<=f+c->c<=257->(∀q,out.getLast? =some q->q.2.toNat+1<c)->goF p f c out=Zb0 p (256-c) c out
 |0,c,out,h1,h2,_=>by
  rw[goF,show 256-c=0 by omega,Zb0]
 |f+1,c,out,h1,h2,hf=>by
  rw[goF]
  by_cases hc:c<256
  ·rw[if_pos hc]
   obtain⟨n,hn⟩: ∃n,256-c=n+1:=⟨255-c,by omega⟩
   by_cases hp:p c=true
   ·have hr:=Zne p out (UInt8.ofNat c) n (c+1) (by omega) (by omega) (by omega)
    have e1:runE p (256-c) c=runE p n (c+1):=by rw[hn,runE,if_pos hp]
    rw[e1]
    generalize runE p n (c+1)=e at hr
    obtain⟨r1,r2,r3,r4⟩:=hr
    rw[if_pos (by omega)]
    have hlast: ∀q,(out++ [(UInt8.ofNat c,UInt8.ofNat (e-1))]).getLast? =some q->q.2.toNat+1<e+1:=by
     intro q hq
     simp only[List.getLast?_append,List.getLast?_singleton,Option.some_or]at hq
     cases hq
     show(UInt8.ofNat (e-1)).toNat+1<e+1
     rw[UInt8.toNat_ofNat'];omega
    rw[Zld p f (e+1) _ (by omega) (by omega) hlast,hn,Zb0]
    have e2:Vg p c out=out++ [(UInt8.ofNat c,UInt8.ofNat (c+1-1))]:=by
     unfold Vg
     rw[if_pos hp,show c+1-1=c by omega]
     cases hl:out.getLast? with
     |none=>rfl
     |some q=>
      have:=hf q hl
      simp only[]
      rw[if_neg (by omega)]
    rw[e2,r1]
    by_cases he:e<256
    ·obtain⟨m,hm⟩: ∃m,256-e=m+1:=⟨255-e,by omega⟩
     rw[hm,Zb0]
     have:Vg p e (out++ [(UInt8.ofNat c,UInt8.ofNat (e-1))])=out++ [(UInt8.ofNat c,UInt8.ofNat (e-1))]:=by
      unfold Vg;rw[if_neg (by rw[r4 he];decide)]
     rw[this,show 256-(e+1)=m by omega]
    ·rw[show 256-e=0 by omega,show 256-(e+1)=0 by omega];rfl
   ·have e1:runE p (256-c) c=c:=by rw[hn,runE,if_neg hp]
    rw[e1,if_neg (by omega),Zld p f (c+1) out (by omega) (by omega) (fun q hq=>by have:=hf q hq;omega),hn,Zb0]
    have:Vg p c out=out:=by unfold Vg;rw[if_neg hp]
    rw[this,show 256-(c+1)=n by omega]
  ·rw[if_neg hc,show 256-c=0 by omega,Zb0]
theorem Zoz(p:Nat->Bool):Zb0 p 256 0 []=JK p:=(Zld p 257 0 [] (by decide) (by decide) (fun q h=>by cases h)).symm
end Go.Y
