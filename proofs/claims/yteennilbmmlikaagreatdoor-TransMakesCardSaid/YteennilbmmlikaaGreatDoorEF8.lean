/- A part of the proof. -/
import Derived.Test.YteennilbmmlikaaGreatDoorGDf5
import Derived.Test.YteennilbmmlikaaGreatDoorYLoop
import Derived.Test.YteennilbmmlikaaGreatDoorGLX
namespace Go.Y
open Go.Proofs
set_option maxRecDepth 1000000
set_option maxHeartbeats 0
theorem ZBd{a n0 x1 h}(K):CP Trye.Y 128 (pre (flat (Za Tryz.f128))) (J a n0 none::I x1::Rp 27) h [0,1,5] K=
  (K .normal 29 [J a n0 none,I x1,S0] h):=by kernel_rfl
theorem ZBe{b n0 x1 a5 l5 c5 k5 h}(K):CP Trye.Y 128 (flat (Zx (post (flat (Za Tryz.f128))))) (MZ 29 [0,1,5] [J b n0 none,I x1,S a5 l5 c5 k5]) h [0,1,5] K=
  ((0<=x1∧x1<n0)∧
  ∃a,
  Zo 1 (List.drop 2 (List.drop (x1.toNat*4) b))=some [I a]∧
   If (leI 0 a)
    ((0<=x1∧x1<n0)∧
     ∃c,
      Zo 1 (List.drop 3 (List.drop (x1.toNat*4) b))=some [.i .u8 c]∧
       ∃d e f g j,Zf Trye.Y h 138 138 (S a5 l5 c5 k5)
          (J [.i .u8 c] 1 (some 1))=
          some (S d e f g,j)∧
          (0<=x1∧x1<n0)∧
          ∃l,
          Zo 1 (List.drop 2 (List.drop (x1.toNat*4) b))=
          some [I l]∧
          K .normal 29 [J b n0 none,I l,S d e f g] j)
    (K (.exit 0) 29 [J b n0 none,I x1,S a5 l5 c5 k5] h)):=by kernel_rfl
theorem ZBf{a5 l5 c5 k5 h}(K):CP Trye.Y 128 ((post (flat (Za Tryz.f128))).drop 1) (MZ 29 [5] [S a5 l5 c5 k5]) h [4] K=
  (Con Trye.Y 166 [S a5 l5 c5 k5] h fun(v:V) (h':Heap)=>
  v=.tup []∧
  ∃a,
   opQ Trye.Y
      (Ef.appL (some (27:Nat)) (Ef.q (Q.val (S a5 l5 c5 k5)))
       {
        env:=
         ((mk (29:Nat) ([(5:Nat)].zip [S a5 l5 c5 k5])).set (25:Nat) (S a5 l5 c5 k5)).set
          (26:Nat) (.tup []),
        refs:= [],h:=h'})
      {dst:=some (28:Nat),op:=Op.convert (138:Nat) (9:Nat) (Operand.tmp (27:Nat)),
       type:=(9:Nat),pos:="dfa.go:178",after:= #[{on:=(0:Nat),ground:=Ground.data}],
       guard:=none} =
     some (Q.val (.s a))∧
    K .ret 29 [.s a] h'):=by kernel_rfl
theorem ZBg{a l0 c0 h}(K):CP Trye.Y 166 (pre (flat (Za Tryz.f166))) (S (some (a,0)) l0 c0 1::Rp 27) h [0,2,3] K=
  (K .normal 28
  [S (some (a,0)) l0 c0 1,I 0,
  I (IntKind.i64.wrap ((↑l0:Int)-(1:Int)))]
  h):=by kernel_rfl
theorem ZBh{a l0 c0 x2 x3 h}(K):CP Trye.Y 166 (flat (Zx (post (flat (Za Tryz.f166))))) (MZ 28 [0,2,3] [S (some (a,0)) l0 c0 1,I x2,I x3]) h [0,2,3] K=
  (If (ltI x2 x3)
  ((0<=x3∧x3<l0)∧
  1=1∧
   ∃b,
    Zb h a ((0:Nat)+x3.toNat*1) 1=some [.i .u8 b]∧
     (0<=x2∧x2<l0)∧
      1=1∧
       ∃c,
        Zb h a ((0:Nat)+x2.toNat*1) 1=some [.i .u8 c]∧
         (0<=x2∧x2<l0)∧
          1=1∧
          ∃d,
          Zj h a ((0:Nat)+x2.toNat*1) [.i .u8 b]=some d∧
          (0<=x3∧x3<l0)∧
          1=1∧
          ∃e,
          Zj d a ((0:Nat)+x3.toNat*1) [.i .u8 c]=some e∧
          K .normal 28
          [S (some (a,0)) l0 c0 1,
          I (IntKind.i64.wrap (x2+(1:Int))),
          I (IntKind.i64.wrap (x3-(1:Int)))]
          e)
  (K (.exit 0) 28
  [S (some (a,0)) l0 c0 1,I x2,I x3] h)):=by kernel_rfl
theorem ZG6{cs ds h}(K):CP Trye.Y 39 (flat (Za Tryz.f39)) (.agg cs::.agg ds::Rp 9) h [4,5] K=
  (If (decide (cs.length=(258:Nat))&&Zk cs)
  (If (decide (ds.length=(258:Nat))&&Zk ds)
  (∃a,
   Zb ((h.push (YObj.arr cs true)).push (YObj.arr ds true)) h.nx 0 258=some a∧
    ∃b,
     Zb ((h.push (YObj.arr cs true)).push (YObj.arr ds true)) (h.nx+(1:Nat)) 0 258=
       some b∧
      Con Trye.Y 89 [.agg a,.agg b,V.fn (Fn.func (90:Nat)) [] []]
       ((h.push (YObj.arr cs true)).push (YObj.arr ds true)) fun(v:V) (h':Heap)=>
       ∃c d,v=.tup [.s c,.b d]∧K .ret 11 [.s c, .b d] h')
  False)
  False):=by kernel_rfl
theorem ZG7{b0 b1 h}(K):CP Trye.Y 90 (flat (Za Tryz.f90)) (.b b0::.b b1::Rp 8) h [4] K=
  (If b0 (K .ret 10 [.b !b1] h) (K .ret 10 [.b false] h)):=by kernel_rfl
theorem ZBi{c0 k0 h}(K):CP Trye.Y 166 (pre (flat (Za Tryz.f166))) (S none 0 c0 k0::Rp 27) h [0,2,3] K=(K .normal 28 [S none 0 c0 k0,I 0,I (IntKind.i64.wrap ((↑(0:Nat):Int)-(1:Int)))] h):=by kernel_rfl
theorem ZBj{c0 k0 h}(K):CP Trye.Y 166 (flat (Zx (post (flat (Za Tryz.f166))))) (MZ 28 [0,2,3] [S none 0 c0 k0,I 0,I (IntKind.i64.wrap ((↑0:Int)-1))]) h [0,2,3] K=(K (.exit 0) 28 [S none 0 c0 k0,I 0,I (IntKind.i64.wrap ((0:Int)-(1:Int)))] h):=by kernel_rfl
theorem Zhk(bs:List Nat):(row encU bs).length=bs.length:=by
 have:=Xf (f:=encU) (k:=1) Zct bs
 omega
theorem Znq(bs:List Nat){i:Nat}(h:i<bs.length):Zo 1 ((row encU bs).drop i)=some [.i .u8 (bs[i]:Nat)]:=by
 have:=getU bs h
 rwa [qdq,Nat.mul_one]at this
theorem Zlp: ∀(bs:List Nat) (i x:Nat),i<bs.length->splice (row encU bs) i [.i .u8 (x:Nat)]=row encU (bs.set i x)
 | [],i,x,h=>by simp at h
 |b::bs,0,x,h=>by
  have e:row encU (b::bs)=V.i .u8 (b:Nat)::row encU bs:=rfl
  rw[e];rfl
 |b::bs,i+1,x,h=>by
  have e:row encU (b::bs)=V.i .u8 (b:Nat)::row encU bs:=rfl
  rw[e]
  show V.i .u8 (b:Nat)::splice (row encU bs) i [.i .u8 (x:Nat)]=_
  rw[Zlp bs i x (by simpa using h)];rfl
def strN(bs:List Nat):List UInt8:=bs.map UInt8.ofNat
theorem Zxw: ∀bs:List Nat,Qi (row encU bs)=some (strN bs)
 | []=>rfl
 |b::bs=>by
  have e:row encU (b::bs)=V.i .u8 (b:Nat)::row encU bs:=rfl
  rw[e,Qi,Zxw bs];rfl
def Zjz(bs:List Nat):Nat->List Nat
 |0=>bs
 |i+1=>((Zjz bs i).set i ((Zjz bs i).getD (bs.length-1-i) 0)).set (bs.length-1-i) ((Zjz bs i).getD i 0)
theorem Zei(bs:List Nat): ∀i,(Zjz bs i).length=bs.length
 |0=>rfl
 |i+1=>by rw[Zjz,List.length_set,List.length_set,Zei bs i]
def revN(bs:List Nat):List Nat:=Zjz bs (bs.length / 2)

theorem Zv6{cs:List V}{j:Nat}{v:V}(h:cs[j]? =some v):Zo 1 (cs.drop j)=some [v]:=by
 obtain⟨hj,e⟩:=qb.1 h
 rw[List.drop_eq_getElem_cons hj,e]
 rfl
theorem ZBk(c0:Option Nat)(k0:Nat)(h:Heap):Con Trye.Y 166 [.sl none 0 c0 k0] h fun v h'=>v= .tup []∧h'=h:=by
 refine Zu Trye.Yok (fn:=Tryz.f166) ?_
 refine Zl Trye.Yok 28 ZBi rfl ?_
 refine⟨rfl,Zn9 [0,2,3] [0,2,3] (fun m vs h'=>vs= [.sl none 0 c0 k0,I 0,I (IntKind.i64.wrap (((0:Nat):Int)-1))]∧h'=h) 0 Zy ⟨rfl,rfl⟩ ?_⟩
 rintro m vs h' ⟨rfl,rfl⟩
 refine Zs Trye.Yok ZBj rfl ?_
 exact Xv (.inl rfl) rfl (AfterZ.now ⟨rfl,rfl⟩)
theorem ZG8{h:Heap}{id:Nat}{c0:Option Nat}(bs:List Nat)(hg:h.get id=some (.arr (row encU bs) true))(hl:bs.length<2 ^ 20):
  Con Trye.Y 166 [.sl (some (id,0)) bs.length c0 1] h fun v h'=>v= .tup []∧h'.get id=some (.arr (row encU (revN bs)) true)∧h'.nx=h.nx:=by
 refine Zu Trye.Yok (fn:=Tryz.f166) ?_
 refine Zl Trye.Yok 28 ZBg rfl ?_
 refine⟨rfl,Zn9 [0,2,3] [0,2,3] (fun m vs h'=> ∃(i:Nat) (bs':List Nat),vs= [.sl (some (id,0)) bs.length c0 1,I (i:Nat),I ((bs.length:Nat)-1-(i:Nat))]∧i<=bs.length∧m=bs.length-i∧bs'=Zjz bs i∧2*i<=bs.length∧h'.get id=some (.arr (row encU bs') true)∧h'.nx=h.nx) bs.length Zy
  ⟨0,bs,by rw[ZG (by omega) (by omega),show((bs.length:Nat):Int)-1-((0:Nat):Int)=((bs.length:Nat):Int)-1 by omega];rfl,by omega,by omega,rfl,by omega,hg,rfl⟩ ?_⟩
 rintro m vs h' ⟨i,bs',rfl,hi,rfl,hbs,h2i,hg',hnx⟩
 have hlen:bs'.length=bs.length:=by rw[hbs,Zei]
 refine Zs Trye.Yok ZBh rfl ?_
 refine Zg (fun hlt=> ?_) (fun hge=> ?_)
 ·have hlt:((i:Nat):Int)<((bs.length:Nat):Int)-1-(i:Nat):=by simpa[ltI]using hlt
  obtain⟨j,hj⟩: ∃j:Nat,((bs.length:Nat):Int)-1-(i:Nat)=(j:Nat):=⟨bs.length-1-i,by omega⟩
  rw[hj]
  have hji:j<bs'.length:=by omega
  have hii:i<bs'.length:=by omega
  have s1:Zj h' id (0+((i:Nat):Int).toNat*1) [.i .u8 (bs'[j]:Nat)]=some (h'.set id (some (.arr (row encU (bs'.set i bs'[j])) true))):=by
   rw[Xl hg' (by rw[Zhk];simp;omega)]
   rw[show 0+((i:Nat):Int).toNat*1=i by simp,Zlp _ _ _ hii]
  have g2:(h'.set id (some (.arr (row encU (bs'.set i bs'[j])) true))).get id=some (.arr (row encU (bs'.set i bs'[j])) true):=by rw[qc,if_pos rfl]
  refine⟨⟨by omega,by omega⟩,rfl,(bs'[j]:Nat),?_,⟨by omega,by omega⟩,rfl,(bs'[i]:Nat),?_,⟨by omega,by omega⟩,rfl,_,s1,⟨by omega,by omega⟩,rfl,_,Xl g2 (by rw[Zhk];simp;omega),?_⟩
  ·rw[Zr hg',show 0+((j:Nat):Int).toNat*1=j by simp];exact Znq _ hji
  ·rw[Zr hg',show 0+((i:Nat):Int).toNat*1=i by simp];exact Znq _ hii
  ·rw[show 0+((j:Nat):Int).toNat*1=j by simp,Zlp _ _ _ (by simpa using hji)]
   refine⟨rfl,bs.length-(i+1),by omega,i+1,(bs'.set i bs'[j]).set j bs'[i],?_,by omega,rfl,?_,by omega,by rw[qc,if_pos rfl],by rw[Heap.nx_set,Heap.nx_set,hnx]⟩
   ·rw[Zh (by omega),ZG (by omega) (by omega),show((j:Nat):Int)-1=((bs.length:Nat):Int)-1-((i+1:Nat):Int) by omega];rfl
   ·have ej:bs.length-1-i=j:=by omega
    rw[Zjz,<-hbs,ej]
    simp only[qw,qo hji,qo hii,Option.getD_some]
 ·exact Xv (.inl rfl) rfl (AfterZ.now ⟨rfl,by rw[hg',hbs,revN,show bs.length / 2=i by(have hge: ¬((i:Nat):Int)<((bs.length:Nat):Int)-1-(i:Nat):=by(simpa[ltI]using hge));omega],hnx⟩)

abbrev encQ(p:Nat×Nat×Int×Nat):List V:= [I (p.1:Nat),I (p.2.1:Nat),I p.2.2.1, .i .u8 (p.2.2.2:Nat)]
theorem Zcu(p:Nat×Nat×Int×Nat):(encQ p).length=4:=rfl
def ZBl(P:List (Nat×Nat×Int×Nat)):Prop:= ∀i (h:i<P.length),P[i].2.2.1<(i:Nat)
theorem appU{h:Heap}{a}{l:Nat}{c}{kk:Nat}{out:List Nat}(x:Nat)(hl:LX encU 1 h a l c kk out)(hb:out.length<2 ^ 29):
  ∃a' l' c' k' h',Zf Trye.Y h 138 138 (.sl a l c kk) (.ts [.i .u8 (x:Nat)] 1 (some 1))=some (.sl a' l' c' k',h')∧LX encU 1 h' a' l' c' k' (out++ [x])∧Fr h a h'∧ ∃j,a'=some (j,0)∧h.nx<=j:=
 hl.app (Y:=Trye.Y) (e:=5) (te:=⟨1,1, .int .u8,[.i .u8 0]⟩) x rfl Zct (by kernel_rfl) (by kernel_rfl) rfl (by decide) rfl (by decide) hb
theorem strU{σ:St}{o:Oper}{x:Operand}(ho:o.op= .convert 138 9 x){a}{l:Nat}{c}{k:Nat}{bs:List Nat}(hx:ev σ.env x= .sl a l c k)(hl:LX encU 1 σ.h a l c k bs):opQ Trye.Y σ o=some (.val (.s (strN bs))):=by
 have k1:Trye.Y.kd 138=some (.slice 5):=by kernel_rfl
 have k2:Trye.Y.kd 9=some .str:=by kernel_rfl
 have k3:Trye.Y.kd 5=some (.int .u8):=by kernel_rfl
 have hs:=Zxw bs
 have he:XE σ 1 (.sl a l c k)=some (l,row encU bs):=by
  by_cases hne:bs= []
  ·have ha:=hl.nil hne
   have hln:=hl.len
   subst hne ha hln
   rfl
  ·obtain⟨j,rfl,rfl,_,hg,_⟩:=hl.cells hne
   have hln:=hl.len
   simp only[XE,if_true,Xg,hg,ql]
   rw[ZA (by rw[Zhk,hln];omega)];rfl
 unfold opQ
 simp only[ho,hx,k1,k2,k3,he,hs,Option.bind_some,Option.map_some]

def Zhl(P:List (Nat×Nat×Int×Nat)):Nat->Nat->List Nat
 |0,_=> []
 |f+1,i=>if 0<=(P.getD i (0,0,-1,0)).2.2.1 then(P.getD i (0,0,-1,0)).2.2.2::Zhl P f (P.getD i (0,0,-1,0)).2.2.1.toNat else []
theorem Zf2{P:List (Nat×Nat×Int×Nat)}(hP:ZBl P): ∀(f g i:Nat),i<P.length->i<f->i<g->Zhl P f i=Zhl P g i
 |0,_,_,_,h,_=>by omega
 |_+1,0,_,_,_,h=>by omega
 |f+1,g+1,i,hi,h1,h2=>by
  have hb:=hP i hi
  have e:P.getD i (0,0,-1,0)=P[i]:=by rw[qw,qo hi];rfl
  rw[Zhl,Zhl,e]
  split
  ·rw[Zf2 hP f g _ (by omega) (by omega) (by omega)]
  ·rfl
def ZBm(P:List (Nat×Nat×Int×Nat))(at_:Nat):List UInt8:=strN (revN (Zhl P (at_+1) at_))
theorem Zv7(bs:List Nat):(revN bs).length=bs.length:=Zei bs _

theorem ZBn(P:List (Nat×Nat×Int×Nat))(hP:ZBl P)(hl:P.length<2 ^ 20){at_:Nat}(hat:at_<P.length):PCon Trye.Y 128 [lst encQ P,I at_] (· = .s (ZBm P at_)):=by
 refine ZE Trye.Yok (fn:=Tryz.f128) rfl ?_
 refine Zl Trye.Yok 29 ZBd rfl ?_
 refine⟨rfl,ZL [0,1,5] [0,1,5] (fun m vs h=> ∃(i:Nat) (bs:List Nat) (a:Option (Nat×Nat)) (l:Nat) (c:Option Nat) (k:Nat),vs= [lst encQ P,I (i:Nat), .sl a l c k]∧i<P.length∧m=i∧bs.length+i<P.length∧bs++Zhl P (i+1) i=Zhl P (at_+1) at_∧LX encU 1 h a l c k bs) at_ Zy
  ⟨at_,[],_,_,_,_,rfl,hat,rfl,by simpa using hat,rfl,LX.start _ _ _ _ _⟩ ?_⟩
 rintro m vs h ⟨i,bs,a,l,c,k,rfl,hi,hm,hb,hbk,hL⟩
 refine Zs Trye.Yok ZBe rfl ?_
 have hcell: ∀(j:Nat) (v:V),(encQ P[i])[j]? =some v->Zo 1 (List.drop j (List.drop (((i:Nat):Int).toNat*4) (row encQ P)))=some [v]:=fun j v hv=>by
  have:=Xi (f:=encQ) (k:=4) Zcu hi
  rw[qdq]
  exact Zv6 (Zbc this j v hv)
 have hb2:=hP i hi
 have hgd:P.getD i (0,0,-1,0)=P[i]:=by rw[qw,qo hi];rfl
 rw[Zhl,hgd]at hbk
 refine⟨Zz hi,P[i].2.2.1,hcell 2 _ rfl,Zg (fun hpos=> ?_) (fun hneg=> ?_)⟩
 ·have hpos:0<=P[i].2.2.1:=by simpa[leI]using hpos
  rw[if_pos hpos]at hbk
  obtain⟨a',l',c',k',h',q1,q2,q3,_⟩:=appU P[i].2.2.2 hL (by omega)
  refine⟨Zz hi,(P[i].2.2.2:Nat),hcell 3 _ rfl,a',l',c',k',h',q1,Zz hi,P[i].2.2.1,hcell 2 _ rfl,?_⟩
  obtain⟨j,hj⟩: ∃j:Nat,P[i].2.2.1=(j:Nat):=⟨P[i].2.2.1.toNat,by omega⟩
  rw[hj]at hb2 hbk ⊢
  refine⟨rfl,j,by omega,j,bs++ [P[i].2.2.2],a',l',c',k',rfl,by omega,rfl,by simp;omega,?_,q2⟩
  rw[<-hbk,List.append_assoc,qdq,Zf2 hP (j+1) i j (by omega) (by omega) (by omega)];rfl
 ·have hneg: ¬0<=P[i].2.2.1:=by simpa[leI]using hneg
  rw[if_neg hneg,qi]at hbk
  refine Zi [5] ?_
  refine Zn Trye.Yok ZBf rfl ?_
  unfold ZBm
  rw[<-hbk]
  by_cases hne:bs= []
  ·have ha:=hL.nil hne
   have hln:=hL.len
   subst hne ha hln
   refine(ZBk c k h).mono fun v h' ⟨e1,e2⟩=> ?_
   have hs:=strU (σ:=⟨((mk 29 ([5].zip [V.sl none 0 c k])).set 25 (.sl none 0 c k)).set 26 (.tup [])|>.set 27 (.sl none 0 c k),[],h'⟩) (o:=⟨some 28,Op.convert 138 9 (Operand.tmp 27),9,"",#[],none⟩) (x:= .tmp 27) rfl (bs:= []) rfl (LX.start _ _ _ _ _)
   exact⟨e1,_,hs,Zv (.inr rfl) rfl (.s _) rfl⟩
  ·obtain⟨j,rfl,rfl,hj,hg,hc⟩:=hL.cells hne
   have hln:=hL.len
   subst hln
   refine(ZG8 bs hg (by omega)).mono fun v h' ⟨e1,e3,e4⟩=> ?_
   have e2:=Zv7 bs
   have hL':LX encU 1 h' (some (j,0)) bs.length c 1 (revN bs):=⟨fun e=>(by rw[e]at e2;exact absurd (qg e2.symm) hne),fun _=>⟨j,rfl,rfl,by rw[e4];exact hj,e3,hc⟩,e2.symm⟩
   have hs:=strU (σ:=⟨((mk 29 ([5].zip [V.sl (some (j,0)) bs.length c 1])).set 25 (.sl (some (j,0)) bs.length c 1)).set 26 (.tup [])|>.set 27 (.sl (some (j,0)) bs.length c 1),[],h'⟩) (o:=⟨some 28,Op.convert 138 9 (Operand.tmp 27),9,"",#[],none⟩) (x:= .tmp 27) rfl rfl hL'
   exact⟨e1,_,hs,Zv (.inr rfl) rfl (.s _) rfl⟩
theorem ZG9{cs ds h}(K):CP Trye.Y 89 (pre (flat (Za Tryz.f89))) (.agg cs::.agg ds::V.fn (.func 90) [] []::Rp 105) h [2,3,4,6,7,8,9,10,11] K=(If (decide (cs.length=(258:Nat))&&Zk cs) (If (decide (ds.length=(258:Nat))&&Zk ds) (∃a,Zb ((h.push (YObj.arr cs true)).push (YObj.arr ds true)) h.nx 0 258=some a∧ ∃b,(fun P0=>FCon Trye.Y (127:Nat) [.agg a] ((h.push (YObj.arr cs true)).push (YObj.arr ds true)) (.b b)∧If (!b) P0 (∃c,Zb ((h.push (YObj.arr cs true)).push (YObj.arr ds true)) (h.nx+(1:Nat)) 0 258=some c∧ ∃d,FCon Trye.Y (127:Nat) [.agg c] ((h.push (YObj.arr cs true)).push (YObj.arr ds true)) (.b d)∧If (!d) P0 (∃e,updM Trye.Y (((h.push (YObj.arr cs true)).push (YObj.arr ds true)).push (YObj.map [])) 201 (some (h.nx+(1:Nat)+(1:Nat))) (.agg [I 0,I 0]) (I 1)=some e∧K .normal 108 [.fn (Fn.func 90) [] [], .p (some (h.nx,0)), .p (some (h.nx+(1:Nat),0)), .s #[].toList, .b false,.mp (some (h.nx+(1:Nat)+(1:Nat))),S (some (e.nx,0)) 1 (some 1) 4,I (-1),I 0] (e.push (YObj.arr [I 0,I 0,I (-1),.i .u8 0] true))))) (K .ret 108 [.fn (Fn.func 90) [] [], .p (some (h.nx,0)), .p (some (h.nx+(1:Nat),0)), .s #[].toList, .b false,Ud,Ud,Ud,Ud] ((h.push (YObj.arr cs true)).push (YObj.arr ds true)))) False) False):=by kernel_rfl
theorem ZHa{b c d l9 c9 e a h}(K):CP Trye.Y 89 (pre (flat (Zx (post (flat (Za Tryz.f89)))))) (MZ 108 [2,3,4,8,9,10,11] [V.fn (Fn.func 90) [] [],.p (some (b,0)),.p (some (c,0)),.mp (some e),S (some (d,0)) l9 c9 4,I (-1),I a]) h [2,3,4,8,9,10,11] K=(If (ltI a l9) (K .normal 108 [.fn (Fn.func 90) [] [], .p (some (b,0)), .p (some (c,0)),.mp (some e),S (some (d,0)) l9 c9 4,I (-1),I a] h) (K (.exit 0) 108 [.fn (Fn.func 90) [] [], .p (some (b,0)), .p (some (c,0)),.mp (some e),S (some (d,0)) l9 c9 4,I (-1),I a] h)):=by kernel_rfl
theorem ZHb{d e f l9 c9 g a h}(K):CP Trye.Y 89 (pre (flat (Xj (post (flat (Zx (post (flat (Za Tryz.f89))))))))) (MZ 108 [2,3,4,8,9,10,11] [V.fn (Fn.func 90) [] [],.p (some (d,0)),.p (some (e,0)),.mp (some g),S (some (f,0)) l9 c9 4,I (-1),I a]) h [2,3,4,8,9,10,11,12,53] K=((0<=a∧a<l9)∧4=4∧ ∃b c j l,Zb h f ((0:Nat)+a.toNat*4) 4=some [I b,I c,I j,.i .u8 l]∧ ∃m n o,Zb h d 257 1=some [J m n o]∧(0<=b∧b<n)∧ ∃q,Zo 1 (List.drop (b.toNat*1) m)=some [.b q]∧ ∃r s t,Zb h e 257 1=some [J r s t]∧(0<=c∧c<s)∧ ∃u,Zo 1 (List.drop (c.toNat*1) r)=some [.b u]∧ ∃w,(PCon Trye.Y 90 [.b q,.b u] fun v=>v=.b w)∧If w (K (.exit 0) 108 [.fn (Fn.func 90) [] [], .p (some (d,0)), .p (some (e,0)),.mp (some g),S (some (f,0)) l9 c9 4,I a,I a, .lb [I b,I c,I j, .i .u8 l],Ud] h) (K .normal 108 [.fn (Fn.func 90) [] [], .p (some (d,0)), .p (some (e,0)),.mp (some g),S (some (f,0)) l9 c9 4,I (-1),I a, .lb [I b,I c,I j, .i .u8 l],I 0] h)):=by kernel_rfl
theorem ZHc{e f m l9 c9 g j p0 p1 p2 p3 d h}(K):CP Trye.Y 89 (flat (Zx (post (flat (Xj (post (flat (Zx (post (flat (Za Tryz.f89))))))))))) (MZ 108 [2,3,4,8,9,10,11,12,53] [V.fn (Fn.func 90) [] [],.p (some (e,0)),.p (some (f,0)),.mp (some g),S (some (m,0)) l9 c9 4,I (-1),I j,.lb [I p0,I p1,I p2,.i .u8 p3],I d]) h [2,3,4,8,9,10,11,12,53] K=(If (ltI d 256) (∃a b c,Zb h e 256 1=some [J a b c]∧(0<=p0∧p0<b)∧ ∃l n o,Zo 1 (List.drop (p0.toNat*1) a)=some [J l n o]∧((0:Int)<=d∧d<(↑(256:Nat):Int))∧ ∃q,Zb h e ((0:Nat)+(0:Nat)+d.toNat*1) 1=some [I q]∧(0<=q∧q<n)∧ ∃r,Zo 1 (List.drop (q.toNat*1) l)=some [I r]∧ ∃s t u,Zb h f 256 1=some [J s t u]∧(0<=p1∧p1<t)∧ ∃v w x,Zo 1 (List.drop (p1.toNat*1) s)=some [J v w x]∧((0:Int)<=d∧d<(↑(256:Nat):Int))∧ ∃y,Zb h f ((0:Nat)+(0:Nat)+d.toNat*1) 1=some [I y]∧(0<=y∧y<w)∧ ∃z,Zo 1 (List.drop (y.toNat*1) v)=some [I z]∧ ∃a0 a1,Zgl Trye.Y h 201 3 (some g) (.agg [I r,I z])=some (I a0,a1)∧If (a0==(0:Int)) (∃a2,updM Trye.Y h 201 (some g) (.agg [I r,I z]) (I 1)=some a2∧ ∃a3 a4 a5 a6 a7,Zf Trye.Y a2 205 205 (S (some (m,0)) l9 c9 4) (J [I r,I z,I j,.i IntKind.u8 (IntKind.u8.wrap d)] 1 (some 1))=some (S a3 a4 a5 a6,a7)∧K .normal 108 [.fn (Fn.func 90) [] [], .p (some (e,0)), .p (some (f,0)),.mp (some g),S a3 a4 a5 a6,I (-1),I j, .lb [I p0,I p1,I p2, .i .u8 p3],I (IntKind.i64.wrap (d+(1:Int)))] a7) (K .normal 108 [.fn (Fn.func 90) [] [], .p (some (e,0)), .p (some (f,0)),.mp (some g),S (some (m,0)) l9 c9 4,I (-1),I j, .lb [I p0,I p1,I p2, .i .u8 p3],I (IntKind.i64.wrap (d+(1:Int)))] h)) (K (.exit 2) 108 [.fn (Fn.func 90) [] [], .p (some (e,0)), .p (some (f,0)),.mp (some g),S (some (m,0)) l9 c9 4,I (-1),I j, .lb [I p0,I p1,I p2, .i .u8 p3],I d] h)):=by kernel_rfl
theorem ZHd{a b c l9 c9 d e h}(K):CP Trye.Y 89 ((post (flat (Zx (post (flat (Za Tryz.f89)))))).drop 1) (MZ 108 [2,3,4,8,9,10,11] [V.fn (Fn.func 90) [] [],.p (some (a,0)),.p (some (b,0)),.mp (some d),S (some (c,0)) l9 c9 4,I (-1),I e]) h [2,3,4,8,9,10,11] K=(K .normal 108 [.fn (Fn.func 90) [] [], .p (some (a,0)), .p (some (b,0)),.mp (some d),S (some (c,0)) l9 c9 4,I (-1),I (IntKind.i64.wrap (e+(1:Int)))] h):=by kernel_rfl
theorem Zxx{c l9 c9 a h}(K):CP Trye.Y 89 ((post (flat (Za Tryz.f89))).drop 1) (MZ 108 [9,10] [S (some (c,0)) l9 c9 4,I a]) h [6,7] K=(If (ltI a 0) (K .ret 108 [.s #[].toList, .b false] h) (∃d,FCon Trye.Y (128:Nat) [S (some (c,0)) l9 c9 4,I a] h (.s d)∧K .ret 108 [.s d, .b true] h)):=by kernel_rfl
theorem Zo7{Y:YP}{n:Nat}{so:List Nat}{id j:Nat}{r:List Code}{Q:Out->St->Prop}{len:Nat}{vs}{h:Heap}(hj: ¬j=id)(hk:AtV so Q (.exit j) len vs h):Zgq Y n so id r Q (.exit j) len vs h:=by
 simp only[Zgq]
 rw[if_neg hj]
 exact hk

/-! ### The map of pairs -/
def esQ(L:List (Nat×Nat)):List (V×V):=L.map fun p=>(V.agg [.i .i64 (p.1:Nat), .i .i64 (p.2:Nat)],V.i .i64 1)
theorem keyQ(p q:Nat×Nat):Zcv (.arr 2 3) (.agg [I (p.1:Nat),I (p.2:Nat)]) (.agg [I (q.1:Nat),I (q.2:Nat)])=some (decide (p=q)):=by
 obtain⟨a,b⟩:=p
 obtain⟨x,y⟩:=q
 simp only[Zcv,XQ,if_true,Option.map_some,Bool.and_true]
 congr 1
 rw[Bool.eq_iff_iff]
 simp
 omega
theorem getQ(q:Nat×Nat): ∀L:List (Nat×Nat),XF (.arr 2 3) (.agg [I (q.1:Nat),I (q.2:Nat)]) (esQ L)=if q∈L then some (I 1)else none
 | []=>rfl
 |p::L=>by
  show(if QM (.arr 2 3) _ (V.agg [I (p.1:Nat),I (p.2:Nat)],I 1)=true then _ else XF (.arr 2 3) _ (esQ L))=_
  rw[getQ q L]
  simp only[QM,keyQ q p]
  by_cases e:q=p
  ·subst e;simp
  ·simp[e]
theorem Zti(q:Nat×Nat): ∀L:List (Nat×Nat),ZP (.arr 2 3) (.agg [I (q.1:Nat),I (q.2:Nat)]) (esQ L)=true
 | []=>rfl
 |p::L=>by
  show((Zcv (.arr 2 3) _ (V.agg [I (p.1:Nat),I (p.2:Nat)])).isSome&&ZP (.arr 2 3) _ (esQ L))=true
  rw[keyQ q p,Zti q L];rfl
theorem ZHe(q:Nat×Nat): ∀L:List (Nat×Nat),q∉L->Xh (.arr 2 3) (.agg [I (q.1:Nat),I (q.2:Nat)]) (I 1) (esQ L)=esQ (L++ [q])
 | [],_=>rfl
 |p::L,h=>by
  show(if QM (.arr 2 3) _ (V.agg [I (p.1:Nat),I (p.2:Nat)],I 1)=true then _ else _::Xh (.arr 2 3) _ _ (esQ L))=_
  have e: ¬q=p:=fun e=>h (by rw[e];exact .head _)
  rw[ZHe q L (fun hm=>h (.tail _ hm))]
  simp only[QM,keyQ q p,decide_eq_false e]
  rfl
theorem ZHf:Trye.Y.kd 201=some (.arr 2 3):=by kernel_rfl
theorem ZHg:Qm Trye.Y 201=true:=by kernel_rfl
theorem ZHh{h:Heap}{id:Nat}{L:List (Nat×Nat)}(hg:h.get id=some (.map (esQ L)))(q:Nat×Nat):
  Zgl Trye.Y h 201 3 (some id) (.agg [I (q.1:Nat),I (q.2:Nat)])=some (I (if q∈L then 1 else 0),decide (q∈L)):=by
 have hs:(Trye.Y.ty 3).isSome=true:=by kernel_rfl
 have hz:Zj2 Trye.Y 3= I 0:=by kernel_rfl
 have hm:VS h (some id)=some (esQ L):=by simp[VS,hg]
 unfold Zgl
 rw[ZHf,hm]
 simp only[ZHg,hs,Bool.true_and,Bool.and_true]
 rw[if_pos (Zti q L),getQ]
 by_cases e:q∈L
 ·simp[e]
 ·simp[e,hz]
theorem updQ{h:Heap}{id:Nat}{L:List (Nat×Nat)}(hg:h.get id=some (.map (esQ L))){q:Nat×Nat}(hn:q∉L):
  updM Trye.Y h 201 (some id) (.agg [I (q.1:Nat),I (q.2:Nat)]) (I 1)=some (h.set id (some (.map (esQ (L++ [q]))))):=by
 unfold updM
 simp only[ZHf,hg,ZHg,Bool.true_and]
 rw[if_pos (Zti q L),ZHe q L hn]

/-! ### What lives in its loops -/
abbrev prQ(p:Nat×Nat×Int×Nat):Nat×Nat:=(p.1,p.2.1)
structure FsI(d e:Dn)(id3 id4 id8 id9 l9:Nat)(c9:Option Nat)(P:List (Nat×Nat×Int×Nat))(h:Heap):Prop where
 g3:h.get id3=some (.arr (dfaC d.cl d.N d.G) true)
 g4:h.get id4=some (.arr (dfaC e.cl e.N e.G) true)
 g8:h.get id8=some (.map (esQ (P.map prQ)))
 li:LX encQ 4 h (some (id9,0)) l9 c9 4 P
 ne:id9≠id3∧id9≠id4∧id9≠id8∧id8≠id3∧id8≠id4
 lt:id3<h.nx∧id4<h.nx∧id8<h.nx
 lo:LOk d e (P.map prQ)
 bk:ZBl P
theorem FsI.len{d e:Dn}{id3 id4 id8 id9 l9:Nat}{c9}{P:List (Nat×Nat×Int×Nat)}{h:Heap}(s:FsI d e id3 id4 id8 id9 l9 c9 P h):l9=P.length∧P.length<=d.N.length*e.N.length:=by
 have:=s.lo.len
 rw[List.length_map]at this
 exact⟨s.li.len,this⟩
theorem FsI.add{d e:Dn}{id3 id4 id8 id9 l9:Nat}{c9}{P:List (Nat×Nat×Int×Nat)}{h:Heap}(s:FsI d e id3 id4 id8 id9 l9 c9 P h)(hb:d.N.length*e.N.length<=90000){q:Nat×Nat}(hq:q.1<d.N.length∧q.2<e.N.length)(hn:q∉P.map prQ){at_:Nat}(hat:at_<P.length)(c:Nat):
  ∃h1,updM Trye.Y h 201 (some id8) (.agg [I (q.1:Nat),I (q.2:Nat)]) (I 1)=some h1∧
   ∃(a:Option (Nat×Nat)) (l:Nat) (c':Option Nat) (k:Nat) (h2:Heap),Zf Trye.Y h1 205 205 (.sl (some (id9,0)) l9 c9 4) (.ts [I (q.1:Nat),I (q.2:Nat),I at_, .i .u8 (c:Nat)] 1 (some 1))=some (.sl a l c' k,h2)∧
    ∃j,a=some (j,0)∧k=4∧FsI d e id3 id4 id8 j l c' (P++ [(q.1,q.2,(at_:Int),c)]) h2:=by
 have hlen:=s.len
 obtain⟨n1,n2,n3,n4,n5⟩:=s.ne
 obtain⟨t1,t2,t3⟩:=s.lt
 refine⟨_,updQ s.g8 hn,?_⟩
 have hli:LX encQ 4 (h.set id8 (some (.map (esQ (P.map prQ++ [q]))))) (some (id9,0)) l9 c9 4 P:=s.li.fr (by simp) fun j hj _=>by cases hj;rw[qc,if_neg n3]
 obtain⟨a,l,c',k,h2,q1,q2,q3,j,q4,q5⟩:=hli.app (Y:=Trye.Y) (st:=205) (e:=204) (te:=⟨4,32, .struct [(0,3),(1,3),(2,3),(3,5)],[I 0,I 0,I 0, .i .u8 0]⟩) (q.1,q.2,(at_:Int),c) rfl Zcu (by kernel_rfl) (by kernel_rfl) rfl (by decide) rfl (by decide) (by omega)
 refine⟨a,l,c',k,h2,q1,j,q4,?_⟩
 subst q4
 obtain⟨j',e1,e2,e3,e4,e5⟩:=q2.cells (by simp)
 cases e1
 subst e2
 rw[Heap.nx_set]at q5
 have hk: ∀i,i<h.nx->i≠id9->h2.get i=(h.set id8 (some (.map (esQ (P.map prQ++ [q]))))).get i:=fun i hi hne=>q3.2 i (by simpa using hi) fun o e=>hne (by cases e;rfl)
 have hn2:=q3.1
 rw[Heap.nx_set]at hn2
 refine⟨rfl,⟨?_,?_,?_,q2,⟨by omega,by omega,by omega,n4,n5⟩,⟨by omega,by omega,by omega⟩,?_,fun i hi=> ?_⟩⟩
 ·rw[hk _ t1 (Ne.symm n1),qc,if_neg (Ne.symm n4)];exact s.g3
 ·rw[hk _ t2 (Ne.symm n2),qc,if_neg (Ne.symm n5)];exact s.g4
 ·rw[hk _ t3 (Ne.symm n3),qc,if_pos rfl,List.map_append];rfl
 ·have:=s.lo.add hq
  unfold addQ at this
  rw[if_neg hn]at this
  rw[List.map_append];exact this
 ·by_cases hlt:i<P.length
  ·rw[List.getElem_append_left hlt];exact s.bk i hlt
  ·have e:i=P.length:=by simp at hi;omega
   subst e
   simp;omega
theorem DOk.at{cl:List Nat}{N:List (List Int)}{G:List Bool}{w:Nat}(d:DOk cl N G w){x c:Nat}(hx:x<N.length)(hc:c<256):
  ∃(hcl:c<cl.length) (hk:cl[c]<N[x].length),N[x][cl[c]]=((nxt cl N x c:Nat):Int):=by
 obtain⟨k,r,hk,h1,h2,h3,_⟩:=d.row hx hc
 obtain⟨hcl,e1⟩:=qb.1 h1
 obtain⟨_,e2⟩:=qb.1 h2
 subst e1 e2
 exact⟨hcl,hk,h3⟩
theorem getB(l:List Bool){i:Nat}(h:i<l.length):Zo 1 (List.drop ((i:Int).toNat*1) (row Zs9 l))=some [.b l[i]]:=by
 rw[qdq];exact Xi (f:=Zs9) (k:=1) (fun _=>rfl) h

theorem so90(a b:Bool):PCon Trye.Y 90 [.b a, .b b] (· = .b (a&& !b)):=by
 refine Zt Trye.Yok (fn:=Tryz.f90) rfl ZG7 rfl ?_
 refine Zg (fun h=>Zv (.inr rfl) rfl (.b _) (by rw[h];rfl)) (fun h=>Zv (.inr rfl) rfl (.b _) (by rw[h];rfl))

theorem ZBo{d e:Dn}{w1 w2:Nat}(hd:DOk d.cl d.N d.G w1)(he:DOk e.cl e.N e.G w2):PCon Trye.Y 89 [.agg (dfaC d.cl d.N d.G), .agg (dfaC e.cl e.N e.G), .fn (.func 90) [] []] (fun v=> ∃s,v= .tup [.s s, .b (Vp d e)]):=by
 have hcold:Xc [.agg (dfaC d.cl d.N d.G), .agg (dfaC e.cl e.N e.G), .fn (.func 90) [] []]=true:=by
  show(ZQ (dfaC d.cl d.N d.G)&&(ZQ (dfaC e.cl e.N e.G)&&true))=true
  rw[Wg,Wg];rfl
 have hb:d.N.length*e.N.length<=90000:=by
  have:=Nat.mul_le_mul hd.n2 he.n2
  omega
 have m1:=Zxv hd
 have m2:=Zxv he
 have r3:=Wg d.cl d.N d.G
 have r4:=Wg e.cl e.N e.G
 have a3:=VM d.cl d.N d.G
 have a4:=VM e.cl e.N e.G
 have l3:=Qy d.cl d.N d.G hd.c256
 have l4:=Qy e.cl e.N e.G he.c256
 refine ZE Trye.Yok (fn:=Tryz.f89) hcold ?_
 obtain⟨cs,hcs⟩: ∃cs,cs=dfaC d.cl d.N d.G:=⟨_,rfl⟩
 obtain⟨ds,hds⟩: ∃ds,ds=dfaC e.cl e.N e.G:=⟨_,rfl⟩
 rw[<-hcs]at m1 r3 a3 l3 ⊢
 rw[<-hds]at m2 r4 a4 l4 ⊢
 refine Zl Trye.Yok 108 ZG9 rfl ?_
 refine ifT (by rw[a3];simp[l3]) (ifT (by rw[a4];simp[l4]) ?_)
 obtain⟨h0,e0⟩: ∃h0,h0=(Heap.empty.push (.arr cs true)).push (.arr ds true):=⟨_,rfl⟩
 rw[<-e0]
 have g3:h0.get Heap.empty.nx=some (.arr cs true):=by rw[e0,qk,if_neg (by simp),qk,if_pos rfl]
 have g4:h0.get (Heap.empty.nx+1)=some (.arr ds true):=by rw[e0,qk,if_pos (by simp)]
 have x0:h0.nx=Heap.empty.nx+1+1:=by rw[e0];simp
 refine⟨cs,by rw[Zr g3,ql];exact ZA l3.symm,true,⟨_, .cons _ _ _ _ (.agg _ _ (ZU h0 r3)) .nil,m1⟩,ifF rfl ?_⟩
 refine⟨ds,by rw[Zr g4,ql];exact ZA l4.symm,true,⟨_, .cons _ _ _ _ (.agg _ _ (ZU h0 r4)) .nil,m2⟩,ifF rfl ?_⟩
 have g8:(h0.push (.map [])).get (Heap.empty.nx+1+1)=some (.map (esQ [])):=by rw[qk,if_pos x0.symm];rfl
 refine⟨_,updQ g8 (q:=(0,0)) (by simp),?_⟩
 obtain⟨h1,e1⟩: ∃h1,h1=(h0.push (.map [])).set (Heap.empty.nx+1+1) (some (.map (esQ ([]++ [(0,0)])))):=⟨_,rfl⟩
 rw[<-e1]
 have x1:h1.nx=Heap.empty.nx+1+1+1:=by rw[e1,Heap.nx_set];simp[x0]
 have hg1: ∀i,i<Heap.empty.nx+1+1->h1.get i=h0.get i:=fun i hi=>by rw[e1,qc,if_neg (by omega),qk,if_neg (by omega)]
 have s0:FsI d e Heap.empty.nx (Heap.empty.nx+1) (Heap.empty.nx+1+1) h1.nx 1 (some 1) [(0,0,-1,0)] (h1.push (.arr [I 0,I 0,I (-1), .i .u8 0] true)):=by
  refine⟨?_,?_,?_,LX.one encQ 4 h1 (0,0,-1,0),by omega,by simp;omega,LOk.zero hd he,fun i hi=> ?_⟩
  ·rw[qk,if_neg (by omega),hg1 _ (by omega),g3,hcs]
  ·rw[qk,if_neg (by omega),hg1 _ (by omega),g4,hds]
  ·rw[qk,if_neg (by omega),e1,qc,if_pos rfl];rfl
  ·have:i=0:=by simpa using hi
   subst this
   show(-1:Int)<0
   omega
 generalize hi3:Heap.empty.nx=id3 at s0 ⊢
 generalize hi4:id3+1=id4 at s0 ⊢
 generalize hi8:id4+1=id8 at s0 ⊢
 clear g8 hg1 x1 e1 x0 g3 g4 e0 m1 m2 r3 r4 a3 a4 l3 l4 hcold
 refine⟨rfl,ZL [2,3,4,8,9,10,11] [2,3,4,8,9,10,11] (fun m vs h=> ∃(at_:Nat) (P:List (Nat×Nat×Int×Nat)) (id9 l9:Nat) (c9:Option Nat),vs= [.fn (.func 90) [] [], .p (some (id3,0)), .p (some (id4,0)), .mp (some id8), .sl (some (id9,0)) l9 c9 4,I (-1),I (at_:Nat)]∧
   FsI d e id3 id4 id8 id9 l9 c9 P h∧at_<=P.length∧m+at_=d.N.length*e.N.length+1∧Vp d e=Ztc d e m at_ (P.map prQ)) (d.N.length*e.N.length+1) Zy ⟨0,[(0,0,-1,0)],_,_,_,rfl,s0,by simp,rfl,rfl⟩ ?_⟩
 rintro m vs h ⟨at_,P,id9,l9,c9,rfl,s,hat,hm,hF⟩
 obtain⟨hl9,hPl⟩:=s.len
 subst hl9
 refine Zl Trye.Yok 108 ZHa rfl ?_
 refine Zm (fun hlt=>⟨rfl,Wj (n:=108) [2,3,4,8,9,10,11] (by kernel_rfl) ?_⟩) (fun hge=> ?_)
 ·refine Zl Trye.Yok 108 ZHb rfl ?_
  obtain⟨mm,rfl⟩: ∃mm,m=mm+1:=⟨m-1,by omega⟩
  obtain⟨j9,e9,_,hj9,hg9,_⟩:=s.li.cells (fun e=>by rw[e]at hlt;simp at hlt)
  cases e9
  have hp:=s.lo.lt (prQ P[at_]) (List.mem_map.2 ⟨_,qe hlt,rfl⟩)
  have hgd:P[at_].1<d.G.length:=by rw[hd.ng];exact hp.1
  have hge:P[at_].2.1<e.G.length:=by rw[he.ng];exact hp.2
  have hgetD:(P.map prQ).getD at_ (0,0)=prQ P[at_]:=by rw[qw,qo (by simpa using hlt)];simp
  have hso:soQ d e (prQ P[at_])=(d.G[P[at_].1]&& !e.G[P[at_].2.1]):=by
   unfold soQ
   simp only[qw,qo hgd,qo hge,Option.getD_some]
  rw[Ztc,if_pos (by simpa using hlt),hgetD,hso]at hF
  refine⟨Zz hlt,rfl,(P[at_].1:Nat),(P[at_].2.1:Nat),P[at_].2.2.1,(P[at_].2.2.2:Nat),?_,_,_,_,(Wh s.g3 hd.c256).2,Zz hgd,_,getB d.G hgd,_,_,_,(Wh s.g4 he.c256).2,Zz hge,_,getB e.G hge,_,so90 _ _,Zg (fun hb1=> ?_) (fun hb1=> ?_)⟩
  ·rw[Zr hg9,Nat.zero_add,qdq]
   exact Xi (f:=encQ) (k:=4) Zcu hlt
  ·rw[if_pos hb1]at hF
   refine Qe rfl (Zo7 (fun he=>absurd (he.trans (by kernel_rfl:Wy _=1)) (by decide)) (Qe rfl (Zi [9,10] ?_)))
   refine Zn Trye.Yok Zxx rfl ?_
   have hrc:ZQ (row encQ P)=true:=Jj (f:=encQ) (fun _=>rfl) P
   have hfz:Frz h (.sl (some (id9,0)) P.length c9 4) (lst encQ P):= .sl _ _ _ _ _ (row encQ P) true (row encQ P) _ none hg9 (by rw[ql];exact ZA (Xf Zcu P).symm) (fun x hx=>by cases hx) (by decide) (ZU h hrc)
   refine ifF (by simp[ltI]) ⟨ZBm P at_,⟨_, .cons _ _ _ _ hfz (.cons _ _ _ _ (.i _ _) .nil),ZBn P s.bk (by omega) hlt⟩,?_⟩
   exact⟨.inr rfl,_,rfl,_, .tup _ _ (.cons _ _ _ _ (.s _) (.cons _ _ _ _ (.b _) .nil)),_,by rw[hF]⟩
  ·rw[if_neg (by rw[hb1];decide)]at hF
   refine⟨rfl,Zn9 [2,3,4,8,9,10,11,12,53] [2,3,4,8,9,10,11,12,53] (fun m1 vs1 h1=> ∃(c:Nat) (P1:List (Nat×Nat×Int×Nat)) (id9 l9:Nat) (c9:Option Nat),
    vs1= [.fn (.func 90) [] [], .p (some (id3,0)), .p (some (id4,0)), .mp (some id8), .sl (some (id9,0)) l9 c9 4,I (-1),I (at_:Nat), .lb (encQ P[at_]),I (c:Nat)]∧FsI d e id3 id4 id8 id9 l9 c9 P1 h1∧c<=256∧m1=256-c∧P.length<=P1.length∧P1.map prQ=rowQ d e (prQ P[at_]) c (P.map prQ)) 256 Zy
    ⟨0,P,id9,_,c9,rfl,s,by omega,rfl,qnq _,rfl⟩ ?_⟩
   rintro m1 vs1 h1 ⟨c,P1,id9',l9',c9',rfl,s1,hc,rfl,hPP,hrow⟩
   obtain⟨hl9',hPl1⟩:=s1.len
   refine Zs Trye.Yok ZHc rfl ?_
   refine Zm (b:=256) (fun hc1=> ?_) (fun hc1=> ?_)
   ·obtain⟨u1,u2,u3⟩:=hd.at hp.1 hc1
    obtain⟨v1,v2,v3⟩:=he.at hp.2 hc1
    refine⟨_,_,_,(Wh s1.g3 hd.c256).1,Zz hp.1,_,_,_,getL d.N hp.1,⟨by omega,by omega⟩,_,Ztg s1.g3 u1 _ (by simp),Zz u2,_,getI _ u2,_,_,_,(Wh s1.g4 he.c256).1,Zz hp.2,_,_,_,getL e.N hp.2,⟨by omega,by omega⟩,_,Ztg s1.g4 v1 _ (by simp),Zz v2,_,getI _ v2,?_⟩
    rw[u3,v3,ZGq hc1]
    have hq:=hd.step he hp hc1
    have hrow2:rowQ d e (prQ P[at_]) (c+1) (P.map prQ)=addQ (P1.map prQ) (Zo6 d e (prQ P[at_]) c):=by rw[rowQ,hrow]
    refine⟨_,_,ZHh s1.g8 (Zo6 d e (prQ P[at_]) c),?_⟩
    by_cases hmem:Zo6 d e (prQ P[at_]) c∈P1.map prQ
    ·rw[if_pos hmem]
     unfold addQ at hrow2
     rw[if_pos hmem]at hrow2
     exact ifF rfl ⟨rfl,256-(c+1),by omega,c+1,P1,id9',l9',c9',by rw[Zh (by omega)];rfl,s1,by omega,rfl,hPP,hrow2.symm⟩
    ·rw[if_neg hmem]
     unfold addQ at hrow2
     rw[if_neg hmem]at hrow2
     obtain⟨h2,p1,a,l,c',k,h3,p2,j,rfl,rfl,p3⟩:=s1.add hb hq hmem (at_:=at_) (by omega) c
     exact ifT rfl ⟨h2,p1,_,_,_,_,h3,p2,rfl,256-(c+1),by omega,c+1,_,j,l,c',by rw[Zh (by omega)];rfl,p3,by omega,rfl,by simp;omega,by rw[hrow2,List.map_append];rfl⟩
   ·have hce:c=256:=by omega
    subst hce
    refine Qe rfl ⟨rfl,[2,3,4,8,9,10,11],rfl,?_⟩
    refine Zs Trye.Yok ZHd rfl ?_
    exact⟨rfl,mm,by omega,at_+1,P1,id9',l9',c9',by rw[Zh (by omega)];rfl,s1,by omega,by omega,by rw[hF,hrow]⟩
 ·refine Qe rfl (Zi [9,10] ?_)
  refine Zn Trye.Yok Zxx rfl ?_
  obtain⟨mm,rfl⟩: ∃mm,m=mm+1:=⟨m-1,by omega⟩
  rw[Ztc,if_neg (by simpa using hge)]at hF
  exact ifT rfl ⟨.inr rfl,_,rfl,_, .tup _ _ (.cons _ _ _ _ (.s _) (.cons _ _ _ _ (.b _) .nil)),_,by rw[hF]⟩
end Go.Y
