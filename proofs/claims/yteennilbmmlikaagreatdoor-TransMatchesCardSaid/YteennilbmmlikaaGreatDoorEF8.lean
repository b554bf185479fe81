/- A part of the proof. -/
import Derived.Test.YteennilbmmlikaaGreatDoorGDf5
import Derived.Test.YteennilbmmlikaaGreatDoorYLoop
import Derived.Test.YteennilbmmlikaaGreatDoorYFrz
namespace Go.Y
open Go.Proofs
set_option maxRecDepth 1000000
set_option maxHeartbeats 0
theorem ZGp{a c x1 h}(K):CP Trye.Y 128 (pre (flat (Za Tryz.f128))) (J a c none::I x1::Rp 27) h [0,1,5] K=
  (K .normal 29 [J a c none,I x1,S0] h):=kr
theorem ZGq{b n0 x1 a5 l5 c5 k5 h}(K):CP Trye.Y 128 (flat (Zx (post (flat (Za Tryz.f128))))) (MZ 29 [0,1,5] [J b n0 none,I x1,S a5 l5 c5 k5]) h [0,1,5] K=
  ((0<=x1/\x1<n0)/\
  ∃a,
  Zr 1 (List.drop 2 (List.drop (x1.toNat*4) b))=some [I a]/\
   If (leI 0 a)
    ((0<=x1/\x1<n0)/\
     ∃c,
      Zr 1 (List.drop 3 (List.drop (x1.toNat*4) b))=some [.i .u8 c]/\
       ∃d e f g j,Zk Trye.Y h 138 138 (S a5 l5 c5 k5)
          (J [.i .u8 c] 1 (some 1))=
          some (S d e f g,j)/\
          (0<=x1/\x1<n0)/\
          ∃l,
          Zr 1 (List.drop 2 (List.drop (x1.toNat*4) b))=
          some [I l]/\
          K .normal 29 [J b n0 none,I l,S d e f g] j)
    (K (.exit 0) 29 [J b n0 none,I x1,S a5 l5 c5 k5] h)):=kr
theorem ZGr{a5 l5 c5 k5 h}(K):CP Trye.Y 128 ((post (flat (Za Tryz.f128))).drop 1) (MZ 29 [5] [S a5 l5 c5 k5]) h [4] K=
  (Con Trye.Y 166 [S a5 l5 c5 k5] h fun(v:V) (c:Heap)=>
  v=.tup []/\
  ∃a,
   opQ Trye.Y
      (Ef.appL (some (27:Nat)) (Ef.q (Q.val (S a5 l5 c5 k5)))
       {
        env:=
         ((mk (29:Nat) ([(5:Nat)].zip [S a5 l5 c5 k5])).set (25:Nat) (S a5 l5 c5 k5)).set
          (26:Nat) (.tup []),
        refs:= [],h:=c})
      {dst:=some (28:Nat),op:=Op.convert (138:Nat) (9:Nat) (Operand.tmp (27:Nat)),
       type:=(9:Nat),pos:="dfa.go:178",after:= #[{on:=(0:Nat),ground:=Ground.data}],
       guard:=none} =
     some (Q.val (.s a))/\
    K .ret 29 [.s a] c):=kr
theorem ZGs{a l0 c0 h}(K):CP Trye.Y 166 (pre (flat (Za Tryz.f166))) (S (some (a,0)) l0 c0 1::Rp 27) h [0,2,3] K=
  (K .normal 28
  [S (some (a,0)) l0 c0 1,I 0,
  I (wW ((↑l0:Int)-(1:Int)))]
  h):=kr
theorem ZGt{a l0 c0 x2 x3 h}(K):CP Trye.Y 166 (flat (Zx (post (flat (Za Tryz.f166))))) (MZ 28 [0,2,3] [S (some (a,0)) l0 c0 1,I x2,I x3]) h [0,2,3] K=
  (If (ltI x2 x3)
  ((0<=x3/\x3<l0)/\
  1=1/\
   ∃b,
    Zb h a ((0:Nat)+x3.toNat*1) 1=some [.i .u8 b]/\
     (0<=x2/\x2<l0)/\
      1=1/\
       ∃c,
        Zb h a ((0:Nat)+x2.toNat*1) 1=some [.i .u8 c]/\
         (0<=x2/\x2<l0)/\
          1=1/\
          ∃d,
          Zi h a ((0:Nat)+x2.toNat*1) [.i .u8 b]=some d/\
          (0<=x3/\x3<l0)/\
          1=1/\
          ∃e,
          Zi d a ((0:Nat)+x3.toNat*1) [.i .u8 c]=some e/\
          K .normal 28
          [S (some (a,0)) l0 c0 1,
          I (wW (x2+(1:Int))),
          I (wW (x3-(1:Int)))]
          e)
  (K (.exit 0) 28
  [S (some (a,0)) l0 c0 1,I x2,I x3] h)):=kr
theorem ZMy{cs ds h}(K):CP Trye.Y 39 (flat (Za Tryz.f39)) (.agg cs::.agg ds::Rp 9) h [4,5] K=
  (If (decide (cs.length=(258:Nat))&&Zp cs)
  (If (decide (ds.length=(258:Nat))&&Zp ds)
  (∃a,
   Zb ((h.push (YObj.arr cs true)).push (YObj.arr ds true)) h.nx 0 258=some a/\
    ∃b,
     Zb ((h.push (YObj.arr cs true)).push (YObj.arr ds true)) (h.nx+(1:Nat)) 0 258=
       some b/\
      Con Trye.Y 89 [.agg a,.agg b,V.fn (Fn.func (90:Nat)) [] []]
       ((h.push (YObj.arr cs true)).push (YObj.arr ds true)) fun(v:V) (e:Heap)=>
       ∃c d,v=.tup [.s c,.b d]/\K .ret 11 [.s c, .b d] e)
  False)
  False):=kr
theorem ZMz{b0 b1 h}(K):CP Trye.Y 90 (flat (Za Tryz.f90)) (.b b0::.b b1::Rp 8) h [4] K=
  (If b0 (K .ret 10 [.b !b1] h) (K .ret 10 [.b false] h)):=kr
theorem ZGu{c0 k0 h}(K):CP Trye.Y 166 (pre (flat (Za Tryz.f166))) (S none 0 c0 k0::Rp 27) h [0,2,3] K=(K .normal 28 [S none 0 c0 k0,I 0,I (wW ((↑(0:Nat):Int)-(1:Int)))] h):=kr
theorem ZGv{c0 k0 h}(K):CP Trye.Y 166 (flat (Zx (post (flat (Za Tryz.f166))))) (MZ 28 [0,2,3] [S none 0 c0 k0,I 0,I (wW ((↑0:Int)-1))]) h [0,2,3] K=(K (.exit 0) 28 [S none 0 c0 k0,I 0,I (wW ((0:Int)-(1:Int)))] h):=kr
theorem Zjr(bs:List Nat):(row encU bs).length=bs.length:=by
 have:=Xh (f:=encU) (k:=1) Zek bs;omega
theorem Zq3(bs:List Nat){i:Nat}(h:i<bs.length):Zr 1 ((row encU bs).drop i)=some [.i .u8 (bs[i]:Nat)]:=by
 have:=getU bs h
 rwa [qdq,uY]at this
theorem Zop: ∀(bs:List Nat) (i x:Nat),i<bs.length->splice (row encU bs) i [.i .u8 (x:Nat)]=row encU (bs.set i x)
 | [],i,x,h=>by simp at h
 |b::bs,0,x,h=>by
  have e:row encU (b::bs)=V.i .u8 (b:Nat)::row encU bs:=rfl;rw[e];rfl
 |b::bs,i+1,x,h=>by
  have e:row encU (b::bs)=V.i .u8 (b:Nat)::row encU bs:=rfl;rw[e];show V.i .u8 (b:Nat)::splice (row encU bs) i [.i .u8 (x:Nat)]=_;rw[Zop bs i x (by simpa using h)];rfl
def strN(bs:List Nat):List UInt8:=bs.map UInt8.ofNat
theorem ZC4: ∀bs:List Nat,QA (row encU bs)=some (strN bs)
 | []=>rfl
 |b::bs=>by
  have e:row encU (b::bs)=V.i .u8 (b:Nat)::row encU bs:=rfl;rw[e,QA,ZC4 bs];rfl
def Zmd(bs:List Nat):Nat->List Nat
 |0=>bs
 |i+1=>((Zmd bs i).set i ((Zmd bs i).getD (bs.length-1-i) 0)).set (bs.length-1-i) ((Zmd bs i).getD i 0)
theorem Zga(bs:List Nat): ∀i,(Zmd bs i).length=bs.length
 |0=>rfl
 |i+1=>by rw[Zmd,vI,vI,Zga bs i]
def revN(bs:List Nat):List Nat:=Zmd bs (bs.length / 2)
theorem ZAu{a:List V}{j:Nat}{v}(h:a[j]? =some v):Zr 1 (a.drop j)=some [v]:=by
 obtain⟨c,e⟩:=qb.1 h;rw[uM c,e]
 rfl
theorem ZGw(c0)(c:Nat)(h:Heap):Con Trye.Y 166 [.sl none 0 c0 c] h λv a=>v= .tup []/\a=h:=by
 refine Zv Trye.Yok (fn:=Tryz.f166) ?_;refine Zh Trye.Yok 28 ZGu rfl ?_;refine⟨rfl,Zfa [0,2,3] [0,2,3] (λm d a=>d= [.sl none 0 c0 c,I 0,I (wW (((0:Nat):Int)-1))]/\a=h) 0 ZA ⟨rfl,rfl⟩ ?_⟩;rintro m d a ⟨rfl,rfl⟩;refine Zn Trye.Yok ZGv rfl ?_;exact ZZ (.inl rfl) rfl (AfterZ.now ⟨rfl,rfl⟩)
theorem ZM0{h:Heap}{e:Nat}{c0:Option Nat}(bs:List Nat)(t:h.get e=some (.arr (row encU bs) true))(z:bs.length<2 ^ 20):
  Con Trye.Y 166 [.sl (some (e,0)) bs.length c0 1] h λv c=>v= .tup []/\c.get e=some (.arr (row encU (revN bs)) true)/\c.nx=h.nx:=by
 refine Zv Trye.Yok (fn:=Tryz.f166) ?_;refine Zh Trye.Yok 28 ZGs rfl ?_;refine⟨rfl,Zfa [0,2,3] [0,2,3] (λm o c=> ∃(i:Nat) (a:List Nat),o= [.sl (some (e,0)) bs.length c0 1,I (i:Nat),I ((bs.length:Nat)-1-(i:Nat))]/\i<=bs.length/\m=bs.length-i/\a=Zmd bs i/\2*i<=bs.length/\c.get e=some (.arr (row encU a) true)/\c.nx=h.nx) bs.length ZA
  ⟨0,bs,by rw[ZI om om,show((bs.length:Nat):Int)-1-((0:Nat):Int)=((bs.length:Nat):Int)-1 from om];rfl,om,om,rfl,om,t,rfl⟩ ?_⟩
 rintro m o c ⟨i,a,rfl,A,rfl,g,u,d,hnx⟩;have r:a.length=bs.length:=by rw[g,Zga]
 refine Zn Trye.Yok ZGt rfl ?_;refine Zf (λn=> ?_) (λl=> ?_)
 .have n:((i:Nat):Int)<((bs.length:Nat):Int)-1-(i:Nat):=by simpa[ltI]using n
  obtain⟨j,x⟩: ∃j:Nat,((bs.length:Nat):Int)-1-(i:Nat)=(j:Nat):=⟨bs.length-1-i,om⟩;rw[x];have f:j<a.length:=om;have k:i<a.length:=om;have s1:Zi c e (0+((i:Nat):Int).toNat*1) [.i .u8 (a[j]:Nat)]=some (c.set e (some (.arr (row encU (a.set i a[j])) true))):=by
   rw[ZM d (by rw[Zjr];simp;omega)];rw[show 0+((i:Nat):Int).toNat*1=i from sm,Zop _ _ _ k]
  have w:(c.set e (some (.arr (row encU (a.set i a[j])) true))).get e=some (.arr (row encU (a.set i a[j])) true):=by rw[qc,uF rfl]
  refine⟨⟨om,om⟩,rfl,(a[j]:Nat),?_,⟨om,om⟩,rfl,(a[i]:Nat),?_,⟨om,om⟩,rfl,_,s1,⟨om,om⟩,rfl,_,ZM w (by rw[Zjr];simp;omega),?_⟩
  .rw[Zs d,show 0+((j:Nat):Int).toNat*1=j from sm];exact Zq3 _ f
  .rw[Zs d,show 0+((i:Nat):Int).toNat*1=i from sm];exact Zq3 _ k
  .rw[show 0+((j:Nat):Int).toNat*1=j from sm,Zop _ _ _ (by simpa using f)];refine⟨rfl,bs.length-(i+1),om,i+1,(a.set i a[j]).set j a[i],?_,om,rfl,?_,om,by rw[qc,uF rfl],by rw[Heap.nx_set,Heap.nx_set,hnx]⟩
   .rw[Ze om,ZI om om,show((j:Nat):Int)-1=((bs.length:Nat):Int)-1-((i+1:Nat):Int) from om];rfl
   .have y:bs.length-1-i=j:=om;rw[Zmd,<-g,y];simp only[qw,qo f,qo k,uq]
 .exact ZZ (.inl rfl) rfl (AfterZ.now ⟨rfl,by rw[d,g,revN,show bs.length / 2=i by(have l: ¬((i:Nat):Int)<((bs.length:Nat):Int)-1-(i:Nat):=by(simpa[ltI]using l));omega],hnx⟩)
abbrev encQ(p:Nat×Nat×Int×Nat):List V:= [I (p.1:Nat),I (p.2.1:Nat),I p.2.2.1, .i .u8 (p.2.2.2:Nat)]
theorem Zel(p:Nat×Nat×Int×Nat):(encQ p).length=4:=rfl
def ZGx(P:List (Nat×Nat×Int×Nat)):Prop:= ∀i (h:i<P.length),P[i].2.2.1<(i:Nat)
theorem appU{h}{a}{l:Nat}{c}{k:Nat}{d:List Nat}(x:Nat)(r:LX encU 1 h a l c k d)(t:d.length<2 ^ 29):
  ∃f m o n g,Zk Trye.Y h 138 138 (.sl a l c k) (.ts [.i .u8 (x:Nat)] 1 (some 1))=some (.sl f m o n,g)/\LX encU 1 g f m o n (d++ [x])/\Fr h a g/\ ∃j,f=some (j,0)/\h.nx<=j:=
 r.app (Y:=Trye.Y) (e:=5) (te:=⟨1,1, .int .u8,[.i .u8 0]⟩) x rfl Zek kr kr rfl dc rfl dc t
theorem strU{σ:St}{o:Oper}{x:Operand}(v:o.op= .convert 138 9 x){a}{l:Nat}{c}{k:Nat}{bs}(u:ev σ.env x= .sl a l c k)(f:LX encU 1 σ.h a l c k bs):opQ Trye.Y σ o=some (.val (.s (strN bs))):=by
 have m:Trye.Y.kd 138=some (.slice 5):=kr;have y:Trye.Y.kd 9=some .str:=kr;have n:Trye.Y.kd 5=some (.int .u8):=kr;have g:=ZC4 bs;have t:XQ σ 1 (.sl a l c k)=some (l,row encU bs):=by
  by_cases d:bs= []
  .have w:=f.nil d;have e:=f.len;subst d w e
   rfl
  .obtain⟨j,rfl,rfl,_,r,_⟩:=f.cells d;have e:=f.len;simp only[XQ,vG,Xu,r,ql];rw[ZD (by rw[Zjr,e];omega)];rfl
 unfold opQ;simp only[v,u,m,y,n,t,g,Option.bind_some,uw]
def Zjs(P:List (Nat×Nat×Int×Nat)):Nat->Nat->List Nat
 |0,_=> []
 |f+1,i=>if 0<=(P.getD i (0,0,-1,0)).2.2.1 then(P.getD i (0,0,-1,0)).2.2.2::Zjs P f (P.getD i (0,0,-1,0)).2.2.1.toNat else []
theorem Zh4{P:List (Nat×Nat×Int×Nat)}(a:ZGx P): ∀(f g i:Nat),i<P.length->i<f->i<g->Zjs P f i=Zjs P g i
 |0,_,_,_,h,_=>om
 |_+1,0,_,_,_,h=>om
 |f+1,g+1,i,c,d,k=>by
  have j:=a i c;have e:P.getD i (0,0,-1,0)=P[i]:=by rw[qw,qo c];rfl
  rw[Zjs,Zjs,e];split
  .rw[Zh4 a f g _ om om om]
  .rfl
def ZGy(P:List (Nat×Nat×Int×Nat))(at_:Nat):List UInt8:=strN (revN (Zjs P (at_+1) at_))
theorem ZAv(bs:List Nat):(revN bs).length=bs.length:=Zga bs _
theorem ZGz(P:List (Nat×Nat×Int×Nat))(W:ZGx P)(hl:P.length<2 ^ 20){at_:Nat}(A:at_<P.length):PCon Trye.Y 128 [lst encQ P,I at_] (· = .s (ZGy P at_)):=by
 refine ZG Trye.Yok (fn:=Tryz.f128) rfl ?_;refine Zh Trye.Yok 29 ZGp rfl ?_;refine⟨rfl,ZN [0,1,5] [0,1,5] (λm O h=> ∃(i:Nat) (bs:List Nat) (a:Option (Nat×Nat)) (l:Nat) (c:Option Nat) (k:Nat),O= [lst encQ P,I (i:Nat), .sl a l c k]/\i<P.length/\m=i/\bs.length+i<P.length/\bs++Zjs P (i+1) i=Zjs P (at_+1) at_/\LX encU 1 h a l c k bs) at_ ZA
  ⟨at_,[],_,_,_,_,rfl,A,rfl,by simpa using A,rfl,LX.start _ _ _ _ _⟩ ?_⟩
 rintro m O h ⟨i,bs,a,l,c,k,rfl,y,hm,hb,g,z⟩;refine Zn Trye.Yok ZGq rfl ?_;have d: ∀(j:Nat) (v:V),(encQ P[i])[j]? =some v->Zr 1 (List.drop j (List.drop (((i:Nat):Int).toNat*4) (row encQ P)))=some [v]:=λj v hv=>by
  have:=Xp (f:=encQ) (k:=4) Zel y;rw[qdq];exact ZAu (Zct this j v hv)
 have H:=W i y;have D:P.getD i (0,0,-1,0)=P[i]:=by rw[qw,qo y];rfl
 rw[Zjs,D]at g;refine⟨Zu y,P[i].2.2.1,d 2 _ rfl,Zf (λn=> ?_) (λr=> ?_)⟩
 .have n:0<=P[i].2.2.1:=by simpa[leI]using n
  rw[uF n]at g;obtain⟨X,K,N,L,w,q1,Z,q3,_⟩:=appU P[i].2.2.2 z om;refine⟨Zu y,(P[i].2.2.2:Nat),d 3 _ rfl,X,K,N,L,w,q1,Zu y,P[i].2.2.1,d 2 _ rfl,?_⟩;obtain⟨j,E⟩: ∃j:Nat,P[i].2.2.1=(j:Nat):=⟨P[i].2.2.1.toNat,om⟩;rw[E]at H g ⊢;refine⟨rfl,j,om,j,bs++ [P[i].2.2.2],X,K,N,L,rfl,om,rfl,by simp;omega,?_,Z⟩;rw[<-g,uU,qdq,Zh4 W (j+1) i j om om om];rfl
 .have r: ¬0<=P[i].2.2.1:=by simpa[leI]using r
  rw[uE r,qi]at g;refine Zj [5] ?_;refine Zo Trye.Yok ZGr rfl ?_;unfold ZGy;rw[<-g];by_cases t:bs= []
  .have ha:=z.nil t;have u:=z.len;subst t ha u;refine(ZGw c k h).mono λv w ⟨G,B⟩=> ?_;have C:=strU (σ:=⟨((mk 29 ([5].zip [V.sl none 0 c k])).set 25 (.sl none 0 c k)).set 26 (.tup [])|>.set 27 (.sl none 0 c k),[],w⟩) (o:=⟨some 28,Op.convert 138 9 (Operand.tmp 27),9,"",#[],none⟩) (x:= .tmp 27) rfl (bs:= []) rfl (LX.start _ _ _ _ _)
   exact⟨G,_,C,ZB rr rfl (.s _) rfl⟩
  .obtain⟨j,rfl,rfl,E,hg,hc⟩:=z.cells t;have u:=z.len;subst u;refine(ZM0 bs hg om).mono λv w ⟨G,e3,e4⟩=> ?_;have B:=ZAv bs;have F:LX encU 1 w (some (j,0)) bs.length c 1 (revN bs):=⟨λe=>(by rw[e]at B;exact absurd (qg B.symm) t),λ_=>⟨j,rfl,rfl,by rw[e4];exact E,e3,hc⟩,B.symm⟩;have C:=strU (σ:=⟨((mk 29 ([5].zip [V.sl (some (j,0)) bs.length c 1])).set 25 (.sl (some (j,0)) bs.length c 1)).set 26 (.tup [])|>.set 27 (.sl (some (j,0)) bs.length c 1),[],w⟩) (o:=⟨some 28,Op.convert 138 9 (Operand.tmp 27),9,"",#[],none⟩) (x:= .tmp 27) rfl rfl F
   exact⟨G,_,C,ZB rr rfl (.s _) rfl⟩
theorem ZM1{cs ds h}(K):CP Trye.Y 89 (pre (flat (Za Tryz.f89))) (.agg cs::.agg ds::V.fn (.func 90) [] []::Rp 105) h [2,3,4,6,7,8,9,10,11] K=(If (decide (cs.length=(258:Nat))&&Zp cs) (If (decide (ds.length=(258:Nat))&&Zp ds) (∃a,Zb ((h.push (YObj.arr cs true)).push (YObj.arr ds true)) h.nx 0 258=some a/\ ∃b,(λf=>FCon Trye.Y (127:Nat) [.agg a] ((h.push (YObj.arr cs true)).push (YObj.arr ds true)) (.b b)/\If (!b) f (∃c,Zb ((h.push (YObj.arr cs true)).push (YObj.arr ds true)) (h.nx+(1:Nat)) 0 258=some c/\ ∃d,FCon Trye.Y (127:Nat) [.agg c] ((h.push (YObj.arr cs true)).push (YObj.arr ds true)) (.b d)/\If (!d) f (∃e,updM Trye.Y (((h.push (YObj.arr cs true)).push (YObj.arr ds true)).push (YObj.map [])) 201 (some (h.nx+(1:Nat)+(1:Nat))) (.agg [I 0,I 0]) (I 1)=some e/\K .normal 108 [.fn (Fn.func 90) [] [], .p (some (h.nx,0)), .p (some (h.nx+(1:Nat),0)), .s #[].toList, .b false,.mp (some (h.nx+(1:Nat)+(1:Nat))),S (some (e.nx,0)) 1 (some 1) 4,I (-1),I 0] (e.push (YObj.arr [I 0,I 0,I (-1),.i .u8 0] true))))) (K .ret 108 [.fn (Fn.func 90) [] [], .p (some (h.nx,0)), .p (some (h.nx+(1:Nat),0)), .s #[].toList, .b false,Ud,Ud,Ud,Ud] ((h.push (YObj.arr cs true)).push (YObj.arr ds true)))) False) False):=kr
theorem ZM2{b c d l9 c9 e a h}(K):CP Trye.Y 89 (pre (flat (Zx (post (flat (Za Tryz.f89)))))) (MZ 108 [2,3,4,8,9,10,11] [V.fn (Fn.func 90) [] [],.p (some (b,0)),.p (some (c,0)),.mp (some e),S (some (d,0)) l9 c9 4,I (-1),I a]) h [2,3,4,8,9,10,11] K=(If (ltI a l9) (K .normal 108 [.fn (Fn.func 90) [] [], .p (some (b,0)), .p (some (c,0)),.mp (some e),S (some (d,0)) l9 c9 4,I (-1),I a] h) (K (.exit 0) 108 [.fn (Fn.func 90) [] [], .p (some (b,0)), .p (some (c,0)),.mp (some e),S (some (d,0)) l9 c9 4,I (-1),I a] h)):=kr
theorem ZM3{d e f l9 c9 g a h}(K):CP Trye.Y 89 (pre (flat (ZL (post (flat (Zx (post (flat (Za Tryz.f89))))))))) (MZ 108 [2,3,4,8,9,10,11] [V.fn (Fn.func 90) [] [],.p (some (d,0)),.p (some (e,0)),.mp (some g),S (some (f,0)) l9 c9 4,I (-1),I a]) h [2,3,4,8,9,10,11,12,53] K=((0<=a/\a<l9)/\4=4/\ ∃b c j l,Zb h f ((0:Nat)+a.toNat*4) 4=some [I b,I c,I j,.i .u8 l]/\ ∃m n o,Zb h d 257 1=some [J m n o]/\(0<=b/\b<n)/\ ∃q,Zr 1 (List.drop (b.toNat*1) m)=some [.b q]/\ ∃r s t,Zb h e 257 1=some [J r s t]/\(0<=c/\c<s)/\ ∃u,Zr 1 (List.drop (c.toNat*1) r)=some [.b u]/\ ∃w,(PCon Trye.Y 90 [.b q,.b u] λv=>v=.b w)/\If w (K (.exit 0) 108 [.fn (Fn.func 90) [] [], .p (some (d,0)), .p (some (e,0)),.mp (some g),S (some (f,0)) l9 c9 4,I a,I a, .lb [I b,I c,I j, .i .u8 l],Ud] h) (K .normal 108 [.fn (Fn.func 90) [] [], .p (some (d,0)), .p (some (e,0)),.mp (some g),S (some (f,0)) l9 c9 4,I (-1),I a, .lb [I b,I c,I j, .i .u8 l],I 0] h)):=kr
theorem ZM4{e f m l9 c9 g j p0 p1 p2 p3 d h}(K):CP Trye.Y 89 (flat (Zx (post (flat (ZL (post (flat (Zx (post (flat (Za Tryz.f89))))))))))) (MZ 108 [2,3,4,8,9,10,11,12,53] [V.fn (Fn.func 90) [] [],.p (some (e,0)),.p (some (f,0)),.mp (some g),S (some (m,0)) l9 c9 4,I (-1),I j,.lb [I p0,I p1,I p2,.i .u8 p3],I d]) h [2,3,4,8,9,10,11,12,53] K=(If (ltI d 256) (∃a b c,Zb h e 256 1=some [J a b c]/\(0<=p0/\p0<b)/\ ∃l n o,Zr 1 (List.drop (p0.toNat*1) a)=some [J l n o]/\((0:Int)<=d/\d<(↑(256:Nat):Int))/\ ∃q,Zb h e ((0:Nat)+(0:Nat)+d.toNat*1) 1=some [I q]/\(0<=q/\q<n)/\ ∃r,Zr 1 (List.drop (q.toNat*1) l)=some [I r]/\ ∃s t u,Zb h f 256 1=some [J s t u]/\(0<=p1/\p1<t)/\ ∃v w x,Zr 1 (List.drop (p1.toNat*1) s)=some [J v w x]/\((0:Int)<=d/\d<(↑(256:Nat):Int))/\ ∃y,Zb h f ((0:Nat)+(0:Nat)+d.toNat*1) 1=some [I y]/\(0<=y/\y<w)/\ ∃z,Zr 1 (List.drop (y.toNat*1) v)=some [I z]/\ ∃B G,Ziz Trye.Y h 201 3 (some g) (.agg [I r,I z])=some (I B,G)/\If (B==(0:Int)) (∃C,updM Trye.Y h 201 (some g) (.agg [I r,I z]) (I 1)=some C/\ ∃F E k D A,Zk Trye.Y C 205 205 (S (some (m,0)) l9 c9 4) (J [I r,I z,I j,.i IntKind.u8 (IntKind.u8.wrap d)] 1 (some 1))=some (S F E k D,A)/\K .normal 108 [.fn (Fn.func 90) [] [], .p (some (e,0)), .p (some (f,0)),.mp (some g),S F E k D,I (-1),I j, .lb [I p0,I p1,I p2, .i .u8 p3],I (wW (d+(1:Int)))] A) (K .normal 108 [.fn (Fn.func 90) [] [], .p (some (e,0)), .p (some (f,0)),.mp (some g),S (some (m,0)) l9 c9 4,I (-1),I j, .lb [I p0,I p1,I p2, .i .u8 p3],I (wW (d+(1:Int)))] h)) (K (.exit 2) 108 [.fn (Fn.func 90) [] [], .p (some (e,0)), .p (some (f,0)),.mp (some g),S (some (m,0)) l9 c9 4,I (-1),I j, .lb [I p0,I p1,I p2, .i .u8 p3],I d] h)):=kr
theorem ZM5{a b c l9 c9 d e h}(K):CP Trye.Y 89 ((post (flat (Zx (post (flat (Za Tryz.f89)))))).drop 1) (MZ 108 [2,3,4,8,9,10,11] [V.fn (Fn.func 90) [] [],.p (some (a,0)),.p (some (b,0)),.mp (some d),S (some (c,0)) l9 c9 4,I (-1),I e]) h [2,3,4,8,9,10,11] K=(K .normal 108 [.fn (Fn.func 90) [] [], .p (some (a,0)), .p (some (b,0)),.mp (some d),S (some (c,0)) l9 c9 4,I (-1),I (wW (e+(1:Int)))] h):=kr
theorem ZC5{c l9 c9 a h}(K):CP Trye.Y 89 ((post (flat (Za Tryz.f89))).drop 1) (MZ 108 [9,10] [S (some (c,0)) l9 c9 4,I a]) h [6,7] K=(If (ltI a 0) (K .ret 108 [.s #[].toList, .b false] h) (∃d,FCon Trye.Y (128:Nat) [S (some (c,0)) l9 c9 4,I a] h (.s d)/\K .ret 108 [.s d, .b true] h)):=kr
theorem Zsx{Y}{n:Nat}{c}{a j:Nat}{r}{Q}{len:Nat}{vs}{h}(d: ¬j=a)(e:AtV c Q (.exit j) len vs h):Zdx Y n c a r Q (.exit j) len vs h:=by
 simp only[Zdx];rw[uE d];exact e
/-! ### The map of pairs -/
def esQ(L:List (Nat×Nat)):List (V×V):=L.map λp=>(V.agg [.i .i64 (p.1:Nat), .i .i64 (p.2:Nat)],V.i .i64 1)
theorem keyQ(p q:Nat×Nat):Zeo (.arr 2 3) (.agg [I (p.1:Nat),I (p.2:Nat)]) (.agg [I (q.1:Nat),I (q.2:Nat)])=some (decide (p=q)):=by
 obtain⟨a,b⟩:=p;obtain⟨x,y⟩:=q;simp only[Zeo,Qf,vG,uw,Bool.and_true]
 congr 1
 rw[Bool.eq_iff_iff];simp;omega
theorem getQ(q:Nat×Nat): ∀L:List (Nat×Nat),XT (.arr 2 3) (.agg [I (q.1:Nat),I (q.2:Nat)]) (esQ L)=if q∈L then some (I 1)else none
 | []=>rfl
 |p::L=>by
  show(if Jk (.arr 2 3) _ (V.agg [I (p.1:Nat),I (p.2:Nat)],I 1)=true then _ else XT (.arr 2 3) _ (esQ L))=_;rw[getQ q L];simp only[Jk,keyQ q p];by_cases e:q=p
  .subst e;simp
  .simp[e]
theorem Zxh(q:Nat×Nat): ∀L:List (Nat×Nat),Xa (.arr 2 3) (.agg [I (q.1:Nat),I (q.2:Nat)]) (esQ L)=true
 | []=>rfl
 |p::L=>by
  show((Zeo (.arr 2 3) _ (V.agg [I (p.1:Nat),I (p.2:Nat)])).isSome&&Xa (.arr 2 3) _ (esQ L))=true;rw[keyQ q p,Zxh q L];rfl
theorem ZM6(q:Nat×Nat): ∀L:List (Nat×Nat),q∉L->Xv (.arr 2 3) (.agg [I (q.1:Nat),I (q.2:Nat)]) (I 1) (esQ L)=esQ (L++ [q])
 | [],_=>rfl
 |p::L,h=>by
  show(if Jk (.arr 2 3) _ (V.agg [I (p.1:Nat),I (p.2:Nat)],I 1)=true then _ else _::Xv (.arr 2 3) _ _ (esQ L))=_;have e: ¬q=p:=λe=>h (by rw[e];exact .head _);rw[ZM6 q L (λa=>h (.tail _ a))];simp only[Jk,keyQ q p,uK e]
  rfl
theorem ZM7:Trye.Y.kd 201=some (.arr 2 3):=kr
theorem ZM8:QF Trye.Y 201=true:=kr
theorem ZM9{h:Heap}{a:Nat}{L:List (Nat×Nat)}(d:h.get a=some (.map (esQ L)))(q:Nat×Nat):
  Ziz Trye.Y h 201 3 (some a) (.agg [I (q.1:Nat),I (q.2:Nat)])=some (I (if q∈L then 1 else 0),decide (q∈L)):=by
 have c:(Trye.Y.ty 3).isSome=true:=kr;have hz:Zm2 Trye.Y 3= I 0:=kr;have f:Zbg h (some a)=some (esQ L):=by simp[Zbg,d]
 unfold Ziz;rw[ZM7,f];simp only[ZM8,c,uT,Bool.and_true];rw[uF (Zxh q L),getQ];by_cases e:q∈L
 .simp[e]
 .simp[e,hz]
theorem updQ{h:Heap}{a:Nat}{L:List (Nat×Nat)}(c:h.get a=some (.map (esQ L))){q:Nat×Nat}(d:q∉L):
  updM Trye.Y h 201 (some a) (.agg [I (q.1:Nat),I (q.2:Nat)]) (I 1)=some (h.set a (some (.map (esQ (L++ [q]))))):=by
 unfold updM;simp only[ZM7,c,ZM8,uT];rw[uF (Zxh q L),ZM6 q L d]
/-! ### What lives in its loops -/
abbrev prQ(p:Nat×Nat×Int×Nat):Nat×Nat:=(p.1,p.2.1)
structure FsI(d e:Dn)(id3 id4 id8 id9 l9:Nat)(c9:Option Nat)(P:List (Nat×Nat×Int×Nat))(h:Heap):Prop where
 g3:h.get id3=some (.arr (dfaC d.cl d.N d.G) true)
 g4:h.get id4=some (.arr (dfaC e.cl e.N e.G) true)
 g8:h.get id8=some (.map (esQ (P.map prQ)))
 li:LX encQ 4 h (some (id9,0)) l9 c9 4 P
 ne:id9≠id3∧id9≠id4∧id9≠id8∧id8≠id3∧id8≠id4
 lt:id3<h.nx∧id4<h.nx∧id8<h.nx
 lo:LOk d e (P.map prQ)
 bk:ZGx P
theorem FsI.len{d e:Dn}{g f a c j:Nat}{c9}{P:List (Nat×Nat×Int×Nat)}{h}(s:FsI d e g f a c j c9 P h):j=P.length/\P.length<=d.N.length*e.N.length:=by
 have:=s.lo.len;rw[qC]at this;exact⟨s.li.len,this⟩
theorem FsI.add{d e:Dn}{m n f g w:Nat}{c9}{P:List (Nat×Nat×Int×Nat)}{h}(s:FsI d e m n f g w c9 P h)(hb:d.N.length*e.N.length<=90000){q:Nat×Nat}(O:q.1<d.N.length/\q.2<e.N.length)(L:q∉P.map prQ){at_:Nat}(a0:at_<P.length)(c:Nat):
  ∃K,updM Trye.Y h 201 (some f) (.agg [I (q.1:Nat),I (q.2:Nat)]) (I 1)=some K/\
   ∃(a:Option (Nat×Nat)) (l:Nat) (u:Option Nat) (k:Nat) (t:Heap),Zk Trye.Y K 205 205 (.sl (some (g,0)) w c9 4) (.ts [I (q.1:Nat),I (q.2:Nat),I at_, .i .u8 (c:Nat)] 1 (some 1))=some (.sl a l u k,t)/\
    ∃j,a=some (j,0)/\k=4/\FsI d e m n f j l u (P++ [(q.1,q.2,(at_:Int),c)]) t:=by
 have G:=s.len;obtain⟨n1,n2,B,F,C⟩:=s.ne;obtain⟨W,t2,t3⟩:=s.lt;refine⟨_,updQ s.g8 L,?_⟩;have y:LX encQ 4 (h.set f (some (.map (esQ (P.map prQ++ [q]))))) (some (g,0)) w c9 4 P:=s.li.fr sm λj hj _=>by cases hj;rw[qc,uE B]
 obtain⟨a,l,u,k,t,X,D,E,j,H,q5⟩:=y.app (Y:=Trye.Y) (st:=205) (e:=204) (te:=⟨4,32, .struct [(0,3),(1,3),(2,3),(3,5)],[I 0,I 0,I 0, .i .u8 0]⟩) (q.1,q.2,(at_:Int),c) rfl Zel kr kr rfl dc rfl dc om;refine⟨a,l,u,k,t,X,j,H,?_⟩;subst H;obtain⟨j',e1,Z,e3,e4,e5⟩:=D.cells sm;cases e1;subst Z;rw[Heap.nx_set]at q5;have A: ∀i,i<h.nx->i≠g->t.get i=(h.set f (some (.map (esQ (P.map prQ++ [q]))))).get i:=λi x v=>E.2 i (by simpa using x) λo e=>v (by cases e;rfl);have z:=E.1;rw[Heap.nx_set]at z;refine⟨rfl,⟨?_,?_,?_,D,⟨om,om,om,F,C⟩,⟨om,om,om⟩,?_,λi x=> ?_⟩⟩
 .rw[A _ W (Ne.symm n1),qc,uE (Ne.symm F)];exact s.g3
 .rw[A _ t2 (Ne.symm n2),qc,uE (Ne.symm C)];exact s.g4
 .rw[A _ t3 (Ne.symm B),qc,uF rfl,uV];rfl
 .have:=s.lo.add O;unfold addQ at this;rw[uE L]at this;rw[uV];exact this
 .by_cases r:i<P.length
  .rw[List.getElem_append_left r];exact s.bk i r
  .have e:i=P.length:=by simp at x;omega
   subst e;simp;omega
theorem DOk.at{a}{N:List (List Int)}{G}{w:Nat}(d:DOk a N G w){x c:Nat}(l:x<N.length)(j:c<256):
  ∃(e:c<a.length) (f:a[c]<N[x].length),N[x][a[c]]=((nxt a N x c:Nat):Int):=by
 obtain⟨k,r,f,n,g,h,_⟩:=d.row l j;obtain⟨e,o⟩:=qb.1 n;obtain⟨_,m⟩:=qb.1 g;subst o m;exact⟨e,f,h⟩
theorem getB(l:List Bool){i:Nat}(h:i<l.length):Zr 1 (List.drop ((i:Int).toNat*1) (row Zl l))=some [.b l[i]]:=by
 rw[qdq];exact Xp (f:=Zl) (k:=1) (λ_=>rfl) h
theorem so90(a b:Bool):PCon Trye.Y 90 [.b a, .b b] (· = .b (a&& !b)):=by
 refine Zw Trye.Yok (fn:=Tryz.f90) rfl ZMz rfl ?_;refine Zf (λh=>ZB rr rfl (.b _) (by rw[h];rfl)) (λh=>ZB rr rfl (.b _) (by rw[h];rfl))
theorem ZG0{d e:Dn}{w1 w2:Nat}(E:DOk d.cl d.N d.G w1)(u:DOk e.cl e.N e.G w2):PCon Trye.Y 89 [.agg (dfaC d.cl d.N d.G), .agg (dfaC e.cl e.N e.G), .fn (.func 90) [] []] (λv=> ∃s,v= .tup [.s s, .b (Zan d e)]):=by
 have B:Xo [.agg (dfaC d.cl d.N d.G), .agg (dfaC e.cl e.N e.G), .fn (.func 90) [] []]=true:=by
  show(Xb (dfaC d.cl d.N d.G)&&(Xb (dfaC e.cl e.N e.G)&&true))=true;rw[WP,WP];rfl
 have hb:d.N.length*e.N.length<=90000:=by
  have:=Nat.mul_le_mul E.n2 u.n2;omega
 have m1:=ZC3 E;have m2:=ZC3 u;have r3:=WP d.cl d.N d.G;have r4:=WP e.cl e.N e.G;have a3:=Zba d.cl d.N d.G;have a4:=Zba e.cl e.N e.G;have l3:=QW d.cl d.N d.G E.c256;have l4:=QW e.cl e.N e.G u.c256;refine ZG Trye.Yok (fn:=Tryz.f89) B ?_;obtain⟨cs,a8⟩: ∃cs,cs=dfaC d.cl d.N d.G:=⟨_,rfl⟩;obtain⟨ds,a1⟩: ∃ds,ds=dfaC e.cl e.N e.G:=⟨_,rfl⟩;rw[<-a8]at m1 r3 a3 l3 ⊢;rw[<-a1]at m2 r4 a4 l4 ⊢;refine Zh Trye.Yok 108 ZM1 rfl ?_;refine ifT (by rw[a3];simp[l3]) (ifT (by rw[a4];simp[l4]) ?_);obtain⟨C,e0⟩: ∃C,C=(Heap.empty.push (.arr cs true)).push (.arr ds true):=⟨_,rfl⟩;rw[<-e0];have g3:C.get Heap.empty.nx=some (.arr cs true):=by rw[e0,qk,uE sm,qk,uF rfl]
 have g4:C.get (Heap.empty.nx+1)=some (.arr ds true):=by rw[e0,qk,uF sm]
 have x0:C.nx=Heap.empty.nx+1+1:=by rw[e0];simp
 refine⟨cs,by rw[Zs g3,ql];exact ZD l3.symm,true,⟨_, .cons _ _ _ _ (.agg _ _ (Xc C r3)) .nil,m1⟩,ifF rfl ?_⟩;refine⟨ds,by rw[Zs g4,ql];exact ZD l4.symm,true,⟨_, .cons _ _ _ _ (.agg _ _ (Xc C r4)) .nil,m2⟩,ifF rfl ?_⟩;have g8:(C.push (.map [])).get (Heap.empty.nx+1+1)=some (.map (esQ [])):=by rw[qk,uF x0.symm];rfl
 refine⟨_,updQ g8 (q:=(0,0)) sm,?_⟩;obtain⟨D,e1⟩: ∃D,D=(C.push (.map [])).set (Heap.empty.nx+1+1) (some (.map (esQ ([]++ [(0,0)])))):=⟨_,rfl⟩;rw[<-e1];have x1:D.nx=Heap.empty.nx+1+1+1:=by rw[e1,Heap.nx_set];simp[x0]
 have a0: ∀i,i<Heap.empty.nx+1+1->D.get i=C.get i:=λi hi=>by rw[e1,qc,uE om,qk,uE om]
 have s0:FsI d e Heap.empty.nx (Heap.empty.nx+1) (Heap.empty.nx+1+1) D.nx 1 (some 1) [(0,0,-1,0)] (D.push (.arr [I 0,I 0,I (-1), .i .u8 0] true)):=by
  refine⟨?_,?_,?_,LX.one encQ 4 D (0,0,-1,0),om,by simp;omega,LOk.zero E u,λi hi=> ?_⟩
  .rw[qk,uE om,a0 _ om,g3,a8]
  .rw[qk,uE om,a0 _ om,g4,a1]
  .rw[qk,uE om,e1,qc,uF rfl];rfl
  .have:i=0:=by simpa using hi
   subst this;show(-1:Int)<0;omega
 generalize b7:Heap.empty.nx=z at s0 ⊢;generalize c6:z+1=y at s0 ⊢;generalize c5:y+1=F at s0 ⊢;clear g8 a0 x1 e1 x0 g3 g4 e0 m1 m2 r3 r4 a3 a4 l3 l4 B;refine⟨rfl,ZN [2,3,4,8,9,10,11] [2,3,4,8,9,10,11] (λm vs h=> ∃(at_:Nat) (P:List (Nat×Nat×Int×Nat)) (o l9:Nat) (L:Option Nat),vs= [.fn (.func 90) [] [], .p (some (z,0)), .p (some (y,0)), .mp (some F), .sl (some (o,0)) l9 L 4,I (-1),I (at_:Nat)]/\
   FsI d e z y F o l9 L P h/\at_<=P.length/\m+at_=d.N.length*e.N.length+1/\Zan d e=Zxb d e m at_ (P.map prQ)) (d.N.length*e.N.length+1) ZA ⟨0,[(0,0,-1,0)],_,_,_,rfl,s0,sm,rfl,rfl⟩ ?_⟩
 rintro m vs h ⟨at_,P,o,l9,L,rfl,s,b9,hm,hF⟩;obtain⟨b4,c4⟩:=s.len;subst b4;refine Zh Trye.Yok 108 ZM2 rfl ?_;refine Zq (λt=>⟨rfl,QZ (n:=108) [2,3,4,8,9,10,11] kr ?_⟩) (λw=> ?_)
 .refine Zh Trye.Yok 108 ZM3 rfl ?_;obtain⟨mm,rfl⟩: ∃mm,m=mm+1:=⟨m-1,om⟩;obtain⟨j9,e9,_,b8,a6,_⟩:=s.li.cells (λe=>by rw[e]at t;simp at t);cases e9;have hp:=s.lo.lt (prQ P[at_]) (uW.2 ⟨_,qe t,rfl⟩);have W:P[at_].1<d.G.length:=by rw[E.ng];exact hp.1
  have w:P[at_].2.1<e.G.length:=by rw[u.ng];exact hp.2
  have X:(P.map prQ).getD at_ (0,0)=prQ P[at_]:=by rw[qw,qo (by simpa using t)];simp
  have b2:soQ d e (prQ P[at_])=(d.G[P[at_].1]&& !e.G[P[at_].2.1]):=by
   unfold soQ;simp only[qw,qo W,qo w,uq]
  rw[Zxb,uF (by simpa using t),X,b2]at hF;refine⟨Zu t,rfl,(P[at_].1:Nat),(P[at_].2.1:Nat),P[at_].2.2.1,(P[at_].2.2.2:Nat),?_,_,_,_,(WQ s.g3 E.c256).2,Zu W,_,getB d.G W,_,_,_,(WQ s.g4 u.c256).2,Zu w,_,getB e.G w,_,so90 _ _,Zf (λZ=> ?_) (λZ=> ?_)⟩
  .rw[Zs a6,uJ,qdq];exact Xp (f:=encQ) (k:=4) Zel t
  .rw[uF Z]at hF;refine ZU rfl (Zsx (λu=>absurd (u.trans (by kernel_rfl:JU _=1)) dc) (ZU rfl (Zj [9,10] ?_)));refine Zo Trye.Yok ZC5 rfl ?_;have b3:Xb (row encQ P)=true:=Je (f:=encQ) (λ_=>rfl) P;have a9:Frz h (.sl (some (o,0)) P.length L 4) (lst encQ P):= .sl _ _ _ _ _ (row encQ P) true (row encQ P) _ none a6 (by rw[ql];exact ZD (Xh Zel P).symm) (λx hx=>by cases hx) dc (Xc h b3);refine ifF (by simp[ltI]) ⟨ZGy P at_,⟨_, .cons _ _ _ _ a9 (.cons _ _ _ _ (.i _ _) .nil),ZGz P s.bk om t⟩,?_⟩;exact⟨.inr rfl,_,rfl,_, .tup _ _ (.cons _ _ _ _ (.s _) (.cons _ _ _ _ (.b _) .nil)),_,by rw[hF]⟩
  .rw[uE (by rw[Z];decide)]at hF;refine⟨rfl,Zfa [2,3,4,8,9,10,11,12,53] [2,3,4,8,9,10,11,12,53] (λm1 a5 D=> ∃(c:Nat) (K:List (Nat×Nat×Int×Nat)) (o l9:Nat) (L:Option Nat),
    a5= [.fn (.func 90) [] [], .p (some (z,0)), .p (some (y,0)), .mp (some F), .sl (some (o,0)) l9 L 4,I (-1),I (at_:Nat), .lb (encQ P[at_]),I (c:Nat)]/\FsI d e z y F o l9 L K D/\c<=256/\m1=256-c/\P.length<=K.length/\K.map prQ=rowQ d e (prQ P[at_]) c (P.map prQ)) 256 ZA
    ⟨0,P,o,_,L,rfl,s,om,rfl,qnq _,rfl⟩ ?_⟩
   rintro m1 a5 D ⟨c,K,O,a2,a7,rfl,s1,hc,rfl,b0,H⟩;obtain⟨b6,b5⟩:=s1.len;refine Zn Trye.Yok ZM4 rfl ?_;refine Zq (b:=256) (λA=> ?_) (λA=> ?_)
   .obtain⟨u1,u2,u3⟩:=E.at hp.1 A;obtain⟨v1,v2,v3⟩:=u.at hp.2 A;refine⟨_,_,_,(WQ s1.g3 E.c256).1,Zu hp.1,_,_,_,getL d.N hp.1,⟨om,om⟩,_,Zxf s1.g3 u1 _ sm,Zu u2,_,getI _ u2,_,_,_,(WQ s1.g4 u.c256).1,Zu hp.2,_,_,_,getL e.N hp.2,⟨om,om⟩,_,Zxf s1.g4 v1 _ sm,Zu v2,_,getI _ v2,?_⟩;rw[u3,v3,ZMi A];have hq:=E.step u hp A;have g:rowQ d e (prQ P[at_]) (c+1) (P.map prQ)=addQ (K.map prQ) (Zsw d e (prQ P[at_]) c):=by rw[rowQ,H]
    refine⟨_,_,ZM9 s1.g8 (Zsw d e (prQ P[at_]) c),?_⟩;by_cases r:Zsw d e (prQ P[at_]) c∈K.map prQ
    .rw[uF r];unfold addQ at g;rw[uF r]at g;exact ifF rfl ⟨rfl,256-(c+1),om,c+1,K,O,a2,a7,by rw[Ze om];rfl,s1,om,rfl,b0,g.symm⟩
    .rw[uE r];unfold addQ at g;rw[uE r]at g;obtain⟨h2,p1,a,l,c',k,h3,p2,j,rfl,rfl,p3⟩:=s1.add hb hq r (at_:=at_) om c;exact ifT rfl ⟨h2,p1,_,_,_,_,h3,p2,rfl,256-(c+1),om,c+1,_,j,l,c',by rw[Ze om];rfl,p3,om,rfl,by simp;omega,by rw[g,uV];rfl⟩
   .have b1:c=256:=om;subst b1;refine ZU rfl ⟨rfl,[2,3,4,8,9,10,11],rfl,?_⟩;refine Zn Trye.Yok ZM5 rfl ?_;exact⟨rfl,mm,om,at_+1,K,O,a2,a7,by rw[Ze om];rfl,s1,om,om,by rw[hF,H]⟩
 .refine ZU rfl (Zj [9,10] ?_);refine Zo Trye.Yok ZC5 rfl ?_;obtain⟨mm,rfl⟩: ∃mm,m=mm+1:=⟨m-1,om⟩;rw[Zxb,uE (by simpa using w)]at hF;exact ifT rfl ⟨.inr rfl,_,rfl,_, .tup _ _ (.cons _ _ _ _ (.s _) (.cons _ _ _ _ (.b _) .nil)),_,by rw[hF]⟩
end Go.Y
