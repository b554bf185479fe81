/- A part of the proof. -/
import Derived.Test.YteennilbmmlikaaGreatDoorYLoop
import Derived.Test.YteennilbmmlikaaGreatDoorGDfR
import Derived.Test.YteennilbmmlikaaGreatDoorGN0
import Derived.Test.YteennilbmmlikaaGreatDoorYAny3
import Derived.Test.YteennilbmmlikaaGreatDoorGRule
import Derived.Test.YteennilbmmlikaaGreatDoorGTextE
import Derived.Test.YteennilbmmlikaaGreatDoorEE2
import Derived.Test.YteennilbmmlikaaGreatDoorGTrL
namespace Go.Y
open Go.Proofs
set_option maxRecDepth 1000000
set_option maxHeartbeats 0
theorem ZN9{cs ds h}(K):CP eY_ 89 (pre B_89) (.agg cs::.agg ds::V.fn (.func 90) [] []::Rp 105) h [2,3,4,6,7,8,9,10,11] K=(If (decide (cs.length=(258:Nat))&&Zp cs) (If (decide (ds.length=(258:Nat))&&Zp ds) (∃a,Zb ((h.push (YObj.arr cs true)).push (YObj.arr ds true)) h.nx 0 258=some a/\ ∃b,(λf=>FCon eY_ (127:Nat) [.agg a] ((h.push (YObj.arr cs true)).push (YObj.arr ds true)) (.b b)/\If (!b) f (∃c,Zb ((h.push (YObj.arr cs true)).push (YObj.arr ds true)) (h.nx+(1:Nat)) 0 258=some c/\ ∃d,FCon eY_ (127:Nat) [.agg c] ((h.push (YObj.arr cs true)).push (YObj.arr ds true)) (.b d)/\If (!d) f (∃e,updM eY_ (((h.push (YObj.arr cs true)).push (YObj.arr ds true)).push (YObj.map [])) 201 (some (h.nx+(1:Nat)+(1:Nat))) (.agg [I 0,I 0]) (I 1)=some e/\K .normal 108 [.fn (Fn.func 90) [] [], p_P h.nx, .p (some (h.nx+(1:Nat),0)), .s #[].toList, .b false,.mp (some (h.nx+(1:Nat)+(1:Nat))),S (some (e.nx,0)) 1 (some 1) 4,I (-1),I 0] (e.push (YObj.arr [I 0,I 0,I (-1),.i .u8 0] true))))) (K .ret 108 [.fn (Fn.func 90) [] [], p_P h.nx, .p (some (h.nx+(1:Nat),0)), .s #[].toList, .b false,Ud,Ud,Ud,Ud] ((h.push (YObj.arr cs true)).push (YObj.arr ds true)))) False) False):=kr
theorem ZOa{b c d l9 c9 e a h}(K):CP eY_ 89 (pre (lp_ B_89)) (MZ 108 [2,3,4,8,9,10,11] [V.fn (Fn.func 90) [] [],p_P b,p_P c,.mp (some e),S (some (d,0)) l9 c9 4,I (-1),I a]) h [2,3,4,8,9,10,11] K=(If (ltI a l9) (K .normal 108 [.fn (Fn.func 90) [] [], p_P b, p_P c,.mp (some e),S (some (d,0)) l9 c9 4,I (-1),I a] h) (K (.exit 0) 108 [.fn (Fn.func 90) [] [], p_P b, p_P c,.mp (some e),S (some (d,0)) l9 c9 4,I (-1),I a] h)):=kr
theorem ZOb{d e f l9 c9 g a h}(K):CP eY_ 89 (pre (bk_ (lp_ B_89))) (MZ 108 [2,3,4,8,9,10,11] [V.fn (Fn.func 90) [] [],p_P d,p_P e,.mp (some g),S (some (f,0)) l9 c9 4,I (-1),I a]) h [2,3,4,8,9,10,11,12,53] K=((0<=a/\a<l9)/\4=4/\ ∃b c j l,Zb h f ((0:Nat)+a.toNat*4) 4=some [I b,I c,I j,.i .u8 l]/\ ∃m n o,Zb h d 257 1=some [J m n o]/\(0<=b/\b<n)/\ ∃q,Zs 1 (List.drop (b.toNat*1) m)=some [.b q]/\ ∃r s t,Zb h e 257 1=some [J r s t]/\(0<=c/\c<s)/\ ∃u,Zs 1 (List.drop (c.toNat*1) r)=some [.b u]/\ ∃w,(PCon eY_ 90 [.b q,.b u] λv=>v=.b w)/\If w (K (.exit 0) 108 [.fn (Fn.func 90) [] [], p_P d, p_P e,.mp (some g),S (some (f,0)) l9 c9 4,I a,I a, .lb [I b,I c,I j, .i .u8 l],Ud] h) (K .normal 108 [.fn (Fn.func 90) [] [], p_P d, p_P e,.mp (some g),S (some (f,0)) l9 c9 4,I (-1),I a, .lb [I b,I c,I j, .i .u8 l],I 0] h)):=kr
theorem ZOc{e f m l9 c9 g j p0 p1 p2 p3 d h}(K):CP eY_ 89 (lp_ (bk_ (lp_ B_89))) (MZ 108 [2,3,4,8,9,10,11,12,53] [V.fn (Fn.func 90) [] [],p_P e,p_P f,.mp (some g),S (some (m,0)) l9 c9 4,I (-1),I j,.lb [I p0,I p1,I p2,.i .u8 p3],I d]) h [2,3,4,8,9,10,11,12,53] K=(If (ltI d 256) (∃a b c,Zb h e 256 1=some [J a b c]/\(0<=p0/\p0<b)/\ ∃l n o,Zs 1 (List.drop (p0.toNat*1) a)=some [J l n o]/\((0:Int)<=d/\d<(↑(256:Nat):Int))/\ ∃q,Zb h e ((0:Nat)+(0:Nat)+d.toNat*1) 1=some [I q]/\(0<=q/\q<n)/\ ∃r,Zs 1 (List.drop (q.toNat*1) l)=some [I r]/\ ∃s t u,Zb h f 256 1=some [J s t u]/\(0<=p1/\p1<t)/\ ∃v w x,Zs 1 (List.drop (p1.toNat*1) s)=some [J v w x]/\((0:Int)<=d/\d<(↑(256:Nat):Int))/\ ∃y,Zb h f ((0:Nat)+(0:Nat)+d.toNat*1) 1=some [I y]/\(0<=y/\y<w)/\ ∃z,Zs 1 (List.drop (y.toNat*1) v)=some [I z]/\ ∃k F,Zjd eY_ h 201 3 (some g) (.agg [I r,I z])=some (I k,F)/\If (k==(0:Int)) (∃p,updM eY_ h 201 (some g) (.agg [I r,I z]) (I 1)=some p/\ ∃A B C D E,Zk eY_ p 205 205 (S (some (m,0)) l9 c9 4) (J [I r,I z,I j,.i IntKind.u8 (IntKind.u8.wrap d)] 1 (some 1))=some (S A B C D,E)/\K .normal 108 [.fn (Fn.func 90) [] [], p_P e, p_P f,.mp (some g),S A B C D,I (-1),I j, .lb [I p0,I p1,I p2, .i .u8 p3],I (wW (d+(1:Int)))] E) (K .normal 108 [.fn (Fn.func 90) [] [], p_P e, p_P f,.mp (some g),S (some (m,0)) l9 c9 4,I (-1),I j, .lb [I p0,I p1,I p2, .i .u8 p3],I (wW (d+(1:Int)))] h)) (K (.exit 2) 108 [.fn (Fn.func 90) [] [], p_P e, p_P f,.mp (some g),S (some (m,0)) l9 c9 4,I (-1),I j, .lb [I p0,I p1,I p2, .i .u8 p3],I d] h)):=kr
theorem ZOd{a b c l9 c9 d e h}(K):CP eY_ 89 ((post (lp_ B_89)).drop 1) (MZ 108 [2,3,4,8,9,10,11] [V.fn (Fn.func 90) [] [],p_P a,p_P b,.mp (some d),S (some (c,0)) l9 c9 4,I (-1),I e]) h [2,3,4,8,9,10,11] K=(K .normal 108 [.fn (Fn.func 90) [] [], p_P a, p_P b,.mp (some d),S (some (c,0)) l9 c9 4,I (-1),I (wW (e+(1:Int)))] h):=kr
theorem ZEa{c l9 c9 a h}(K):CP eY_ 89 ((post B_89).drop 1) (MZ 108 [9,10] [S (some (c,0)) l9 c9 4,I a]) h [6,7] K=(If (ltI a 0) (K .ret 108 [.s #[].toList, .b false] h) (∃d,FCon eY_ (128:Nat) [S (some (c,0)) l9 c9 4,I a] h (.s d)/\K .ret 108 [.s d, .b true] h)):=kr
theorem Ztv{Y}{n:Nat}{c}{b j:Nat}{r}{Q}{a:Nat}{vs}{h}(d: ¬j=b)(e:AtV c Q (.exit j) a vs h):Zd6 Y n c b r Q (.exit j) a vs h:=by
 simp only[Zd6];rw[uE d];exact e
/-! ### The map of pairs -/
def esQ(L:List (Nat×Nat)):List (V×V):=L.map λp=>(V.agg [.i .i64 (p.1:Nat), .i .i64 (p.2:Nat)],V.i .i64 1)
theorem keyQ(p q:Nat×Nat):Ze2 (.arr 2 3) (.agg [I (p.1:Nat),I (p.2:Nat)]) (.agg [I (q.1:Nat),I (q.2:Nat)])=some (decide (p=q)):=by
 obtain⟨a,b⟩:=p;obtain⟨x,y⟩:=q;simp only[Ze2,Qg,vG,uw,Bool.and_true]
 congr 1
 rw[Bool.eq_iff_iff];simp;omega
theorem getQ(q:Nat×Nat): ∀L:List (Nat×Nat),XV (.arr 2 3) (.agg [I (q.1:Nat),I (q.2:Nat)]) (esQ L)=if q∈L then some (I 1)else none
 | []=>rfl
 |p::L=>by
  show(if Ji (.arr 2 3) _ (V.agg [I (p.1:Nat),I (p.2:Nat)],I 1)=true then _ else XV (.arr 2 3) _ (esQ L))=_;rw[getQ q L];simp only[Ji,keyQ q p];by_cases e:q=p;subst e;simp;simp[e]
theorem Zyj(q:Nat×Nat): ∀L:List (Nat×Nat),ZY (.arr 2 3) (.agg [I (q.1:Nat),I (q.2:Nat)]) (esQ L)=true
 | []=>rfl
 |p::L=>by
  show((Ze2 (.arr 2 3) _ (V.agg [I (p.1:Nat),I (p.2:Nat)])).isSome&&ZY (.arr 2 3) _ (esQ L))=true;rw[keyQ q p,Zyj q L];rfl
theorem ZOe(q:Nat×Nat): ∀L:List (Nat×Nat),q∉L->Xu (.arr 2 3) (.agg [I (q.1:Nat),I (q.2:Nat)]) (I 1) (esQ L)=esQ (L++ [q])
 | [],_=>rfl
 |p::L,h=>by
  show(if Ji (.arr 2 3) _ (V.agg [I (p.1:Nat),I (p.2:Nat)],I 1)=true then _ else _::Xu (.arr 2 3) _ _ (esQ L))=_;have e: ¬q=p:=λe=>h (by rw[e];exact .head _);rw[ZOe q L (λa=>h (.tail _ a))];simp only[Ji,keyQ q p,uK e]
  rfl
theorem ZOf:eY_.kd 201=some (.arr 2 3):=kr
theorem ZOg:QE eY_ 201=true:=kr
theorem ZOh{h:Heap}{a:Nat}{L:List (Nat×Nat)}(b:h.get a=some (.map (esQ L)))(q:Nat×Nat):
  Zjd eY_ h 201 3 (some a) (.agg [I (q.1:Nat),I (q.2:Nat)])=some (I (if q∈L then 1 else 0),decide (q∈L)):=by
 have d:(eY_.ty 3).isSome=true:=kr;have hz:Znu eY_ 3= I 0:=kr;have c:Zbl h (some a)=some (esQ L):=by simp[Zbl,b]
 unfold Zjd;rw[ZOf,c];simp only[ZOg,d,uT,Bool.and_true];rw[uF (Zyj q L),getQ];by_cases e:q∈L;simp[e];simp[e,hz]
theorem updQ{h:Heap}{a:Nat}{L:List (Nat×Nat)}(b:h.get a=some (.map (esQ L))){q:Nat×Nat}(c:q∉L):
  updM eY_ h 201 (some a) (.agg [I (q.1:Nat),I (q.2:Nat)]) (I 1)=some (h.set a (some (.map (esQ (L++ [q]))))):=by
 unfold updM;simp only[ZOf,b,ZOg,uT];rw[uF (Zyj q L),ZOe q L c]
/-! ### What lives in its loops -/
abbrev prQ(p:Nat×Nat×Int×Nat):Nat×Nat:=(p.1,p.2.1)
structure FsI(d e:Dn)(id3 id4 id8 id9 l9:Nat)(c9:Option Nat)(P:List (Nat×Nat×Int×Nat))(h:Heap):Prop where
 g3:h.get id3=some (.arr (dfaC d.cl d.N d.G) true)
 g4:h.get id4=some (.arr (dfaC e.cl e.N e.G) true)
 g8:h.get id8=some (.map (esQ (P.map prQ)))
 li:LX encQ 4 h (some (id9,0)) l9 c9 4 P
 ne:id9≠id3∧id9≠id4∧id9≠id8∧id8≠id3∧id8≠id4
 lt:id3<h.nx∧id4<h.nx∧id8<h.nx
 lo:LOk d e (P.map prQ)
 bk:ZH0 P
theorem FsI.len{d e:Dn}{a b c f g:Nat}{c9}{P:List (Nat×Nat×Int×Nat)}{h}(s:FsI d e a b c f g c9 P h):g=P.length/\P.length<=d.N.length*e.N.length:=by have:=s.lo.len;rw[qC]at this;exact⟨s.li.len,this⟩
theorem FsI.add{d e:Dn}{n p b f y:Nat}{c9}{P:List (Nat×Nat×Int×Nat)}{h}(s:FsI d e n p b f y c9 P h)(hb:d.N.length*e.N.length<=90000){q:Nat×Nat}(X:q.1<d.N.length/\q.2<e.N.length)(B:q∉P.map prQ){at_:Nat}(O:at_<P.length)(c:Nat):
  ∃z,updM eY_ h 201 (some b) (.agg [I (q.1:Nat),I (q.2:Nat)]) (I 1)=some z/\
   ∃(a:Option (Nat×Nat)) (l:Nat) (r:Option Nat) (k:Nat) (g:Heap),Zk eY_ z 205 205 (.sl (some (f,0)) y c9 4) (.ts [I (q.1:Nat),I (q.2:Nat),I at_, .i .u8 (c:Nat)] 1 (some 1))=some (.sl a l r k,g)/\
    ∃j,a=some (j,0)/\k=4/\FsI d e n p b j l r (P++ [(q.1,q.2,(at_:Int),c)]) g:=by
 have A:=s.len;obtain⟨Z,n2,C,D,E⟩:=s.ne;obtain⟨t1,t2,t3⟩:=s.lt;refine⟨_,updQ s.g8 B,?_⟩;have v:LX encQ 4 (h.set b (some (.map (esQ (P.map prQ++ [q]))))) (some (f,0)) y c9 4 P:=s.li.fr sm λj W _=>by cases W;rw[qc,uE C]
 obtain⟨a,l,r,k,g,q1,F,G,j,H,q5⟩:=v.app (Y:=eY_) (st:=205) (e:=204) (te:=⟨4,32, .struct [(0,3),(1,3),(2,3),(3,5)],[I 0,I 0,I 0, .i .u8 0]⟩) (q.1,q.2,(at_:Int),c) rfl Ze0 kr kr rfl dc rfl dc om;refine⟨a,l,r,k,g,q1,j,H,?_⟩;subst H;obtain⟨j',K,L,e3,e4,e5⟩:=F.cells sm;cases K;subst L;rw[Heap.nx_set]at q5;have u: ∀i,i<h.nx->i≠f->g.get i=(h.set b (some (.map (esQ (P.map prQ++ [q]))))).get i:=λi t x=>G.2 i (su t) λo e=>x (by cases e;rfl);have w:=G.1;rw[Heap.nx_set]at w;refine⟨rfl,⟨?_,?_,?_,F,⟨om,om,om,D,E⟩,⟨om,om,om⟩,?_,λi t=> ?_⟩⟩;rw[u _ t1 (Ne.symm Z),qc,uE (Ne.symm D)];exact s.g3;rw[u _ t2 (Ne.symm n2),qc,uE (Ne.symm E)];exact s.g4;rw[u _ t3 (Ne.symm C),qc,uF rfl,uV];rfl;have:=s.lo.add X;unfold addQ at this;rw[uE B]at this;rw[uV];exact this
 .by_cases m:i<P.length;rw[List.getElem_append_left m];exact s.bk i m
  .have e:i=P.length:=by simp at t;omega
   subst e;simp;omega
theorem DOk.at{a}{N:List (List Int)}{G}{w:Nat}(d:DOk a N G w){x c:Nat}(m:x<N.length)(l:c<256):
  ∃(b:c<a.length) (e:a[c]<N[x].length),N[x][a[c]]=((nxt a N x c:Nat):Int):=by
 obtain⟨k,r,e,h,i,j,_⟩:=d.row m l;obtain⟨b,f⟩:=qb.1 h;obtain⟨_,g⟩:=qb.1 i;subst f g;exact⟨b,e,j⟩
theorem getB(l:List Bool){i:Nat}(h:i<l.length):Zs 1 (List.drop ((i:Int).toNat*1) (row Zl l))=some [.b l[i]]:=by
 rw[qdq];exact Xw (f:=Zl) (k:=1) (λ_=>rfl) h
theorem so90(a b:Bool):PCon eY_ 90 [.b a, .b b] (· = .b (a&& !b)):=by
 refine Zv eK_ (fn:=Tryz.f90) rfl ZN7 rfl ?_;refine Zf (λh=>ZB rr rfl (.b _) (by rw[h];rfl)) (λh=>ZB rr rfl (.b _) (by rw[h];rfl))
theorem ZH3{d e:Dn}{w1 w2:Nat}(D:DOk d.cl d.N d.G w1)(w:DOk e.cl e.N e.G w2):PCon eY_ 89 [.agg (dfaC d.cl d.N d.G), .agg (dfaC e.cl e.N e.G), .fn (.func 90) [] []] (λv=> ∃s,v= .tup [.s s, .b (Qy d e)]):=by
 have u:Xp [.agg (dfaC d.cl d.N d.G), .agg (dfaC e.cl e.N e.G), .fn (.func 90) [] []]=true:=by
  show(ZZ (dfaC d.cl d.N d.G)&&(ZZ (dfaC e.cl e.N e.G)&&true))=true;rw[WT,WT];rfl
 have hb:d.N.length*e.N.length<=90000:=by
  have:=Nat.mul_le_mul D.n2 w.n2;omega
 have m1:=ZD8 D;have m2:=ZD8 w;have r3:=WT d.cl d.N d.G;have r4:=WT e.cl e.N e.G;have a3:=Zbd d.cl d.N d.G;have a4:=Zbd e.cl e.N e.G;have l3:=QV d.cl d.N d.G D.c256;have l4:=QV e.cl e.N e.G w.c256;refine ZF eK_ (fn:=Tryz.f89) u ?_;obtain⟨cs,a5⟩: ∃cs,cs=dfaC d.cl d.N d.G:=⟨_,rfl⟩;obtain⟨ds,a6⟩: ∃ds,ds=dfaC e.cl e.N e.G:=⟨_,rfl⟩;rw[<-a5]at m1 r3 a3 l3 ⊢;rw[<-a6]at m2 r4 a4 l4 ⊢;refine Zh eK_ 108 ZN9 rfl ?_;refine ifT (by rw[a3];simp[l3]) (ifT (by rw[a4];simp[l4]) ?_);obtain⟨B,e0⟩: ∃B,B=(Heap.empty.push (.arr cs true)).push (.arr ds true):=⟨_,rfl⟩;rw[<-e0];have g3:B.get Heap.empty.nx=some (.arr cs true):=by rw[e0,qk,uE sm,qk,uF rfl]
 have g4:B.get (Heap.empty.nx+1)=some (.arr ds true):=by rw[e0,qk,uF sm]
 have x0:B.nx=Heap.empty.nx+1+1:=by rw[e0];simp
 refine⟨cs,by rw[Zr g3,ql];exact ZC l3.symm,true,⟨_, .cons _ _ _ _ (.agg _ _ (Xa B r3)) .nil,m1⟩,ifF rfl ?_⟩;refine⟨ds,by rw[Zr g4,ql];exact ZC l4.symm,true,⟨_, .cons _ _ _ _ (.agg _ _ (Xa B r4)) .nil,m2⟩,ifF rfl ?_⟩;have g8:(B.push (.map [])).get (Heap.empty.nx+1+1)=some (.map (esQ [])):=by rw[qk,uF x0.symm];rfl
 refine⟨_,updQ g8 (q:=(0,0)) sm,?_⟩;obtain⟨C,e1⟩: ∃C,C=(B.push (.map [])).set (Heap.empty.nx+1+1) (some (.map (esQ ([]++ [(0,0)])))):=⟨_,rfl⟩;rw[<-e1];have x1:C.nx=Heap.empty.nx+1+1+1:=by rw[e1,Heap.nx_set];simp[x0]
 have Z: ∀i,i<Heap.empty.nx+1+1->C.get i=B.get i:=λi hi=>by rw[e1,qc,uE om,qk,uE om]
 have s0:FsI d e Heap.empty.nx (Heap.empty.nx+1) (Heap.empty.nx+1+1) C.nx 1 (some 1) [(0,0,-1,0)] (C.push (.arr [I 0,I 0,I (-1), .i .u8 0] true)):=by
  refine⟨?_,?_,?_,LX.one encQ 4 C (0,0,-1,0),om,by simp;omega,LOk.zero D w,λi hi=> ?_⟩;rw[qk,uE om,Z _ om,g3,a5];rw[qk,uE om,Z _ om,g4,a6];rw[qk,uE om,e1,qc,uF rfl];rfl;have:i=0:=su hi;subst this;show(-1:Int)<0;omega
 generalize c0:Heap.empty.nx=z at s0 ⊢;generalize c1:z+1=A at s0 ⊢;generalize c2:A+1=F at s0 ⊢;clear g8 Z x1 e1 x0 g3 g4 e0 m1 m2 r3 r4 a3 a4 l3 l4 u;refine⟨rfl,ZM [2,3,4,8,9,10,11] [2,3,4,8,9,10,11] (λm vs h=> ∃(at_:Nat) (P:List (Nat×Nat×Int×Nat)) (r l9:Nat) (L:Option Nat),vs= [.fn (.func 90) [] [], p_P z, p_P A, .mp (some F), .sl (some (r,0)) l9 L 4,I (-1),I (at_:Nat)]/\
   FsI d e z A F r l9 L P h/\at_<=P.length/\m+at_=d.N.length*e.N.length+1/\Qy d e=Zm2 d e m at_ (P.map prQ)) (d.N.length*e.N.length+1) ZA ⟨0,[(0,0,-1,0)],_,_,_,rfl,s0,sm,rfl,rfl⟩ ?_⟩
 rintro m vs h ⟨at_,P,r,l9,L,rfl,s,b9,hm,X⟩;obtain⟨b3,b8⟩:=s.len;subst b3;refine Zh eK_ 108 ZOa rfl ?_;refine Zq (λo=>⟨rfl,QX (n:=108) [2,3,4,8,9,10,11] kr ?_⟩) (λy=> ?_)
 .refine Zh eK_ 108 ZOb rfl ?_;obtain⟨mm,rfl⟩: ∃mm,m=mm+1:=⟨m-1,om⟩;obtain⟨j9,e9,_,c3,a7,_⟩:=s.li.cells (λe=>by rw[e]at o;simp at o);cases e9;have E:=s.lo.lt (prQ P[at_]) (uW.2 ⟨_,qe o,rfl⟩);have a0:P[at_].1<d.G.length:=by rw[D.ng];exact E.1
  have y:P[at_].2.1<e.G.length:=by rw[w.ng];exact E.2
  have a1:(P.map prQ).getD at_ (0,0)=prQ P[at_]:=by rw[qw,qo (su o)];simp
  have b5:soQ d e (prQ P[at_])=(d.G[P[at_].1]&& !e.G[P[at_].2.1]):=by
   unfold soQ;simp only[qw,qo a0,qo y,uq]
  rw[Zm2,uF (su o),a1,b5]at X;refine⟨Zu o,rfl,(P[at_].1:Nat),(P[at_].2.1:Nat),P[at_].2.2.1,(P[at_].2.2.2:Nat),?_,_,_,_,(WU s.g3 D.c256).2,Zu a0,_,getB d.G a0,_,_,_,(WU s.g4 w.c256).2,Zu y,_,getB e.G y,_,so90 _ _,Zf (λY=> ?_) (λY=> ?_)⟩;rw[Zr a7,uJ,qdq];exact Xw (f:=encQ) (k:=4) Ze0 o;rw[uF Y]at X;refine ZR rfl (Ztv (λw=>absurd (w.trans (by kernel_rfl:JV _=1)) dc) (ZR rfl (Zj [9,10] ?_)));refine Zo eK_ ZEa rfl ?_;have b4:ZZ (row encQ P)=true:=Jc (f:=encQ) (λ_=>rfl) P;have b2:Frz h (.sl (some (r,0)) P.length L 4) (lst encQ P):= .sl _ _ _ _ _ (row encQ P) true (row encQ P) _ none a7 (by rw[ql];exact ZC (Xf Ze0 P).symm) (λx hx=>by cases hx) dc (Xa h b4);refine ifF (by simp[ltI]) ⟨ZH1 P at_,⟨_, .cons _ _ _ _ b2 (.cons _ _ _ _ (.i _ _) .nil),ZH2 P s.bk om o⟩,?_⟩;exact⟨.inr rfl,_,rfl,_, .tup _ _ (.cons _ _ _ _ (.s _) (.cons _ _ _ _ (.b _) .nil)),_,by rw[X]⟩
  .rw[uE (by rw[Y];decide)]at X;refine⟨rfl,Zfo [2,3,4,8,9,10,11,12,53] [2,3,4,8,9,10,11,12,53] (λm1 a9 C=> ∃(c:Nat) (K:List (Nat×Nat×Int×Nat)) (r l9:Nat) (L:Option Nat),
    a9= [.fn (.func 90) [] [], p_P z, p_P A, .mp (some F), .sl (some (r,0)) l9 L 4,I (-1),I (at_:Nat), .lb (encQ P[at_]),I (c:Nat)]/\FsI d e z A F r l9 L K C/\c<=256/\m1=256-c/\P.length<=K.length/\K.map prQ=rowQ d e (prQ P[at_]) c (P.map prQ)) 256 ZA
    ⟨0,P,r,_,L,rfl,s,om,rfl,qnq _,rfl⟩ ?_⟩
   rintro m1 a9 C ⟨c,K,W,a8,a2,rfl,H,hc,rfl,b0,O⟩;obtain⟨b7,b6⟩:=H.len;refine Zm eK_ ZOc rfl ?_;refine Zq (b:=256) (λt=> ?_) (λt=> ?_)
   .obtain⟨u1,u2,u3⟩:=D.at E.1 t;obtain⟨v1,v2,v3⟩:=w.at E.2 t;refine⟨_,_,_,(WU H.g3 D.c256).1,Zu E.1,_,_,_,getL d.N E.1,⟨om,om⟩,_,Zyh H.g3 u1 _ sm,Zu u2,_,getI _ u2,_,_,_,(WU H.g4 w.c256).1,Zu E.2,_,_,_,getL e.N E.2,⟨om,om⟩,_,Zyh H.g4 v1 _ sm,Zu v2,_,getI _ v2,?_⟩;rw[u3,v3,ZNq t];have hq:=D.step w E t;have g:rowQ d e (prQ P[at_]) (c+1) (P.map prQ)=addQ (K.map prQ) (Zdt d e (prQ P[at_]) c):=by rw[rowQ,O]
    refine⟨_,_,ZOh H.g8 (Zdt d e (prQ P[at_]) c),?_⟩;by_cases p:Zdt d e (prQ P[at_]) c∈K.map prQ;rw[uF p];unfold addQ at g;rw[uF p]at g;exact ifF rfl ⟨rfl,256-(c+1),om,c+1,K,W,a8,a2,by rw[Ze om];rfl,H,om,rfl,b0,g.symm⟩;rw[uE p];unfold addQ at g;rw[uE p]at g;obtain⟨h2,p1,a,l,c',k,h3,p2,j,rfl,rfl,p3⟩:=H.add hb hq p (at_:=at_) om c;exact ifT rfl ⟨h2,p1,_,_,_,_,h3,p2,rfl,256-(c+1),om,c+1,_,j,l,c',by rw[Ze om];rfl,p3,om,rfl,by simp;omega,by rw[g,uV];rfl⟩
   .have b1:c=256:=om;subst b1;refine ZR rfl ⟨rfl,[2,3,4,8,9,10,11],rfl,?_⟩;refine Zm eK_ ZOd rfl ?_;exact⟨rfl,mm,om,at_+1,K,W,a8,a2,by rw[Ze om];rfl,H,om,om,by rw[X,O]⟩
 .refine ZR rfl (Zj [9,10] ?_);refine Zo eK_ ZEa rfl ?_;obtain⟨mm,rfl⟩: ∃mm,m=mm+1:=⟨m-1,om⟩;rw[Zm2,uE (su y)]at X;exact ifT rfl ⟨.inr rfl,_,rfl,_, .tup _ _ (.cons _ _ _ _ (.s _) (.cons _ _ _ _ (.b _) .nil)),_,by rw[X]⟩
end Go.Y
namespace Go.Y
open Go.Proofs Gl
set_option maxRecDepth 100000
set_option maxHeartbeats 1000000
def JF(r:Re):Au×Int:=if mayE r=false\/anchB r=true then(auZ,5)else if 300<spotN r then(auZ,2)else(Zop boS r,0)
theorem Zpf{l}{n:Nat}(h:Rz n l):risB (ints l) n=true:=by
 unfold risB;refine uP.2 λi b=> ?_;have b:i<(ints l).length:=List.mem_range.1 b;have a:i<l.length:=su b;have o:=h.2 l[i] (qe a);have g:(ints l).getD i 0=(l[i]:Int):=by rw[JY b];simp
 rw[Zdf,g];have d:ltI (l[i]:Int) 0=false:=by simp[ltI]
 have e:leI (n:Int) (l[i]:Int)=false:=by simp[leI];omega
 rw[d,e];by_cases k:0<i
 .have c:i-1<l.length:=om;have j:(ints l).getD (i-1) 0=(l[i-1]:Int):=by rw[JY (su c)];simp
  have m:l[i-1]<l[i]:=List.pairwise_iff_getElem.1 h.1 _ _ c a om;rw[j];have f:leI (l[i]:Int) (l[i-1]:Int)=false:=by simp[leI];omega
  rw[f];simp
 .simp[k]
end Go.Y
namespace Go.Y
open Go.Proofs Gl
set_option maxRecDepth 100000
set_option maxHeartbeats 1000000
def Xz(k:Int)(t:List UInt8):Re×Int:=
 if mayP k t=false then(XG,5)
 else if(k==2)=true/\anchB (ereL t)=true then(XG,5)
 else(Zj2 (sevS 4 (ZU::(JO k t++ [ZU]))),fitE (sevS 4 (ZU::(JO k t++ [ZU]))))
theorem Ztw(k:Int)(t:List UInt8):Zgh k t=ZG2 (Xz k t).1 (Xz k t).2:=by unfold Zgh Xz;split;rfl;split;rfl;exact Zo4 _
structure ReOk(r:Re):Prop where
 wf:wfRe 1000 r
 tx:(textF r).length<2 ^ 28
theorem Zgp:ReOk XG:=by have a:=Vt XG;have b:cntN XG=1:=kr;exact⟨ZG3,om⟩
theorem ZB0{l}(h:FewL l):ReOk (Zj2 (sevS 4 l)):=by unfold Zj2;split;exact⟨h.re,h.txt⟩;exact Zgp
theorem Ww(k:Int)(t):ReOk (Xz k t).1:=by unfold Xz;by_cases a:mayP k t=false;rw[uF a];exact Zgp;rw[uE a];split;exact Zgp;exact ZB0 (Zcj (su a))
theorem Zyk(d:ZQ UY.P 75)(b:ZE UY.P 76){r}(c:ReOk r):PCon UY 10 [.agg (Zd r)] (· = .tup [.agg (auC (JF r).1),I (JF r).2]):=by have h:=ZA1 d b (B:=1000) dc c.wf (Zox (B:=1000) dc c.wf c.tx);unfold ZFg at h;unfold JF;split;rename_i g;rw[uF g]at h;exact h;rename_i g;rw[uE g]at h;split;rename_i a;rw[uF a]at h;exact h;rename_i a;rw[uE a]at h;exact h
theorem ZOi{B:Nat}{r:Re}(f:wfRe B r)(n:cntRe r<=300):OkA (Zop boS r):=by
 obtain⟨e,b,g⟩:=Zap r f ⟨[],[]⟩ ⟨rfl,λl a=>by cases a⟩;unfold Zop auF;generalize partF boS r ⟨[],[]⟩=S at e b g;have i:S.1.sets.length<=300:=by simp at g;omega
 have c:=e.wf;have d: ∀l∈S.1.fol.map ints,risB l S.1.sets.length=true/\l.length<=300:=λl a=>by
  obtain⟨m,h,rfl⟩:=uW.1 a;have:=(e.fo m h).len;exact⟨Zpf (e.fo m h),by simp;omega⟩
 have j:=b.fi.len;have k:=b.la.len;refine⟨?_,?_⟩;simp only[mayA,qC,i,c,Zpf b.fi,Zpf b.la,decide_true,uT];exact uP.2 λl a=>(d l a).1;simp only[Zmc,qC,i,c,qrq,vL];exact⟨⟨⟨⟨trivial,om⟩,om⟩,trivial⟩,uP.2 λl a=>su ((d l a).2)⟩
theorem Zry{r:Re}(e:ReOk r)(h:(JF r).2=0):(JF r).1=Zop boS r/\mayE r=true/\anchB r=false/\cntRe r<=300:=by unfold JF at h ⊢;split at h;cases h;rename_i g;rw[uE g];split at h;cases h;rename_i a;rw[uE a];obtain⟨_,_,b⟩:=Zen r e.wf;refine⟨rfl,?_,?_,?_⟩;cases d:mayE r;exact absurd (.inl d) g;rfl;cases c:anchB r;rfl;exact absurd (.inr c) g;rcases Nat.lt_or_ge 300 (cntRe r)with h4|h4;have:=b h4;omega;exact h4
theorem Zcm{r}(a:ReOk r)(h:(JF r).2=0):OkA (JF r).1:=by
 obtain⟨e,_,_,b⟩:=Zry a h;rw[e];exact ZOi a.wf b
def tabW(a:Au)(most:Nat)(b le:List Nat):Option Dn:=match Jd a most le (most+1) 0 [] [] [] with
 |some (N,G)=>some ⟨b,N,G⟩
 |none=>none
def tabD(a:Au)(most:Nat):Option Dn:=tabW a most (srtS a.sets 256).1 (srtS a.sets 256).2
theorem Zil{a}{most:Nat}(h:tabD a most=none):Ztu a most= .tup [.agg zDfaF,I 9]:=by
 unfold tabD tabW at h;unfold Ztu Zmz;revert h;generalize srtS a.sets 256=p;intro h
 cases b:Jd a most p.2 (most+1) 0 [] [] [] with
 |none=>rfl
 |some x=>rw[b]at h;cases h
theorem Zim{a}{most:Nat}{d:Dn}(h:tabD a most=some d):Ztu a most= .tup [.agg (dfaC d.cl d.N d.G),I 0]:=by
 unfold tabD tabW at h;unfold Ztu Zmz;revert h;generalize srtS a.sets 256=p;intro h
 cases b:Jd a most p.2 (most+1) 0 [] [] [] with
 |none=>rw[b]at h;cases h
 |some x=>rw[b]at h;cases h;rfl
theorem Zbe{a}(f:OkA a){most:Nat}(e:1<=most)(g:most<=300){d:Dn}(h:tabD a most=some d): ∃w,DOk d.cl d.N d.G w:=by
 have b:=λ{N:List (List Int)} {G:List Bool} =>ZHm f e g (N:=N) (G:=G);unfold tabD tabW at h;revert h b;generalize srtS a.sets 256=p;intro h b
 cases c:Jd a most p.2 (most+1) 0 [] [] [] with
 |none=>rw[c]at h;cases h
 |some x=>rw[c]at h;cases h;exact⟨_,b c⟩
/-! ### Sure -/
def ZOj(x y:Option Dn):Bool×Int:=match x,y with
 |none,_=>(false,9)
 |some _,none=>(false,9)
 |some d,some e=>(!Qy d e,0)
def Zm5(most:Nat)(x y:Au×Int):Bool×Int:=if x.2=0 then if y.2=0 then ZOj (tabD x.1 most) (tabD y.1 most)else(false,y.2)else(false,x.2)
def Zm6(most:Nat)(x y:Re×Int):Bool×Int:=if x.2=0 then if y.2=0 then Zm5 most (JF x.1) (JF y.1)else(false,y.2)else(false,x.2)
def Zbf(k1:Int)(a:List UInt8)(k2:Int)(b:List UInt8)(most:Nat):Bool×Int:=Zm6 most (Xz k1 a) (Xz k2 b)
theorem ZB1{d e:Dn}{u w:Nat}(n:DOk d.cl d.N d.G u)(o:DOk e.cl e.N e.G w)(h):Con eY_ 39 [.agg (dfaC d.cl d.N d.G), .agg (dfaC e.cl e.N e.G)] h λv _=> ∃s,v= .tup [.s s, .b (Qy d e)]:=by
 have a:Xp [.agg (dfaC d.cl d.N d.G), .agg (dfaC e.cl e.N e.G)]=true:=by
  show(ZZ (dfaC d.cl d.N d.G)&&(ZZ (dfaC e.cl e.N e.G)&&true))=true;rw[WT,WT];rfl
 have j:=Zbd d.cl d.N d.G;have k:=Zbd e.cl e.N e.G;have g:=QV d.cl d.N d.G n.c256;have i:=QV e.cl e.N e.G o.c256;have l:=ZH3 n o;have t:PCon eY_ 39 [.agg (dfaC d.cl d.N d.G), .agg (dfaC e.cl e.N e.G)] (λv=> ∃s,v= .tup [.s s, .b (Qy d e)]):=by
  revert l a j k g i;generalize dfaC d.cl d.N d.G=c;generalize dfaC e.cl e.N e.G=f;intro a j k g i l;refine Zv eK_ (fn:=Tryz.f39) a ZN6 rfl ?_;refine ifT (by rw[j];simp[g]) (ifT (by rw[k];simp[i]) ?_);have p:((Heap.empty.push (.arr c true)).push (.arr f true)).get Heap.empty.nx=some (.arr c true):=by rw[qk,uE sm,qk,uF rfl]
  have q:((Heap.empty.push (.arr c true)).push (.arr f true)).get (Heap.empty.nx+1)=some (.arr f true):=by rw[qk,uF sm]
  refine⟨c,by rw[Zr p,ql];exact ZC g.symm,f,by rw[Zr q,ql];exact ZC i.symm,?_⟩;refine(Con.ofP [] (FrzAL.refl _) l).mono λv r ⟨⟨s,m⟩,_⟩=>⟨s,_,m,?_⟩;exact⟨.inr rfl,_,rfl,_, .tup _ _ (.cons _ _ _ _ (.s _) (.cons _ _ _ _ (.b _) .nil)),s,rfl⟩
 exact(Con.ofP [] (FrzAL.refl _) t).mono λv r m=>m.1
end Go.Y
namespace Go.Y
open Go.Proofs
set_option maxRecDepth 1000000
set_option maxHeartbeats 0
theorem ZOk{k1 s1 k2 s2 a h}(K):CP eY_ 13 (pre B_13) (.agg [I k1, .s s1]::.agg [I k2, .s s2]::I a::Rp 88) h [2,8,9,10,27,28,29] K=(K .normal 91 [I a, p_P h.nx, .p (some (h.nx+(1:Nat),0)), .p (some (h.nx+(1:Nat)+(1:Nat),0)),J [I k1, .s s1,I k2, .s s2] 2 (some 2),I (↑(2:Nat):Int),I 0] (((h.pushT (eY_.tag (93:Nat)) (YObj.arr [I 0,U 0,U 0,U 0,U 0,S none (0:Nat) (some (0:Nat)) (0:Nat),I 0,I 0,I 0,I 0,U 0,U 0,U 0,U 0,S none (0:Nat) (some (0:Nat)) (0:Nat),I 0,I 0,I 0] true)).pushT (eY_.tag (94:Nat)) (YObj.arr [S none (0:Nat) (some (0:Nat)) (0:Nat),S none (0:Nat) (some (0:Nat)) (0:Nat),S none (0:Nat) (some (0:Nat)) (0:Nat),S none (0:Nat) (some (0:Nat)) (0:Nat),.b false,S none (0:Nat) (some (0:Nat)) (0:Nat),S none (0:Nat) (some (0:Nat)) (0:Nat),S none (0:Nat) (some (0:Nat)) (0:Nat),S none (0:Nat) (some (0:Nat)) (0:Nat),.b false] true)).pushT (eY_.tag (99:Nat)) (YObj.arr (zDfa++zDfa) true))):=kr
theorem Zyl{k1 s1 k2 s2 e d f g a h}(K):CP eY_ 13 (lp_ B_13) (MZ 91 [2,8,9,10,27,28,29] [I e,p_P d,p_P f,p_P g,J [I k1,.s s1,I k2,.s s2] 2 (some 2),I 2,I a]) h [2,6,7,8,9,10,27,28,29] K=(If (ltI a 2) (((0:Int)<=a/\a<(↑(2:Nat):Int))/\ ∃c i,Zs 2 (List.drop (a.toNat*2) [I k1,.s s1,I k2,.s s2])=some [I c,.s i]/\ ∃j l m n o q r t u w x y,(PCon eY_ 20 [.agg [I c,.s i]] fun(v:V)=>v=.tup [.agg (R9 j l m n o q r t u w x),I y])/\If (y !=(0:Int)) (K .ret 91 [I e, .b false,I y, p_P d, p_P f, p_P g,J [I k1, .s s1,I k2, .s s2] 2 (some 2),I 2,I a] h) (((0:Int)<=a/\a<(↑(2:Nat):Int))/\ ∃z,Zi h d ((0:Nat)+a.toNat*9) (R9 j l m n o q r t u w x)=some z/\K .normal 91 [I e,Ud,Ud, p_P d, p_P f, p_P g,J [I k1, .s s1,I k2, .s s2] 2 (some 2),I 2,I (wW (a+(1:Int)))] z)) (K (.exit 0) 91 [I e,Ud,Ud, p_P d, p_P f, p_P g,J [I k1, .s s1,I k2, .s s2] 2 (some 2),I 2,I a] h)):=kr
theorem ZOl{a b d e h}(K):CP eY_ 13 (pre ((post B_13).drop 1)) (MZ 91 [2,8,9,10] [I a,p_P b,p_P d,p_P e]) h [2,9,10,46,47] K=(∃c f g i j l m n o q r s t u v w x y z k p A,Zb h b 0 18=some [I c,U f,U g,U i,U j,J l m n,I o,I q,I r,I s,U t,U u,U v,U w,J x y z,I k,I p,I A]/\K .normal 91 [I a, p_P d, p_P e, .agg [I c,U f,U g,U i,U j,J l m n,I o,I q,I r,I s,U t,U u,U v,U w,J x y z,I k,I p,I A],I 0] h):=kr
theorem ZOm{g a j k0 p0 p1 p2 p3 d n0 e f m0 k3 q0 q1 q2 q3 m n1 o q m1 h}(K):CP eY_ 13 (lp_ ((post B_13).drop 1)) (MZ 91 [2,9,10,46,47] [I g,p_P a,p_P j,.agg [I k0,U p0,U p1,U p2,U p3,J d n0 none,I e,I f,I m0,I k3,U q0,U q1,U q2,U q3,J m n1 none,I o,I q,I m1],I 0]) h [2,6,7,9,10,46,47] K=(∃b c i l n r s t u w x y z k,(PCon eY_ 10 [.agg (R9 k0 p0 p1 p2 p3 d n0 none e f m0)] fun(v:V)=>v=.tup [.agg [J b c i,J l n r,J s t u,J w x y,.b z],I k])/\If (k !=(0:Int)) (K .ret 91 [I g, .b false,I k, p_P a, p_P j, .agg [I k0,U p0,U p1,U p2,U p3,J d n0 none,I e,I f,I m0,I k3,U q0,U q1,U q2,U q3,J m n1 none,I o,I q,I m1],I 0] h) (((0:Int)<=(0:Int)/\(0:Int)<(↑(2:Nat):Int))/\ ∃p,Zi h a 0 [J b c i,J l n r,J s t u,J w x y,.b z]=some p/\K .normal 91 [I g,Ud,Ud, p_P a, p_P j, .agg [I k0,U p0,U p1,U p2,U p3,J d n0 none,I e,I f,I m0,I k3,U q0,U q1,U q2,U q3,J m n1 none,I o,I q,I m1],I (wW ((0:Int)+(1:Int)))] p)):=kr
theorem ZOn{g a j k0 p0 p1 p2 p3 m n0 o q m0 k3 q0 q1 q2 q3 d n1 e f m1 h}(K):CP eY_ 13 (lp_ ((post B_13).drop 1)) (MZ 91 [2,9,10,46,47] [I g,p_P a,p_P j,.agg [I k0,U p0,U p1,U p2,U p3,J m n0 none,I o,I q,I m0,I k3,U q0,U q1,U q2,U q3,J d n1 none,I e,I f,I m1],I 1]) h [2,6,7,9,10,46,47] K=(∃b c i l n r s t u w x y z k,(PCon eY_ 10 [.agg (R9 k3 q0 q1 q2 q3 d n1 none e f m1)] fun(v:V)=>v=.tup [.agg [J b c i,J l n r,J s t u,J w x y,.b z],I k])/\If (k !=(0:Int)) (K .ret 91 [I g, .b false,I k, p_P a, p_P j, .agg [I k0,U p0,U p1,U p2,U p3,J m n0 none,I o,I q,I m0,I k3,U q0,U q1,U q2,U q3,J d n1 none,I e,I f,I m1],I 1] h) (((0:Int)<=(1:Int)/\(1:Int)<(↑(2:Nat):Int))/\ ∃p,Zi h a 5 [J b c i,J l n r,J s t u,J w x y,.b z]=some p/\K .normal 91 [I g,Ud,Ud, p_P a, p_P j, .agg [I k0,U p0,U p1,U p2,U p3,J m n0 none,I o,I q,I m0,I k3,U q0,U q1,U q2,U q3,J d n1 none,I e,I f,I m1],I (wW ((1:Int)+(1:Int)))] p)):=kr
theorem ZOo{a b c k0 p0 p1 p2 p3 d n0 e f m0 k3 q0 q1 q2 q3 g n1 j l m1 h}(K):CP eY_ 13 (lp_ ((post B_13).drop 1)) (MZ 91 [2,9,10,46,47] [I a,p_P b,p_P c,.agg [I k0,U p0,U p1,U p2,U p3,J d n0 none,I e,I f,I m0,I k3,U q0,U q1,U q2,U q3,J g n1 none,I j,I l,I m1],I 2]) h [2,6,7,9,10,46,47] K=(K (.exit 2) 91 [I a,Ud,Ud, p_P b, p_P c, .agg [I k0,U p0,U p1,U p2,U p3,J d n0 none,I e,I f,I m0,I k3,U q0,U q1,U q2,U q3,J g n1 none,I j,I l,I m1],I 2] h):=kr
theorem ZOp{a d e h}(K):CP eY_ 13 (pre ((post ((post B_13).drop 1)).drop 1)) (MZ 91 [2,9,10] [I a,p_P d,p_P e]) h [2,10,63,64] K=(∃b c f g i j l m n o q r s t u v w x y z k p A B C D,Zb h d 0 10=some [J b c f,J g i j,J l m n,J o q r,.b s,J t u v,J w x y,J z k p,J A B C,.b D]/\K .normal 91 [I a, p_P e, .agg [J b c f,J g i j,J l m n,J o q r, .b s,J t u v,J w x y,J z k p,J A B C, .b D],I 0] h):=kr
theorem ZOq{a c sa na fa d la e wa f ea sb nb fb g lb j wb l eb h}(K):CP eY_ 13 (lp_ ((post ((post B_13).drop 1)).drop 1)) (MZ 91 [2,10,63,64] [I a,p_P c,.agg [J sa na none,J fa d none,J la e none,J wa f none,.b ea,J sb nb none,J fb g none,J lb j none,J wb l none,.b eb],I 2]) h [2,6,7,10,63,64] K=(K (.exit 4) 91 [I a,Ud,Ud, p_P c, .agg [J sa na none,J fa d none,J la e none,J wa f none, .b ea,J sb nb none,J fb g none,J lb j none,J wb l none, .b eb],I 2] h):=kr
theorem ZOr{a h}(K):CP eY_ 13 ((post ((post ((post B_13).drop 1)).drop 1)).drop 1) (MZ 91 [10] [p_P a]) h [6,7] K=(((0:Int)<=(0:Int)/\(0:Int)<(↑(2:Nat):Int))/\ ∃b,Zb h a 0 258=some b/\((0:Int)<=(1:Int)/\(1:Int)<(↑(2:Nat):Int))/\ ∃c,Zb h a 258 258=some c/\Con eY_ 39 [.agg b,.agg c] h fun(v:V) (f:Heap)=> ∃d e,v=.tup [.s d,.b e]/\K .ret 91 [.b !e,I 0] f):=kr
theorem ZOs{a c sa na fa d la e wa f ea sb nb fb g lb j wb l eb h}(K):CP eY_ 13 (lp_ ((post ((post B_13).drop 1)).drop 1)) (MZ 91 [2,10,63,64] [I a,p_P c,.agg [J sa na none,J fa d none,J la e none,J wa f none,.b ea,J sb nb none,J fb g none,J lb j none,J wb l none,.b eb],I 0]) h [2,6,7,10,63,64] K=(∃i m,(PCon eY_ 38 [.agg [J sa na none,J fa d none,J la e none,J wa f none,.b ea],I a] λv=>v=.tup [.agg i,I m])/\If (decide (i.length=(258:Nat))&&Zp i) (∃n,Zi (h.pushT (eY_.tag (98:Nat)) (YObj.arr zDfa true)) h.nx 0 i=some n/\If (m !=(0:Int)) (K .ret 91 [I a, .b false,I m, p_P c, .agg [J sa na none,J fa d none,J la e none,J wa f none, .b ea,J sb nb none,J fb g none,J lb j none,J wb l none, .b eb],I 0] n) (∃o,Zb n h.nx 0 258=some o/\((0:Int)<=(0:Int)/\(0:Int)<(↑(2:Nat):Int))/\If (decide (o.length=(258:Nat))&&Zp o) (∃q,Zi n c 0 o=some q/\K .normal 91 [I a,Ud,Ud, p_P c, .agg [J sa na none,J fa d none,J la e none,J wa f none, .b ea,J sb nb none,J fb g none,J lb j none,J wb l none, .b eb],I (wW ((0:Int)+(1:Int)))] q) False)) False):=kr
theorem ZOt{a c sa na fa g la j wa l ea sb nb fb d lb e wb f eb h}(K):CP eY_ 13 (lp_ ((post ((post B_13).drop 1)).drop 1)) (MZ 91 [2,10,63,64] [I a,p_P c,.agg [J sa na none,J fa g none,J la j none,J wa l none,.b ea,J sb nb none,J fb d none,J lb e none,J wb f none,.b eb],I 1]) h [2,6,7,10,63,64] K=(∃i m,(PCon eY_ 38 [.agg [J sb nb none,J fb d none,J lb e none,J wb f none,.b eb],I a] λv=>v=.tup [.agg i,I m])/\If (decide (i.length=(258:Nat))&&Zp i) (∃n,Zi (h.pushT (eY_.tag (98:Nat)) (YObj.arr zDfa true)) h.nx 0 i=some n/\If (m !=(0:Int)) (K .ret 91 [I a, .b false,I m, p_P c, .agg [J sa na none,J fa g none,J la j none,J wa l none, .b ea,J sb nb none,J fb d none,J lb e none,J wb f none, .b eb],I 1] n) (∃o,Zb n h.nx 0 258=some o/\((0:Int)<=(1:Int)/\(1:Int)<(↑(2:Nat):Int))/\If (decide (o.length=(258:Nat))&&Zp o) (∃q,Zi n c 258 o=some q/\K .normal 91 [I a,Ud,Ud, p_P c, .agg [J sa na none,J fa g none,J la j none,J wa l none, .b ea,J sb nb none,J fb d none,J lb e none,J wb f none, .b eb],I (wW ((1:Int)+(1:Int)))] q) False)) False):=kr
end Go.Y
namespace Go.Y
open Go.Proofs Gl
set_option maxRecDepth 100000
set_option maxHeartbeats 2000000
theorem splA{b:Type} : ∀(l m a:List b),splice (l++m) l.length a=l++splice m 0 a
 | [],m,a=>rfl
 |x::l,m,a=>by
  show x::splice (l++m) l.length a=_;rw[splA l m a];rfl
structure SuI(id8 id9 id10:Nat)(c8 c9 c10:List V)(h:Heap):Prop where
 g8:h.get id8=some (.arr c8 true)
 g9:h.get id9=some (.arr c9 true)
 g10:h.get id10=some (.arr c10 true)
 ne:id8≠id9∧id8≠id10∧id9≠id10
 lt:id8<h.nx∧id9<h.nx∧id10<h.nx
theorem SuI.s8{b d a:Nat}{e f c:List V}{h}(s:SuI b d a e f c h){o:Nat}{new:List V}(i:o+new.length<=e.length): ∃g,Zi h b o new=some g/\SuI b d a (splice e o new) f c g:=
 ⟨_,ZL s.g8 i,by rw[qc,uF rfl],by rw[qc,uE (Ne.symm s.ne.1)];exact s.g9,by rw[qc,uE (Ne.symm s.ne.2.1)];exact s.g10,s.ne,s.lt⟩
theorem SuI.s9{d b a:Nat}{f e c:List V}{h}(s:SuI d b a f e c h){o:Nat}{new:List V}(i:o+new.length<=e.length): ∃g,Zi h b o new=some g/\SuI d b a f (splice e o new) c g:=
 ⟨_,ZL s.g9 i,by rw[qc,uE s.ne.1];exact s.g8,by rw[qc,uF rfl],by rw[qc,uE (Ne.symm s.ne.2.2)];exact s.g10,s.ne,s.lt⟩
theorem SuI.s10{c d a:Nat}{e f b:List V}{h}(s:SuI c d a e f b h){o:Nat}{new:List V}(i:o+new.length<=b.length): ∃g,Zi h a o new=some g/\SuI c d a e f (splice b o new) g:=
 ⟨_,ZL s.g10 i,by rw[qc,uE s.ne.2.1];exact s.g8,by rw[qc,uE s.ne.2.2];exact s.g9,by rw[qc,uF rfl],s.ne,s.lt⟩
theorem SuI.same{b c a:Nat}{c8 c9 c10}{h d:Heap}(s:SuI b c a c8 c9 c10 h)(f:h.nx<=d.nx)(e: ∀j,j<h.nx->d.get j=h.get j):SuI b c a c8 c9 c10 d:=
 ⟨by rw[e _ s.lt.1];exact s.g8,by rw[e _ s.lt.2.1];exact s.g9,by rw[e _ s.lt.2.2];exact s.g10,s.ne,by have:=s.lt;omega⟩
abbrev zRe9:List V:= [I 0,U 0,U 0,U 0,U 0, .sl none 0 (some 0) 0,I 0,I 0,I 0]
abbrev zAu5:List V:= [.sl none 0 (some 0) 0, .sl none 0 (some 0) 0, .sl none 0 (some 0) 0, .sl none 0 (some 0) 0, .b false]
def resB(x:Bool×Int):V:= .tup [.b x.1, .i .i64 x.2]
abbrev FinB(x:Bool×Int):Out->St->Prop:=FinS eY_ Tryz.f13 λv h=> ∃r,Frz h v r/\r=resB x
theorem finB{a:List Nat}{vs}{h}{n:Nat}{x:Bool×Int}{b:Bool}{e:Int}(c:Zbw (a.zip vs) 6=some (.b b))(d:Zbw (a.zip vs) 7=some (I e))(g:x=(b,e)):AtV a (FinB x) .ret n vs h:=by
 have f:Tryz.f13.results.toList= [.tmp 6, .tmp 7]:=kr;refine Xc (.inr rfl) (v:= .tup [.b b,I e]) ?_ ⟨_, .tup _ _ (.cons _ _ _ _ (.b _) (.cons _ _ _ _ (.i _ _) .nil)),by rw[g];rfl⟩;unfold resV;rw[f];simp only[Zd5,Zd4,c,d]
 rfl
theorem Zym{r}{e:Int}{f}{args}(c:PCon eY_ f args (· =ZG2 r e)){K:Int->Int->Int->Int->Int->List V->Nat->Option Nat->Int->Int->Int->Int->Prop}
  (y: ∀k t u w x a l p s q n e',Zd r= [I k,U t,U u,U w,U x, .ts a l p,I s,I q,I n]->e'=e->K k t u w x a l p s q n e'):
  ∃n b d g h a l c i j m o,(PCon eY_ f args λv=>v= .tup [.agg [I n,U b,U d,U g,U h, .ts a l c,I i,I j,I m],I o])/\K n b d g h a l c i j m o:=by
 unfold ZG2 at c;obtain⟨C,F,D,B,A,E⟩:=r;exact⟨_,_,_,_,_,_,_,_,_,_,_,_,c.mono λv z=>by rw[z,ZJ],y _ _ _ _ _ _ _ _ _ _ _ _ (Zn _ _ _ _ _ _) rfl⟩
theorem Zin:zDfaF.length=258/\Zp zDfaF=true:=⟨by unfold zDfaF;simp,kr⟩
theorem Zyn:(zDfa++zDfa).length=516:=by rw[qf,Qc]
noncomputable abbrev L13a:List Code:=post B_13
noncomputable abbrev L13b:List Code:=post (L13a.drop 1)
noncomputable abbrev L13c:List Code:=post (L13b.drop 1)
theorem ZOu{j k a:Nat}{c8 c9}{d e:Dn}{t u:Nat}(m:DOk d.cl d.N d.G t)(n:DOk e.cl e.N e.G u){h}(s:SuI j k a c8 c9 (dfaC d.cl d.N d.G++dfaC e.cl e.N e.G) h){x:Bool×Int}(r:x=(!Qy d e,0)):
  TriL eY_ (L13c.drop 1) ⟨mk 91 ([10].zip [p_P a]),[],h⟩ (FinB x):=by
 refine Zo eK_ ZOr rfl ?_;have c:=QV d.cl d.N d.G m.c256;have l:=QV e.cl e.N e.G n.c256;have f:=ZB1 m n h;have g:=s.g10;revert c l f g;generalize dfaC d.cl d.N d.G=o;generalize dfaC e.cl e.N e.G=p;intro c l f g;refine⟨⟨dc,dc⟩,o,?_,⟨dc,dc⟩,p,?_,f.mono λv w ⟨s,q⟩=>⟨s,_,q,?_⟩⟩;rw[Zr g,ql,WH (by simp;omega),List.take_left' c];rw[Zr g,List.drop_left' c];exact ZC l.symm;exact⟨.inr rfl,_,rfl,_, .tup _ _ (.cons _ _ _ _ (.b _) (.cons _ _ _ _ (.i _ _) .nil)),by rw[r];rfl⟩
theorem ZOv(hs:ZQ UY.P 75)(E:ZE UY.P 76){u r k:Nat}{c8}{a b:Au}(K:OkA a)(W:OkA b){most:Nat}(n:1<=most)(B:most<=300){h}(s:SuI u r k c8 (auC a++auC b) (zDfa++zDfa) h){x:Bool×Int}(Z:x=ZOj (tabD a most) (tabD b most)):
  TriL eY_ (L13b.drop 1) ⟨mk 91 ([2,9,10].zip [I most, p_P r, p_P k]),[],h⟩ (FinB x):=by
 have C:=PCon.ze (ZD7 hs E K most n B);have D:=PCon.ze (ZD7 hs E W most n B);refine Zh eK_ 91 ZOp rfl ?_;refine⟨_,_,_,_,_,_,_,_,_,_,_,_,_,_,_,_,_,_,_,_,_,_,_,_,_,_,(Zr s.g9 0 10).trans rfl,?_⟩;refine⟨rfl,ZM [2,10,63,64] [2,6,7,10,63,64] (λm vs g=> ∃(i:Nat) (c:List V),vs= [I most, p_P k, .agg (auC a++auC b),I (i:Nat)]/\SuI u r k c8 (auC a++auC b) c g/\
  ((i=0/\m=2/\c=zDfa++zDfa)\/(i=1/\m=1/\ ∃d,tabD a most=some d/\c=dfaC d.cl d.N d.G++zDfa)\/(i=2/\m=0/\ ∃d e,tabD a most=some d/\tabD b most=some e/\c=dfaC d.cl d.N d.G++dfaC e.cl e.N e.G))) 2 ZA ⟨0,_,rfl,s, .inl ⟨rfl,rfl,rfl⟩⟩ ?_⟩
 rintro m vs g ⟨i,c,rfl,s1,⟨rfl,rfl,rfl⟩|⟨rfl,rfl,d,y,rfl⟩|⟨rfl,rfl,d,e,y,L,rfl⟩⟩
 .refine Zm eK_ ZOs rfl ?_;have l: ∀f:List V,f.length=258->Zi (g.pushT (eY_.tag 98) (.arr zDfa true)) g.nx 0 f=some ((g.pushT (eY_.tag 98) (.arr zDfa true)).set g.nx (some (.arr f true))):=λf hl=>by
   have:=ZL (h:=g.pushT (eY_.tag 98) (.arr zDfa true)) (id:=g.nx) (off:=0) (cs:=zDfa) (new:=f) (by rw[qj,uF rfl]) (by rw[Qc];omega);rw[this,Qv,qB (by rw[Qc];omega),qi]
  obtain⟨o,t⟩: ∃o,tabD a most=o:=⟨_,rfl⟩
  cases o with
  |none=>
   rw[Zil t]at C;refine⟨zDfaF,9,C,ifT (by rw[Zin.2];simp[Zin.1]) ⟨_,l zDfaF Zin.1,ifT rfl ?_⟩⟩;exact finB rfl rfl (by rw[Z,t];rfl)
  |some d=>
   rw[Zim t]at C;obtain⟨w,y⟩:=Zbe K n B t;have p:=QV d.cl d.N d.G y.c256;have v:=Zbd d.cl d.N d.G;have q:splice (zDfa++zDfa) 0 (dfaC d.cl d.N d.G)=dfaC d.cl d.N d.G++zDfa:=by rw[Qv,List.drop_left' (by rw[Qc,p])]
   revert C p v q;generalize hD:dfaC d.cl d.N d.G=f;intro C p v q;have O:SuI u r k c8 (auC a++auC b) (zDfa++zDfa) ((g.pushT (eY_.tag 98) (.arr zDfa true)).set g.nx (some (.arr f true))):=s1.same sm (λj hj=>by rw[qc,uE om,qj,uE om]);obtain⟨H,F,z⟩:=O.s10 (o:=0) (new:=f) (by rw[Zyn];omega);refine⟨f,0,C,ifT (by rw[v];simp[p]) ⟨_,l f p,ifF rfl ⟨f,?_,⟨dc,dc⟩,ifT (by rw[v];simp[p]) ⟨H,F,?_⟩⟩⟩⟩;rw[Zr (by rw[qc,uF rfl]),ql];exact ZC p.symm;rw[q]at z;exact⟨rfl,1,dc,1,_,rfl,z, .inr (.inl ⟨rfl,rfl,d,t,by rw[hD]⟩)⟩
 .refine Zm eK_ ZOt rfl ?_;have l: ∀f:List V,f.length=258->Zi (g.pushT (eY_.tag 98) (.arr zDfa true)) g.nx 0 f=some ((g.pushT (eY_.tag 98) (.arr zDfa true)).set g.nx (some (.arr f true))):=λf hl=>by
   have:=ZL (h:=g.pushT (eY_.tag 98) (.arr zDfa true)) (id:=g.nx) (off:=0) (cs:=zDfa) (new:=f) (by rw[qj,uF rfl]) (by rw[Qc];omega);rw[this,Qv,qB (by rw[Qc];omega),qi]
  obtain⟨w,A⟩:=Zbe K n B y;have l0:=QV d.cl d.N d.G A.c256;obtain⟨o,t⟩: ∃o,tabD b most=o:=⟨_,rfl⟩
  cases o with
  |none=>
   rw[Zil t]at D;refine⟨zDfaF,9,D,ifT (by rw[Zin.2];simp[Zin.1]) ⟨_,l zDfaF Zin.1,ifT rfl ?_⟩⟩;exact finB rfl rfl (by rw[Z,t,y];rfl)
  |some e=>
   rw[Zim t]at D;obtain⟨w2,L⟩:=Zbe W n B t;have p:=QV e.cl e.N e.G L.c256;have v:=Zbd e.cl e.N e.G;have q:splice (dfaC d.cl d.N d.G++zDfa) 258 (dfaC e.cl e.N e.G)=dfaC d.cl d.N d.G++dfaC e.cl e.N e.G:=by
    have:=splA (dfaC d.cl d.N d.G) zDfa (dfaC e.cl e.N e.G);rw[l0]at this;rw[this,Qv,qB (by rw[Qc];omega),qi]
   have Y:(dfaC d.cl d.N d.G++zDfa).length=516:=by rw[qf,l0,Qc]
   have O:SuI u r k c8 (auC a++auC b) (dfaC d.cl d.N d.G++zDfa) ((g.pushT (eY_.tag 98) (.arr zDfa true)).set g.nx (some (.arr (dfaC e.cl e.N e.G) true))):=s1.same sm (λj hj=>by rw[qc,uE om,qj,uE om]);obtain⟨H,F,z⟩:=O.s10 (o:=258) (new:=dfaC e.cl e.N e.G) (by rw[Y];omega);rw[q]at z;have goal: ∀f,f=dfaC e.cl e.N e.G-> ∃m':Nat,m'=0/\ ∃(i:Nat) (c:List V),i=2/\SuI u r k c8 (auC a++auC b) c H/\ ∃d e,tabD a most=some d/\tabD b most=some e/\c=dfaC d.cl d.N d.G++dfaC e.cl e.N e.G:=λf _=>⟨0,rfl,2,_,rfl,z,d,e,y,t,rfl⟩;clear z O q;revert D p v F goal;generalize dfaC e.cl e.N e.G=f;intro D p v F goal;obtain⟨m',rfl,i,c,rfl,z,d',e',q1,q2,q3⟩:=goal f rfl;refine⟨f,0,D,ifT (by rw[v];simp[p]) ⟨_,l f p,ifF rfl ⟨f,?_,⟨dc,dc⟩,ifT (by rw[v];simp[p]) ⟨H,F,?_⟩⟩⟩⟩;rw[Zr (by rw[qc,uF rfl]),ql];exact ZC p.symm;exact⟨rfl,0,dc,2,_,rfl,z, .inr (.inr ⟨rfl,rfl,d',e',q1,q2,q3⟩)⟩
 .refine Zm eK_ ZOq rfl ?_;obtain⟨w1,A⟩:=Zbe K n B y;obtain⟨w2,X⟩:=Zbe W n B L;refine Zj [10] ?_;exact ZOu A X s1 (by rw[Z,y,L];rfl)
end Go.Y
namespace Go.Y
open Go.Proofs Gl
set_option maxRecDepth 100000
set_option maxHeartbeats 2000000
theorem ZOw(E:ZQ UY.P 75)(p:ZE UY.P 76){q f b:Nat}{r1 w:Re}(W:ReOk r1)(X:ReOk w){most:Nat}(D:1<=most)(hm:most<=300){h}(s:SuI q f b (Zd r1++Zd w) (zAu5++zAu5) (zDfa++zDfa) h){x:Bool×Int}(u:x=Zm5 most (JF r1) (JF w)):
  TriL eY_ (L13a.drop 1) ⟨mk 91 ([2,8,9,10].zip [I most, p_P q, p_P f, p_P b]),[],h⟩ (FinB x):=by
 have z:=PCon.ze (Zyk E p W);have A:=PCon.ze (Zyk E p X);have G:=Zcm W;have H:=Zcm X;revert z A G H u;generalize JF r1=t;generalize JF w=y;intro u z A G H;obtain⟨k,B,v,lo,Z,n⟩:=r1;obtain⟨k',j,r,F,C,n'⟩:=w;rw[Zn]at z A;rw[Zn,Zn]at s;refine Zh eK_ 91 ZOl rfl ?_;refine⟨_,_,_,_,_,_,_,_,_,_,_,_,_,_,_,_,_,_,_,_,_,_,(Zr s.g8 0 18).trans rfl,?_⟩;refine⟨rfl,ZM [2,9,10,46,47] [2,6,7,9,10,46,47] (λm Y g=> ∃(i:Nat) (c:List V),Y= [I most, p_P f, p_P b, .agg ([I k,U B.1,U B.2.1,U B.2.2.1,U B.2.2.2,lst Zd v,I lo,I Z,I n]++ [I k',U j.1,U j.2.1,U j.2.2.1,U j.2.2.2,lst Zd r,I F,I C,I n']),I (i:Nat)]/\ ∃O,SuI q f b O c (zDfa++zDfa) g/\
  ((i=0/\m=2/\c=zAu5++zAu5)\/(i=1/\m=1/\t.2=0/\c=auC t.1++zAu5)\/(i=2/\m=0/\t.2=0/\y.2=0/\c=auC t.1++auC y.1))) 2 ZA ⟨0,_,rfl,_,s, .inl ⟨rfl,rfl,rfl⟩⟩ ?_⟩
 rintro m Y g ⟨i,c,rfl,O,N,⟨rfl,rfl,rfl⟩|⟨rfl,rfl,d,rfl⟩|⟨rfl,rfl,d,e,rfl⟩⟩;refine Zm eK_ ZOm rfl ?_;refine⟨_,_,_,_,_,_,_,_,_,_,_,_,_,_,z,Zf (λa=> ?_) (λa=> ?_)⟩;have a: ¬t.2=0:=su a;exact finB rfl rfl (by rw[u,Zm5,uE a]);have a:t.2=0:=su a;obtain⟨l,K,L⟩:=N.s9 (o:=0) (new:=auC t.1) sm;exact⟨⟨dc,dc⟩,l,K,rfl,1,dc,1,_,rfl,_,L, .inr (.inl ⟨rfl,rfl,a,rfl⟩)⟩;refine Zm eK_ ZOn rfl ?_;refine⟨_,_,_,_,_,_,_,_,_,_,_,_,_,_,A,Zf (λa=> ?_) (λa=> ?_)⟩;have a: ¬y.2=0:=su a;exact finB rfl rfl (by rw[u,Zm5,uF d,uE a]);have a:y.2=0:=su a;obtain⟨l,K,L⟩:=N.s9 (o:=5) (new:=auC y.1) sm;exact⟨⟨dc,dc⟩,l,K,rfl,0,dc,2,_,rfl,_,L, .inr (.inr ⟨rfl,rfl,d,a,rfl⟩)⟩;refine Zm eK_ ZOo rfl ?_;refine Zj [2,9,10] ?_;exact ZOv E p (G d) (H e) D hm N (by rw[u,Zm5,uF d,uF e])
theorem Zrz(Y:ZQ UY.P 75)(C:ZE UY.P 76)(k1:Int)(t1:List UInt8)(k2:Int)(t2:List UInt8){most:Nat}(D:1<=most)(X:most<=300):
  PCon UY 13 [.agg [I k1, .s t1], .agg [I k2, .s t2],I most] (· =resB (Zbf k1 t1 k2 t2 most)):=by
 refine PCon.ez ?_;refine ZF eK_ (fn:=Tryz.f13) rfl ?_;have w:=PCon.ze (Zia k1 t1);have y:=PCon.ze (Zia k2 t2);rw[Ztw]at w y;have E:=Ww k1 t1;have F:=Ww k2 t2;unfold Zbf;revert w y E F;generalize Xz k1 t1=h;generalize Xz k2 t2=t;intro w y E F;obtain⟨x,z⟩: ∃x,x=Zm6 most h t:=⟨_,rfl⟩;rw[<-z];refine Zh eK_ 91 ZOk rfl ?_;obtain⟨B,K⟩: ∃B,B=((Heap.empty.pushT (eY_.tag 93) (.arr (zRe9++zRe9) true)).pushT (eY_.tag 94) (.arr (zAu5++zAu5) true)).pushT (eY_.tag 99) (.arr (zDfa++zDfa) true):=⟨_,rfl⟩;have A:SuI Heap.empty.nx (Heap.empty.nx+1) (Heap.empty.nx+1+1) (zRe9++zRe9) (zAu5++zAu5) (zDfa++zDfa) B:=by
  rw[K];refine⟨?_,?_,?_,om,by simp;omega⟩
  .rw[qj,uE (by simp<;>omega),qj,uE (by simp<;>omega),qj,uF rfl]
  .rw[qj,uE (by simp<;>omega),qj,uF sm]
  .rw[qj,uF sm]
 show _/\TriL eY_ _ ⟨_,[],((Heap.empty.pushT (eY_.tag 93) (.arr (zRe9++zRe9) true)).pushT (eY_.tag 94) (.arr (zAu5++zAu5) true)).pushT (eY_.tag 99) (.arr (zDfa++zDfa) true)⟩ _;rw[<-K];generalize Heap.empty.nx=q at A ⊢;generalize q+1=r at A ⊢;generalize r+1=j at A ⊢;refine⟨rfl,ZM [2,8,9,10,27,28,29] [2,6,7,8,9,10,27,28,29] (λm L g=> ∃(i:Nat) (c:List V),L= [I most, p_P q, p_P r, p_P j, .ts [I k1, .s t1,I k2, .s t2] 2 (some 2),I 2,I (i:Nat)]/\SuI q r j c (zAu5++zAu5) (zDfa++zDfa) g/\
  ((i=0/\m=2/\c=zRe9++zRe9)\/(i=1/\m=1/\h.2=0/\c=Zd h.1++zRe9)\/(i=2/\m=0/\h.2=0/\t.2=0/\c=Zd h.1++Zd t.1))) 2 ZA ⟨0,_,rfl,A, .inl ⟨rfl,rfl,rfl⟩⟩ ?_⟩
 rintro m L g ⟨i,c,rfl,H,⟨rfl,rfl,rfl⟩|⟨rfl,rfl,d,rfl⟩|⟨rfl,rfl,d,e,rfl⟩⟩
 .refine Zm eK_ Zyl rfl ?_;refine ifT rfl ⟨⟨dc,dc⟩,k1,t1,rfl,Zym w λk u0 u1 u2 u3 O l N Z W n e' b f=> ?_⟩;refine Zf (λa=> ?_) (λa=> ?_)
  .have a: ¬h.2=0:=by rw[<-f];simpa using a
   exact finB rfl rfl (by rw[z,Zm6,uE a,f])
  .have a:h.2=0:=by rw[<-f];simpa using a
   obtain⟨p,v,G⟩:=H.s8 (o:=0) (new:=Zd h.1) (by rw[b];simp);refine⟨⟨dc,dc⟩,p,by rw[b]at v;exact v,rfl,1,dc,1,_,rfl,G, .inr (.inl ⟨rfl,rfl,a,?_⟩)⟩;rw[b];rfl
 .refine Zm eK_ Zyl rfl ?_;refine ifT rfl ⟨⟨dc,dc⟩,k2,t2,rfl,Zym y λk u0 u1 u2 u3 O l N Z W n e' b f=> ?_⟩;have u:(Zd h.1).length=9:=by
   obtain⟨⟨_,_,_,_,_,_⟩,_⟩:=h;rw[Zn];rfl
  refine Zf (λa=> ?_) (λa=> ?_)
  .have a: ¬t.2=0:=by rw[<-f];simpa using a
   exact finB rfl rfl (by rw[z,Zm6,uF d,uE a,f])
  .have a:t.2=0:=by rw[<-f];simpa using a
   obtain⟨p,v,G⟩:=H.s8 (o:=9) (new:=Zd t.1) (by rw[b,qf,u];simp);refine⟨⟨dc,dc⟩,p,by rw[b]at v;exact v,rfl,0,dc,2,_,rfl,G, .inr (.inr ⟨rfl,rfl,d,a,?_⟩)⟩;have:=splA (Zd h.1) zRe9 (Zd t.1);rw[u]at this;rw[this,Qv,qB (by rw[b];simp),qi]
 .refine Zm eK_ Zyl rfl ?_;refine ifF rfl (Zj [2,8,9,10] ?_);exact ZOw Y C E F D X H (by rw[z,Zm6,uF d,uF e])
end Go.Y
