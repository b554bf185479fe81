/- A part of the proof. -/
import Derived.Test.YteennilbmmlikaaGreatDoorYLoop
import Derived.Test.YteennilbmmlikaaGreatDoorGSuA
import Derived.Test.YteennilbmmlikaaGreatDoorGOf2
import Derived.Test.YteennilbmmlikaaGreatDoorYAny3
import Derived.Test.YteennilbmmlikaaGreatDoorGA2
import Derived.Test.YteennilbmmlikaaGreatDoorGTrL
import Derived.Test.YteennilbmmlikaaGreatDoorGTrF
namespace Go.Y
open Go.Proofs
set_option maxRecDepth 1000000
set_option maxHeartbeats 0
theorem ZPh{k0 p0 p1 p2 p3 a n0 c d m0 s1 i2 i3 h}(K):CP vY_ 41 (B_41.take 6) (.agg (R9 k0 p0 p1 p2 p3 a n0 none c d m0)::.s s1::I i2::I i3::Rp 74) h [2,3,4,8,10,11] K=(∃b,(λf=>(PCon vY_ 42 [.agg (R9 k0 p0 p1 p2 p3 a n0 none c d m0)] λv=>v=.b b)/\If (!b) f (If (ltI i2 0) f (If (ltI i3 i2) f (If (ltI (↑s1.length:Int) i3) f (((0:Int)<=wW ((↑s1.length:Int)+(1:Int))/\wW ((↑s1.length:Int)+(1:Int))<=wW ((↑s1.length:Int)+(1:Int))/\wW ((↑s1.length:Int)+(1:Int))<=(most:Int)/\wW ((↑s1.length:Int)+(1:Int))*(↑(1:Nat):Int)<=(most:Int))/\((0:Int)<=i3/\i3<(↑(wW ((↑s1.length:Int)+(1:Int))).toNat:Int))/\1=1/\ ∃e,Zi ((h.push (YObj.arr [.s s1,I 0,I 0,I 0,I 0,I 0,I 0,I 0,I 0,I 0,I 0,I 0,I 0,I 0,I 0,I 0,I 0,I 0,I 0,I 0,I 0] true)).push (YObj.arr (List.replicate (wW ((↑s1.length:Int)+(1:Int))).toNat [.b false]).flatten true)) (h.nx+(1:Nat)) ((0:Nat)+i3.toNat*1) [.b true]=some e/\K .normal 78 [I i2,I i3, .lb (R9 k0 p0 p1 p2 p3 a n0 none c d m0), .lb I20, p_P h.nx,S (some (h.nx+(1:Nat),0)) (wW ((↑s1.length:Int)+(1:Int))).toNat (some (wW ((↑s1.length:Int)+(1:Int))).toNat) 1] e))))) (K .ret 78 [I i2,I i3, .lb (R9 k0 p0 p1 p2 p3 a n0 none c d m0), .lb I20,Ud,Ud] h)):=kr
theorem ZPi{k0 p0 p1 p2 p3 a n0 d e m0 i2 i3 f g j h}(K):CP vY_ 41 (pre (B_41.drop 6)) (MZ 78 [2,3,4,8,10,11] [I i2,I i3,.lb (R9 k0 p0 p1 p2 p3 a n0 none d e m0),.lb I20,p_P f,J g j none]) h [2,3,4,8,10,11,12] K=(Con vY_ 91 [p_P f,.agg (R9 k0 p0 p1 p2 p3 a n0 none d e m0),J g j none] h fun(v:V) (k:Heap)=> ∃b c i,v=J b c i/\(0<=i2/\i2<c)/\ ∃l,Zs 1 (List.drop (i2.toNat*1) b)=some [.b l]/\If (!l) (K .ret 78 [I i2,I i3, .lb (R9 k0 p0 p1 p2 p3 a n0 none d e m0), .lb I20, p_P f,J g j none,Ud] k) (K .normal 78 [I i2,I i3, .lb (R9 k0 p0 p1 p2 p3 a n0 none d e m0), .lb I20, p_P f,J g j none,I 0] k)):=kr
theorem ZPj{k0 p0 p1 p2 p3 c n0 d e m0 i2 i3 b f g a h}(K):CP vY_ 41 (lp_ (B_41.drop 6)) (MZ 78 [2,3,4,8,10,11,12] [I i2,I i3,.lb (R9 k0 p0 p1 p2 p3 c n0 none d e m0),.lb I20,p_P b,J f g none,I a]) h [2,3,4,8,10,11,12] K=(If (ltI a 10) (((0:Int)<=a/\a<(↑(10:Nat):Int))/\ ∃i,Zi h b ((0:Nat)+(1:Nat)+a.toNat*2) [I (-1),I (-1)]=some i/\K .normal 78 [I i2,I i3, .lb (R9 k0 p0 p1 p2 p3 c n0 none d e m0), .lb I20, p_P b,J f g none,I (wW (a+(1:Int)))] i) (K (.exit 0) 78 [I i2,I i3, .lb (R9 k0 p0 p1 p2 p3 c n0 none d e m0), .lb I20, p_P b,J f g none,I a] h)):=kr
theorem ZPk{k0 p0 p1 p2 p3 c n0 d e m0 i2 i3 a f g h}(K):CP vY_ 41 ((post (B_41.drop 6)).drop 1) (MZ 78 [2,3,4,8,10,11] [I i2,I i3,.lb (R9 k0 p0 p1 p2 p3 c n0 none d e m0),.lb I20,p_P a,J f g none]) h [8,9] K=(Con vY_ 92 [p_P a,.agg (R9 k0 p0 p1 p2 p3 c n0 none d e m0),I i2,J f g none] h fun(v:V) (F:Heap)=> ∃i,v=I i/\((0:Int)<=(0:Int)/\(0:Int)<(↑(10:Nat):Int))/\ ∃j,Zi F a 1 [I i2,I i3]=some j/\ ∃l m n o q r s t u w x y z k p A B C D E,Zb j a 1 20=some [I l,I m,I n,I o,I q,I r,I s,I t,I u,I w,I x,I y,I z,I k,I p,I A,I B,I C,I D,I E]/\K .ret 78 [.lb [I l,I m,I n,I o,I q,I r,I s,I t,I u,I w,I x,I y,I z,I k,I p,I A,I B,I C,I D,I E], .b true] j):=kr
abbrev Z20:V:=V.lb I20
abbrev AFd(idw:Nat)(k:Int)(a:Set4)(c:List Re)(e d n:Int)(i j:Int)(b:List Bool):List V:= [I i,I j, .lb [I k,U a.1,U a.2.1,U a.2.2.1,U a.2.2.2,lst Zd c,I e,I d,I n],Z20, p_P idw,lst Zl b]
def IsMt(v:V):Prop:= ∃l:List Int,l.length=20/\v= .agg (l.map (V.i .i64))
theorem Zae(h): ∀l:List Int,FrzL h (l.map (V.i .i64)) (l.map (V.i .i64))
 | []=> .nil
 |_::l=> .cons _ _ _ _ (.i _ _) (Zae h l)
inductive CutR (pre:List V) (id:Nat):Nat->Heap->Heap->Prop
 |stop {t:Nat} {h:Heap} :10<=t->CutR pre id t h h
 |step {t:Nat} {h h' h1:Heap} :t<10->Zi h id (0+pre.length+t*2) [I (-1),I (-1)]=some h'->CutR pre id (t+1) h' h1->CutR pre id t h h1
theorem Zt4(pre l a:List V)(o:Nat):splice (pre++l) (0+pre.length+o) a=pre++splice l o a:=by
 rw[uJ]
 induction pre with
 |nil=>rw[qp,uJ];rfl
 |cons v pre b=>
  rw[qh,show pre.length+1+o=(pre.length+o)+1 from om,qs,splice,b];rfl
theorem ZTc{pre:List V}{l:List Int}(c:l.length=20){m:Nat}(f:m<=9)(a b:Int): ∃d:List Int,d.length=20/\splice (pre++l.map (V.i .i64)) (0+pre.length+m*2) [I a,I b]=pre++d.map (V.i .i64):=by
 refine⟨(l.set (m*2) a).set (m*2+1) b,by simp[c],?_⟩;rw[Zt4]
 match l,c with
 | [g,h,j,k,n,o,p,q,r,s,t,u,v,w,x,y,z,A,B,C],_=>
  have:m=0\/m=1\/m=2\/m=3\/m=4\/m=5\/m=6\/m=7\/m=8\/m=9:=om;rcases this with e|e|e|e|e|e|e|e|e|e<;>subst e<;>rfl
def CutK(pre:List V)(a:Nat)(h:Heap):Prop:=a<h.nx/\ ∃l:List Int,l.length=20/\h.get a=some (.arr (pre++l.map (V.i .i64)) true)
theorem Zgw{pre:List V}{c:Nat}{h}(i:CutK pre c h){m:Nat}(j:m<=9)(a b:Int): ∃d,Zi h c (0+pre.length+m*2) [I a,I b]=some d/\CutK pre c d:=by obtain⟨n,l,e,o⟩:=i;obtain⟨k,f,g⟩:=ZTc (pre:=pre) e j a b;have:=ZL (off:=0+pre.length+m*2) (new:= [I a,I b]) o (by simp[e];omega);rw[g]at this;exact⟨_,this,by rw[Heap.nx_set];exact n,k,f,by rw[qc,uF rfl]⟩
theorem Zpm{pre}{c:Nat} : ∀(n t:Nat) {h:Heap},t+n=10->CutK pre c h-> ∃a,CutR pre c t h a/\CutK pre c a
 |0,t,h,e,b=>⟨h, .stop om,b⟩
 |n+1,t,h,e,b=>by
  obtain⟨j,d,f⟩:=Zgw b (m:=t) om (-1) (-1);obtain⟨a,g,i⟩:=Zpm n (t+1) om f;exact⟨a, .step om d g,i⟩
theorem ZPl{r:Re}(X:OvOk r)(hg:grpRe r)(hm:mayE r=true){s:List UInt8}(hs:s.length<2 ^ 19){i j:Nat}(a0:i<=j)(hj:j<=s.length)(e:StD s true true r i j):
  ∃m,IsMt m/\PCon vY_ 41 [.agg (Zd r), .s s,I i,I j] (· = .tup [m, .b true]):=by
 have d:=PCon.zv (Zgm X.fine);rw[hm]at d;have D:=X.wg;have hF:=λidw=>Zy6 (s:=s) (idw:=idw) hs r D hg;have g:(oneF (s.length+1) j).length=s.length+1:=by simp[oneF]
 have hR:=λ{idw h} (p:WayK s idw h)=>Zis D hs g p;have u:At (ZV r s (oneF (s.length+1) j)) i:=(Qi D g om).2 ⟨j,e,(Ziq om _).2 rfl⟩;have z:=XN r s (oneF (s.length+1) j);have y:=λidw h (p:WayK s idw h)=>hF idw i (oneF (s.length+1) j) h om g p ⟨j,e,(Ziq om _).2 rfl⟩;clear hF;rw[Zgu om]at u;have a:=Jy (ZV r s (oneF (s.length+1) j)) (i:=i) om;rw[u]at a;have E:(0:Int)<=(i:Int)/\(i:Int)<((ZV r s (oneF (s.length+1) j)).length:Nat):=⟨om,om⟩;have f: ∀ {idw h},WayK s idw h-> ∃C,WayK s idw C/\Con vY_ 91 [p_P idw, .agg (Zd r),lst Zl (oneF (s.length+1) j)] h λv H=>v=lst Zl (ZV r s (oneF (s.length+1) j))/\H=C:=λp=>⟨_,hR p⟩;clear hR e u;generalize ZV r s (oneF (s.length+1) j)=R at a E f z;have l: ∀ {idw h},WayK s idw h-> ∃(k:Nat) (x:Heap),WayK s idw x/\Con vY_ 92 [p_P idw, .agg (Zd r),I i,lst Zl (oneF (s.length+1) j)] h λv C=>v= I (k:Nat)/\C=x:=λp=>by
  obtain⟨k,x,_,_,q1,q2⟩:=y _ _ p;exact⟨k,x,q1,q2⟩
 clear y;clear D X hg hm;obtain⟨k,B,o,lo,hi,n⟩:=r;rw[Zn]at d ⊢;simp only[Zn]at f l;have Y:wW ((s.length:Int)+1)=((s.length+1:Nat):Int):=Ze om;have W:most=1099511627776:=dc;have n1:(Heap.empty.push (.arr (.s s::(List.replicate 20 (0:Int)).map (V.i .i64)) true)).nx=Heap.empty.nx+1:=sm;have g1:((Heap.empty.push (.arr (.s s::(List.replicate 20 (0:Int)).map (V.i .i64)) true)).push (.arr (row Zl (Zy (s.length+1))) true)).get (Heap.empty.nx+1)=some (.arr (row Zl (Zy (s.length+1))) true):=by
  rw[qk,uF n1.symm]
 have A:=ZL (off:=0+(j:Int).toNat*1) (new:= [V.b true]) g1 (by rw[XE];simp;omega);have g2: ∀h:Heap,(h.set (Heap.empty.nx+1) (some (.arr (splice (row Zl (Zy (s.length+1))) (0+(j:Int).toNat*1) [.b true]) true))).get (Heap.empty.nx+1)=some (.arr (row Zl (oneF (s.length+1) j)) true):=λh=>by
  rw[qc,uF rfl,show 0+(j:Int).toNat*1=j from sm,Jz _ _ _ (by simp;omega)];rfl
 have q:WayK s Heap.empty.nx (XP (((Heap.empty.push (.arr (.s s::(List.replicate 20 (0:Int)).map (V.i .i64)) true)).push (.arr (row Zl (Zy (s.length+1))) true)).set (Heap.empty.nx+1) (some (.arr (splice (row Zl (Zy (s.length+1))) (0+(j:Int).toNat*1) [.b true]) true))) [Heap.empty.nx+1]):=by
  refine⟨by rw[Qs,Heap.nx_set];simp;omega,List.replicate 20 (0:Int),rfl,?_⟩;rw[Xv,uE sm,qc,uE om,qk,uE (by rw[n1];omega),qk,uF rfl]
 generalize P:XP (((Heap.empty.push (.arr (.s s::(List.replicate 20 (0:Int)).map (V.i .i64)) true)).push (.arr (row Zl (Zy (s.length+1))) true)).set (Heap.empty.nx+1) (some (.arr (splice (row Zl (Zy (s.length+1))) (0+(j:Int).toNat*1) [.b true]) true))) [Heap.empty.nx+1]=h0 at q;obtain⟨x,L,Z⟩:=f q;obtain⟨H,w,N⟩:=Zpm (pre:= [V.s s]) 10 0 rfl L;obtain⟨kk,h3,O,C3⟩:=l N;obtain⟨h4,K,w1,l',F,G⟩:=Zgw (pre:= [V.s s]) O (m:=0) om (i:Nat) (j:Nat);refine⟨.agg (l'.map (V.i .i64)),⟨_,F,rfl⟩,?_⟩;refine ZF vK_ (fn:=Tryz.f41) rfl ?_;refine WR vK_ 78 6 ZPh rfl kr ?_;refine⟨true,d,Zf (λc=>by cases c) (λ_=>Xr (λc=>om) (λ_=>Xr (λc=>om) (λ_=>Xr (λc=>om) (λ_=> ?_))))⟩;rw[Y,qdq,XZ];refine⟨⟨om,om,om,om⟩,⟨om,om⟩,rfl,_,A,rfl,?_⟩;refine Zcn [Heap.empty.nx+1] [2,3,4,8,10,11] (vs':=AFd Heap.empty.nx k B o lo hi n (i:Nat) (j:Nat) (oneF (s.length+1) j)) kr (.cons _ _ _ _ (.same _) (.cons _ _ _ _ (.same _) (.cons _ _ _ _ (.same _) (.cons _ _ _ _ (.same _) (.cons _ _ _ _ (.same _) (.cons _ _ _ _ (.frz _ _ (frzB _ (g2 _) g.symm sm)) .nil)))))) ?_;rw[P];refine Zh vK_ 78 ZPi rfl (Z.mono ?_);rintro v _ ⟨e2,rfl⟩;refine⟨_,_,_,e2,E,_,a,Zf (λc=>by cases c) (λ_=>⟨rfl,?_⟩)⟩;clear Z q a E f z;refine ZM [2,3,4,8,10,11,12] [2,3,4,8,10,11,12] (λm vs hh=> ∃t:Nat,vs=AFd Heap.empty.nx k B o lo hi n (i:Nat) (j:Nat) (oneF (s.length+1) j)++ [I (t:Nat)]/\CutR [V.s s] Heap.empty.nx t hh H/\m=10-t) 10 ZA ⟨0,rfl,w,rfl⟩ ?_;clear w;rintro m vs hh ⟨t,rfl,w,rfl⟩;refine Zm vK_ ZPj rfl ?_
 cases w with
 |step ht e w=>
  refine Xr (λ_=> ?_) (λc=>om);exact⟨⟨om,om⟩,_,e,rfl,10-(t+1),om,t+1,by rw[Ze om];rfl,w,rfl⟩
 |stop ht=>
  refine Xr (λc=>om) (λ_=> ?_);refine Zj [2,3,4,8,10,11] ?_;refine Zo vK_ ZPk rfl (C3.mono ?_);rintro v _ ⟨e3,rfl⟩;refine⟨_,e3,⟨om,om⟩,_,K,?_⟩
  match l',F,G with
  | [x0,x1,x2,x3,x4,x5,x6,x7,x8,x9,y0,y1,y2,y3,y4,y5,y6,y7,y8,y9],F,G=>
   refine⟨x0,x1,x2,x3,x4,x5,x6,x7,x8,x9,y0,y1,y2,y3,y4,y5,y6,y7,y8,y9,by rw[Zr G];rfl,?_⟩;exact⟨.inr rfl,_,rfl,_, .tup _ _ (.cons _ _ _ _ (.agg _ _ (Zae _ [x0,x1,x2,x3,x4,x5,x6,x7,x8,x9,y0,y1,y2,y3,y4,y5,y6,y7,y8,y9])) (.cons _ _ _ _ (.b _) .nil)),rfl⟩
theorem ZPm{k0 t0 s1 i2 h}(K):CP vY_ 40 (pre B_40) (.agg [I k0, .s t0]::.s s1::I i2::Rp 67) h [1,2,3,6,7,11,14] K=(((0:Int)<=wW ((↑s1.length:Int)+(1:Int))/\wW ((↑s1.length:Int)+(1:Int))<=wW ((↑s1.length:Int)+(1:Int))/\wW ((↑s1.length:Int)+(1:Int))<=(most:Int)/\wW ((↑s1.length:Int)+(1:Int))*(↑(1:Nat):Int)<=(most:Int))/\If (k0==(2:Int)) (∃a c d e f g i j l m n o p,(PCon vY_ 8 [.s t0] fun(v:V)=>v=.tup [.agg (R9 a c d e f g i j l m n),I o,I p])/\ ∃q r t,(PCon vY_ 61 [.agg (R9 a c d e f g i j l m n),.s s1,I i2,.b true,.b true] λv=>v=J q r t)/\K .ret 70 [.s s1,I i2, .lb [I k0, .s t0],J q r t,S (some (h.nx,0)) (wW ((↑s1.length:Int)+(1:Int))).toNat (some (wW ((↑s1.length:Int)+(1:Int))).toNat) 1,Ud,Ud] (h.push (YObj.arr (List.replicate (wW ((↑s1.length:Int)+(1:Int))).toNat [.b false]).flatten true))) (∃a c d e f,(PCon vY_ 24 [.s t0] fun(v:V)=>v=.tup [J a c d,I e,I f])/\K .normal 70 [.s s1,I i2, .lb [I k0, .s t0],S0,S (some (h.nx,0)) (wW ((↑s1.length:Int)+(1:Int))).toNat (some (wW ((↑s1.length:Int)+(1:Int))).toNat) 1,J a c d,I i2] (h.push (YObj.arr (List.replicate (wW ((↑s1.length:Int)+(1:Int))).toNat [.b false]).flatten true)))):=kr
theorem ZPn{k0 t0 s1 i2 c l7 c7 d e a h}(K):CP vY_ 40 (lp_ B_40) (MZ 70 [1,2,3,7,11,14] [.s s1,I i2,.lb [I k0,.s t0],S (some (c,0)) l7 (some c7) 1,J d e none,I a]) h [1,2,3,7,11,14] K=(If (leI a (↑s1.length:Int)) (If (k0==(0:Int)) (((0:Int)<=a/\a<=(↑s1.length:Int))/\((0:Int)<=i2/\i2<=(↑a.toNat:Int))/\(0<=a/\a<l7)/\1=1/\ ∃b,Zi h c ((0:Nat)+a.toNat*1) [.b (List.take (a.toNat-i2.toNat) (List.drop i2.toNat s1)==t0)]=some b/\K .normal 70 [.s s1,I i2, .lb [I k0, .s t0],S (some (c,0)) l7 (some c7) 1,J d e none,I (wW (a+(1:Int)))] b) (((0:Int)<=a/\a<=(↑s1.length:Int))/\((0:Int)<=i2/\i2<=(↑a.toNat:Int))/\ ∃b,(PCon vY_ 25 [J d e none,.s (List.take (a.toNat-i2.toNat) (List.drop i2.toNat s1))] λv=>v=.b b)/\(0<=a/\a<l7)/\1=1/\ ∃f,Zi h c ((0:Nat)+a.toNat*1) [.b b]=some f/\K .normal 70 [.s s1,I i2, .lb [I k0, .s t0],S (some (c,0)) l7 (some c7) 1,J d e none,I (wW (a+(1:Int)))] f)) (K (.exit 0) 70 [.s s1,I i2, .lb [I k0, .s t0],S (some (c,0)) l7 (some c7) 1,J d e none,I a] h)):=kr
theorem ZPo{a l7 c7 h}(K):CP vY_ 40 ((post B_40).drop 1) (MZ 70 [7] [S (some (a,0)) l7 (some c7) 1]) h [6] K=(K .ret 70 [S (some (a,0)) l7 (some c7) 1] h):=kr
theorem ZTd(a d s1 h K):CP UY 25 (pre B_25) (J a d none::.s s1::Rp 83) h [0,1,4,5,6,9] K=(∃b,(PCon UY 50 [J a d none] λv=>v=.b b)/\If (!b) (K .ret 85 [J a d none, .s s1, .b false,Ud,Ud,J a d none] h) (((0:Int)<=wW ((↑s1.length:Int)+(1:Int))/\wW ((↑s1.length:Int)+(1:Int))<=wW ((↑s1.length:Int)+(1:Int))/\wW ((↑s1.length:Int)+(1:Int))<=(most:Int)/\wW ((↑s1.length:Int)+(1:Int))*(↑(1:Nat):Int)<=(most:Int))/\((0:Int)<=(0:Int)/\(0:Int)<(↑(wW ((↑s1.length:Int)+(1:Int))).toNat:Int))/\1=1/\ ∃c,Zi (h.push (YObj.arr (List.replicate (wW ((↑s1.length:Int)+(1:Int))).toNat [.b false]).flatten true)) h.nx 0 [.b true]=some c/\K .normal 85 [J a d none, .s s1, .b false,S (some (h.nx,0)) (wW ((↑s1.length:Int)+(1:Int))).toNat (some (wW ((↑s1.length:Int)+(1:Int))).toNat) 1,I 0,J a d none] c)):=kr
theorem ZTe(a n0 s1 b l5 c5 x6 h K):CP UY 25 (pre (lp_ B_25)) (MZ 85 [0,1,5,6,9] [J a n0 none,.s s1,S (some (b,0)) l5 (some c5) 1,I x6,J a n0 none]) h [0,1,5,6,9] K=(If (ltI x6 n0) (K .normal 85 [J a n0 none, .s s1,S (some (b,0)) l5 (some c5) 1,I x6,J a n0 none] h) (K (.exit 0) 85 [J a n0 none, .s s1,S (some (b,0)) l5 (some c5) 1,I x6,J a n0 none] h)):=kr
theorem ZTf(a n0 s1 c l5 c5 x6 h K):CP UY 25 (pre (bk_ (lp_ B_25))) (MZ 85 [0,1,5,6,9] [J a n0 none,.s s1,S (some (c,0)) l5 (some c5) 1,I x6,J a n0 none]) h [0,1,5,6,7,8,9] K=(((0:Int)<=wW ((↑s1.length:Int)+(1:Int))/\wW ((↑s1.length:Int)+(1:Int))<=wW ((↑s1.length:Int)+(1:Int))/\wW ((↑s1.length:Int)+(1:Int))<=(most:Int)/\wW ((↑s1.length:Int)+(1:Int))*(↑(1:Nat):Int)<=(most:Int))/\K .normal 85 [J a n0 none, .s s1,S (some (c,0)) l5 (some c5) 1,I x6,S (some (h.nx,0)) (wW ((↑s1.length:Int)+(1:Int))).toNat (some (wW ((↑s1.length:Int)+(1:Int))).toNat) 1,I 0,J a n0 none] (h.push (YObj.arr (List.replicate (wW ((↑s1.length:Int)+(1:Int))).toNat [.b false]).flatten true))):=kr
theorem ZTg(d n0 s1 g k c5 x6 e f j a h K):CP UY 25 (lp_ (bk_ (lp_ B_25))) (MZ 85 [0,1,5,6,7,8,9] [J d n0 none,.s s1,S (some (g,0)) k (some c5) 1,I x6,S (some (e,0)) f (some j) 1,I a,J d n0 none]) h [0,1,5,6,7,8,9] K=(If (leI a (↑s1.length:Int)) ((0<=x6/\x6<n0)/\ ∃b,Zs 1 (List.drop 0 (List.drop (x6.toNat*3) d))=some [I b]/\If (b==(2:Int)) ((0<=a/\a<k)/\1=1/\ ∃c,Zb h g ((0:Nat)+a.toNat*1) 1=some [.b c]/\If c ((0<=a/\a<f)/\1=1/\ ∃l,Zi h e ((0:Nat)+a.toNat*1) [.b true]=some l/\K .normal 85 [J d n0 none, .s s1,S (some (g,0)) k (some c5) 1,I x6,S (some (e,0)) f (some j) 1,I (wW (a+(1:Int))),J d n0 none] l) (If (ltI 0 a) (((0:Int)<=wW (a-(1:Int))/\wW (a-(1:Int))<(f:Int))/\1=1/\ ∃l,Zb h e ((0:Nat)+(wW (a-(1:Int))).toNat*1) 1=some [.b l]/\(0<=a/\a<f)/\1=1/\ ∃m,Zi h e ((0:Nat)+a.toNat*1) [.b l]=some m/\K .normal 85 [J d n0 none, .s s1,S (some (g,0)) k (some c5) 1,I x6,S (some (e,0)) f (some j) 1,I (wW (a+(1:Int))),J d n0 none] m) ((0<=a/\a<f)/\1=1/\ ∃l,Zi h e ((0:Nat)+a.toNat*1) [.b false]=some l/\K .normal 85 [J d n0 none, .s s1,S (some (g,0)) k (some c5) 1,I x6,S (some (e,0)) f (some j) 1,I (wW (a+(1:Int))),J d n0 none] l))) (If (ltI 0 a) (((0:Int)<=wW (a-(1:Int))/\wW (a-(1:Int))<(k:Int))/\1=1/\ ∃c,Zb h g ((0:Nat)+(wW (a-(1:Int))).toNat*1) 1=some [.b c]/\If c ((0<=x6/\x6<n0)/\ ∃l m n o p,Zs 3 (List.drop (x6.toNat*3) d)=some [I l,.i .u8 m,J n o p]/\ ∃q,((0:Int)<=wW (a-(1:Int))/\s1[(wW (a-(1:Int))).toNat]? =some q)/\ ∃r,(PCon UY 63 [.agg [I l,.i .u8 m,J n o p],.i .u8 (↑q.toNat:Int)] λv=>v=.b r)/\(0<=a/\a<f)/\1=1/\ ∃t,Zi h e ((0:Nat)+a.toNat*1) [.b r]=some t/\K .normal 85 [J d n0 none, .s s1,S (some (g,0)) k (some c5) 1,I x6,S (some (e,0)) f (some j) 1,I (wW (a+(1:Int))),J d n0 none] t) ((0<=a/\a<f)/\1=1/\ ∃l,Zi h e ((0:Nat)+a.toNat*1) [.b false]=some l/\K .normal 85 [J d n0 none, .s s1,S (some (g,0)) k (some c5) 1,I x6,S (some (e,0)) f (some j) 1,I (wW (a+(1:Int))),J d n0 none] l)) (K .normal 85 [J d n0 none, .s s1,S (some (g,0)) k (some c5) 1,I x6,S (some (e,0)) f (some j) 1,I (wW (a+(1:Int))),J d n0 none] h))) (K (.exit 2) 85 [J d n0 none, .s s1,S (some (g,0)) k (some c5) 1,I x6,S (some (e,0)) f (some j) 1,I a,J d n0 none] h)):=kr
theorem ZTh(a n0 s1 x6 b c d h K):CP UY 25 ((post (bk_ (lp_ B_25))).drop 1) (MZ 85 [0,1,6,7,9] [J a n0 none,.s s1,I x6,S (some (b,0)) c (some d) 1,J a n0 none]) h [0,1,5,6,9] K=(K .normal 85 [J a n0 none, .s s1,S (some (b,0)) c (some d) 1,I x6,J a n0 none] h):=kr
theorem ZTi(a n0 s1 x6 b c d h K):CP UY 25 ((post (lp_ B_25)).drop 1) (MZ 85 [0,1,5,6,9] [J a n0 none,.s s1,S (some (b,0)) c (some d) 1,I x6,J a n0 none]) h [0,1,5,6,9] K=(K .normal 85 [J a n0 none, .s s1,S (some (b,0)) c (some d) 1,I (wW (x6+(1:Int))),J a n0 none] h):=kr
theorem ZTj(s1 a c c5 h K):CP UY 25 ((post B_25).drop 1) (MZ 85 [1,5] [.s s1,S (some (a,0)) c (some c5) 1]) h [4] K=(((0:Int)<=(↑s1.length:Int)/\(↑s1.length:Int)<(c:Int))/\1=1/\ ∃b,Zb h a ((0:Nat)+(↑s1.length:Int).toNat*1) 1=some [.b b]/\K .ret 85 [.b b] h):=kr
def ZEg(g:Glob)(c:Int)(m:Nat)(a:List V)(_:Heap):Prop:=
 ∃(i:Nat) (b:Bool),a= [.i .u8 c, .lb (encG g), .b b, .i .i64 (i:Nat), .undef]/\b=(g.k==1||(g.sp.take i).any λx=>leI x.lo c&&leI c x.hi)/\i<=g.sp.length/\m=g.sp.length-i
theorem Zy7(g:Glob)(c:Int)(w:g.sp.length<2 ^ 30):PCon UY 63 [.agg (encG g), .i .u8 c] (· = .b (Zdo g c)):=by
 refine ZF UK (fn:=Tryz.f63) rfl ?_;refine Xm UK (n:=46) (loc:=UY.loc 63) 100 [1,2,4,5,6,10] kr ?_;refine Eq.mpr (f63_0 g.k g.b (row encS g.sp) g.sp.length c .empty _) ?_;refine Zf (λd=>Xc rr rfl ⟨_, .b _,?_⟩) (λd=> ?_);have d:g.k=0:=su d;simp[Zdo,d,V.plain];have d:g.k≠0:=su d;refine⟨rfl,ZM [1,2,5,6,10] [1,2,5,6,10] (ZEg g c) g.sp.length ZA ⟨0,_,rfl,sm,om,om⟩ ?_⟩;rintro m x j ⟨i,b,rfl,o,u,rfl⟩;refine ZW UK (loc:=UY.loc 63) 100 [1,2,5,6,10] ?_;refine Eq.mpr (f63_1 g.k g.b (row encS g.sp) g.sp.length c b (i:Nat) j _) ?_;refine Zq (λa=> ?_) (λs=> ?_)
 .have t:=VP VS g.sp a;rw[qdq,t,Ze om];have next: ∀f:Bool,f=(b||(leI g.sp[i].lo c&&leI c g.sp[i].hi))->XF UY 46 [1,2,5,6,10] [1,2,5,6,10] (ZEg g c) (g.sp.length-i)
    (Xb (post B_63)) ((post B_63).drop 1) (FinS UY Tryz.f63 λv h=> ∃r,Frz h v r/\r= .b (Zdo g c)) .normal 46 [.i .u8 c, .lb (encG g), .b f,I ((i+1:Nat):Int), .undef] j:=by
   intro f p;refine⟨rfl,g.sp.length-(i+1),om,i+1,f,rfl,?_,om,rfl⟩;rw[p,o,qa a,uj,Bool.or_assoc];simp
  refine Zf (λq=>next _ (by rw[q];rfl)) (λe=> ?_);refine⟨Zu a,_,rfl,Zf (λl=>⟨Zu a,_,rfl,next _ (by rw[e,l];rfl)⟩) (λl=>next _ (by rw[e,l];rfl))⟩
 .refine Zj [5] ?_;refine ZG UK (loc:=UY.loc 63) 100 [4] ?_;refine Eq.mpr (f63_2 b j _) ?_;rw[qt s]at o;refine ZB rr rfl (.b _) ?_;simp[Zdo,d,o,V.plain]
def rowK(f:Nat->Bool)(k n:Nat):List V:=(List.range n).map λj=>V.b (if j<k then f j else false)
theorem Zaf(f)(k n j:Nat)(a:j<n):(rowK f k n)[j]? =some (.b (if j<k then f j else false)):=by simp[rowK,a]
theorem JB(f)(k n:Nat):(rowK f k n).length=n:=by simp[rowK]
theorem Zgx{a:List V}{j:Nat}{v}(h:a[j]? =some v):Zs 1 (a.drop j)=some [v]:=by
 have b:=(qb.1 h).1;rw[uM b];have:a[j]=v:=(qb.1 h).2;simp[Zs,this]
theorem ZCl(f:Nat->Bool){k n:Nat}(i:k<n){b:Bool}(h:b=f k):splice (rowK f k n) k [.b b]=rowK f (k+1) n:=by apply vA;intro j;rw[Xs _ _ _ _ (by rw[JB];simp;omega)];by_cases d:j<n;rw[Zaf f k n j d,Zaf f (k+1) n j d];by_cases a:j=k;subst a;simp[h];rw[uE (by simp;omega)];by_cases c:j<k;rw[uF c,uF om];rw[uE c,uE om];have e:(rowK f k n)[j]? =none:=qq (by rw[JB];omega);have g:(rowK f (k+1) n)[j]? =none:=qq (by rw[JB];omega);rw[e,g,uE (by simp;omega)]
theorem Zy8(f){k n:Nat}(b:f k=false):rowK f k n=rowK f (k+1) n:=by unfold rowK;apply List.map_congr_left;intro j _;by_cases c:j=k;subst c;simp[b];by_cases a:j<k;rw[uF a,uF om];rw[uE a,uE om]
theorem Znj(f)(n:Nat):(List.replicate n [V.b false]).flatten=rowK f 0 n:=by
 apply vA;intro j;by_cases a:j<n
 .rw[Zaf f 0 n j a];have:(List.replicate n [V.b false]).flatten=List.replicate n (V.b false):=by
   induction n with
   |zero=>rfl
   |succ n c=>rw[uZ,List.flatten_cons];simp[uZ]
  rw[this];simp[a]
 .rw[qq (by simp;omega),qq (by rw[JB];omega)]
theorem Zit{h:Heap}{id:Nat}{f:Nat->Bool}{k n:Nat}(c:h.get id=some (.arr (rowK f k n) true))(d:k<n){b:Bool}(a:b=f k):
  Zi h id k [.b b]=some (h.set id (some (.arr (rowK f (k+1) n) true))):=by
 simp only[Zi,c];rw[uF (by rw[JB];simp;omega),ZCl f d a]
abbrev bsl(a n:Nat):V:= .sl (some (a,0)) n (some n) 1
def TabO(l:List Glob)(s:List UInt8)(m:Nat)(b:List V)(h:Heap):Prop:=
 ∃(i a:Nat),b= [lst encG l, .s s,bsl a (s.length+1), .i .i64 (i:Nat),lst encG l]/\i<=l.length/\a<h.nx/\h.get a=some (.arr (rowK (tab l s i) (s.length+1) (s.length+1)) true)/\m=l.length-i
def TabN(l:List Glob)(s:List UInt8)(i b:Nat)(m:Nat)(c:List V)(h:Heap):Prop:=
 ∃(k a:Nat),c= [lst encG l, .s s,bsl b (s.length+1), .i .i64 (i:Nat),bsl a (s.length+1), .i .i64 (k:Nat),lst encG l]/\k<=s.length+1/\a<h.nx/\b≠a/\
  h.get b=some (.arr (rowK (tab l s i) (s.length+1) (s.length+1)) true)/\h.get a=some (.arr (rowK (tab l s (i+1)) k (s.length+1)) true)/\m=s.length+1-k
theorem Zt5(l)(s:List UInt8)(P:okG l)(a3:s.length<2 ^ 28):PCon UY 25 [lst encG l, .s s] (· = .b (mayS l&&M l s)):=by
 have hl:=P.1;have E:(most:Int)=1099511627776:=dc;have hw:wW ((s.length:Int)+1)=((s.length+1:Nat):Int):=Ze om;have p:(0:Int)<=((s.length+1:Nat):Int)/\((s.length+1:Nat):Int)<=((s.length+1:Nat):Int)/\((s.length+1:Nat):Int)<=(most:Int)/\((s.length+1:Nat):Int)*((1:Nat):Int)<=(most:Int):=by
  rw[E];refine⟨om,om,om,om⟩
 refine ZF UK (fn:=Tryz.f25) rfl ?_;refine Xm UK (n:=85) (loc:=UY.loc 25) 100 [0,1,4,5,6,9] kr ?_;refine Eq.mpr (ZTd (row encG l) l.length s .empty _) ?_;rw[hw,qdq];refine⟨_,ZBg l P,Zf (λO=>Xc rr rfl ⟨_, .b _,?_⟩) (λO=> ?_)⟩;have:mayS l=false:=su O;rw[this];rfl;have N:mayS l=true:=su O;rw[N,uT];have hz:(List.replicate (s.length+1) [V.b false]).flatten=rowK (tab l s 0) 0 (s.length+1):=Znj _ _;have W:tab l s 0 0=true:=by rw[ZDp l s 0 om];rfl
 have h1:=Zit (h:=Heap.empty.push (.arr (rowK (tab l s 0) 0 (s.length+1)) true)) (id:=Heap.empty.nx) (f:=tab l s 0) (k:=0) (n:=s.length+1) sm om (b:=true) W.symm;have L:rowK (tab l s 0) 1 (s.length+1)=rowK (tab l s 0) (s.length+1) (s.length+1):=by
  unfold rowK;apply List.map_congr_left;intro j D;have D:=List.mem_range.1 D;rw[uF D];by_cases X:j<1;rw[uF X];rw[uE X,ZDp l s j om];simp;omega
 refine⟨p,⟨om,om⟩,rfl,_,by rw[hz];exact h1,rfl,?_⟩;refine ZM [0,1,5,6,9] [0,1,5,6,9] (TabO l s) l.length ZA ⟨0,_,rfl,om,?_,?_,om⟩ ?_;simp;rw[<-L];simp;rintro m vs h ⟨i,y,rfl,hi,a1,Z,rfl⟩;refine Xm UK (n:=85) (loc:=UY.loc 25) 100 [0,1,5,6,9] kr ?_;refine Eq.mpr (ZTe (row encG l) l.length s y (s.length+1) (s.length+1) (i:Nat) h _) ?_;refine Zq (λa=> ?_) (λa0=> ?_)
 .refine⟨rfl,QX (n:=85) [0,1,5,6,9] kr ?_⟩;refine Xm UK (n:=85) (loc:=UY.loc 25) 100 [0,1,5,6,7,8,9] kr ?_;refine Eq.mpr (ZTf (row encG l) l.length s y (s.length+1) (s.length+1) (i:Nat) h _) ?_;rw[hw,qdq];refine⟨p,rfl,?_⟩;refine ZM [0,1,5,6,7,8,9] [0,1,5,6,7,8,9] (TabN l s i y) (s.length+1) ZA ⟨0,h.nx,rfl,om,sm,om,?_,?_,om⟩ ?_;show(h.push _).get y=_;rw[qk,uE om];exact Z;show(h.push _).get h.nx=_;rw[qk,uF rfl,Znj];have rc:=VP VT l a;rintro m vs K ⟨k,c,rfl,hk,t,F,C,z,rfl⟩;refine ZW UK (loc:=UY.loc 25) 100 [0,1,5,6,7,8,9] ?_;refine Eq.mpr (ZTg (row encG l) l.length s y (s.length+1) (s.length+1) (i:Nat) c (s.length+1) (s.length+1) (k:Nat) K _) ?_;refine JU (λe=> ?_) (λa2=> ?_)
  .have e:k<=s.length:=om;have g: ∀j:Nat,0+(((j:Nat):Int)).toNat*1=j:=λj=>om;have bnd: ∀j:Nat,j<=s.length->(0:Int)<=(j:Nat)/\((j:Nat):Int)<((s.length+1:Nat):Int):=λj D=>⟨om,om⟩;have x: ∀j:Nat,j<=s.length->Zb K y j 1=some [.b (tab l s i j)]:=λj D=>by
    simp only[Zb,C];have:=Zaf (tab l s i) (s.length+1) (s.length+1) j om;rw[uF om]at this;exact Zgx this
   have H: ∀j:Nat,j<k->Zb K c j 1=some [.b (tab l s (i+1) j)]:=λj D=>by
    simp only[Zb,z];have:=Zaf (tab l s (i+1)) k (s.length+1) j om;rw[uF D]at this;exact Zgx this
   have w: ∀(b:Bool),b=tab l s (i+1) k-> ∃Y,Zi K c k [.b b]=some Y/\XF UY 85 [0,1,5,6,7,8,9] [0,1,5,6,7,8,9] (TabN l s i y) (s.length+1-k)
     (Xb (post (bk_ (lp_ B_25)))) ((post (bk_ (lp_ B_25))).drop 1)
     (VQ [0,1,5,6,9] (Zd6 UY 85 [0,1,5,6,9] (JV (post (lp_ B_25))) ((post (lp_ B_25)).drop 1)
      (VQ [0,1,5,6,9] (XF UY 85 [0,1,5,6,9] [0,1,5,6,9] (TabO l s) (l.length-i) (Xb (post B_25)) ((post B_25).drop 1) (FinS UY Tryz.f25 λv h=> ∃r,Frz h v r/\r= .b (M l s))))))
     .normal 85 [lst encG l, .s s,bsl y (s.length+1),I i,bsl c (s.length+1),I (wW ((k:Nat)+1)),lst encG l] Y:=by
    intro b q;refine⟨_,Zit z om q,rfl,s.length+1-(k+1),om,k+1,c,?_,om,su t,F,?_,sm,rfl⟩;rw[Ze om];rfl;rw[qc,uE F];exact C
   have A:0<k->wW ((k:Int)-1)=((k-1:Nat):Int):=λh=>by rw[ZI om om];omega
   refine⟨Zu a,l[i].k,by rw[qdq,rc];rfl,Zf (λB=> ?_) (λB=> ?_)⟩
   .have d:l[i].k=2:=su B;refine⟨bnd k e,rfl,_,by rw[g];exact x k e,Zf (λq=> ?_) (λq=> ?_)⟩
    .refine⟨bnd k e,rfl,?_⟩;rw[g];refine w true ?_
     cases k with
     |zero=>rw[Zmk a d,q]
     |succ k=>rw[Zrb a d om,q,Bool.true_or]
    .refine Zda (λu=> ?_) (λhz=> ?_);rw[A u];refine⟨bnd (k-1) om,rfl,_,by rw[g];exact H (k-1) om,bnd k e,rfl,?_⟩;rw[g];refine w _ ?_;obtain⟨o,rfl⟩: ∃o,k=o+1:=⟨k-1,om⟩;rw[Zrb a d om,q,Bool.false_or];rfl;refine⟨bnd k e,rfl,?_⟩;rw[g];refine w _ ?_;subst hz;rw[Zmk a d,q]
   .have d:l[i].k≠2:=su B;refine Zda (λu=> ?_) (λhz=> ?_);rw[A u];obtain⟨o,rfl⟩: ∃o,k=o+1:=⟨k-1,om⟩;have G:o<s.length:=om;rw[show o+1-1=o from om];refine⟨bnd o om,rfl,_,by rw[g];exact x o om,Zf (λq=> ?_) (λq=> ?_)⟩;refine⟨Zu a,_,_,_,_,_,by rw[qdq];exact Xw VT a,s[o],⟨om,by simp[G]⟩,_,Zy7 l[i] _ (by have:=P.2 _ (qe a);omega),bnd (o+1) e,rfl,?_⟩;rw[g];refine w _ ?_;rw[Zxj a d G,q,uT];refine⟨bnd (o+1) e,rfl,?_⟩;rw[g];refine w _ ?_;rw[Zxj a d G,q,Bool.false_and];subst hz;refine⟨rfl,s.length+1-1,om,1,c,?_,om,t,F,C,?_,rfl⟩;rw[Ze om];rfl;rw[z,Zy8 _ (ZBc a d)]
  .refine Zj [0,1,6,7,9] ?_;refine ZW UK (loc:=UY.loc 25) 100 [0,1,5,6,9] ?_;refine Eq.mpr (ZTh (row encG l) l.length s (i:Nat) c (s.length+1) (s.length+1) K _) ?_;refine⟨rfl,[0,1,5,6,9],rfl,?_⟩;refine ZW UK (loc:=UY.loc 25) 100 [0,1,5,6,9] ?_;refine Eq.mpr (ZTi (row encG l) l.length s (i:Nat) c (s.length+1) (s.length+1) K _) ?_;refine⟨rfl,l.length-(i+1),om,i+1,c,?_,om,t,?_,rfl⟩;rw[Ze om];rfl;rw[z,show k=s.length+1 from om]
 .refine Zvp λa4 ht=>Vo [1,5] ht kr rfl rfl rfl ?_;refine ZG UK (loc:=UY.loc 25) 100 [4] ?_;refine Eq.mpr (ZTj s y (s.length+1) (s.length+1) h _) ?_;have he:i=l.length:=om;subst he;refine⟨⟨om,om⟩,rfl,M l s,?_,ZB rr rfl (.b _) rfl⟩;have:=Zaf (tab l s l.length) (s.length+1) (s.length+1) s.length om;rw[uF om,ZGi]at this;rw[show 0+(((s.length:Nat):Int)).toNat*1=s.length from om];simp only[Zb,Z];exact Zgx this
def segS(s:List UInt8)(i k:Nat):List UInt8:=(s.drop i).take (k-i)
def fitP(k:Int)(t:List UInt8)(u:List UInt8):Bool:=if k=0 then u==t else mayS (JE t)&&M (JE t) u
def JC(f:Nat->Bool)(i m N:Nat):List Bool:=(List.range N).map λj=>decide (i<=j/\j<m)&&f j
theorem Qn(f)(i m N:Nat):(JC f i m N).length=N:=by simp[JC]
theorem Zag(f)(i m N:Nat){j:Nat}(h:j<(JC f i m N).length):(JC f i m N)[j]=(decide (i<=j/\j<m)&&f j):=by simp[JC]
theorem Zpn{f}{i m N:Nat}(b:i<=m)(d:m<N):(JC f i m N).set m (f m)=JC f i (m+1) N:=by refine List.ext_getElem (by rw[vJ,Qn,Qn]) ?_;intro j c a;rw[List.getElem_set,Zag f i (m+1) N a];by_cases e:m=j;subst e;rw[uF rfl];simp[b];rw[uE e,Zag];have:(j<m)↔(j<m+1):=om;simp[this]
theorem Zpo(f)(i N:Nat):JC f i i N=Zy N:=by refine List.ext_getElem (by rw[Qn];simp[Zy]) ?_;intro j a b;rw[Zag];have: ¬(i<=j/\j<i):=om;simp[this,Zy]
def Xg(k:Int)(t s:List UInt8)(i:Nat):List Bool:=if k=2 then atF (ereL t) s i true true else JC (λj=>fitP k t (segS s i j)) i (s.length+1) (s.length+1)
theorem Zpp(k:Int)(t s:List UInt8)(i:Nat):(Xg k t s i).length=s.length+1:=by
 unfold Xg;split;exact ZIf _ _ _ _ _;exact Qn _ _ _ _
theorem ZCm{k:Int}{t}(G:k=2->OvOk (ereL t)){s:List UInt8}(P:s.length<2 ^ 19){i:Nat}(N:i<=s.length):PCon vY_ 40 [.agg [I k, .s t], .s s,I i] (· =lst Zl (Xg k t s i)):=by
 have B:wW ((s.length:Int)+1)=((s.length+1:Nat):Int):=Ze om;have A:most=1099511627776:=dc;refine ZF vK_ (fn:=Tryz.f40) rfl ?_;refine Zh vK_ 70 ZPm rfl ?_;rw[B,qdq,XZ];refine⟨⟨om,om,om,om⟩,Zf (λc=> ?_) (λc=> ?_)⟩;have d:k=2:=su c;have f:=PCon.zv (Zdn t);have w:=at61 (G d) P N true true;rw[Wu]at f;unfold Xg;rw[uF d];generalize atF (ereL t) s i true true=R at w;generalize ereL t=x at f w;obtain⟨xk,xs,xl,Z,Y,xn⟩:=x;rw[ZJ]at f w;exact⟨_,_,_,_,_,_,_,_,_,_,_,_,_,f,_,_,_,w,fin1 rr rfl (.ts _ _ _ none (λx X=>by cases X)) rfl⟩
 .have d:k≠2:=su c;have f:=PCon.zv (Zh5 t);rw[Zci]at f;obtain⟨g1,D⟩:=Zj3 t;have F:=λu (W:u.length<2 ^ 28)=>PCon.zv (Zt5 (JE t) u D.ok W);refine⟨_,_,_,_,_,f,rfl,?_⟩;unfold Xg;rw[uE d];clear f;have p:(Heap.empty.push (.arr (row Zl (Zy (s.length+1))) true)).get Heap.empty.nx=some (.arr (row Zl (JC (λj=>fitP k t (segS s i j)) i i (s.length+1))) true):=by rw[qk,uF rfl,Zpo]
  generalize (Heap.empty.push (.arr (row Zl (Zy (s.length+1))) true))=q at p;generalize Heap.empty.nx=g at p;refine ZM [1,2,3,7,11,14] [1,2,3,7,11,14] (λm y l=> ∃j:Nat,y= [.s s,I i, .lb [I k, .s t], .sl (some (g,0)) (s.length+1) (some (s.length+1)) 1,lst encG (JE t),I (j:Nat)]/\i<=j/\j<=s.length+1/\l.get g=some (.arr (row Zl (JC (λj=>fitP k t (segS s i j)) i j (s.length+1))) true)/\m=s.length+1-j) (s.length+1-i) ZA ⟨i,rfl,qnq _,om,p,rfl⟩ ?_;clear p;rintro m y l ⟨j,rfl,z,hj,C,rfl⟩;refine Zm vK_ ZPn rfl ?_;have o: ∀b,b=fitP k t (segS s i j)->j<s.length+1->Zi l g (0+((j:Nat):Int).toNat*1) [.b b]=some (l.set g (some (.arr (row Zl (JC (λj=>fitP k t (segS s i j)) i (j+1) (s.length+1))) true))):=λb H a=>by
   rw[ZL C (by rw[XE,Qn];simp;omega),show 0+((j:Nat):Int).toNat*1=j from sm,Jz _ _ _ (by rw[Qn];omega),H,Zpn z a]
  refine JU (λO=> ?_) (λL=> ?_)
  .have a:j<s.length+1:=om;have n:List.take (((j:Nat):Int).toNat-(i:Int).toNat) (List.drop (i:Int).toNat s)=segS s i j:=by rw[qdq,qdq];rfl
   rw[n];have next: ∀d:Heap,d=l.set g (some (.arr (row Zl (JC (λj=>fitP k t (segS s i j)) i (j+1) (s.length+1))) true))->XF vY_ 70 [1,2,3,7,11,14] [1,2,3,7,11,14] (λm y l=> ∃j:Nat,y= [.s s,I i, .lb [I k, .s t], .sl (some (g,0)) (s.length+1) (some (s.length+1)) 1,lst encG (JE t),I (j:Nat)]/\i<=j/\j<=s.length+1/\l.get g=some (.arr (row Zl (JC (λj=>fitP k t (segS s i j)) i j (s.length+1))) true)/\m=s.length+1-j) (s.length+1-j) (Xb (post B_40)) ((post B_40).drop 1) (FinS vY_ Tryz.f40 λv h=> ∃r,Frz h v r/\r=lst Zl (JC (λj=>fitP k t (segS s i j)) i (s.length+1) (s.length+1))) .normal 70 [.s s,I i, .lb [I k, .s t], .sl (some (g,0)) (s.length+1) (some (s.length+1)) 1,lst encG (JE t),I (wW ((j:Int)+1))] d:=λd K=>
    ⟨rfl,s.length+1-(j+1),om,j+1,by rw[Ze om];rfl,om,om,by rw[K,qc,uF rfl],rfl⟩
   refine Zf (λc0=> ?_) (λc0=> ?_);have q:k=0:=su c0;exact⟨⟨om,om⟩,⟨om,by simp;omega⟩,⟨om,om⟩,rfl,_,o _ (by unfold fitP;rw[uF q]) a,next _ rfl⟩;have q:k≠0:=su c0;have E:=F (segS s i j) (by unfold segS;rw[uO,vD];omega);exact⟨⟨om,om⟩,⟨om,by simp;omega⟩,_,E,⟨om,om⟩,rfl,_,o _ (by unfold fitP;rw[uE q]) a,next _ rfl⟩
  .have e:j=s.length+1:=om;subst e;refine Zj [7] ?_;refine Zo vK_ ZPo rfl ?_;exact ZB rr rfl (ZCa _ C (by rw[Qn])) rfl
end Go.Y
namespace Go.Y
set_option maxRecDepth 1000000
set_option maxHeartbeats 0
/-! ### What the printer takes is well shaped -/
mutual
theorem Zgy: ∀(r:Re) (lv e g i:Int),rightF r lv e g=some i->gkRe r/\grpRe r
 | .mk k s b C B n,lv,e,g,i,h=>by
  rw[rightF]at h;rw[gkRe,grpRe];have f: ∀lv e g,rightF.kidsF b lv e g=some i->k≠7->((k=7->b.length=1)/\gkRe.gkRes b)/\(k=7->n<=9)/\grpRe.grpRes b:=λlv e g h j=>by
   obtain⟨m,o⟩:=VE b lv e g i h;exact⟨⟨λc=>absurd c j,m⟩,λc=>absurd c j,o⟩
  have d:((b.length:Nat):Int)=0->k≠7->((k=7->b.length=1)/\gkRe.gkRes b)/\(k=7->n<=9)/\grpRe.grpRes b:=λh j=>by
   have:b= []:=by cases b with
    |nil=>rfl
    |cons a l=>simp at h;omega
   subst this;exact⟨⟨λc=>absurd c j,by rw[gkRe.gkRes];trivial⟩,λc=>absurd c j,by rw[grpRe.grpRes];trivial⟩
  by_cases p:Zea k s C B n=false;rw[uF p]at h;cases h;rw[uE p]at h;by_cases q:k=0;rw[uF q]at h;split at h;rename_i c;exact d (by simp at c;simp[c.2]) om;cases h;rw[uE q]at h;by_cases t:k=1;rw[uF t]at h;split at h;rename_i c;exact d (su c) om;cases h;rw[uE t]at h;by_cases u:k=2\/k=3;rw[uF u]at h;split at h;rename_i c;exact d (by simp at c;simp[c.2]) om;cases h;rw[uE u]at h;by_cases v:k=4;rw[uF v]at h;split at h;exact f _ _ _ h om;cases h;rw[uE v]at h;by_cases w:k=5;rw[uF w]at h;split at h;exact f _ _ _ h om;cases h;rw[uE w]at h;by_cases x:k=6;rw[uF x]at h;split at h;exact f _ _ _ h om;cases h;rw[uE x]at h;by_cases y:k=7
  .rw[uF y]at h;by_cases c:((n==if ltI 9 (XR (g+1))then 0 else XR (g+1))&&ltI e 64&&((b.length:Nat):Int)==1)=true
   .rw[uF c]at h;obtain⟨m,o⟩:=VE b _ _ _ i h;simp only[qrq,vO]at c;obtain⟨⟨z,_⟩,D⟩:=c;refine⟨⟨λ_=>om,m⟩,λ_=> ?_,o⟩;rw[z];split;omega
    .rename_i A;have: ¬(9:Int)<XR (g+1):=by simpa[ltI]using A
     omega
   .rw[uE c]at h;cases h
  rw[uE y]at h;cases h
theorem VE: ∀(l:List Re) (lv a g b:Int),rightF.kidsF l lv a g=some b->gkRe.gkRes l/\grpRe.grpRes l
 | [],_,_,_,_,_=>by rw[gkRe.gkRes,grpRe.grpRes];exact⟨trivial,trivial⟩
 |r::l,lv,a,g,b,h=>by
  rw[rightF.kidsF]at h;rw[gkRe.gkRes,grpRe.grpRes]
  cases c:rightF r lv a g with
  |none=>rw[c]at h;cases h
  |some d=>
   rw[c]at h;have q:=Zgy r lv a g d c;have e:=VE l lv a d b h;exact⟨⟨q.1,e.1⟩,q.2,e.2⟩
end
theorem Zgz{r:Re}(h:mayE r=true):gkRe r/\grpRe r:=by unfold mayE at h;simp only[qrq]at h;obtain⟨g,a⟩:=Option.isSome_iff_exists.1 h.1;exact Zgy r _ _ _ _ a
theorem Zy9{r:Re}(a:FineR r)(h:mayE r=true):OvOk r/\grpRe r:=⟨⟨a,(Zgz h).1⟩,(Zgz h).2⟩
/-! ### Parts of a text -/
theorem Zbh(s)(i:Nat):segS s i i= []:=by unfold segS;rw[vM,uQ]
theorem Zah{s:List UInt8}{i j:Nat}(h:i<j)(a:j<=s.length):segS s i j=s[i]::segS s (i+1) j:=by unfold segS;rw[uM om,show j-i=(j-(i+1))+1 from om,List.take_succ_cons]
theorem WX{s:List UInt8}{i j:Nat}(a:j<=s.length):(segS s i j).length=j-i:=by unfold segS;rw[uO,vD];omega
theorem ZIo(s:List UInt8):segS s 0 s.length=s:=by unfold segS;simp
theorem Zza{s:List UInt8}{i j:Nat}(d:i<=j)(b:j<=s.length)(t:List UInt8):t<:+segS s i j↔ ∃x,i<=x/\x<=j/\t=segS s x j:=by
 constructor
 .intro h;have a:=List.suffix_iff_eq_drop.1 h;have c:=h.length_le;rw[WX b]at a c;refine⟨j-t.length,om,om,?_⟩;refine a.trans ?_;unfold segS;rw[List.drop_take,vI];have e:i+(j-i-t.length)=j-t.length:=om;rw[e]
  congr 1;omega
 .rintro⟨x,a,c,rfl⟩;refine List.suffix_iff_eq_drop.2 ?_;rw[WX b,WX b];unfold segS;rw[List.drop_take,vI];have e:i+(j-i-(j-x))=x:=om;rw[e]
  congr 1;omega
/-! ### What expressions stand for -/
theorem ZIp{s:List UInt8}{a b:Bool}{x}{i j:Nat} :StD s a b (Qw x) i j↔ ∃c,s[i]? =some c/\hasN x c.toNat=true/\j=i+1:=by unfold Qw;rw[StD];exact Iff.rfl
theorem VF{s:List UInt8}{e f:Bool}{p}{i j:Nat} :StD s e f (Qw (ZD p)) i j↔ ∃c,s[i]? =some c/\p c.toNat=true/\j=i+1:=by rw[ZIp];constructor;rintro⟨c,a,d,b⟩;exact⟨c,a,by rwa [Zac p c.toNat_lt]at d,b⟩;rintro⟨c,a,d,b⟩;exact⟨c,a,by rwa [Zac p c.toNat_lt],b⟩
theorem Zzb{s:List UInt8}{b d:Bool}{i j:Nat} :StD s b d Vx i j↔i<s.length/\j=i+1:=by unfold Vx;rw[VF];constructor;rintro⟨c,a,_,f⟩;exact⟨(qb.1 a).1,f⟩;rintro⟨a,e⟩;exact⟨s[i],qo a,rfl,e⟩
theorem Zkk{s:List UInt8}{c d:Bool} : ∀(m i j:Nat),powD (λa b=>StD s c d Vx a b) m i j↔j=i+m/\(m=0\/j<=s.length)
 |0,i,j=>by
  show i=j↔_;omega
 |m+1,i,j=>by
  show(∃x,StD s c d Vx i x/\powD (λa b=>StD s c d Vx a b) m x j)↔_;constructor;rintro⟨x,e,f⟩;obtain⟨g,h⟩:=Zzb.1 e;obtain⟨k,l⟩:=(Zkk m x j).1 f;omega;rintro⟨e,f⟩;exact⟨i+1,Zzb.2 ⟨om,rfl⟩,(Zkk m _ j).2 om⟩
theorem Zcu{s:List UInt8}{c d:Bool}{i j:Nat}(g:i<=s.length):StD s c d ZU i j↔i<=j/\j<=s.length:=by unfold ZU;rw[StD];show(∃m:Nat,(0:Int)<=(m:Int)/\((-1:Int)<0\/(m:Int)<= -1)/\powD (λa b=>StD s c d Vx a b) m i j)↔_;constructor;rintro⟨m,_,_,h⟩;have:=(Zkk m i j).1 h;omega;rintro⟨e,f⟩;exact⟨j-i,om, .inl om,(Zkk _ i j).2 om⟩
theorem Zai{s}{e f:Bool} : ∀(a b:List Re) (i j:Nat),StD.catD s e f (a++b) i j↔ ∃x,StD.catD s e f a i x/\StD.catD s e f b x j
 | [],b,i,j=>by
  rw[qy];constructor;intro h;exact⟨i,by rw[StD.catD],h⟩;rintro⟨x,c,d⟩;rw[StD.catD]at c;rw[c];exact d
 |r::a,b,i,j=>by
  rw[qs,StD.catD];constructor;rintro⟨x,c,d⟩;obtain⟨y,g,k⟩:=(Zai a b x j).1 d;exact⟨y,by rw[StD.catD];exact⟨x,c,g⟩,k⟩;rintro⟨y,c,d⟩;rw[StD.catD]at c;obtain⟨x,g,k⟩:=c;exact⟨x,g,(Zai a b x j).2 ⟨y,k,d⟩⟩
theorem Zkl{s}{a b:Bool}{r}{i j:Nat} :StD.catD s a b [r] i j↔StD s a b r i j:=by rw[StD.catD];constructor;rintro⟨x,d,c⟩;rw[StD.catD]at c;rw[<-c];exact d;intro h;exact⟨j,h,by rw[StD.catD]⟩
theorem ZIq{s}{a b:Bool}{i j:Nat} : ∀l:List Re,StD s a b (sevS 4 l) i j↔StD.catD s a b l i j
 | []=>by rw[sevS,StD,StD.catD];exact Iff.rfl
 | [r]=>by rw[Zkl];exact Iff.rfl
 |r::r'::l=>by
  show StD s a b (.mk 4 (0,0,0,0) (r::r'::l) 0 0 0) i j↔_;rw[StD];exact Iff.rfl
theorem Znk(a c:UInt8):(a.toNat==c.toNat)=true↔a=c:=by rw[vO];exact⟨λh=>UInt8.toNat.inj h,λh=>by rw[h]⟩
theorem Zg0{s:List UInt8}{n o:Bool} : ∀(t:List UInt8) {i j:Nat},i<=j->j<=s.length->(StD.catD s n o (Xl t) i j↔segS s i j=t)
 | [],i,j,g,d=>by
  rw[Xl,List.map_nil,StD.catD];constructor;intro h;subst h;exact Zbh s i;intro h;have:=WX (s:=s) (i:=i) d;rw[h]at this;simp at this;omega
 |c::t,i,j,g,d=>by
  have e:Xl (c::t)=Ws c::Xl t:=by simp[Xl]
  rw[e,StD.catD];constructor;rintro⟨x,b,f⟩;unfold Ws at b;obtain⟨a,p,q,rfl⟩:=VF.1 b;have m:=(qb.1 p);have k:=Zgv (Xl t) m.1 f;rw[Zah om d,(Zg0 t k.1 d).1 f,m.2,(Znk a c).1 q]
  .intro h;have l:i<j:=by
    rcases Nat.lt_or_ge i j with b|b;exact b;have:i=j:=om;subst this;rw[Zbh]at h;cases h
   rw[Zah l d]at h;obtain⟨b,f⟩:=List.cons.inj h;refine⟨i+1,?_,(Zg0 t om d).2 f⟩;unfold Ws;exact VF.2 ⟨s[i],qo om,(Znk _ _).2 b,rfl⟩
theorem Zkm{s:List UInt8}{q t:Bool}{g:Glob}{l}{p:Nat->Bool}(A:g.k≠2)(u: ∀c:UInt8,p c.toNat=Zdo g c.toNat)(v: ∀ {i j:Nat},i<=j->j<=s.length->(StD.catD s q t (ZX l) i j↔M l (segS s i j)=true)){i j:Nat}(B:i<=j)(e:j<=s.length):
  StD.catD s q t ([Qw (ZD p)]++ZX l) i j↔M (g::l) (segS s i j)=true:=by
 rw[Zxg g A,List.singleton_append,StD.catD];constructor;rintro⟨x,b,d⟩;obtain⟨a,f,z,rfl⟩:=VF.1 b;have C:=(qb.1 f);obtain⟨D,o⟩:=C;have m:=Zgv (ZX l) om d;refine⟨a,segS s (i+1) j,?_,by rw[<-u];exact z,(v m.1 e).1 d⟩;rw[Zah om e,o]
 .rintro⟨c,r,b,d,f⟩;have n:i<j:=by
   rcases Nat.lt_or_ge i j with h|h;exact h;have:i=j:=om;subst this;rw[Zbh]at b;cases b
  rw[Zah n e]at b;obtain⟨w,y⟩:=List.cons.inj b;refine⟨i+1,VF.2 ⟨s[i],qo om,?_,rfl⟩,(v om e).2 (by rw[y];exact f)⟩;rw[w,u];exact d
theorem Znl{s:List UInt8}{bg en:Bool} : ∀(l:List Glob),mayS l=true-> ∀ {i j:Nat},i<=j->j<=s.length->(StD.catD s bg en (ZX l) i j↔M l (segS s i j)=true)
 | [],_,i,j,a,d=>by
  have e:ZX []= []:=rfl;rw[e,Zxh,StD.catD,List.isEmpty_iff];constructor;intro h;subst h;exact Zbh s i;intro h;have:=WX (s:=s) (i:=i) d;rw[h]at this;simp at this;omega
 |g::l,z,i,j,a,d=>by
  have p:oneS g=true/\mayS l=true:=by simpa[mayS]using z
  have q:=λ{i j:Nat} (n:i<=j) (f:j<=s.length)=>Znl (s:=s) (bg:=bg) (en:=en) l p.2 n f;have e:ZX (g::l)=XX g++ZX l:=by simp[ZX]
  rw[e];unfold XX;by_cases m:g.k=0;rw[uF m];refine Zkm om (λc=> ?_) q a d;unfold ZO Zdo;rw[uF m];simp only[List.any_cons,List.any_nil,Bool.or_false];by_cases h:g.b=(c.toNat:Int);rw[h];simp;rw[show(g.b==(c.toNat:Int))=false by simpa using h];simp only[Bool.and_eq_false_iff,decide_eq_false_iff_not];omega;rw[uE m];by_cases r:g.k=1;rw[uF r];refine Zkm om (λc=> ?_) q a d;unfold Zdo;rw[uE m,r];rfl;rw[uE r];by_cases w:g.k=2;rw[uF w,Zmj g w,List.singleton_append,StD.catD];constructor;rintro⟨x,n,f⟩;obtain⟨u,v⟩:=(Zcu om).1 n;have o:=Zgv (ZX l) v f;exact⟨segS s x j,(Zza a d _).2 ⟨x,u,o.1,rfl⟩,(q o.1 d).1 f⟩;rintro⟨t,n,f⟩;obtain⟨x,u,v,rfl⟩:=(Zza a d _).1 n;exact⟨x,(Zcu om).2 ⟨u,om⟩,(q v d).2 f⟩;rw[uE w];by_cases y:g.k=3
  .rw[uF y];refine Zkm om (λc=> ?_) q a d;unfold Zdo ZO;rw[uE m,show(g.k==1)=false by simpa using r,Bool.false_or]
   rfl
  .exfalso;have:=p.1;unfold oneS at this;rw[uE m,uE om,uE y]at this;cases this
/-! ### Groups' numbers, anchors -/
mutual
theorem Zcv{s}{bg en:Bool} : ∀(r:Re) (i j:Nat),StD s bg en (laterF r) i j↔StD s bg en r i j
 | .mk k f d l g n,i,j=>by
  rw[laterF,StD,StD];have c:=λi j=>Znm (s:=s) (bg:=bg) (en:=en) d i j;have a:=λi j=>Znn (s:=s) (bg:=bg) (en:=en) d i j;have h:(λa b=>StD.headD s bg en (laterF.latersF d) a b)=(λa b=>StD.headD s bg en d a b):=funext λx=>funext λy=>propext (Ziu (s:=s) (bg:=bg) (en:=en) d x y);have e:=Ziu (s:=s) (bg:=bg) (en:=en) d i j;simp only[c i j,a i j,h,e]
theorem Znm{s}{bg en:Bool} : ∀(l:List Re) (i j:Nat),StD.catD s bg en (laterF.latersF l) i j↔StD.catD s bg en l i j
 | [],i,j=>by rw[laterF.latersF]
 |r::l,i,j=>by
  rw[laterF.latersF,StD.catD,StD.catD];exact exists_congr λx=>and_congr (Zcv r i x) (Znm l x j)
theorem Znn{s}{bg en:Bool} : ∀(l:List Re) (i j:Nat),StD.altD s bg en (laterF.latersF l) i j↔StD.altD s bg en l i j
 | [],i,j=>by rw[laterF.latersF]
 |r::l,i,j=>by
  rw[laterF.latersF,StD.altD,StD.altD];exact or_congr (Zcv r i j) (Znn l i j)
theorem Ziu{s}{bg en:Bool} : ∀(l:List Re) (i j:Nat),StD.headD s bg en (laterF.latersF l) i j↔StD.headD s bg en l i j
 | [],i,j=>by rw[laterF.latersF]
 |r::l,i,j=>by
  rw[laterF.latersF,StD.headD,StD.headD];exact Zcv r i j
end
mutual
theorem Ze1{s}{e f bg' en':Bool} : ∀(r:Re),anchB r=false-> ∀i j,StD s e f r i j↔StD s bg' en' r i j
 | .mk k u d w v n,h,i,j=>by
  rw[anchB]at h;simp only[uk]at h;obtain⟨⟨m,o⟩,g⟩:=h;have q:k≠2:=su m;have t:k≠3:=su o;rw[StD,StD];simp only[uE q,uE t];have c:=λi j=>Zr7 (s:=s) (bg:=e) (en:=f) (bg':=bg') (en':=en') d g i j;have a:=λi j=>Zr8 (s:=s) (bg:=e) (en:=f) (bg':=bg') (en':=en') d g i j;have p:(λa b=>StD.headD s e f d a b)=(λa b=>StD.headD s bg' en' d a b):=funext λx=>funext λy=>propext (Zno (s:=s) (bg:=e) (en:=f) (bg':=bg') (en':=en') d g x y);have l:=Zno (s:=s) (bg:=e) (en:=f) (bg':=bg') (en':=en') d g i j;simp only[c i j,a i j,p,l]
theorem Zr7{s}{bg en bg' en':Bool} : ∀(l:List Re),anchB.anchs l=false-> ∀i j,StD.catD s bg en l i j↔StD.catD s bg' en' l i j
 | [],_,i,j=>by rw[StD.catD,StD.catD]
 |r::l,h,i,j=>by
  rw[anchB.anchs]at h;simp only[uk]at h;rw[StD.catD,StD.catD];exact exists_congr λx=>and_congr (Ze1 r h.1 i x) (Zr7 l h.2 x j)
theorem Zr8{s}{bg en bg' en':Bool} : ∀(l:List Re),anchB.anchs l=false-> ∀i j,StD.altD s bg en l i j↔StD.altD s bg' en' l i j
 | [],_,i,j=>by rw[StD.altD,StD.altD]
 |r::l,h,i,j=>by
  rw[anchB.anchs]at h;simp only[uk]at h;rw[StD.altD,StD.altD];exact or_congr (Ze1 r h.1 i j) (Zr8 l h.2 i j)
theorem Zno{s}{bg en bg' en':Bool} : ∀(l:List Re),anchB.anchs l=false-> ∀i j,StD.headD s bg en l i j↔StD.headD s bg' en' l i j
 | [],_,i,j=>by rw[StD.headD,StD.headD]
 |r::l,h,i,j=>by
  rw[anchB.anchs]at h;simp only[uk]at h;rw[StD.headD,StD.headD];exact Ze1 r h.1 i j
end
theorem Zzc{s}{a b:Bool}{r}{i j:Nat} :StD s a b (Wa r) i j↔StD s a b r i j:=by unfold Wa;rw[StD];show StD.headD s a b [laterF r] i j↔_;rw[StD.headD];exact Zcv r i j
theorem Zt6{s:List UInt8}{c d:Bool}(L:List Re):StD.catD s c d (ZU::(L++ [ZU])) 0 s.length↔ ∃i j,i<=j/\j<=s.length/\StD.catD s c d L i j:=by rw[StD.catD];constructor;rintro⟨i,e,a⟩;obtain⟨_,f⟩:=(Zcu om).1 e;obtain⟨j,b,_⟩:=(Zai L [ZU] i _).1 a;have:=Zgv L f b;exact⟨i,j,this.1,this.2,b⟩;rintro⟨i,j,e,a,b⟩;exact⟨i,(Zcu om).2 ⟨om,om⟩,(Zai L [ZU] i _).2 ⟨j,b,Zkl.2 ((Zcu a).2 ⟨a,qnq _⟩)⟩⟩
end Go.Y
