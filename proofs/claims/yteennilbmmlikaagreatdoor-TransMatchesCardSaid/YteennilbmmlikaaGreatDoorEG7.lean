/- A part of the proof. -/
import Derived.Test.YteennilbmmlikaaGreatDoorGSuA
import Derived.Test.YteennilbmmlikaaGreatDoorYLoop
import Derived.Test.YteennilbmmlikaaGreatDoorGOf2
import Derived.Test.YteennilbmmlikaaGreatDoorYAny3
import Derived.Test.YteennilbmmlikaaGreatDoorGA2
import Derived.Test.YteennilbmmlikaaGreatDoorGTrO
import Derived.Test.YteennilbmmlikaaGreatDoorGTrF
namespace Go.Y
open Go.Proofs
set_option maxRecDepth 1000000
set_option maxHeartbeats 0
theorem ZOa{k0 p0 p1 p2 p3 a n0 c d m0 s1 i2 i3 h}(K):CP Tryv.Y 41 ((flat (Za Tryz.f41)).take 6) (.agg (R9 k0 p0 p1 p2 p3 a n0 none c d m0)::.s s1::I i2::I i3::Rp 74) h [2,3,4,8,10,11] K=(∃b,(λf=>(PCon Tryv.Y 42 [.agg (R9 k0 p0 p1 p2 p3 a n0 none c d m0)] λv=>v=.b b)/\If (!b) f (If (ltI i2 0) f (If (ltI i3 i2) f (If (ltI (↑s1.length:Int) i3) f (((0:Int)<=wW ((↑s1.length:Int)+(1:Int))/\wW ((↑s1.length:Int)+(1:Int))<=wW ((↑s1.length:Int)+(1:Int))/\wW ((↑s1.length:Int)+(1:Int))<=(most:Int)/\wW ((↑s1.length:Int)+(1:Int))*(↑(1:Nat):Int)<=(most:Int))/\((0:Int)<=i3/\i3<(↑(wW ((↑s1.length:Int)+(1:Int))).toNat:Int))/\1=1/\ ∃e,Zi ((h.push (YObj.arr [.s s1,I 0,I 0,I 0,I 0,I 0,I 0,I 0,I 0,I 0,I 0,I 0,I 0,I 0,I 0,I 0,I 0,I 0,I 0,I 0,I 0] true)).push (YObj.arr (List.replicate (wW ((↑s1.length:Int)+(1:Int))).toNat [.b false]).flatten true)) (h.nx+(1:Nat)) ((0:Nat)+i3.toNat*1) [.b true]=some e/\K .normal 78 [I i2,I i3, .lb (R9 k0 p0 p1 p2 p3 a n0 none c d m0), .lb I20, .p (some (h.nx,0)),S (some (h.nx+(1:Nat),0)) (wW ((↑s1.length:Int)+(1:Int))).toNat (some (wW ((↑s1.length:Int)+(1:Int))).toNat) 1] e))))) (K .ret 78 [I i2,I i3, .lb (R9 k0 p0 p1 p2 p3 a n0 none c d m0), .lb I20,Ud,Ud] h)):=kr
theorem ZOb{k0 p0 p1 p2 p3 a n0 d e m0 i2 i3 f g j h}(K):CP Tryv.Y 41 (pre ((flat (Za Tryz.f41)).drop 6)) (MZ 78 [2,3,4,8,10,11] [I i2,I i3,.lb (R9 k0 p0 p1 p2 p3 a n0 none d e m0),.lb I20,.p (some (f,0)),J g j none]) h [2,3,4,8,10,11,12] K=(Con Tryv.Y 91 [.p (some (f,0)),.agg (R9 k0 p0 p1 p2 p3 a n0 none d e m0),J g j none] h fun(v:V) (k:Heap)=> ∃b c i,v=J b c i/\(0<=i2/\i2<c)/\ ∃l,Zr 1 (List.drop (i2.toNat*1) b)=some [.b l]/\If (!l) (K .ret 78 [I i2,I i3, .lb (R9 k0 p0 p1 p2 p3 a n0 none d e m0), .lb I20, .p (some (f,0)),J g j none,Ud] k) (K .normal 78 [I i2,I i3, .lb (R9 k0 p0 p1 p2 p3 a n0 none d e m0), .lb I20, .p (some (f,0)),J g j none,I 0] k)):=kr
theorem ZOc{k0 p0 p1 p2 p3 c n0 d e m0 i2 i3 b f g a h}(K):CP Tryv.Y 41 (flat (Zx (post ((flat (Za Tryz.f41)).drop 6)))) (MZ 78 [2,3,4,8,10,11,12] [I i2,I i3,.lb (R9 k0 p0 p1 p2 p3 c n0 none d e m0),.lb I20,.p (some (b,0)),J f g none,I a]) h [2,3,4,8,10,11,12] K=(If (ltI a 10) (((0:Int)<=a/\a<(↑(10:Nat):Int))/\ ∃i,Zi h b ((0:Nat)+(1:Nat)+a.toNat*2) [I (-1),I (-1)]=some i/\K .normal 78 [I i2,I i3, .lb (R9 k0 p0 p1 p2 p3 c n0 none d e m0), .lb I20, .p (some (b,0)),J f g none,I (wW (a+(1:Int)))] i) (K (.exit 0) 78 [I i2,I i3, .lb (R9 k0 p0 p1 p2 p3 c n0 none d e m0), .lb I20, .p (some (b,0)),J f g none,I a] h)):=kr
theorem ZOd{k0 p0 p1 p2 p3 c n0 d e m0 i2 i3 a f g h}(K):CP Tryv.Y 41 ((post ((flat (Za Tryz.f41)).drop 6)).drop 1) (MZ 78 [2,3,4,8,10,11] [I i2,I i3,.lb (R9 k0 p0 p1 p2 p3 c n0 none d e m0),.lb I20,.p (some (a,0)),J f g none]) h [8,9] K=(Con Tryv.Y 92 [.p (some (a,0)),.agg (R9 k0 p0 p1 p2 p3 c n0 none d e m0),I i2,J f g none] h fun(v:V) (G:Heap)=> ∃i,v=I i/\((0:Int)<=(0:Int)/\(0:Int)<(↑(10:Nat):Int))/\ ∃j,Zi G a 1 [I i2,I i3]=some j/\ ∃l m n o q r s t u w x y z k D A F E C B,Zb j a 1 20=some [I l,I m,I n,I o,I q,I r,I s,I t,I u,I w,I x,I y,I z,I k,I D,I A,I F,I E,I C,I B]/\K .ret 78 [.lb [I l,I m,I n,I o,I q,I r,I s,I t,I u,I w,I x,I y,I z,I k,I D,I A,I F,I E,I C,I B], .b true] j):=kr
abbrev Z20:V:=V.lb I20
abbrev AFd(idw:Nat)(k:Int)(set:Set4)(c:List Re)(e d n:Int)(i j:Int)(a:List Bool):List V:= [I i,I j, .lb [I k,U set.1,U set.2.1,U set.2.2.1,U set.2.2.2,lst Zd c,I e,I d,I n],Z20, .p (some (idw,0)),lst Zl a]
def IsMt(v:V):Prop:= ∃l:List Int,l.length=20/\v= .agg (l.map (V.i .i64))
theorem Zab(h): ∀l:List Int,FrzL h (l.map (V.i .i64)) (l.map (V.i .i64))
 | []=> .nil
 |_::l=> .cons _ _ _ _ (.i _ _) (Zab h l)
inductive CutR (pre:List V) (id:Nat):Nat->Heap->Heap->Prop
 |stop {t:Nat} {h:Heap} :10<=t->CutR pre id t h h
 |step {t:Nat} {h h' h1:Heap} :t<10->Zi h id (0+pre.length+t*2) [I (-1),I (-1)]=some h'->CutR pre id (t+1) h' h1->CutR pre id t h h1
theorem Zs7(pre l new:List V)(o:Nat):splice (pre++l) (0+pre.length+o) new=pre++splice l o new:=by
 rw[uJ]
 induction pre with
 |nil=>rw[qp,uJ];rfl
 |cons v pre a=>
  rw[qh,show pre.length+1+o=(pre.length+o)+1 from om,qs,splice,a];rfl
theorem ZSb{pre:List V}{l:List Int}(c:l.length=20){m:Nat}(B:m<=9)(a b:Int): ∃d:List Int,d.length=20/\splice (pre++l.map (V.i .i64)) (0+pre.length+m*2) [I a,I b]=pre++d.map (V.i .i64):=by
 refine⟨(l.set (m*2) a).set (m*2+1) b,by simp[c],?_⟩;rw[Zs7]
 match l,c with
 | [F,f,j,D,h,o,g,E,n,u,A,t,z,x,w,C,r,k,y,v],_=>
  have:m=0\/m=1\/m=2\/m=3\/m=4\/m=5\/m=6\/m=7\/m=8\/m=9:=om;rcases this with e|e|e|e|e|e|e|e|e|e<;>subst e<;>rfl
def CutK(pre:List V)(a:Nat)(h:Heap):Prop:=a<h.nx/\ ∃l:List Int,l.length=20/\h.get a=some (.arr (pre++l.map (V.i .i64)) true)
theorem Zgk{pre:List V}{c:Nat}{h}(j:CutK pre c h){m:Nat}(n:m<=9)(a b:Int): ∃d,Zi h c (0+pre.length+m*2) [I a,I b]=some d/\CutK pre c d:=by
 obtain⟨w1,l,e,k⟩:=j;obtain⟨f,o,g⟩:=ZSb (pre:=pre) e n a b;have:=ZM (off:=0+pre.length+m*2) (new:= [I a,I b]) k (by simp[e];omega);rw[g]at this;exact⟨_,this,by rw[Heap.nx_set];exact w1,f,o,by rw[qc,uF rfl]⟩
theorem Zo0{pre}{d:Nat} : ∀(n t:Nat) {h:Heap},t+n=10->CutK pre d h-> ∃a,CutR pre d t h a/\CutK pre d a
 |0,t,h,e,c=>⟨h, .stop om,c⟩
 |n+1,t,h,e,c=>by
  obtain⟨l,j,g⟩:=Zgk c (m:=t) om (-1) (-1);obtain⟨a,f,k⟩:=Zo0 n (t+1) om g;exact⟨a, .step om j f,k⟩
theorem ZOe{r:Re}(hr:OvOk r)(hg:grpRe r)(hm:mayE r=true){s:List UInt8}(hs:s.length<2 ^ 19){i j:Nat}(a0:i<=j)(hj:j<=s.length)(d:StD s true true r i j):
  ∃m,IsMt m/\PCon Tryv.Y 41 [.agg (Zd r), .s s,I i,I j] (· = .tup [m, .b true]):=by
 have e:=PCon.zv (Zf8 hr.fine);rw[hm]at e;have E:=hr.wg;have hF:=λidw=>Zx4 (s:=s) (idw:=idw) hs r E hg;have g:(oneF (s.length+1) j).length=s.length+1:=by simp[oneF]
 have hR:=λ{idw h} (x:WayK s idw h)=>Zie E hs g x;have u:At (ZX r s (oneF (s.length+1) j)) i:=(Qi E g om).2 ⟨j,d,(Zib om _).2 rfl⟩;have C:=XM r s (oneF (s.length+1) j);have A:=λidw h (x:WayK s idw h)=>hF idw i (oneF (s.length+1) j) h om g x ⟨j,d,(Zib om _).2 rfl⟩;clear hF;rw[Zgi om]at u;have a:=QX (ZX r s (oneF (s.length+1) j)) (i:=i) om;rw[u]at a;have H:(0:Int)<=(i:Int)/\(i:Int)<((ZX r s (oneF (s.length+1) j)).length:Nat):=⟨om,om⟩;have f: ∀ {idw h},WayK s idw h-> ∃D,WayK s idw D/\Con Tryv.Y 91 [.p (some (idw,0)), .agg (Zd r),lst Zl (oneF (s.length+1) j)] h λv L=>v=lst Zl (ZX r s (oneF (s.length+1) j))/\L=D:=λx=>⟨_,hR x⟩;clear hR d u;generalize ZX r s (oneF (s.length+1) j)=R at a H f C;have l: ∀ {idw h},WayK s idw h-> ∃(k:Nat) (z:Heap),WayK s idw z/\Con Tryv.Y 92 [.p (some (idw,0)), .agg (Zd r),I i,lst Zl (oneF (s.length+1) j)] h λv D=>v= I (k:Nat)/\D=z:=λx=>by
  obtain⟨k,z,_,_,q1,q2⟩:=A _ _ x;exact⟨k,z,q1,q2⟩
 clear A;clear E hr hg hm;obtain⟨k,set,o,lo,hi,n⟩:=r;rw[Zm]at e ⊢;simp only[Zm]at f l;have K:wW ((s.length:Int)+1)=((s.length+1:Nat):Int):=Ze om;have W:most=1099511627776:=dc;have n1:(Heap.empty.push (.arr (.s s::(List.replicate 20 (0:Int)).map (V.i .i64)) true)).nx=Heap.empty.nx+1:=sm;have g1:((Heap.empty.push (.arr (.s s::(List.replicate 20 (0:Int)).map (V.i .i64)) true)).push (.arr (row Zl (Zy (s.length+1))) true)).get (Heap.empty.nx+1)=some (.arr (row Zl (Zy (s.length+1))) true):=by
  rw[qk,uF n1.symm]
 have B:=ZM (off:=0+(j:Int).toNat*1) (new:= [V.b true]) g1 (by rw[XD];simp;omega);have g2: ∀h:Heap,(h.set (Heap.empty.nx+1) (some (.arr (splice (row Zl (Zy (s.length+1))) (0+(j:Int).toNat*1) [.b true]) true))).get (Heap.empty.nx+1)=some (.arr (row Zl (oneF (s.length+1) j)) true):=λh=>by
  rw[qc,uF rfl,show 0+(j:Int).toNat*1=j from sm,JC _ _ _ (by simp;omega)];rfl
 have w:WayK s Heap.empty.nx (XO (((Heap.empty.push (.arr (.s s::(List.replicate 20 (0:Int)).map (V.i .i64)) true)).push (.arr (row Zl (Zy (s.length+1))) true)).set (Heap.empty.nx+1) (some (.arr (splice (row Zl (Zy (s.length+1))) (0+(j:Int).toNat*1) [.b true]) true))) [Heap.empty.nx+1]):=by
  refine⟨by rw[Qt,Heap.nx_set];simp;omega,List.replicate 20 (0:Int),rfl,?_⟩;rw[Xw,uE sm,qc,uE om,qk,uE (by rw[n1];omega),qk,uF rfl]
 generalize P:XO (((Heap.empty.push (.arr (.s s::(List.replicate 20 (0:Int)).map (V.i .i64)) true)).push (.arr (row Zl (Zy (s.length+1))) true)).set (Heap.empty.nx+1) (some (.arr (splice (row Zl (Zy (s.length+1))) (0+(j:Int).toNat*1) [.b true]) true))) [Heap.empty.nx+1]=h0 at w;obtain⟨z,F,C1⟩:=f w;obtain⟨L,y,G⟩:=Zo0 (pre:= [V.s s]) 10 0 rfl F;obtain⟨kk,h3,N,C3⟩:=l G;obtain⟨h4,Z,w1,l',X,O⟩:=Zgk (pre:= [V.s s]) N (m:=0) om (i:Nat) (j:Nat);refine⟨.agg (l'.map (V.i .i64)),⟨_,X,rfl⟩,?_⟩;refine ZG Tryv.Yok (fn:=Tryz.f41) rfl ?_;refine JO Tryv.Yok 78 6 ZOa rfl kr ?_;refine⟨true,e,Zf (λc=>by cases c) (λ_=>Xr (λc=>om) (λ_=>Xr (λc=>om) (λ_=>Xr (λc=>om) (λ_=> ?_))))⟩;rw[K,qdq,XY];refine⟨⟨om,om,om,om⟩,⟨om,om⟩,rfl,_,B,rfl,?_⟩;refine Zcf [Heap.empty.nx+1] [2,3,4,8,10,11] (vs':=AFd Heap.empty.nx k set o lo hi n (i:Nat) (j:Nat) (oneF (s.length+1) j)) kr (.cons _ _ _ _ (.same _) (.cons _ _ _ _ (.same _) (.cons _ _ _ _ (.same _) (.cons _ _ _ _ (.same _) (.cons _ _ _ _ (.same _) (.cons _ _ _ _ (.frz _ _ (frzB _ (g2 _) g.symm sm)) .nil)))))) ?_;rw[P];refine Zh Tryv.Yok 78 ZOb rfl (C1.mono ?_);rintro v _ ⟨e2,rfl⟩;refine⟨_,_,_,e2,H,_,a,Zf (λc=>by cases c) (λ_=>⟨rfl,?_⟩)⟩;clear C1 w a H f C;refine ZN [2,3,4,8,10,11,12] [2,3,4,8,10,11,12] (λm vs hh=> ∃t:Nat,vs=AFd Heap.empty.nx k set o lo hi n (i:Nat) (j:Nat) (oneF (s.length+1) j)++ [I (t:Nat)]/\CutR [V.s s] Heap.empty.nx t hh L/\m=10-t) 10 ZA ⟨0,rfl,y,rfl⟩ ?_;clear y;rintro m vs hh ⟨t,rfl,y,rfl⟩;refine Zn Tryv.Yok ZOc rfl ?_
 cases y with
 |step ht d y=>
  refine Xr (λ_=> ?_) (λc=>om);exact⟨⟨om,om⟩,_,d,rfl,10-(t+1),om,t+1,by rw[Ze om];rfl,y,rfl⟩
 |stop ht=>
  refine Xr (λc=>om) (λ_=> ?_);refine Zj [2,3,4,8,10,11] ?_;refine Zo Tryv.Yok ZOd rfl (C3.mono ?_);rintro v _ ⟨e3,rfl⟩;refine⟨_,e3,⟨om,om⟩,_,Z,?_⟩
  match l',X,O with
  | [x0,x1,x2,x3,x4,x5,x6,x7,x8,x9,y0,y1,y2,y3,y4,y5,y6,y7,y8,y9],X,O=>
   refine⟨x0,x1,x2,x3,x4,x5,x6,x7,x8,x9,y0,y1,y2,y3,y4,y5,y6,y7,y8,y9,by rw[Zs O];rfl,?_⟩;exact⟨.inr rfl,_,rfl,_, .tup _ _ (.cons _ _ _ _ (.agg _ _ (Zab _ [x0,x1,x2,x3,x4,x5,x6,x7,x8,x9,y0,y1,y2,y3,y4,y5,y6,y7,y8,y9])) (.cons _ _ _ _ (.b _) .nil)),rfl⟩
theorem ZOf{k0 t0 s1 i2 h}(K):CP Tryv.Y 40 (pre (flat (Za Tryz.f40))) (.agg [I k0, .s t0]::.s s1::I i2::Rp 67) h [1,2,3,6,7,11,14] K=(((0:Int)<=wW ((↑s1.length:Int)+(1:Int))/\wW ((↑s1.length:Int)+(1:Int))<=wW ((↑s1.length:Int)+(1:Int))/\wW ((↑s1.length:Int)+(1:Int))<=(most:Int)/\wW ((↑s1.length:Int)+(1:Int))*(↑(1:Nat):Int)<=(most:Int))/\If (k0==(2:Int)) (∃a c d e f g i j l m n o p,(PCon Tryv.Y 8 [.s t0] fun(v:V)=>v=.tup [.agg (R9 a c d e f g i j l m n),I o,I p])/\ ∃q r t,(PCon Tryv.Y 61 [.agg (R9 a c d e f g i j l m n),.s s1,I i2,.b true,.b true] λv=>v=J q r t)/\K .ret 70 [.s s1,I i2, .lb [I k0, .s t0],J q r t,S (some (h.nx,0)) (wW ((↑s1.length:Int)+(1:Int))).toNat (some (wW ((↑s1.length:Int)+(1:Int))).toNat) 1,Ud,Ud] (h.push (YObj.arr (List.replicate (wW ((↑s1.length:Int)+(1:Int))).toNat [.b false]).flatten true))) (∃a c d e f,(PCon Tryv.Y 24 [.s t0] fun(v:V)=>v=.tup [J a c d,I e,I f])/\K .normal 70 [.s s1,I i2, .lb [I k0, .s t0],S0,S (some (h.nx,0)) (wW ((↑s1.length:Int)+(1:Int))).toNat (some (wW ((↑s1.length:Int)+(1:Int))).toNat) 1,J a c d,I i2] (h.push (YObj.arr (List.replicate (wW ((↑s1.length:Int)+(1:Int))).toNat [.b false]).flatten true)))):=kr
theorem ZOg{k0 t0 s1 i2 c l7 c7 d e a h}(K):CP Tryv.Y 40 (flat (Zx (post (flat (Za Tryz.f40))))) (MZ 70 [1,2,3,7,11,14] [.s s1,I i2,.lb [I k0,.s t0],S (some (c,0)) l7 (some c7) 1,J d e none,I a]) h [1,2,3,7,11,14] K=(If (leI a (↑s1.length:Int)) (If (k0==(0:Int)) (((0:Int)<=a/\a<=(↑s1.length:Int))/\((0:Int)<=i2/\i2<=(↑a.toNat:Int))/\(0<=a/\a<l7)/\1=1/\ ∃b,Zi h c ((0:Nat)+a.toNat*1) [.b (List.take (a.toNat-i2.toNat) (List.drop i2.toNat s1)==t0)]=some b/\K .normal 70 [.s s1,I i2, .lb [I k0, .s t0],S (some (c,0)) l7 (some c7) 1,J d e none,I (wW (a+(1:Int)))] b) (((0:Int)<=a/\a<=(↑s1.length:Int))/\((0:Int)<=i2/\i2<=(↑a.toNat:Int))/\ ∃b,(PCon Tryv.Y 25 [J d e none,.s (List.take (a.toNat-i2.toNat) (List.drop i2.toNat s1))] λv=>v=.b b)/\(0<=a/\a<l7)/\1=1/\ ∃f,Zi h c ((0:Nat)+a.toNat*1) [.b b]=some f/\K .normal 70 [.s s1,I i2, .lb [I k0, .s t0],S (some (c,0)) l7 (some c7) 1,J d e none,I (wW (a+(1:Int)))] f)) (K (.exit 0) 70 [.s s1,I i2, .lb [I k0, .s t0],S (some (c,0)) l7 (some c7) 1,J d e none,I a] h)):=kr
theorem ZOh{a l7 c7 h}(K):CP Tryv.Y 40 ((post (flat (Za Tryz.f40))).drop 1) (MZ 70 [7] [S (some (a,0)) l7 (some c7) 1]) h [6] K=(K .ret 70 [S (some (a,0)) l7 (some c7) 1] h):=kr
theorem ZSc(a d s1 h K):CP UY 25 (pre (flat (Za Tryz.f25))) (J a d none::.s s1::Rp 83) h [0,1,4,5,6,9] K=(∃b,(PCon UY 50 [J a d none] λv=>v=.b b)/\If (!b) (K .ret 85 [J a d none, .s s1, .b false,Ud,Ud,J a d none] h) (((0:Int)<=wW ((↑s1.length:Int)+(1:Int))/\wW ((↑s1.length:Int)+(1:Int))<=wW ((↑s1.length:Int)+(1:Int))/\wW ((↑s1.length:Int)+(1:Int))<=(most:Int)/\wW ((↑s1.length:Int)+(1:Int))*(↑(1:Nat):Int)<=(most:Int))/\((0:Int)<=(0:Int)/\(0:Int)<(↑(wW ((↑s1.length:Int)+(1:Int))).toNat:Int))/\1=1/\ ∃c,Zi (h.push (YObj.arr (List.replicate (wW ((↑s1.length:Int)+(1:Int))).toNat [.b false]).flatten true)) h.nx 0 [.b true]=some c/\K .normal 85 [J a d none, .s s1, .b false,S (some (h.nx,0)) (wW ((↑s1.length:Int)+(1:Int))).toNat (some (wW ((↑s1.length:Int)+(1:Int))).toNat) 1,I 0,J a d none] c)):=kr
theorem ZSd(a n0 s1 b l5 c5 x6 h K):CP UY 25 (pre (flat (Zx (post (flat (Za Tryz.f25)))))) (MZ 85 [0,1,5,6,9] [J a n0 none,.s s1,S (some (b,0)) l5 (some c5) 1,I x6,J a n0 none]) h [0,1,5,6,9] K=(If (ltI x6 n0) (K .normal 85 [J a n0 none, .s s1,S (some (b,0)) l5 (some c5) 1,I x6,J a n0 none] h) (K (.exit 0) 85 [J a n0 none, .s s1,S (some (b,0)) l5 (some c5) 1,I x6,J a n0 none] h)):=kr
theorem ZSe(a n0 s1 c l5 c5 x6 h K):CP UY 25 (pre (flat (ZL (post (flat (Zx (post (flat (Za Tryz.f25))))))))) (MZ 85 [0,1,5,6,9] [J a n0 none,.s s1,S (some (c,0)) l5 (some c5) 1,I x6,J a n0 none]) h [0,1,5,6,7,8,9] K=(((0:Int)<=wW ((↑s1.length:Int)+(1:Int))/\wW ((↑s1.length:Int)+(1:Int))<=wW ((↑s1.length:Int)+(1:Int))/\wW ((↑s1.length:Int)+(1:Int))<=(most:Int)/\wW ((↑s1.length:Int)+(1:Int))*(↑(1:Nat):Int)<=(most:Int))/\K .normal 85 [J a n0 none, .s s1,S (some (c,0)) l5 (some c5) 1,I x6,S (some (h.nx,0)) (wW ((↑s1.length:Int)+(1:Int))).toNat (some (wW ((↑s1.length:Int)+(1:Int))).toNat) 1,I 0,J a n0 none] (h.push (YObj.arr (List.replicate (wW ((↑s1.length:Int)+(1:Int))).toNat [.b false]).flatten true))):=kr
theorem ZSf(d n0 s1 g k c5 x6 e f j a h K):CP UY 25 (flat (Zx (post (flat (ZL (post (flat (Zx (post (flat (Za Tryz.f25))))))))))) (MZ 85 [0,1,5,6,7,8,9] [J d n0 none,.s s1,S (some (g,0)) k (some c5) 1,I x6,S (some (e,0)) f (some j) 1,I a,J d n0 none]) h [0,1,5,6,7,8,9] K=(If (leI a (↑s1.length:Int)) ((0<=x6/\x6<n0)/\ ∃b,Zr 1 (List.drop 0 (List.drop (x6.toNat*3) d))=some [I b]/\If (b==(2:Int)) ((0<=a/\a<k)/\1=1/\ ∃c,Zb h g ((0:Nat)+a.toNat*1) 1=some [.b c]/\If c ((0<=a/\a<f)/\1=1/\ ∃l,Zi h e ((0:Nat)+a.toNat*1) [.b true]=some l/\K .normal 85 [J d n0 none, .s s1,S (some (g,0)) k (some c5) 1,I x6,S (some (e,0)) f (some j) 1,I (wW (a+(1:Int))),J d n0 none] l) (If (ltI 0 a) (((0:Int)<=wW (a-(1:Int))/\wW (a-(1:Int))<(f:Int))/\1=1/\ ∃l,Zb h e ((0:Nat)+(wW (a-(1:Int))).toNat*1) 1=some [.b l]/\(0<=a/\a<f)/\1=1/\ ∃m,Zi h e ((0:Nat)+a.toNat*1) [.b l]=some m/\K .normal 85 [J d n0 none, .s s1,S (some (g,0)) k (some c5) 1,I x6,S (some (e,0)) f (some j) 1,I (wW (a+(1:Int))),J d n0 none] m) ((0<=a/\a<f)/\1=1/\ ∃l,Zi h e ((0:Nat)+a.toNat*1) [.b false]=some l/\K .normal 85 [J d n0 none, .s s1,S (some (g,0)) k (some c5) 1,I x6,S (some (e,0)) f (some j) 1,I (wW (a+(1:Int))),J d n0 none] l))) (If (ltI 0 a) (((0:Int)<=wW (a-(1:Int))/\wW (a-(1:Int))<(k:Int))/\1=1/\ ∃c,Zb h g ((0:Nat)+(wW (a-(1:Int))).toNat*1) 1=some [.b c]/\If c ((0<=x6/\x6<n0)/\ ∃l m n o p,Zr 3 (List.drop (x6.toNat*3) d)=some [I l,.i .u8 m,J n o p]/\ ∃q,((0:Int)<=wW (a-(1:Int))/\s1[(wW (a-(1:Int))).toNat]? =some q)/\ ∃r,(PCon UY 63 [.agg [I l,.i .u8 m,J n o p],.i .u8 (↑q.toNat:Int)] λv=>v=.b r)/\(0<=a/\a<f)/\1=1/\ ∃t,Zi h e ((0:Nat)+a.toNat*1) [.b r]=some t/\K .normal 85 [J d n0 none, .s s1,S (some (g,0)) k (some c5) 1,I x6,S (some (e,0)) f (some j) 1,I (wW (a+(1:Int))),J d n0 none] t) ((0<=a/\a<f)/\1=1/\ ∃l,Zi h e ((0:Nat)+a.toNat*1) [.b false]=some l/\K .normal 85 [J d n0 none, .s s1,S (some (g,0)) k (some c5) 1,I x6,S (some (e,0)) f (some j) 1,I (wW (a+(1:Int))),J d n0 none] l)) (K .normal 85 [J d n0 none, .s s1,S (some (g,0)) k (some c5) 1,I x6,S (some (e,0)) f (some j) 1,I (wW (a+(1:Int))),J d n0 none] h))) (K (.exit 2) 85 [J d n0 none, .s s1,S (some (g,0)) k (some c5) 1,I x6,S (some (e,0)) f (some j) 1,I a,J d n0 none] h)):=kr
theorem ZSg(a n0 s1 x6 b c d h K):CP UY 25 ((post (flat (ZL (post (flat (Zx (post (flat (Za Tryz.f25))))))))).drop 1) (MZ 85 [0,1,6,7,9] [J a n0 none,.s s1,I x6,S (some (b,0)) c (some d) 1,J a n0 none]) h [0,1,5,6,9] K=(K .normal 85 [J a n0 none, .s s1,S (some (b,0)) c (some d) 1,I x6,J a n0 none] h):=kr
theorem ZSh(a n0 s1 x6 b c d h K):CP UY 25 ((post (flat (Zx (post (flat (Za Tryz.f25)))))).drop 1) (MZ 85 [0,1,5,6,9] [J a n0 none,.s s1,S (some (b,0)) c (some d) 1,I x6,J a n0 none]) h [0,1,5,6,9] K=(K .normal 85 [J a n0 none, .s s1,S (some (b,0)) c (some d) 1,I (wW (x6+(1:Int))),J a n0 none] h):=kr
theorem ZSi(s1 a c c5 h K):CP UY 25 ((post (flat (Za Tryz.f25))).drop 1) (MZ 85 [1,5] [.s s1,S (some (a,0)) c (some c5) 1]) h [4] K=(((0:Int)<=(↑s1.length:Int)/\(↑s1.length:Int)<(c:Int))/\1=1/\ ∃b,Zb h a ((0:Nat)+(↑s1.length:Int).toNat*1) 1=some [.b b]/\K .ret 85 [.b b] h):=kr
def ZDc(g:Glob)(c:Int)(m:Nat)(a:List V)(_:Heap):Prop:=
 ∃(i:Nat) (b:Bool),a= [.i .u8 c, .lb (encG g), .b b, .i .i64 (i:Nat), .undef]/\b=(g.k==1||(g.sp.take i).any λx=>leI x.lo c&&leI c x.hi)/\i<=g.sp.length/\m=g.sp.length-i
theorem Zx5(g:Glob)(c:Int)(y:g.sp.length<2 ^ 30):PCon UY 63 [.agg (encG g), .i .u8 c] (· = .b (Zde g c)):=by
 refine ZG UK (fn:=Tryz.f63) rfl ?_;refine Xg UK (n:=46) (loc:=UY.loc 63) 100 [1,2,4,5,6,10] kr ?_;refine Eq.mpr (f63_0 g.k g.b (row encS g.sp) g.sp.length c .empty _) ?_;refine Zf (λd=>ZZ rr rfl ⟨_, .b _,?_⟩) (λd=> ?_)
 .have d:g.k=0:=by simpa using d
  simp[Zde,d,V.plain]
 have d:g.k≠0:=by simpa using d
 refine⟨rfl,ZN [1,2,5,6,10] [1,2,5,6,10] (ZDc g c) g.sp.length ZA ⟨0,_,rfl,sm,om,om⟩ ?_⟩;rintro m A j ⟨i,b,rfl,u,z,rfl⟩;refine ZR UK (loc:=UY.loc 63) 100 [1,2,5,6,10] ?_;refine Eq.mpr (f63_1 g.k g.b (row encS g.sp) g.sp.length c b (i:Nat) j _) ?_;refine Zq (λa=> ?_) (λw=> ?_)
 .have x:=VN VO g.sp a;rw[qdq,x,Ze om];have next: ∀f:Bool,f=(b||(leI g.sp[i].lo c&&leI c g.sp[i].hi))->XE UY 46 [1,2,5,6,10] [1,2,5,6,10] (ZDc g c) (g.sp.length-i)
    (Xd (post (flat (Za Tryz.f63)))) ((post (flat (Za Tryz.f63))).drop 1) (FinS UY Tryz.f63 λv h=> ∃r,Frz h v r/\r= .b (Zde g c)) .normal 46 [.i .u8 c, .lb (encG g), .b f,I ((i+1:Nat):Int), .undef] j:=by
   intro f o;refine⟨rfl,g.sp.length-(i+1),om,i+1,f,rfl,?_,om,rfl⟩;rw[o,u,qa a,uj,Bool.or_assoc];simp
  refine Zf (λl=>next _ (by rw[l];rfl)) (λe=> ?_);refine⟨Zu a,_,rfl,Zf (λt=>⟨Zu a,_,rfl,next _ (by rw[e,t];rfl)⟩) (λt=>next _ (by rw[e,t];rfl))⟩
 .refine Zj [5] ?_;refine ZE UK (loc:=UY.loc 63) 100 [4] ?_;refine Eq.mpr (f63_2 b j _) ?_;rw[qt w]at u;refine ZB rr rfl (.b _) ?_;simp[Zde,d,u,V.plain]
def rowK(f:Nat->Bool)(k n:Nat):List V:=(List.range n).map λj=>V.b (if j<k then f j else false)
theorem Zac(f:Nat->Bool)(k n j:Nat)(a:j<n):(rowK f k n)[j]? =some (.b (if j<k then f j else false)):=by simp[rowK,a]
theorem JE(f:Nat->Bool)(k n:Nat):(rowK f k n).length=n:=by simp[rowK]
theorem Zgl{a:List V}{j:Nat}{v}(h:a[j]? =some v):Zr 1 (a.drop j)=some [v]:=by
 have c:=(qb.1 h).1;rw[uM c];have:a[j]=v:=(qb.1 h).2;simp[Zr,this]
theorem ZBi(f:Nat->Bool){k n:Nat}(l:k<n){b:Bool}(g:b=f k):splice (rowK f k n) k [.b b]=rowK f (k+1) n:=by
 apply vA;intro j;rw[Xt _ _ _ _ (by rw[JE];simp;omega)];by_cases c:j<n
 .rw[Zac f k n j c,Zac f (k+1) n j c];by_cases a:j=k
  .subst a;simp[g]
  .rw[uE (by simp;omega)];by_cases d:j<k
   .rw[uF d,uF om]
   .rw[uE d,uE om]
 .have h:(rowK f k n)[j]? =none:=qq (by rw[JE];omega);have e:(rowK f (k+1) n)[j]? =none:=qq (by rw[JE];omega);rw[h,e,uE (by simp;omega)]
theorem Zx6(f:Nat->Bool){k n:Nat}(d:f k=false):rowK f k n=rowK f (k+1) n:=by
 unfold rowK;apply List.map_congr_left;intro j _;by_cases c:j=k
 .subst c;simp[d]
 .by_cases a:j<k
  .rw[uF a,uF om]
  .rw[uE a,uE om]
theorem Zmr(f:Nat->Bool)(n:Nat):(List.replicate n [V.b false]).flatten=rowK f 0 n:=by
 apply vA;intro j;by_cases a:j<n
 .rw[Zac f 0 n j a];have:(List.replicate n [V.b false]).flatten=List.replicate n (V.b false):=by
   induction n with
   |zero=>rfl
   |succ n c=>rw[uZ,List.flatten_cons];simp[uZ]
  rw[this];simp[a]
 .rw[qq (by simp;omega),qq (by rw[JE];omega)]
theorem Zif{h:Heap}{id:Nat}{f:Nat->Bool}{k n:Nat}(c:h.get id=some (.arr (rowK f k n) true))(a:k<n){b:Bool}(d:b=f k):
  Zi h id k [.b b]=some (h.set id (some (.arr (rowK f (k+1) n) true))):=by
 simp only[Zi,c];rw[uF (by rw[JE];simp;omega),ZBi f a d]
abbrev bsl(a n:Nat):V:= .sl (some (a,0)) n (some n) 1
def TabO(l:List Glob)(s:List UInt8)(m:Nat)(c:List V)(h:Heap):Prop:=
 ∃(i a:Nat),c= [lst encG l, .s s,bsl a (s.length+1), .i .i64 (i:Nat),lst encG l]/\i<=l.length/\a<h.nx/\h.get a=some (.arr (rowK (tab l s i) (s.length+1) (s.length+1)) true)/\m=l.length-i
def TabN(l:List Glob)(s:List UInt8)(i c:Nat)(m:Nat)(d:List V)(h:Heap):Prop:=
 ∃(k a:Nat),d= [lst encG l, .s s,bsl c (s.length+1), .i .i64 (i:Nat),bsl a (s.length+1), .i .i64 (k:Nat),lst encG l]/\k<=s.length+1/\a<h.nx/\c≠a/\
  h.get c=some (.arr (rowK (tab l s i) (s.length+1) (s.length+1)) true)/\h.get a=some (.arr (rowK (tab l s (i+1)) k (s.length+1)) true)/\m=s.length+1-k
theorem Zig(l)(s:List UInt8)(N:okG l)(a4:s.length<2 ^ 28):PCon UY 25 [lst encG l, .s s] (· = .b (mayS l&&M l s)):=by
 have hl:=N.1;have F:(most:Int)=1099511627776:=dc;have W:wW ((s.length:Int)+1)=((s.length+1:Nat):Int):=Ze om;have alloc:(0:Int)<=((s.length+1:Nat):Int)/\((s.length+1:Nat):Int)<=((s.length+1:Nat):Int)/\((s.length+1:Nat):Int)<=(most:Int)/\((s.length+1:Nat):Int)*((1:Nat):Int)<=(most:Int):=by
  rw[F];refine⟨om,om,om,om⟩
 refine ZG UK (fn:=Tryz.f25) rfl ?_;refine Xg UK (n:=85) (loc:=UY.loc 25) 100 [0,1,4,5,6,9] kr ?_;refine Eq.mpr (ZSc (row encG l) l.length s .empty _) ?_;rw[W,qdq];refine⟨_,ZAd l N,Zf (λP=>ZZ rr rfl ⟨_, .b _,?_⟩) (λP=> ?_)⟩
 .have:mayS l=false:=by simpa using P
  rw[this];rfl
 have L:mayS l=true:=by simpa using P
 rw[L,uT];have hz:(List.replicate (s.length+1) [V.b false]).flatten=rowK (tab l s 0) 0 (s.length+1):=Zmr _ _;have O:tab l s 0 0=true:=by rw[ZCh l s 0 om];rfl
 have h1:=Zif (h:=Heap.empty.push (.arr (rowK (tab l s 0) 0 (s.length+1)) true)) (id:=Heap.empty.nx) (f:=tab l s 0) (k:=0) (n:=s.length+1) sm om (b:=true) O.symm;have K:rowK (tab l s 0) 1 (s.length+1)=rowK (tab l s 0) (s.length+1) (s.length+1):=by
  unfold rowK;apply List.map_congr_left;intro j E;have E:=List.mem_range.1 E;rw[uF E];by_cases X:j<1
  .rw[uF X]
  .rw[uE X,ZCh l s j om];simp;omega
 refine⟨alloc,⟨om,om⟩,rfl,_,by rw[hz];exact h1,rfl,?_⟩;refine ZN [0,1,5,6,9] [0,1,5,6,9] (TabO l s) l.length ZA ⟨0,_,rfl,om,?_,?_,om⟩ ?_
 .simp
 .rw[<-K];simp
 rintro m vs h ⟨i,x,rfl,hi,a3,hg,rfl⟩;refine Xg UK (n:=85) (loc:=UY.loc 25) 100 [0,1,5,6,9] kr ?_;refine Eq.mpr (ZSd (row encG l) l.length s x (s.length+1) (s.length+1) (i:Nat) h _) ?_;refine Zq (λa=> ?_) (λa1=> ?_)
 .refine⟨rfl,QZ (n:=85) [0,1,5,6,9] kr ?_⟩;refine Xg UK (n:=85) (loc:=UY.loc 25) 100 [0,1,5,6,7,8,9] kr ?_;refine Eq.mpr (ZSe (row encG l) l.length s x (s.length+1) (s.length+1) (i:Nat) h _) ?_;rw[W,qdq];refine⟨alloc,rfl,?_⟩;refine ZN [0,1,5,6,7,8,9] [0,1,5,6,7,8,9] (TabN l s i x) (s.length+1) ZA ⟨0,h.nx,rfl,om,sm,om,?_,?_,om⟩ ?_
  .show(h.push _).get x=_;rw[qk,uE om];exact hg
  .show(h.push _).get h.nx=_;rw[qk,uF rfl,Zmr]
  have rc:=VN VP l a;rintro m vs H ⟨k,c,rfl,hk,u,B,G,y,rfl⟩;refine ZR UK (loc:=UY.loc 25) 100 [0,1,5,6,7,8,9] ?_;refine Eq.mpr (ZSf (row encG l) l.length s x (s.length+1) (s.length+1) (i:Nat) c (s.length+1) (s.length+1) (k:Nat) H _) ?_;refine JT (λe=> ?_) (λa2=> ?_)
  .have e:k<=s.length:=om;have off: ∀j:Nat,0+(((j:Nat):Int)).toNat*1=j:=λj=>om;have bnd: ∀j:Nat,j<=s.length->(0:Int)<=(j:Nat)/\((j:Nat):Int)<((s.length+1:Nat):Int):=λj E=>⟨om,om⟩;have w: ∀j:Nat,j<=s.length->Zb H x j 1=some [.b (tab l s i j)]:=λj E=>by
    simp only[Zb,G];have:=Zac (tab l s i) (s.length+1) (s.length+1) j om;rw[uF om]at this;exact Zgl this
   have A: ∀j:Nat,j<k->Zb H c j 1=some [.b (tab l s (i+1) j)]:=λj E=>by
    simp only[Zb,y];have:=Zac (tab l s (i+1)) k (s.length+1) j om;rw[uF E]at this;exact Zgl this
   have put: ∀(b:Bool),b=tab l s (i+1) k-> ∃Z,Zi H c k [.b b]=some Z/\XE UY 85 [0,1,5,6,7,8,9] [0,1,5,6,7,8,9] (TabN l s i x) (s.length+1-k)
     (Xd (post (flat (ZL (post (flat (Zx (post (flat (Za Tryz.f25)))))))))) ((post (flat (ZL (post (flat (Zx (post (flat (Za Tryz.f25))))))))).drop 1)
     (VQ [0,1,5,6,9] (Zdx UY 85 [0,1,5,6,9] (JU (post (flat (Zx (post (flat (Za Tryz.f25))))))) ((post (flat (Zx (post (flat (Za Tryz.f25)))))).drop 1)
      (VQ [0,1,5,6,9] (XE UY 85 [0,1,5,6,9] [0,1,5,6,9] (TabO l s) (l.length-i) (Xd (post (flat (Za Tryz.f25)))) ((post (flat (Za Tryz.f25))).drop 1) (FinS UY Tryz.f25 λv h=> ∃r,Frz h v r/\r= .b (M l s))))))
     .normal 85 [lst encG l, .s s,bsl x (s.length+1),I i,bsl c (s.length+1),I (wW ((k:Nat)+1)),lst encG l] Z:=by
    intro b t;refine⟨_,Zif y om t,rfl,s.length+1-(k+1),om,k+1,c,?_,om,by simpa using u,B,?_,sm,rfl⟩
    .rw[Ze om];rfl
    .rw[qc,uE B];exact G
   have z:0<k->wW ((k:Int)-1)=((k-1:Nat):Int):=λh=>by rw[ZI om om];omega
   refine⟨Zu a,l[i].k,by rw[qdq,rc];rfl,Zf (λD=> ?_) (λD=> ?_)⟩
   .have d:l[i].k=2:=by simpa using D
    refine⟨bnd k e,rfl,_,by rw[off];exact w k e,Zf (λt=> ?_) (λt=> ?_)⟩
    .refine⟨bnd k e,rfl,?_⟩;rw[off];refine put true ?_
     cases k with
     |zero=>rw[Zlu a d,t]
     |succ k=>rw[Zql a d om,t,Bool.true_or]
    .refine VM (λo=> ?_) (λhz=> ?_)
     .rw[z o];refine⟨bnd (k-1) om,rfl,_,by rw[off];exact A (k-1) om,bnd k e,rfl,?_⟩;rw[off];refine put _ ?_;obtain⟨g,rfl⟩: ∃g,k=g+1:=⟨k-1,om⟩;rw[Zql a d om,t,Bool.false_or];rfl
     .refine⟨bnd k e,rfl,?_⟩;rw[off];refine put _ ?_;subst hz;rw[Zlu a d,t]
   .have d:l[i].k≠2:=by simpa using D
    refine VM (λo=> ?_) (λhz=> ?_)
    .rw[z o];obtain⟨g,rfl⟩: ∃g,k=g+1:=⟨k-1,om⟩;have C:g<s.length:=om;rw[show g+1-1=g from om];refine⟨bnd g om,rfl,_,by rw[off];exact w g om,Zf (λt=> ?_) (λt=> ?_)⟩
     .refine⟨Zu a,_,_,_,_,_,by rw[qdq];exact Xp VP a,s[g],⟨om,by simp[C]⟩,_,Zx5 l[i] _ (by have:=N.2 _ (qe a);omega),bnd (g+1) e,rfl,?_⟩;rw[off];refine put _ ?_;rw[Zwh a d C,t,uT]
     .refine⟨bnd (g+1) e,rfl,?_⟩;rw[off];refine put _ ?_;rw[Zwh a d C,t,Bool.false_and]
    .subst hz;refine⟨rfl,s.length+1-1,om,1,c,?_,om,u,B,G,?_,rfl⟩
     .rw[Ze om];rfl
     .rw[y,Zx6 _ (Zz3 a d)]
  .refine Zj [0,1,6,7,9] ?_;refine ZR UK (loc:=UY.loc 25) 100 [0,1,5,6,9] ?_;refine Eq.mpr (ZSg (row encG l) l.length s (i:Nat) c (s.length+1) (s.length+1) H _) ?_;refine⟨rfl,[0,1,5,6,9],rfl,?_⟩;refine ZR UK (loc:=UY.loc 25) 100 [0,1,5,6,9] ?_;refine Eq.mpr (ZSh (row encG l) l.length s (i:Nat) c (s.length+1) (s.length+1) H _) ?_;refine⟨rfl,l.length-(i+1),om,i+1,c,?_,om,u,?_,rfl⟩
   .rw[Ze om];rfl
   .rw[y,show k=s.length+1 from om]
 .refine Zuq λa0 ht=>Vk [1,5] ht kr rfl rfl rfl ?_;refine ZE UK (loc:=UY.loc 25) 100 [4] ?_;refine Eq.mpr (ZSi s x (s.length+1) (s.length+1) h _) ?_;have he:i=l.length:=om;subst he;refine⟨⟨om,om⟩,rfl,M l s,?_,ZB rr rfl (.b _) rfl⟩;have:=Zac (tab l s l.length) (s.length+1) (s.length+1) s.length om;rw[uF om,ZFe]at this;rw[show 0+(((s.length:Nat):Int)).toNat*1=s.length from om];simp only[Zb,hg];exact Zgl this
def segS(s:List UInt8)(i k:Nat):List UInt8:=(s.drop i).take (k-i)
def fitP(k:Int)(t:List UInt8)(u:List UInt8):Bool:=if k=0 then u==t else mayS (QS t)&&M (QS t) u
def JF(f:Nat->Bool)(i m N:Nat):List Bool:=(List.range N).map λj=>decide (i<=j/\j<m)&&f j
theorem Qo(f:Nat->Bool)(i m N:Nat):(JF f i m N).length=N:=by simp[JF]
theorem Zad(f:Nat->Bool)(i m N:Nat){j:Nat}(h:j<(JF f i m N).length):(JF f i m N)[j]=(decide (i<=j/\j<m)&&f j):=by simp[JF]
theorem Zo1{f:Nat->Bool}{i m N:Nat}(a:i<=m)(d:m<N):(JF f i m N).set m (f m)=JF f i (m+1) N:=by
 refine List.ext_getElem (by rw[vI,Qo,Qo]) ?_;intro j g c;rw[List.getElem_set,Zad f i (m+1) N c];by_cases e:m=j
 .subst e;rw[uF rfl];simp[a]
 .rw[uE e,Zad];have:(j<m)↔(j<m+1):=om;simp[this]
theorem Zo2(f:Nat->Bool)(i N:Nat):JF f i i N=Zy N:=by
 refine List.ext_getElem (by rw[Qo];simp[Zy]) ?_;intro j a c;rw[Zad];have: ¬(i<=j/\j<i):=om;simp[this,Zy]
def Xi(k:Int)(t s:List UInt8)(i:Nat):List Bool:=if k=2 then atF (ereL t) s i true true else JF (λj=>fitP k t (segS s i j)) i (s.length+1) (s.length+1)
theorem Zo3(k:Int)(t s:List UInt8)(i:Nat):(Xi k t s i).length=s.length+1:=by
 unfold Xi;split
 .exact Zxv _ _ _ _ _
 .exact Qo _ _ _ _
theorem ZBj{k:Int}{t}(H:k=2->OvOk (ereL t)){s:List UInt8}(E:s.length<2 ^ 19){i:Nat}(O:i<=s.length):PCon Tryv.Y 40 [.agg [I k, .s t], .s s,I i] (· =lst Zl (Xi k t s i)):=by
 have A:wW ((s.length:Int)+1)=((s.length+1:Nat):Int):=Ze om;have C:most=1099511627776:=dc;refine ZG Tryv.Yok (fn:=Tryz.f40) rfl ?_;refine Zh Tryv.Yok 70 ZOf rfl ?_;rw[A,qdq,XY];refine⟨⟨om,om,om,om⟩,Zf (λc=> ?_) (λc=> ?_)⟩
 .have f:k=2:=by simpa using c
  have hp:=PCon.zv (Zdd t);have o:=at61 (H f) E O true true;rw[Wr]at hp;unfold Xi;rw[uF f];generalize atF (ereL t) s i true true=R at o;generalize ereL t=x at hp o;obtain⟨xk,xs,xl,X,Z,xn⟩:=x;rw[ZJ]at hp o;exact⟨_,_,_,_,_,_,_,_,_,_,_,_,_,hp,_,_,_,o,fin1 rr rfl (.ts _ _ _ none (λx N=>by cases N)) rfl⟩
 .have f:k≠2:=by simpa using c
  have hp:=PCon.zv (Zdf t);rw[Vu]at hp;obtain⟨g1,K⟩:=Zej t;have F:=λu (hu:u.length<2 ^ 28)=>PCon.zv (Zig (QS t) u K.ok hu);refine⟨_,_,_,_,_,hp,rfl,?_⟩;unfold Xi;rw[uE f];clear hp;have z:(Heap.empty.push (.arr (row Zl (Zy (s.length+1))) true)).get Heap.empty.nx=some (.arr (row Zl (JF (λj=>fitP k t (segS s i j)) i i (s.length+1))) true):=by rw[qk,uF rfl,Zo2]
  generalize (Heap.empty.push (.arr (row Zl (Zy (s.length+1))) true))=w at z;generalize Heap.empty.nx=d at z;refine ZN [1,2,3,7,11,14] [1,2,3,7,11,14] (λm y g=> ∃j:Nat,y= [.s s,I i, .lb [I k, .s t], .sl (some (d,0)) (s.length+1) (some (s.length+1)) 1,lst encG (QS t),I (j:Nat)]/\i<=j/\j<=s.length+1/\g.get d=some (.arr (row Zl (JF (λj=>fitP k t (segS s i j)) i j (s.length+1))) true)/\m=s.length+1-j) (s.length+1-i) ZA ⟨i,rfl,qnq _,om,z,rfl⟩ ?_;clear z;rintro m y g ⟨j,rfl,B,hj,D,rfl⟩;refine Zn Tryv.Yok ZOg rfl ?_;have n: ∀b,b=fitP k t (segS s i j)->j<s.length+1->Zi g d (0+((j:Nat):Int).toNat*1) [.b b]=some (g.set d (some (.arr (row Zl (JF (λj=>fitP k t (segS s i j)) i (j+1) (s.length+1))) true))):=λb P a=>by
   rw[ZM D (by rw[XD,Qo];simp;omega),show 0+((j:Nat):Int).toNat*1=j from sm,JC _ _ _ (by rw[Qo];omega),P,Zo1 B a]
  refine JT (λa0=> ?_) (λW=> ?_)
  .have a:j<s.length+1:=om;have l:List.take (((j:Nat):Int).toNat-(i:Int).toNat) (List.drop (i:Int).toNat s)=segS s i j:=by rw[qdq,qdq];rfl
   rw[l];have next: ∀f:Heap,f=g.set d (some (.arr (row Zl (JF (λj=>fitP k t (segS s i j)) i (j+1) (s.length+1))) true))->XE Tryv.Y 70 [1,2,3,7,11,14] [1,2,3,7,11,14] (λm y g=> ∃j:Nat,y= [.s s,I i, .lb [I k, .s t], .sl (some (d,0)) (s.length+1) (some (s.length+1)) 1,lst encG (QS t),I (j:Nat)]/\i<=j/\j<=s.length+1/\g.get d=some (.arr (row Zl (JF (λj=>fitP k t (segS s i j)) i j (s.length+1))) true)/\m=s.length+1-j) (s.length+1-j) (Xd (post (flat (Za Tryz.f40)))) ((post (flat (Za Tryz.f40))).drop 1) (FinS Tryv.Y Tryz.f40 λv h=> ∃r,Frz h v r/\r=lst Zl (JF (λj=>fitP k t (segS s i j)) i (s.length+1) (s.length+1))) .normal 70 [.s s,I i, .lb [I k, .s t], .sl (some (d,0)) (s.length+1) (some (s.length+1)) 1,lst encG (QS t),I (wW ((j:Int)+1))] f:=λf L=>
    ⟨rfl,s.length+1-(j+1),om,j+1,by rw[Ze om];rfl,om,om,by rw[L,qc,uF rfl],rfl⟩
   refine Zf (λc0=> ?_) (λc0=> ?_)
   .have w:k=0:=by simpa using c0
    exact⟨⟨om,om⟩,⟨om,by simp;omega⟩,⟨om,om⟩,rfl,_,n _ (by unfold fitP;rw[uF w]) a,next _ rfl⟩
   .have w:k≠0:=by simpa using c0
    have G:=F (segS s i j) (by unfold segS;rw[uO,vD];omega);exact⟨⟨om,om⟩,⟨om,by simp;omega⟩,_,G,⟨om,om⟩,rfl,_,n _ (by unfold fitP;rw[uE w]) a,next _ rfl⟩
  .have e:j=s.length+1:=om;subst e;refine Zj [7] ?_;refine Zo Tryv.Yok ZOh rfl ?_;exact ZB rr rfl (ZA7 _ D (by rw[Qo])) rfl
end Go.Y
namespace Go.Y
set_option maxRecDepth 1000000
set_option maxHeartbeats 0
/-! ### What the printer takes is well shaped -/
mutual
theorem Zgm: ∀(r:Re) (lv f g m:Int),rightF r lv f g=some m->gkRe r/\grpRe r
 | .mk k s d F D n,lv,f,g,m,h=>by
  rw[rightF]at h;rw[gkRe,grpRe];have j: ∀lv f g,rightF.kidsF d lv f g=some m->k≠7->((k=7->d.length=1)/\gkRe.gkRes d)/\(k=7->n<=9)/\grpRe.grpRes d:=λlv f g h o=>by
   obtain⟨u,t⟩:=VB d lv f g m h;exact⟨⟨λc=>absurd c o,u⟩,λc=>absurd c o,t⟩
  have e:((d.length:Nat):Int)=0->k≠7->((k=7->d.length=1)/\gkRe.gkRes d)/\(k=7->n<=9)/\grpRe.grpRes d:=λh o=>by
   have:d= []:=by cases d with
    |nil=>rfl
    |cons a l=>simp at h;omega
   subst this;exact⟨⟨λc=>absurd c o,by rw[gkRe.gkRes];trivial⟩,λc=>absurd c o,by rw[grpRe.grpRes];trivial⟩
  by_cases B:Zfo k s F D n=false
  .rw[uF B]at h;cases h
  rw[uE B]at h;by_cases A:k=0
  .rw[uF A]at h;split at h
   .rename_i c;exact e (by simp at c;simp[c.2]) om
   .cases h
  rw[uE A]at h;by_cases w:k=1
  .rw[uF w]at h;split at h
   .rename_i c;exact e (by simpa using c) om
   .cases h
  rw[uE w]at h;by_cases x:k=2\/k=3
  .rw[uF x]at h;split at h
   .rename_i c;exact e (by simp at c;simp[c.2]) om
   .cases h
  rw[uE x]at h;by_cases y:k=4
  .rw[uF y]at h;split at h
   .exact j _ _ _ h om
   .cases h
  rw[uE y]at h;by_cases v:k=5
  .rw[uF v]at h;split at h
   .exact j _ _ _ h om
   .cases h
  rw[uE v]at h;by_cases C:k=6
  .rw[uF C]at h;split at h
   .exact j _ _ _ h om
   .cases h
  rw[uE C]at h;by_cases z:k=7
  .rw[uF z]at h;by_cases c:((n==if ltI 9 (XV (g+1))then 0 else XV (g+1))&&ltI f 64&&((d.length:Nat):Int)==1)=true
   .rw[uF c]at h;obtain⟨u,t⟩:=VB d _ _ _ m h;simp only[qrq,vM]at c;obtain⟨⟨c1,_⟩,c3⟩:=c;refine⟨⟨λ_=>om,u⟩,λ_=> ?_,t⟩;rw[c1];split
    .omega
    .rename_i E;have: ¬(9:Int)<XV (g+1):=by simpa[ltI]using E
     omega
   .rw[uE c]at h;cases h
  rw[uE z]at h;cases h
theorem VB: ∀(l:List Re) (lv a g c:Int),rightF.kidsF l lv a g=some c->gkRe.gkRes l/\grpRe.grpRes l
 | [],_,_,_,_,_=>by rw[gkRe.gkRes,grpRe.grpRes];exact⟨trivial,trivial⟩
 |r::l,lv,a,g,c,h=>by
  rw[rightF.kidsF]at h;rw[gkRe.gkRes,grpRe.grpRes]
  cases hr:rightF r lv a g with
  |none=>rw[hr]at h;cases h
  |some d=>
   rw[hr]at h;have q:=Zgm r lv a g d hr;have e:=VB l lv a d c h;exact⟨⟨q.1,e.1⟩,q.2,e.2⟩
end
theorem Zms{r:Re}(h:mayE r=true):gkRe r/\grpRe r:=by
 unfold mayE at h;simp only[qrq]at h;obtain⟨g,a⟩:=Option.isSome_iff_exists.1 h.1;exact Zgm r _ _ _ _ a
theorem Zih{r:Re}(a:FineR r)(h:mayE r=true):OvOk r/\grpRe r:=⟨⟨a,(Zms h).1⟩,(Zms h).2⟩
/-! ### Parts of a text -/
theorem Zj0(s)(i:Nat):segS s i i= []:=by unfold segS;rw[vK,uQ]
theorem Zem{s:List UInt8}{i j:Nat}(h:i<j)(a:j<=s.length):segS s i j=s[i]::segS s (i+1) j:=by
 unfold segS;rw[uM om,show j-i=(j-(i+1))+1 from om,List.take_succ_cons]
theorem Zgn{s:List UInt8}{i j:Nat}(a:j<=s.length):(segS s i j).length=j-i:=by
 unfold segS;rw[uO,vD];omega
theorem Zx7(s:List UInt8):segS s 0 s.length=s:=by unfold segS;simp
theorem Zx8{s:List UInt8}{i j:Nat}(f:i<=j)(a:j<=s.length)(t:List UInt8):t<:+segS s i j↔ ∃x,i<=x/\x<=j/\t=segS s x j:=by
 constructor
 .intro h;have c:=List.suffix_iff_eq_drop.1 h;have d:=h.length_le;rw[Zgn a]at c d;refine⟨j-t.length,om,om,?_⟩;refine c.trans ?_;unfold segS;rw[List.drop_take,vH];have e:i+(j-i-t.length)=j-t.length:=om;rw[e]
  congr 1;omega
 .rintro⟨x,c,d,rfl⟩;refine List.suffix_iff_eq_drop.2 ?_;rw[Zgn a,Zgn a];unfold segS;rw[List.drop_take,vH];have e:i+(j-i-(j-x))=x:=om;rw[e]
  congr 1;omega
/-! ### What expressions stand for -/
theorem ZHk{s:List UInt8}{d a:Bool}{x}{i j:Nat} :StD s d a (Qk x) i j↔ ∃c,s[i]? =some c/\hasN x c.toNat=true/\j=i+1:=by
 unfold Qk;rw[StD];exact Iff.rfl
theorem VC{s:List UInt8}{f g:Bool}{p:Nat->Bool}{i j:Nat} :StD s f g (Qk (ZC p)) i j↔ ∃c,s[i]? =some c/\p c.toNat=true/\j=i+1:=by
 rw[ZHk];constructor
 .rintro⟨c,d,e,a⟩;exact⟨c,d,by rwa [Wt p c.toNat_lt]at e,a⟩
 .rintro⟨c,d,e,a⟩;exact⟨c,d,by rwa [Wt p c.toNat_lt],a⟩
theorem Zx9{s:List UInt8}{d f:Bool}{i j:Nat} :StD s d f Vq i j↔i<s.length/\j=i+1:=by
 unfold Vq;rw[VC];constructor
 .rintro⟨c,a,_,e⟩;exact⟨(qb.1 a).1,e⟩
 .rintro⟨a,g⟩;exact⟨s[i],qo a,rfl,g⟩
theorem Zj1{s:List UInt8}{c d:Bool} : ∀(m i j:Nat),powD (λa b=>StD s c d Vq a b) m i j↔j=i+m/\(m=0\/j<=s.length)
 |0,i,j=>by
  show i=j↔_;omega
 |m+1,i,j=>by
  show(∃x,StD s c d Vq i x/\powD (λa b=>StD s c d Vq a b) m x j)↔_;constructor
  .rintro⟨x,e,f⟩;obtain⟨h,g⟩:=Zx9.1 e;obtain⟨l,k⟩:=(Zj1 m x j).1 f;omega
  .rintro⟨e,f⟩;exact⟨i+1,Zx9.2 ⟨om,rfl⟩,(Zj1 m _ j).2 om⟩
theorem Zcl{s:List UInt8}{c d:Bool}{i j:Nat}(f:i<=s.length):StD s c d ZS i j↔i<=j/\j<=s.length:=by
 unfold ZS;rw[StD];show(∃m:Nat,(0:Int)<=(m:Int)/\((-1:Int)<0\/(m:Int)<= -1)/\powD (λa b=>StD s c d Vq a b) m i j)↔_;constructor
 .rintro⟨m,_,_,h⟩;have:=(Zj1 m i j).1 h;omega
 .rintro⟨e,g⟩;exact⟨j-i,om, .inl om,(Zj1 _ i j).2 om⟩
theorem Zae{s}{f k:Bool} : ∀(a b:List Re) (i j:Nat),StD.catD s f k (a++b) i j↔ ∃x,StD.catD s f k a i x/\StD.catD s f k b x j
 | [],b,i,j=>by
  rw[qy];constructor
  .intro h;exact⟨i,by rw[StD.catD],h⟩
  .rintro⟨x,c,d⟩;rw[StD.catD]at c;rw[c];exact d
 |r::a,b,i,j=>by
  rw[qs,StD.catD];constructor
  .rintro⟨x,c,d⟩;obtain⟨y,g,e⟩:=(Zae a b x j).1 d;exact⟨y,by rw[StD.catD];exact⟨x,c,g⟩,e⟩
  .rintro⟨y,c,d⟩;rw[StD.catD]at c;obtain⟨x,g,e⟩:=c;exact⟨x,g,(Zae a b x j).2 ⟨y,e,d⟩⟩
theorem Zo4{s}{a c:Bool}{r}{i j:Nat} :StD.catD s a c [r] i j↔StD s a c r i j:=by
 rw[StD.catD];constructor
 .rintro⟨x,e,d⟩;rw[StD.catD]at d;rw[<-d];exact e
 .intro h;exact⟨j,h,by rw[StD.catD]⟩
theorem Zo5{s}{c a:Bool}{i j:Nat} : ∀l:List Re,StD s c a (sevS 4 l) i j↔StD.catD s c a l i j
 | []=>by rw[sevS,StD,StD.catD];exact Iff.rfl
 | [r]=>by rw[Zo4];exact Iff.rfl
 |r::r'::l=>by
  show StD s c a (.mk 4 (0,0,0,0) (r::r'::l) 0 0 0) i j↔_;rw[StD];exact Iff.rfl
theorem Zmt(a c:UInt8):(a.toNat==c.toNat)=true↔a=c:=by
 rw[vM];exact⟨λh=>UInt8.toNat.inj h,λh=>by rw[h]⟩
theorem Zcm{s:List UInt8}{u v:Bool} : ∀(t:List UInt8) {i j:Nat},i<=j->j<=s.length->(StD.catD s u v (ZK t) i j↔segS s i j=t)
 | [],i,j,k,f=>by
  rw[ZK,List.map_nil,StD.catD];constructor
  .intro h;subst h;exact Zj0 s i
  .intro h;have:=Zgn (s:=s) (i:=i) f;rw[h]at this;simp at this;omega
 |c::t,i,j,k,f=>by
  have e:ZK (c::t)=Qh c::ZK t:=by simp[ZK]
  rw[e,StD.catD];constructor
  .rintro⟨x,d,g⟩;unfold Qh at d;obtain⟨a,r,o,rfl⟩:=VC.1 d;have n:=(qb.1 r);have l:=Zic (ZK t) n.1 g;rw[Zem om f,(Zcm t l.1 f).1 g,n.2,(Zmt a c).1 o]
  .intro h;have m:i<j:=by
    rcases Nat.lt_or_ge i j with d|d
    .exact d
    .have:i=j:=om;subst this;rw[Zj0]at h;cases h
   rw[Zem m f]at h;obtain⟨d,g⟩:=List.cons.inj h;refine⟨i+1,?_,(Zcm t om f).2 g⟩;unfold Qh;exact VC.2 ⟨s[i],qo om,(Zmt _ _).2 d,rfl⟩
theorem Zj2{s:List UInt8}{v w:Bool}{g:Glob}{l}{p:Nat->Bool}(z:g.k≠2)(hp: ∀c:UInt8,p c.toNat=Zde g c.toNat)(u: ∀ {i j:Nat},i<=j->j<=s.length->(StD.catD s v w (ZP l) i j↔M l (segS s i j)=true)){i j:Nat}(A:i<=j)(e:j<=s.length):
  StD.catD s v w ([Qk (ZC p)]++ZP l) i j↔M (g::l) (segS s i j)=true:=by
 rw[Zwe g z,List.singleton_append,StD.catD];constructor
 .rintro⟨x,d,f⟩;obtain⟨a,m,y,rfl⟩:=VC.1 d;have B:=(qb.1 m);obtain⟨D,n⟩:=B;have o:=Zic (ZP l) om f;refine⟨a,segS s (i+1) j,?_,by rw[<-hp];exact y,(u o.1 e).1 f⟩;rw[Zem om e,n]
 .rintro⟨c,r,d,f,m⟩;have t:i<j:=by
   rcases Nat.lt_or_ge i j with h|h
   .exact h
   .have:i=j:=om;subst this;rw[Zj0]at d;cases d
  rw[Zem t e]at d;obtain⟨E,C⟩:=List.cons.inj d;refine⟨i+1,VC.2 ⟨s[i],qo om,?_,rfl⟩,(u om e).2 (by rw[C];exact m)⟩;rw[E,hp];exact f
theorem Zgo{s:List UInt8}{bg en:Bool} : ∀(l:List Glob),mayS l=true-> ∀ {i j:Nat},i<=j->j<=s.length->(StD.catD s bg en (ZP l) i j↔M l (segS s i j)=true)
 | [],_,i,j,a,d=>by
  have e:ZP []= []:=rfl;rw[e,Zwf,StD.catD,List.isEmpty_iff];constructor
  .intro h;subst h;exact Zj0 s i
  .intro h;have:=Zgn (s:=s) (i:=i) d;rw[h]at this;simp at this;omega
 |g::l,B,i,j,a,d=>by
  have r:oneS g=true/\mayS l=true:=by simpa[mayS]using B
  have n:=λ{i j:Nat} (u:i<=j) (m:j<=s.length)=>Zgo (s:=s) (bg:=bg) (en:=en) l r.2 u m;have e:ZP (g::l)=XW g++ZP l:=by simp[ZP]
  rw[e];unfold XW;by_cases f:g.k=0
  .rw[uF f];refine Zj2 om (λc=> ?_) n a d;unfold ZQ Zde;rw[uF f];simp only[List.any_cons,List.any_nil,Bool.or_false];by_cases h:g.b=(c.toNat:Int)
   .rw[h];simp
   .rw[show(g.b==(c.toNat:Int))=false by simpa using h];simp only[Bool.and_eq_false_iff,decide_eq_false_iff_not];omega
  rw[uE f];by_cases v:g.k=1
  .rw[uF v];refine Zj2 om (λc=> ?_) n a d;unfold Zde;rw[uE f,v];rfl
  rw[uE v];by_cases y:g.k=2
  .rw[uF y,Zlt g y,List.singleton_append,StD.catD];constructor
   .rintro⟨x,u,m⟩;obtain⟨w,z⟩:=(Zcl om).1 u;have o:=Zic (ZP l) z m;exact⟨segS s x j,(Zx8 a d _).2 ⟨x,w,o.1,rfl⟩,(n o.1 d).1 m⟩
   .rintro⟨t,u,m⟩;obtain⟨x,w,z,rfl⟩:=(Zx8 a d _).1 u;exact⟨x,(Zcl om).2 ⟨w,om⟩,(n z d).2 m⟩
  rw[uE y];by_cases A:g.k=3
  .rw[uF A];refine Zj2 om (λc=> ?_) n a d;unfold Zde ZQ;rw[uE f,show(g.k==1)=false by simpa using v,Bool.false_or]
   rfl
  .exfalso;have:=r.1;unfold oneS at this;rw[uE f,uE om,uE A]at this;cases this
/-! ### Groups' numbers, anchors -/
mutual
theorem Zcn{s}{bg en:Bool} : ∀(r:Re) (i j:Nat),StD s bg en (laterF r) i j↔StD s bg en r i j
 | .mk k set d g f n,i,j=>by
  rw[laterF,StD,StD];have c:=λi j=>Zmu (s:=s) (bg:=bg) (en:=en) d i j;have a:=λi j=>Zmv (s:=s) (bg:=bg) (en:=en) d i j;have h:(λa b=>StD.headD s bg en (laterF.latersF d) a b)=(λa b=>StD.headD s bg en d a b):=funext λx=>funext λy=>propext (Zii (s:=s) (bg:=bg) (en:=en) d x y);have e:=Zii (s:=s) (bg:=bg) (en:=en) d i j;simp only[c i j,a i j,h,e]
theorem Zmu{s}{bg en:Bool} : ∀(l:List Re) (i j:Nat),StD.catD s bg en (laterF.latersF l) i j↔StD.catD s bg en l i j
 | [],i,j=>by rw[laterF.latersF]
 |r::l,i,j=>by
  rw[laterF.latersF,StD.catD,StD.catD];exact exists_congr λx=>and_congr (Zcn r i x) (Zmu l x j)
theorem Zmv{s}{bg en:Bool} : ∀(l:List Re) (i j:Nat),StD.altD s bg en (laterF.latersF l) i j↔StD.altD s bg en l i j
 | [],i,j=>by rw[laterF.latersF]
 |r::l,i,j=>by
  rw[laterF.latersF,StD.altD,StD.altD];exact or_congr (Zcn r i j) (Zmv l i j)
theorem Zii{s}{bg en:Bool} : ∀(l:List Re) (i j:Nat),StD.headD s bg en (laterF.latersF l) i j↔StD.headD s bg en l i j
 | [],i,j=>by rw[laterF.latersF]
 |r::l,i,j=>by
  rw[laterF.latersF,StD.headD,StD.headD];exact Zcn r i j
end
mutual
theorem Zen{s}{e f bg' en':Bool} : ∀(r:Re),anchB r=false-> ∀i j,StD s e f r i j↔StD s bg' en' r i j
 | .mk k set d z w n,h,i,j=>by
  rw[anchB]at h;simp only[uk]at h;obtain⟨⟨v,o⟩,g⟩:=h;have u:k≠2:=by simpa using v
  have m:k≠3:=by simpa using o
  rw[StD,StD];simp only[uE u,uE m];have c:=λi j=>Zrb (s:=s) (bg:=e) (en:=f) (bg':=bg') (en':=en') d g i j;have a:=λi j=>Zrc (s:=s) (bg:=e) (en:=f) (bg':=bg') (en':=en') d g i j;have t:(λa b=>StD.headD s e f d a b)=(λa b=>StD.headD s bg' en' d a b):=funext λx=>funext λy=>propext (Zmw (s:=s) (bg:=e) (en:=f) (bg':=bg') (en':=en') d g x y);have l:=Zmw (s:=s) (bg:=e) (en:=f) (bg':=bg') (en':=en') d g i j;simp only[c i j,a i j,t,l]
theorem Zrb{s}{bg en bg' en':Bool} : ∀(l:List Re),anchB.anchs l=false-> ∀i j,StD.catD s bg en l i j↔StD.catD s bg' en' l i j
 | [],_,i,j=>by rw[StD.catD,StD.catD]
 |r::l,h,i,j=>by
  rw[anchB.anchs]at h;simp only[uk]at h;rw[StD.catD,StD.catD];exact exists_congr λx=>and_congr (Zen r h.1 i x) (Zrb l h.2 x j)
theorem Zrc{s}{bg en bg' en':Bool} : ∀(l:List Re),anchB.anchs l=false-> ∀i j,StD.altD s bg en l i j↔StD.altD s bg' en' l i j
 | [],_,i,j=>by rw[StD.altD,StD.altD]
 |r::l,h,i,j=>by
  rw[anchB.anchs]at h;simp only[uk]at h;rw[StD.altD,StD.altD];exact or_congr (Zen r h.1 i j) (Zrc l h.2 i j)
theorem Zmw{s}{bg en bg' en':Bool} : ∀(l:List Re),anchB.anchs l=false-> ∀i j,StD.headD s bg en l i j↔StD.headD s bg' en' l i j
 | [],_,i,j=>by rw[StD.headD,StD.headD]
 |r::l,h,i,j=>by
  rw[anchB.anchs]at h;simp only[uk]at h;rw[StD.headD,StD.headD];exact Zen r h.1 i j
end
theorem Zya{s}{c a:Bool}{r}{i j:Nat} :StD s c a (JY r) i j↔StD s c a r i j:=by
 unfold JY;rw[StD];show StD.headD s c a [laterF r] i j↔_;rw[StD.headD];exact Zcn r i j
theorem Zs8{s:List UInt8}{d f:Bool}(L:List Re):StD.catD s d f (ZS::(L++ [ZS])) 0 s.length↔ ∃i j,i<=j/\j<=s.length/\StD.catD s d f L i j:=by
 rw[StD.catD];constructor
 .rintro⟨i,e,c⟩;obtain⟨_,g⟩:=(Zcl om).1 e;obtain⟨j,a,_⟩:=(Zae L [ZS] i _).1 c;have:=Zic L g a;exact⟨i,j,this.1,this.2,a⟩
 .rintro⟨i,j,e,c,a⟩;exact⟨i,(Zcl om).2 ⟨om,om⟩,(Zae L [ZS] i _).2 ⟨j,a,Zo4.2 ((Zcl c).2 ⟨c,qnq _⟩)⟩⟩
end Go.Y
