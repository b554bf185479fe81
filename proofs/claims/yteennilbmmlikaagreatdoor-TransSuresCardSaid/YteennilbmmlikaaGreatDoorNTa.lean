/- A part of the proof. -/
import Derived.Test.YteennilbmmlikaaGreatDoorYLoop
import Derived.Test.YteennilbmmlikaaGreatDoorYAny3
import Derived.Test.YteennilbmmlikaaGreatDoorGRule
import Derived.Test.YteennilbmmlikaaGreatDoorGRise
import Derived.Test.YteennilbmmlikaaGreatDoorED2
import Derived.KernelRfl
namespace Go.Y
open Go.Proofs
set_option maxRecDepth 1000000
set_option maxHeartbeats 0
theorem ZQh{k s0 s1 s2 s3 kc kn lo hi gn h}(K):CP UY 71 (flat (Za Tryz.f71)) (.agg (R9 k s0 s1 s2 s3 kc kn none lo hi gn)::Rp 10) h [2] K=(If (leI 0 hi) (K .ret 11 [I hi] h) (K .ret 11 [I ((fun(x y:Int)=>if y>x then y else x) lo (1:Int))] h)):=kr
theorem ZJ0{b c1 a c2 n2 h}(K):CP UY 119 (pre (flat (Za Tryz.f119))) (p_P b::J c1 a none::J c2 n2 none::Rp 29) h [0,2,8,9,10] K=(K .normal 32 [p_P b,J c2 n2 none,J c1 a none,I (a:Int),I 0] h):=kr
theorem ZJ1{id c1 k c2 n2 b h}(K):CP UY 119 (lp_ (flat (Za Tryz.f119))) (MZ 32 [0,2,8,9,10] [p_P id,J c2 n2 none,J c1 k none,I (k:Int),I b]) h [0,2,8,9,10] K=(If (ltI b k) ((0<=b/\b<k)/\ ∃a,Zs 1 (List.drop (b.toNat*1) c1)=some [I a]/\ ∃c d e f,Zb h id 3 1=some [S c d e f]/\ ∃g i j l,Zb h id 3 1=some [S g i j l]/\SlO g False fun(u p:Nat)=>(0<=a/\a<i)/\l=1/\ ∃m n o,Zb h u (p+a.toNat*1) 1=some [J m n o]/\ ∃q r s,(PCon UY 72 [J m n o,J c2 n2 none] fun(v:V)=>v=J q r s)/\SlO c False fun(w p:Nat)=>(0<=a/\a<d)/\f=1/\ ∃t,Zi h w (p+a.toNat*1) [J q r s]=some t/\K .normal 32 [p_P id,J c2 n2 none,J c1 k none,I (k:Int),I (wW (b+(1:Int)))] t) (K (.exit 0) 32 [p_P id,J c2 n2 none,J c1 k none,I (k:Int),I b] h)):=kr
theorem ZQi{p e f g i e1 j m a d e2 h}(K):CP UY 73 (flat (Za Tryz.f73)) (p_P p::.agg [J e f none,J g i none,.b e1]::.agg [J j m none,J a d none,.b e2]::Rp 39) h [6] K=(Con UY 119 [p_P p,J g i none,J j m none] h fun(v:V) (k:Heap)=>v=.tup []/\If e1 (If e1 (∃c l n,(PCon UY 72 [J e f none,J j m none] λv=>v=J c l n)/\If e2 (∃o q r,(PCon UY 72 [J g i none,J a d none] fun(v:V)=>v=J o q r)/\K .ret 42 [.lb [J c l n,J o q r, .b e2]] k) (K .ret 42 [.lb [J c l n,J a d none, .b e2]] k)) (If e2 (∃c l n,(PCon UY 72 [J g i none,J a d none] λv=>v=J c l n)/\K .ret 42 [.lb [J e f none,J c l n, .b e2]] k) (K .ret 42 [.lb [J e f none,J a d none, .b e2]] k))) (If e1 (∃c l n,(PCon UY 72 [J e f none,J j m none] λv=>v=J c l n)/\If e2 (∃o q r,(PCon UY 72 [J g i none,J a d none] fun(v:V)=>v=J o q r)/\K .ret 42 [.lb [J c l n,J o q r, .b false]] k) (K .ret 42 [.lb [J c l n,J a d none, .b false]] k)) (If e2 (∃c l n,(PCon UY 72 [J g i none,J a d none] λv=>v=J c l n)/\K .ret 42 [.lb [J e f none,J c l n, .b false]] k) (K .ret 42 [.lb [J e f none,J a d none, .b false]] k)))):=kr
theorem ZQj{k s0 s1 s2 s3 kc a lo hi gn h}(K):CP UY 31 (pre B_31) (.agg (R9 k s0 s1 s2 s3 kc a none lo hi gn)::Rp 32) h [1,3,12,13,14] K=(If (k==(1:Int)) (K .normal 33 [.lb (R9 k s0 s1 s2 s3 kc a none lo hi gn),I (wW ((0:Int)+(1:Int))),J kc a none,I (a:Int),I 0] h) (K .normal 33 [.lb (R9 k s0 s1 s2 s3 kc a none lo hi gn),I 0,J kc a none,I (a:Int),I 0] h)):=kr
theorem ZQk{k s0 s1 s2 s3 kc p lo hi gn x3 a h}(K):CP UY 31 (lp_ B_31) (MZ 33 [1,3,12,13,14] [.lb (R9 k s0 s1 s2 s3 kc p none lo hi gn),I x3,J kc p none,I (p:Int),I a]) h [1,3,12,13,14] K=(If (ltI a p) ((0<=a/\a<p)/\ ∃b c d e f g i j l m n,Zs 9 (List.drop (a.toNat*9) kc)=some (R9 b c d e f g i j l m n)/\ ∃o,(PCon UY 31 [.agg (R9 b c d e f g i j l m n)] λv=>v=I o)/\K .normal 33 [.lb (R9 k s0 s1 s2 s3 kc p none lo hi gn),I ((fun(x y:Int)=>if y<x then y else x) (wW (x3+o)) (301:Int)),J kc p none,I (p:Int),I (wW (a+(1:Int)))] h) (K (.exit 0) 33 [.lb (R9 k s0 s1 s2 s3 kc p none lo hi gn),I x3,J kc p none,I (p:Int),I a] h)):=kr
theorem ZQl{k s0 s1 s2 s3 kc kn lo hi gn x3 h}(K):CP UY 31 ((post B_31).drop 1) (MZ 33 [1,3] [.lb (R9 k s0 s1 s2 s3 kc kn none lo hi gn),I x3]) h [2] K=(If (k==(6:Int)) (∃a,(PCon UY 71 [.agg (R9 k s0 s1 s2 s3 kc kn none lo hi gn)] λv=>v=I a)/\K .ret 33 [I ((fun(x y:Int)=>if y<x then y else x) (wW (x3*a)) (301:Int))] h) (K .ret 33 [I ((fun(x y:Int)=>if y<x then y else x) x3 (301:Int))] h)):=kr
theorem ZQm{k s0 s1 s2 s3 kc kn lo hi gn h}(K):CP UY 30 (flat (Za Tryz.f30)) (.agg (R9 k s0 s1 s2 s3 kc kn none lo hi gn)::Rp 15) h [2] K=(If (k==(2:Int)) (K .ret 16 [.b true] h) (If (k==(3:Int)) (K .ret 16 [.b true] h) (Con UY 70 [J kc kn none,V.fn (Fn.func (30:Nat)) [] []] h fun(v:V) (c:Heap)=> ∃a,v=.b a/\K .ret 16 [.b a] c))):=kr
theorem ZQn{b m d n1 h}(K):CP UY 72 (flat (Za Tryz.f72)) (J b m none::J d n1 none::Rp 12) h [4] K=(Con UY 118 [J [J b m none,J d n1 none] 2 (some 2)] h fun(v:V) (k:Heap)=> ∃a c e f,v=S a c e f/\Con UY 75 [S a c e f] k fun(v:V) (k:Heap)=>v=.tup []/\Con UY 76 [S a c e f] k fun(v:V) (k:Heap)=> ∃g i j l,v=S g i j l/\K .ret 14 [S g i j l] k):=kr
end Go.Y
namespace Go.Y
open Go.Proofs Go.Sort
set_option maxRecDepth 100000
set_option maxHeartbeats 1000000
theorem QG(l:List Nat):(ints l).length=l.length:=by simp[ints]
theorem Zwb(l)(h):FrzL h (Xh l) (Xh l):=by
 have:=Zej l h
 rwa [rowI]at this
theorem Zb6(E:ZQ UY.P 75)(s:ZE UY.P 76)(a b:List Nat)(N:a.length<=1000)(O:b.length<=1000):PCon UY 72 [lst encI (ints a),lst encI (ints b)] (· =lst encI (ints (boS a b))):=by
 refine Zv UK (fn:=Tryz.f72) rfl ZQn rfl ?_;have f:Jo UY 75:=⟨Tryz.f75,_,kr,rfl⟩;have g:Jo UY 76:=⟨Tryz.f76,_,kr,rfl⟩;have t: [ints a,ints b].flatten=ints a++ints b:=sm;have A:=Zol [ints a,ints b] sm (by rw[t,qf,QG,QG];omega) .empty;rw[t]at A;have C:(ints a++ints b).length<=2000:=by rw[qf,QG,QG];omega
 have w:ints (boS a b)=Xj (Qk (ints a++ints b)):=by rw[Zv4,Zl5]
 rw[w];generalize ints a++ints b=d at A C;refine(Con.wk (args':= [lst Zd7 [ints a,ints b]]) (.one _ _ _ _ (.inr (.inr ⟨_,_,_,rfl,rfl⟩)) .nil) A).mono λv m ⟨q,n,c,k,K,G⟩=>⟨q,n,c,k,K,?_⟩;rcases G with ⟨F,rfl,rfl⟩|⟨z,i,rfl,rfl,rfl,rfl,H,o⟩
 .have B:d= []:=qg F;subst B;refine(Zl3 f E).mono λv m ⟨j,p⟩=>⟨j,?_⟩;refine(Zd0 g s).mono λv m ⟨j,p⟩=>⟨_,_,_,_,j,?_⟩;refine ZB rr rfl (.sln _ _ none (λ_ h=>by cases h)) ?_;rw[show Qk ([]:List Int)= [] from List.mergeSort_nil]
  rfl
 .have u:d≠ []:=λe=>by rw[e]at i;exact absurd i dc
  rw[vM]at o;have o:m.get z=some (.arr (Xh d) true):=by rw[o];simp[rowI]
  refine(Zqq f E o u om).mono λv m ⟨j,p⟩=>⟨j,?_⟩;subst p;have o:(m.set z (some (.arr (Xh (Qk d)) true))).get z=some (.arr (Xh (Qk d)) true):=by rw[qc,uF rfl]
  have l:(Qk d).length=d.length:=List.length_mergeSort _;have r:=Zfx g s (c:=none) (k:=1) o (λe=>by rw[e]at l;exact u (qg l.symm)) om;rw[l]at r;refine r.mono λv m ⟨j,p⟩=>⟨_,_,_,_,j,?_⟩;subst p;refine ZB rr rfl (.sl z 0 _ none 1 (Xh (Zv5 (Qk d))) true (Xh (Xj (Qk d))) (Xh (Xj (Qk d))) none (by rw[qc,uF rfl]) ?_ (λ_ h=>by cases h) dc ?_) ?_
  .rw[ql,uY];have: ∀(x y:List V),Zs x.length (x++y)=some x:=by
    intro x
    induction x with
    |nil=>intro y;rfl
    |cons v x L=>intro y;simp[Zs,L]
   have D:=this (Xh (Xj (Qk d))) (Xh (List.replicate ((Qk d).length-(Xj (Qk d)).length) 0));rw[qC]at D;rw[<-D,Xh,uV]
  .exact Zwb _ _
  .simp only[lst,rowI]
abbrev Qe(l:List Nat):List V:= [lst encI (ints l)]
theorem Zb7(l):(Qe l).length=1:=rfl
theorem Zs6(l):ZZ (Qe l)=true:=rfl
theorem Zeq(s):(setC s).length=4:=rfl
theorem Zwc(s):ZZ (setC s)=true:=rfl
structure MkA(h:Heap)(id:Nat)(A:Au0):Prop where
 lt:id<h.nx
 ex: ∃(a1:Option (Nat×Nat)) (l1:Nat) (c1:Option Nat) (k1:Nat) (a2:Option (Nat×Nat)) (l2:Nat) (c2:Option Nat) (k2:Nat),
  h.get id=some (.arr [.sl a1 l1 c1 k1, .sl none 0 (some 0) 0, .sl none 0 (some 0) 0, .sl a2 l2 c2 k2, .b false] true)∧LX setC 4 h a1 l1 c1 k1 A.sets∧LX Qe 1 h a2 l2 c2 k2 A.fol∧
  (∀j o,a1=some (j,o)->j≠id)∧(∀j o,a2=some (j,o)->j≠id)∧(∀j o o',a1=some (j,o)->a2≠some (j,o'))
abbrev XL(p:Part):List V:= [lst encI (ints p.first),lst encI (ints p.last), .b p.empty]
def qOf(h:Heap)(a:Nat):Nat:=match h.get a with
 |some (.arr [_,_,_, .sl (some (q,_)) _ _ _,_] _)=>q
 |_=>0
def Zl9(h:Heap)(b:Nat)(a:List (List Nat)):Heap:=h.set (qOf h b) (some (.arr (row Qe a) true))
theorem MkA.fols{h}{i:Nat}{c:List S4}{a:List (List Nat)}(l:MkA h i ⟨c,a⟩)(g:a≠ []):
  ∃(q d:Nat) (e:Option Nat),Zb h i 3 1=some [.sl (some (q,0)) d e 1]/\d=a.length/\qOf h i=q/\h.get q=some (.arr (row Qe a) true):=by
 obtain⟨n,s,y,u,w,t,d,e,x,j,k,b,o,p,r⟩:=l;obtain⟨q,rfl,rfl,v,f,m⟩:=b.cells g;exact⟨q,d,e,(Zr j 3 1).trans rfl,b.len,by unfold qOf;rw[j],f⟩
theorem MkA.set{h}{id:Nat}{c:List S4}{b a:List (List Nat)}(z:MkA h id ⟨c,b⟩)(k:b≠ [])(o:a.length=b.length):MkA (Zl9 h id a) id ⟨c,a⟩:=by
 have l:a≠ []:=λe=>by rw[e]at o;exact k (qg o.symm)
 obtain⟨p,w,F,x,E,G,v,y,H,u,m,f,r,g,i⟩:=z;obtain⟨q,rfl,rfl,D,A,n⟩:=f.cells k;have t:qOf h id=q:=by unfold qOf;rw[u]
 have d:v=b.length:=f.len;have s:q≠id:=g q 0 rfl;unfold Zl9;rw[t];refine⟨su p,w,F,x,E,some (q,0),v,y,1,by rw[qc,uE (Ne.symm s)];exact u,?_,?_,r,g,i⟩
 .exact m.fr sm λj B C=>by
   rw[qc,uE (λe=>by subst e;exact i j 0 0 B rfl)]
 .exact⟨λe=>absurd e l,λ_=>⟨q,rfl,rfl,su D,by rw[qc,uF rfl],n⟩,by rw[d,o]⟩
def Za6(h:Heap)(c:Nat)(a:List (List Nat))(b d:List Nat):Nat->Heap
 |0=>h
 |i+1=>Zl9 (Za6 h c a b d i) c (JX boS a (b.take (i+1)) d)
theorem Zs7(b:List (List Nat))(a:List Nat)(c:List Nat){i:Nat}(d:i<a.length):JX boS b (a.take (i+1)) c=(JX boS b (a.take i) c).set a[i] (boS ((JX boS b (a.take i) c).getD a[i] []) c):=by
 rw[qa d];simp only[JX,List.foldl_append,uR,List.foldl_nil]
theorem Zer{h}{g:Nat}{A:Au0}(d:AuB A)(k:MkA h g A){a j:List Nat}(b:Rz A.sets.length a)(f:Rz A.sets.length j): ∀i,i<=a.length->MkA (Za6 h g A.fol a j i) g ⟨A.sets,JX boS A.fol (a.take i) j⟩
 |0,_=>k
 |i+1,o=>by
  have m:=Zer d k b f i om;have c:=(Zl0 (n:=A.sets.length) f.2 (a.take i) A.fol d.fo).1;have l:=(Zl0 (n:=A.sets.length) f.2 (a.take (i+1)) A.fol d.fo).1;have p:a[i]<A.sets.length:=b.2 _ (qe om);exact m.set (λe=>by rw[e]at c;rw[d.wf]at c;simp at c;omega) (by rw[c,l])
theorem Zwd(hs:ZQ UY.P 75)(D:ZE UY.P 76){h}{t:Nat}{A:Au0}(z:AuB A)(X:MkA h t A)(hn:A.sets.length<=300){a c}(s:Rz A.sets.length a)(L:Rz A.sets.length c):
  Con UY 119 [p_P t,lst encI (ints a),lst encI (ints c)] h λv O=>v= .tup []/\O=Za6 h t A.fol a c a.length:=by
 refine Zx UK (fn:=Tryz.f119) (Zh UK 32 ZJ0 rfl ?_);have a0:=s.len;have a1:=L.len;refine⟨rfl,Zfo [0,2,8,9,10] [0,2,8,9,10] (λm N y=> ∃i:Nat,N= [p_P t,lst encI (ints c),lst encI (ints a),I (ints a).length,I (i:Nat)]/\i<=a.length/\m=a.length-i/\y=Za6 h t A.fol a c i) a.length ZA ⟨0,rfl,om,om,rfl⟩ ?_⟩;rintro m N y ⟨i,rfl,Z,rfl,j⟩;have p:=Zer z X s L i Z;rw[<-j]at p;refine Zm UK ZJ1 rfl ?_;refine Zq (λg=> ?_) (λE=> ?_)
 .have o:i<a.length:=by rw[QG]at g;exact g
  have B:=(Zl0 (n:=A.sets.length) L.2 (a.take i) A.fol z.fo);have r:a[i]<(JX boS A.fol (a.take i) c).length:=by rw[B.1,z.wf];exact s.2 _ (qe o)
  have x:=Zs7 A.fol a c o;have hnx:Za6 h t A.fol a c (i+1)=Zl9 y t (JX boS A.fol (a.take (i+1)) c):=by rw[Za6,<-j]
  rw[x]at hnx;generalize JX boS A.fol (a.take i) c=b at p B r x hnx;have G:b≠ []:=λe=>by rw[e]at r;exact absurd r sm
  obtain⟨q,l2,c2,d,F,H,u⟩:=p.fols G;have K:=B.2 _ (qe r);have C:=Zb6 hs D b[a[i]] c (by have:=K.len;omega) om;have W:b.getD a[i] []=b[a[i]]:=by simp[qw,r]
  have w:(ints a)[i]'(by rw[QG];exact o)=(a[i]:Nat):=by simp[ints]
  refine⟨Zu g,((a[i]:Nat):Int),?_,_,_,_,_,d,_,_,_,_,d,?_⟩;rw[qdq];have:=Xw (f:=encI) (k:=1) Zjk (l:=ints a) (i:=i) (by rw[QG];exact o);rw[this,w];refine⟨⟨om,om⟩,rfl,_,_,_,(Zr u _ _).trans ?_,_,_,_,C,⟨om,om⟩,rfl,y.set q (some (.arr (row Qe (b.set a[i] (boS b[a[i]] c))) true)),?_,?_⟩;rw[qdq,uJ];exact Xw (f:=Qe) (k:=1) Zb7 r;simp only[Zi,u];rw[qdq,uF (by rw[Xf Zb7];simp;omega)];have:=Zl1 (f:=Qe) Zb7 b a[i] (boS b[a[i]] c) r;rw[uJ,uY];rw[show([V.ts (row encI (ints (boS b[a[i]] c))) (ints (boS b[a[i]] c)).length none]:List V)=Qe (boS b[a[i]] c) from rfl,this];exact⟨rfl,a.length-(i+1),om,i+1,by rw[Ze om];rfl,om,rfl,by rw[hnx,W,Zl9,H]⟩
 .have Y:i=a.length:=by rw[QG]at E;omega
  rw[Y]at j;exact Xc (.inl rfl) rfl (AfterZ.now ⟨rfl,j⟩)
theorem Zqt(p:ZQ UY.P 75)(i:ZE UY.P 76){h}{j:Nat}{A:Au0}(t:AuB A)(u:MkA h j A)(w:A.sets.length<=300){a b:Part}(n:PaB A.sets.length a)(o:PaB A.sets.length b):
  Con UY 73 [p_P j, .agg (XL a), .agg (XL b)] h λv k=>v= .agg (XL (catP boS A a b).2)/\k=Za6 h j A.fol a.last b.first a.last.length:=by
 refine Zx UK (fn:=Tryz.f73) (Zo UK ZQi rfl ?_);refine(Zwd p i t u w n.la o.fi).mono λv c ⟨x,m⟩=>⟨x,?_⟩;have y:=n.fi.len;have z:=n.la.len;have B:=o.fi.len;have C:=o.la.len;have r:=Zb6 p i a.first b.first om om;have q:=Zb6 p i a.last b.last om om;have g: ∀(f l:List Nat) (e:Bool),f=(if a.empty then boS a.first b.first else a.first)->l=(if b.empty then boS a.last b.last else b.last)->e=(a.empty&&b.empty)->
   Go.Y.Fin UY Tryz.f73 [6] (AfterZ λv k=>v= .agg (XL (catP boS A a b).2)/\k=Za6 h j A.fol a.last b.first a.last.length) .ret 42 [.lb [lst encI (ints f),lst encI (ints l), .b e]] c:=λf l e c d s=>
  finC rr rfl (.now ⟨by subst c d s;rfl,m⟩)
 refine Zf (λc=>Zf (λ_=>⟨_,_,_,r,Zf (λd=>⟨_,_,_,q,g _ _ _ (by rw[c];rfl) (by rw[d];rfl) (by rw[c,d];rfl)⟩) (λd=>g _ _ _ (by rw[c];rfl) (by rw[d];rfl) (by rw[c,d];rfl))⟩) (λh=>by rw[c]at h;cases h)) (λc=>Zf (λh=>by rw[c]at h;cases h) (λ_=>Zf (λd=>⟨_,_,_,q,g _ _ _ (by rw[c];rfl) (by rw[d];rfl) (by rw[c];rfl)⟩) (λd=>g _ _ _ (by rw[c];rfl) (by rw[d];rfl) (by rw[c];rfl))))
theorem Zqu{h}{c:Nat}{A:Au0}(d:AuB A)(e:MkA h c A){a b:Part}(f:PaB A.sets.length a)(g:PaB A.sets.length b):MkA (Za6 h c A.fol a.last b.first a.last.length) c (catP boS A a b).1:=by
 have:=Zer d e f.la g.fi a.last.length (qnq _);rw[qm]at this;exact this
theorem Zma(k:Int)(s)(a)(b c n:Int)(d:0<=b):PCon UY 71 [.agg (Zd (.mk k s a b c n))] (· = I (Xn b c:Nat)):=by
 rw[Zn];refine Zv UK (fn:=Tryz.f71) rfl ZQh rfl ?_;refine JU (λh=>ZB rr rfl (.i _ _) ?_) (λh=>ZB rr rfl (.i _ _) ?_);unfold Xn;rw[uF h,Int.toNat_of_nonneg h]
 .unfold Xn;rw[uE om]
  congr 1
  show(if 1>b then 1 else b)=_;split<;>omega
end Go.Y
namespace Go.Y
open Gl
theorem Wq{b:Type}(P:Nat->b->Prop)(R:Nat->b->b->Prop)(c:b): ∀(n:Nat),P 0 c->(∀i,i<n-> ∀x,P i x-> ∃y,R i x y/\P (i+1) y)-> ∃H:Nat->b,H 0=c/\(∀i,i<=n->P i (H i))/\ ∀i,i<n->R i (H i) (H (i+1))
 |0,d,_=>⟨λ_=>c,rfl,λi a=>by
   have:i=0:=om;subst this;exact d,λi a=>absurd a om⟩
 |n+1,d,step=>by
  obtain⟨H,j,h,k⟩:=Wq P R c n d λi a=>step i om;obtain⟨y,f,g⟩:=step n om (H n) (h n (qnq _));refine⟨λi=>if i=n+1 then y else H i,by simp[j],λi a=> ?_,λi a=> ?_⟩;by_cases e:i=n+1;subst e;simp only[uF];exact g;simp only[uE e];exact h i om;by_cases e:i=n;subst e;simp only[uE (show¬i=i+1 from om),uF];exact f;simp only[uE (show¬i=n+1 from om),uE (show¬i+1=n+1 from om)];exact k i om
theorem Zmb(b:List Nat->List Nat->List Nat)(x:Re): ∀(l:List Re) (A:Au0) (a:Part),partF.altF b (l++ [x]) A a=
  ((partF b x (partF.altF b l A a).1).1,⟨b (partF.altF b l A a).2.first (partF b x (partF.altF b l A a).1).2.first,b (partF.altF b l A a).2.last (partF b x (partF.altF b l A a).1).2.last,(partF.altF b l A a).2.empty||(partF b x (partF.altF b l A a).1).2.empty⟩)
 | [],A,a=>by rw[qy,partF.altF,partF.altF,partF.altF]
 |r::l,A,a=>by
  rw[qs,partF.altF,Zmb b x l];rw[show partF.altF b (r::l) A a=partF.altF b l (partF b r A).1 ⟨b a.first (partF b r A).2.first,b a.last (partF b r A).2.last,a.empty||(partF b r A).2.empty⟩ from by rw[partF.altF]]
theorem Zf0(b:List Nat->List Nat->List Nat)(x:Re): ∀(l:List Re) (A:Au0) (a:Part),partF.catF b (l++ [x]) A a=
  catP b (partF b x (partF.catF b l A a).1).1 (partF.catF b l A a).2 (partF b x (partF.catF b l A a).1).2
 | [],A,a=>by rw[qy,partF.catF,partF.catF,partF.catF]
 |r::l,A,a=>by
  rw[qs,partF.catF,Zf0 b x l];rw[show partF.catF b (r::l) A a=partF.catF b l (catP b (partF b r A).1 a (partF b r A).2).1 (catP b (partF b r A).1 a (partF b r A).2).2 from by rw[partF.catF]]
def Zou(a:List Nat->List Nat->List Nat)(g:Au0->Au0×Part)(c b:Int)(n i:Nat)(s:Au0×Part):Au0×Part:=
 catP a (if b<0/\i+1=n then Zd8 a (g s.1).1 (g s.1).2 else(g s.1).1) s.2 ⟨(g s.1).2.first,(g s.1).2.last,(g s.1).2.empty||decide (c<=(i:Int))⟩
theorem Zqv(b:List Nat->List Nat->List Nat)(g:Au0->Au0×Part)(d c:Int)(n:Nat): ∀(k i:Nat) (A:Au0) (a:Part),repP b g d c n (k+1) i A a=Zou b g d c n (i+k) (repP b g d c n k i A a)
 |0,i,A,a=>by rw[repP,repP,repP];rfl
 |k+1,i,A,a=>by
  have e:repP b g d c n (k+1+1) i A a=repP b g d c n (k+1) (i+1) (Zou b g d c n i (A,a)).1 (Zou b g d c n i (A,a)).2:=by rw[repP];rfl
  have f:repP b g d c n (k+1) i A a=repP b g d c n k (i+1) (Zou b g d c n i (A,a)).1 (Zou b g d c n i (A,a)).2:=by rw[repP];rfl
  rw[e,Zqv b g d c n k (i+1),f,show i+1+k=i+(k+1) from om]
theorem Zb8(l:List Re)(i:Nat):cntRe.cnts (l.take i)<=cntRe.cnts l:=by
 induction l generalizing i with
 |nil=>simp
 |cons r l a=>
  cases i with
  |zero=>rw[uQ,cntRe.cnts];omega
  |succ i=>rw[List.take_succ_cons,cntRe.cnts,cntRe.cnts];have:=a i;omega
theorem Zb9(x): ∀l:List Re,cntRe.cnts (l++ [x])=cntRe.cnts l+cntRe x
 | []=>by rw[qy,cntRe.cnts,cntRe.cnts,cntRe.cnts];omega
 |r::l=>by rw[qs,cntRe.cnts,Zb9 x l,cntRe.cnts];omega
theorem VY{B:Nat} : ∀ {l:List Re},wfRe.wfRes B l-> ∀i,wfRe.wfRes B (l.take i)
 | [],h,i=>su h
 |r::l,h,0=>by rw[uQ,wfRe.wfRes];trivial
 |r::l,h,i+1=>by
  rw[wfRe.wfRes]at h;rw[List.take_succ_cons,wfRe.wfRes];exact⟨h.1,VY h.2 i⟩
theorem Zdd{B:Nat} : ∀ {l:List Re},wfRe.wfRes B l-> ∀x∈l,wfRe B x
 | [],_,x,a=>by cases a
 |r::l,h,x,a=>by
  rw[wfRe.wfRes]at h;rcases qu.1 a with rfl|a;exact h.1;exact Zdd h.2 x a
end Go.Y
namespace Go.Y
open Go.Proofs
set_option maxRecDepth 1000000
set_option maxHeartbeats 0
theorem ZQo(c k s0 s1 s2 s3 kc kn lo hi gn h K):CP UY 74 (pre B_74) (p_P c::.agg (R9 k s0 s1 s2 s3 kc kn none lo hi gn)::Rp 50) h [0,2,3,4,5,6,12,13] K=(∃a,(PCon UY 71 [.agg (R9 k s0 s1 s2 s3 kc kn none lo hi gn)] λv=>v=I a)/\K .normal 52 [p_P c,Ud, .lb (R9 k s0 s1 s2 s3 kc kn none lo hi gn), .lb [S0,S0, .b false], .lb [S0,S0, .b true],I a,I a,I 0] h):=kr
theorem ZQp(id k s0 s1 s2 s3 kc H lo hi gn x6 d e f g j m o q a h K):CP UY 74 (lp_ B_74) (MZ 52 [0,2,3,4,5,6,12,13] [p_P id,V.undef,.lb (R9 k s0 s1 s2 s3 kc H none lo hi gn),.lb [S0,S0,.b false],.lb [J f g e,J m o j,.b q],I x6,I d,I a]) h [0,2,3,4,5,6,12,13] K=(If (ltI a d) (((0:Int)<=(0:Int)/\(0:Int)<(H:Int))/\ ∃c i l n r s t u w x y,Zs 9 kc=some (R9 c i l n r s t u w x y)/\Con UY 32 [p_P id,.agg (R9 c i l n r s t u w x y)] h fun(v:V) (p:Heap)=> ∃z L N O P W X,(λY=>v=.agg [J z L N,J O P W,.b X]/\If (ltI hi 0) (If (a==wW (x6-(1:Int))) (Con UY 119 [p_P id,J O P W,J z L N] p fun(v:V) (p:Heap)=>v=.tup []/\If X (Con UY 73 [p_P id,.agg [J f g e,J m o j,.b q],.agg [J z L N,J O P W,.b true]] p fun(v:V) (p:Heap)=> ∃A B C D E F G,v=.agg [J A B C,J D E F,.b G]/\K .normal 52 [p_P id,Ud, .lb (R9 k s0 s1 s2 s3 kc H none lo hi gn), .lb [S0,S0, .b false], .lb [J A B C,J D E F, .b G],I x6,I d,I (wW (a+(1:Int)))] p) (Con UY 73 [p_P id,.agg [J f g e,J m o j,.b q],.agg [J z L N,J O P W,.b (leI lo a)]] p fun(v:V) (p:Heap)=> ∃A B C D E F G,v=.agg [J A B C,J D E F,.b G]/\K .normal 52 [p_P id,Ud, .lb (R9 k s0 s1 s2 s3 kc H none lo hi gn), .lb [S0,S0, .b false], .lb [J A B C,J D E F, .b G],I x6,I d,I (wW (a+(1:Int)))] p)) Y) Y) (If X (Con UY 73 [p_P id,.agg [J f g e,J m o j,.b q],.agg [J z L N,J O P W,.b true]] p fun(v:V) (p:Heap)=> ∃A B C D E F G,v=.agg [J A B C,J D E F,.b G]/\K .normal 52 [p_P id,Ud, .lb (R9 k s0 s1 s2 s3 kc H none lo hi gn), .lb [S0,S0, .b false], .lb [J A B C,J D E F, .b G],I x6,I d,I (wW (a+(1:Int)))] p) (Con UY 73 [p_P id,.agg [J f g e,J m o j,.b q],.agg [J z L N,J O P W,.b (leI lo a)]] p fun(v:V) (p:Heap)=> ∃A B C D E F G,v=.agg [J A B C,J D E F,.b G]/\K .normal 52 [p_P id,Ud, .lb (R9 k s0 s1 s2 s3 kc H none lo hi gn), .lb [S0,S0, .b false], .lb [J A B C,J D E F, .b G],I x6,I d,I (wW (a+(1:Int)))] p))) (K (.exit 0) 52 [p_P id,Ud, .lb (R9 k s0 s1 s2 s3 kc H none lo hi gn), .lb [S0,S0, .b false], .lb [J f g e,J m o j, .b q],I x6,I d,I a] h)):=kr
theorem ZQq(a c d e f g j i h K):CP UY 74 ((post B_74).drop 1) (MZ 52 [4,5] [.lb [S0,S0,.b j],.lb [J c d a,J f g e,.b i]]) h [4] K=(K .ret 52 [.lb [J c d a,J f g e, .b i]] h):=kr
theorem ZJ2{c n h}(K):CP UY 117 (pre B_117) (J c n none::V.fn (.func 30) [] []::Rp 17) h [0,1,7,8] K=(K .normal 19 [J c n none, .fn (Fn.func 30) [] [],I (n:Int),I 0] h):=kr
theorem ZJ3{c n x8 h}(K):CP UY 117 (lp_ B_117) (MZ 19 [0,1,7,8] [J c n none,V.fn (Fn.func 30) [] [],I (n:Int),I x8]) h [0,1,4,7,8] K=(If (ltI x8 n) ((0<=x8/\x8<n)/\ ∃a b d e f g i j l m o,Zs 9 (List.drop (x8.toNat*9) c)=some (R9 a b d e f g i j l m o)/\ ∃p,(PCon UY 30 [.agg (R9 a b d e f g i j l m o)] λv=>v=.b p)/\If p (K .ret 19 [J c n none, .fn (Fn.func 30) [] [],I x8,I (n:Int),I x8] h) (K .normal 19 [J c n none, .fn (Fn.func 30) [] [],Ud,I (n:Int),I (wW (x8+(1:Int)))] h)) (K (.exit 0) 19 [J c n none, .fn (Fn.func 30) [] [],Ud,I (n:Int),I x8] h)):=kr
theorem ZJ4{h}(K):CP UY 117 ((post B_117).drop 1) (MZ 19 [] []) h [4] K=(K .ret 19 [I (-1)] h):=kr
theorem ZQr{c n h}(K):CP UY 70 (flat (Za Tryz.f70)) (J c n none::V.fn (.func 30) [] []::Rp 7) h [4] K=(Con UY 117 [J c n none,V.fn (Fn.func 30) [] []] h fun(v:V) (d:Heap)=> ∃a,v=I a/\K .ret 9 [.b (leI 0 a)] d):=kr
theorem ZQs{b g h}(K):CP UY 33 (flat (Za Tryz.f33)) (J b g none::Rp 7) h [2] K=((g=0->K .ret 8 [S0] h)/\((∃a c d e f,Zk UY h 32 32 (J [] 0 (some 0)) (J b g none)=some (S a c d e,f)/\K .ret 8 [S a c d e] f)\/Zk UY h 32 32 (J [] 0 (some 0)) (J b g none)=some (J [] 0 (some 0),h)/\K .ret 8 [J [] 0 (some 0)] h)):=kr
theorem Za7{a:List Re}{i:Nat}(b:i<a.length):Zs 9 (List.drop ((i:Int).toNat*9) (row Zd a))=some (Zd a[i]):=by rw[qdq];exact Xw (f:=Zd) (k:=9) ZT b
theorem Zf1: ∀l:List Re,anchB.anchs l=l.any anchB
 | []=>by rw[anchB.anchs];rfl
 |r::l=>by rw[anchB.anchs,Zf1 l];rfl
theorem ZJ5{B:Nat}(y:B<2 ^ 20){a:List Re}(A:a.length<=B)(t: ∀x∈a,PCon UY 30 [.agg (Zd x)] (· = .b (anchB x)))(h:Heap):
  Con UY 117 [lst Zd a, .fn (.func 30) [] []] h λv q=> ∃n:Int,v= I n/\leI 0 n=a.any anchB/\q=h:=by
 refine Zx UK (fn:=Tryz.f117) (Zh UK 19 ZJ2 rfl ?_);refine⟨rfl,ZM [0,1,7,8] [0,1,4,7,8] (λm p g=> ∃i:Nat,p= [lst Zd a, .fn (.func 30) [] [],I a.length,I (i:Nat)]/\i<=a.length/\m=a.length-i/\(a.take i).any anchB=false/\g=h) a.length ZA ⟨0,rfl,om,om,sm,rfl⟩ ?_⟩;rintro m p g ⟨i,rfl,z,rfl,k,rfl⟩;refine Zm UK ZJ3 rfl ?_;refine Zq (λc=> ?_) (λs=> ?_)
 .have o:=t a[i] (qe c);have d:=Za7 c;have j:(a.take (i+1)).any anchB=anchB a[i]:=by rw[qa c,uj,k];simp
  have f:anchB a[i]=true->a.any anchB=true:=λe=>List.any_eq_true.2 ⟨_,qe c,e⟩;generalize a[i]=x at o d j f;obtain⟨C,F,D,w,u,E⟩:=x;rw[Zn]at o d;refine⟨Zu c,_,_,_,_,_,_,_,_,_,_,_,d,_,o,Zf (λl=> ?_) (λl=> ?_)⟩;exact Xc rr rfl (AfterZ.now ⟨_,rfl,by rw[f l];simp[leI],rfl⟩);exact⟨rfl,a.length-(i+1),om,i+1,by rw[Ze om];rfl,om,rfl,by rw[j,l],rfl⟩
 .have r:i=a.length:=om;subst r;rw[qm]at k;refine Zj [] ?_;refine Zo UK ZJ4 rfl ?_;exact finC rr rfl (.now ⟨-1,rfl,by rw[k];rfl,rfl⟩)
structure AX(r:Re):Prop where
 c:PCon UY 30 [.agg (Zd r)] (· = .b (anchB r))
theorem ZAt{B:Nat}(j:B<2 ^ 20){k:Int}{s}{a:List Re}{i h n:Int}(l:a.length<=B)(p: ∀x∈a,PCon UY 30 [.agg (Zd x)] (· = .b (anchB x))):PCon UY 30 [.agg (Zd (.mk k s a i h n))] (· = .b (anchB (.mk k s a i h n))):=by
 rw[Zn,anchB,Zf1];refine Zv UK (fn:=Tryz.f30) rfl ZQm rfl ?_;refine Zf (λc=>ZB rr rfl (.b _) (by rw[c];rfl)) (λc=>Zf (λe=>ZB rr rfl (.b _) (by rw[c,e];rfl)) (λe=> ?_));have d:Con UY 70 [lst Zd a, .fn (.func 30) [] []] .empty λv g=>v= .b (a.any anchB):=by
  refine Zx UK (fn:=Tryz.f70) (Zo UK ZQr rfl ?_);exact(ZJ5 j l p .empty).mono λv g ⟨m,f,o,_⟩=>⟨m,f,finC rr rfl (.now (by rw[o];rfl))⟩
 exact d.mono λv g f=>⟨_,f,ZB rr rfl (.b _) (by rw[c,e];rfl)⟩
mutual
theorem ZDb{B:Nat}(b:B<2 ^ 20): ∀r:Re,wfRe B r->AX r
 | .mk k s a g f n,h=>by
  rw[wfRe]at h;have e:=Zwe b a h.2.2.2;exact⟨ZAt b h.2.2.1 λx d=>(e x d).c⟩
theorem Zwe{B:Nat}(b:B<2 ^ 20): ∀l:List Re,wfRe.wfRes B l-> ∀x∈l,AX x
 | [],_,x,a=>by cases a
 |r::l,h,x,a=>by
  rw[wfRe.wfRes]at h;have c:=ZDb b r h.1;have d:=Zwe b l h.2;rcases qu.1 a with e|a;rw[e];exact c;exact d x a
end
/-! ### Spots -/
theorem Zhz(x): ∀(l:List Re) (n:Nat),spotN.spots (l++ [x]) n=min (spotN.spots l n+spotN x) 301
 | [],n=>by rw[qy,spotN.spots,spotN.spots,spotN.spots]
 |r::l,n=>by rw[qs,spotN.spots,Zhz x l,spotN.spots]
structure SX(r:Re):Prop where
 c:PCon UY 31 [.agg (Zd r)] (· = I (spotN r:Nat))
theorem minV(a b:Nat):((fun(x y:Int)=>if y<x then y else x) (a:Int) (b:Int))=((min a b:Nat):Int):=by show(if(b:Int)<a then(b:Int)else a)=_;split<;>omega
theorem ZAu{B:Nat}(hB:B<2 ^ 20){k:Int}{s}{a:List Re}{d c n:Int}(z:wfRe B (.mk k s a d c n))(ih: ∀x∈a,PCon UY 31 [.agg (Zd x)] (· = I (spotN x:Nat))):PCon UY 31 [.agg (Zd (.mk k s a d c n))] (· = I (spotN (.mk k s a d c n):Nat)):=by
  have D:=z;rw[wfRe]at D;obtain⟨X,h2,h3,A⟩:=D;have C:k=6->PCon UY 71 [.agg (Zd (.mk k s a d c n))] (· = I (Xn d c:Nat))/\Xn d c<=8:=λe=>by
    obtain⟨P,W,g3,g4⟩:=X e;exact⟨Zma k s a d c n P,Zjr W om⟩
  have E: ∀i m,m<=301->spotN.spots (a.take i) m<=301:=λi m hm=>(Zfu (a.take i) (VY A i) m hm).1;rw[Zn]at C ⊢;refine ZF UK (fn:=Tryz.f31) rfl ?_;refine Zh UK 33 ZQj rfl ?_;have l: ∀b:Nat,b=(if k=1 then 1 else 0)->PreV UY 33 [1,3,12,13,14] (post B_31) (FinS UY Tryz.f31 λv h=> ∃r,Frz h v r/\r= I (spotN (.mk k s a d c n):Nat)) .normal 33 [.lb [I k,U s.1,U s.2.1,U s.2.2.1,U s.2.2.2,lst Zd a,I d,I c,I n],I (b:Nat),lst Zd a,I a.length,I 0] .empty:=by
    intro b o;have q:b<=301:=by rw[o];split<;>omega
    refine⟨rfl,ZM [1,3,12,13,14] [1,3,12,13,14] (λm F g=> ∃i:Nat,F= [.lb [I k,U s.1,U s.2.1,U s.2.2.1,U s.2.2.2,lst Zd a,I d,I c,I n],I (spotN.spots (a.take i) b:Nat),lst Zd a,I a.length,I (i:Nat)]/\i<=a.length/\m=a.length-i) a.length ZA ⟨0,by rw[uQ,spotN.spots];rfl,om,om⟩ ?_⟩;rintro m F g ⟨i,rfl,a0,rfl⟩;refine Zm UK ZQk rfl ?_;refine Zq (λf=> ?_) (λZ=> ?_)
    · have y:=ih a[i] (qe f)
      have j:=Za7 f;have hx:=(Zen a[i] (Zdd A _ (qe f))).1;have t:spotN.spots (a.take (i+1)) b=min (spotN.spots (a.take i) b+spotN a[i]) 301:=by rw[qa f,Zhz]
      have p:=E i b q;generalize a[i]=x at y j hx t;obtain⟨G,L,H,w,u,K⟩:=x;rw[Zn]at y j;refine⟨Zu f,_,_,_,_,_,_,_,_,_,_,_,j,_,y,rfl,a.length-(i+1),om,i+1,?_,om,rfl⟩;rw[Ze om,t,ZI (n:=((spotN.spots (a.take i) b:Nat):Int)+(spotN (.mk G L H w u K):Nat)) om om];have:=minV (spotN.spots (a.take i) b+spotN (.mk G L H w u K)) 301;rw[<-this];rfl
    · have Y:i=a.length:=om
      subst Y;have p:=E a.length b q;rw[qm]at p ⊢;refine Zj [1,3] ?_;refine Zo UK ZQl rfl ?_;refine Zf (λe=> ?_) (λe=>ZB rr rfl (.i _ _) ?_)
      · have e:k=6:=su e
        obtain⟨N,t6⟩:=C e;refine⟨_,N,ZB rr rfl (.i _ _) ?_⟩;have hb:spotN.spots a b*Xn d c<=301*8:=Nat.mul_le_mul p t6;have O:wW (((spotN.spots a b:Nat):Int)*((Xn d c:Nat):Int))=((spotN.spots a b*Xn d c:Nat):Int):=by
          rw[ZI (by have:(0:Int)<=((spotN.spots a b*Xn d c:Nat):Int):= om;rw[<-Int.natCast_mul];omega) (by rw[<-Int.natCast_mul];omega),Int.natCast_mul]
        rw[O,spotN,uF e];have:=minV (spotN.spots a b*Xn d c) 301;rw[<-o,<-this];rfl
      · have e:k≠6:=su e
        rw[spotN,uE e];have:=minV (spotN.spots a b) 301;rw[<-o,<-this];rfl
  exact Zf (λe=>l 1 (by rw[uF (su e)])) (λe=>l 0 (by rw[uE (su e)]))
mutual
theorem ZDc{B:Nat}(b:B<2 ^ 20): ∀r:Re,wfRe B r->SX r
 | .mk k s a i g n,h=>by
  have d:=h;rw[wfRe]at d;have f:=Zwf b a d.2.2.2;exact⟨ZAu b h λx e=>(f x e).c⟩
theorem Zwf{B:Nat}(b:B<2 ^ 20): ∀l:List Re,wfRe.wfRes B l-> ∀x∈l,SX x
 | [],_,x,a=>by cases a
 |r::l,h,x,a=>by
  rw[wfRe.wfRes]at h;have c:=ZDc b r h.1;have d:=Zwf b l h.2;rcases qu.1 a with e|a;rw[e];exact c;exact d x a
end
theorem ZQt{k s0 s1 s2 s3 kc kn lo hi gn h}(K):CP UY 29 (flat (Za Tryz.f29)) (.agg (R9 k s0 s1 s2 s3 kc kn none lo hi gn)::Rp 11) h [2] K=(∃a c,(PCon UY 69 [.agg (R9 k s0 s1 s2 s3 kc kn none lo hi gn)] λv=>v=.tup [.s a,I c])/\K .ret 12 [.b (c==(0:Int))] h):=kr
theorem ZQu{k s0 s1 s2 s3 kc kn lo hi gn h}(K):CP UY 69 (flat (Za Tryz.f69)) (.agg (R9 k s0 s1 s2 s3 kc kn none lo hi gn)::Rp 13) h [2,3] K=(Con UY 113 [p_P h.nx,.agg (R9 k s0 s1 s2 s3 kc kn none lo hi gn),I 0,I 0] (h.pushT (UY.tag (178:Nat)) (YObj.arr [I 0] true)) fun(v:V) (e:Heap)=> ∃a,v=.b a/\If (!a) (K .ret 14 [.s #[].toList,I 5] e) (Con UY 114 [p_P e.nx,.agg (R9 k s0 s1 s2 s3 kc kn none lo hi gn)] (e.pushT (UY.tag (182:Nat)) (YObj.arr [.p none,S none (0:Nat) (some (0:Nat)) (0:Nat)] true)) fun(v:V) (d:Heap)=>v=.tup []/\ ∃b,RCon UY (115:Nat) [p_P e.nx] d (I b)/\If (ltI 200 b) (K .ret 14 [.s #[].toList,I 2] d) (Con UY 116 [p_P e.nx] d fun(v:V) (e:Heap)=> ∃c,v=.s c/\K .ret 14 [.s c,I 0] e))):=kr
theorem ZJ6{d k s0 s1 s2 s3 kc kn lo hi gn lv dp h}(K):CP UY 113 (flat (Za Tryz.f113)) (p_P d::.agg (R9 k s0 s1 s2 s3 kc kn none lo hi gn)::I lv::I dp::Rp 123) h [8] K=(∃a,(PCon UY 143 [.agg (R9 k s0 s1 s2 s3 kc kn none lo hi gn)] λv=>v=.b a)/\If (!a) (K .ret 127 [.b false] h) (If (k==(0:Int)) (If (leI lv 1) (K .ret 127 [.b ((↑kn:Int)==(0:Int))] h) (K .ret 127 [.b false] h)) (If (k==(1:Int)) (K .ret 127 [.b ((↑kn:Int)==(0:Int))] h) ((λg=>If (k==(2:Int)) g (If (k==(3:Int)) g (If (k==(4:Int)) (If (leI lv 1) (If (ltI 1 kn) (Con UY 144 [p_P d,J kc kn none,I 2,I dp] h fun(v:V) (c:Heap)=> ∃b,v=.b b/\K .ret 127 [.b b] c) (K .ret 127 [.b false] h)) (K .ret 127 [.b false] h)) (If (k==(5:Int)) (If (lv==(0:Int)) (If (ltI 1 kn) (Con UY 144 [p_P d,J kc kn none,I 1,I dp] h fun(v:V) (c:Heap)=> ∃b,v=.b b/\K .ret 127 [.b b] c) (K .ret 127 [.b false] h)) (K .ret 127 [.b false] h)) (If (k==(6:Int)) ((λe=>If (leI 0 lo) (If (leI lo 8) ((λf=>If (hi==(-1:Int)) (If (leI lv 2) f (K .ret 127 [.b false] h)) (If (leI lo hi) (If (leI lv 2) (If (leI hi 8) f (K .ret 127 [.b false] h)) (K .ret 127 [.b false] h)) e)) (If ((↑kn:Int)==(1:Int)) (Con UY 144 [p_P d,J kc kn none,I 3,I dp] h fun(v:V) (c:Heap)=> ∃b,v=.b b/\K .ret 127 [.b b] c) (K .ret 127 [.b false] h))) e) e) (If (leI lv 2) (K .ret 127 [.b false] h) (K .ret 127 [.b false] h))) (If (k==(7:Int)) (Con UY 145 [p_P d,.agg (R9 k s0 s1 s2 s3 kc kn none lo hi gn),I dp] h fun(v:V) (c:Heap)=> ∃b,v=.b b/\K .ret 127 [.b b] c) (K .ret 127 [.b false] h))))))) (If (leI lv 2) (K .ret 127 [.b ((↑kn:Int)==(0:Int))] h) (K .ret 127 [.b false] h)))))):=kr
theorem ZJ7{k s0 s1 s2 s3 kc kn lo hi gn h}(K):CP UY 143 (flat (Za Tryz.f143)) (.agg (R9 k s0 s1 s2 s3 kc kn none lo hi gn)::Rp 36) h [2] K=((λa=>If (k==(1:Int)) a (If (s0==(0:Int)&&(s1==(0:Int)&&(s2==(0:Int)&&(s3==(0:Int)&&true)))) a (K .ret 37 [.b false] h))) ((λc=>If (k==(6:Int)) c (If (lo==(0:Int)) (If (hi==(0:Int)) c (K .ret 37 [.b false] h)) (K .ret 37 [.b false] h))) (If (k==(7:Int)) (K .ret 37 [.b true] h) (K .ret 37 [.b (gn==(0:Int))] h)))):=kr
theorem ZJ8{a c n lv dp h}(K):CP UY 144 (pre (flat (Za Tryz.f144))) (p_P a::J c n none::I lv::I dp::Rp 20) h [0,2,3,11,12,13] K=(K .normal 24 [p_P a,I lv,I dp,J c n none,I (n:Int),I 0] h):=kr
theorem ZJ9{id c n lv dp a h}(K):CP UY 144 (lp_ (flat (Za Tryz.f144))) (MZ 24 [0,2,3,11,12,13] [p_P id,I lv,I dp,J c n none,I (n:Int),I a]) h [0,2,3,8,11,12,13] K=(If (ltI a n) ((0<=a/\a<n)/\ ∃b d e f g i j l m o q,Zs 9 (List.drop (a.toNat*9) c)=some (R9 b d e f g i j l m o q)/\Con UY 113 [p_P id,.agg (R9 b d e f g i j l m o q),I lv,I dp] h fun(v:V) (k:Heap)=> ∃r,v=.b r/\If (!r) (K .ret 24 [p_P id,I lv,I dp, .b false,J c n none,I (n:Int),I a] k) (K .normal 24 [p_P id,I lv,I dp,Ud,J c n none,I (n:Int),I (wW (a+(1:Int)))] k)) (K (.exit 0) 24 [p_P id,I lv,I dp,Ud,J c n none,I (n:Int),I a] h)):=kr
theorem ZKa{h}(K):CP UY 144 ((post (flat (Za Tryz.f144))).drop 1) (MZ 24 [] []) h [8] K=(K .ret 24 [.b true] h):=kr
theorem ZKb{e k s0 s1 s2 s3 kc kn lo hi gn dp h}(K):CP UY 145 (flat (Za Tryz.f145)) (p_P e::.agg (R9 k s0 s1 s2 s3 kc kn none lo hi gn)::I dp::Rp 40) h [6] K=(∃a,Zb h e 0 1=some [I a]/\ ∃b,Zi h e 0 [I (wW (a+(1:Int)))]=some b/\ ∃c,(λf=>Zb b e 0 1=some [I c]/\If (ltI 9 c) (If (gn==(0:Int)) f (K .ret 43 [.b false] b)) (If (gn==c) f (K .ret 43 [.b false] b))) (If (ltI dp 64) (If ((↑kn:Int)==(1:Int)) (Con UY 144 [p_P e,J kc kn none,I 0,I (wW (dp+(1:Int)))] b fun(v:V) (g:Heap)=> ∃d,v=.b d/\K .ret 43 [.b d] g) (K .ret 43 [.b false] b)) (K .ret 43 [.b false] b))):=kr
def Zea(k:Int)(s:S4)(c b a:Int):Bool:=(k==1||(s.1==0&&(s.2.1==0&&(s.2.2.1==0&&(s.2.2.2==0&&true)))))&&(k==6||(c==0&&b==0))&&(k==7||a==0)
abbrev XR(x:Int):Int:=wW x
def rightF:Re->Int->Int->Int->Option Int
 | .mk k s a d c n,lv,b,g=>
  if Zea k s d c n=false then none
  else if k=0 then(if leI lv 1&&((a.length:Nat):Int)==0 then some g else none)
  else if k=1 then(if((a.length:Nat):Int)==0 then some g else none)
  else if k=2\/k=3 then(if leI lv 2&&((a.length:Nat):Int)==0 then some g else none)
  else if k=4 then(if leI lv 1&&ltI 1 a.length then kidsF a 2 b g else none)
  else if k=5 then(if lv==0&&ltI 1 a.length then kidsF a 1 b g else none)
  else if k=6 then(if leI 0 d&&leI d 8&&(c== -1||(leI d c&&leI c 8))&&leI lv 2&&((a.length:Nat):Int)==1 then kidsF a 3 b g else none)
  else if k=7 then(if(n==if ltI 9 (XR (g+1))then 0 else XR (g+1))&&ltI b 64&&((a.length:Nat):Int)==1 then kidsF a 0 (XR (b+1)) (XR (g+1))else none)
  else none
where
 kidsF:List Re->Int->Int->Int->Option Int
  | [],_,_,g=>some g
  |r::l,lv,b,g=>match rightF r lv b g with
   |none=>none
   |some e=>kidsF l lv b e
abbrev JH(h:Heap)(a:Nat)(g:Int):Prop:=h.get a=some (.arr [I g] true)
def JP(c:Nat)(o:Option Int)(v:V)(a:Heap):Prop:=v= .b o.isSome/\ ∀g,o=some g->JH a c g
structure JR(r:Re):Prop where
 c: ∀(lv dp g:Int) (h:Heap) (id:Nat),JH h id g->Con UY 113 [p_P id, .agg (Zd r),I lv,I dp] h (JP id (rightF r lv dp g))
theorem ZAv{B:Nat}(d:B<2 ^ 20)(k:Int)(s)(a)(lo hi c:Int):PCon UY 143 [.agg (Zd (.mk k s a lo hi c))] (· = .b (Zea k s lo hi c)):=by
 rw[Zn];refine Zv UK (fn:=Tryz.f143) rfl ZJ7 rfl ?_;unfold Zea;generalize (s.1==0&&(s.2.1==0&&(s.2.2.1==0&&(s.2.2.2==0&&true))))=z;cases k==1<;>cases z<;>cases k==6<;>cases lo==0<;>cases hi==0<;>cases k==7<;>exact ZB (n:=37) rr rfl (.b _) sm
theorem Zes{l:List Re}{i:Nat}(a:i<l.length):l.drop i=l[i]::l.drop (i+1):=(List.getElem_cons_drop a).symm
theorem Zqw{B:Nat}(O:B<2 ^ 20){a:List Re}(W:a.length<=B)(F: ∀x∈a,JR x)(lv f g:Int){h}{j:Nat}(D:JH h j g):
  Con UY 144 [p_P j,lst Zd a,I lv,I f] h (JP j (rightF.kidsF a lv f g)):=by
 refine Zx UK (fn:=Tryz.f144) (Zh UK 24 ZJ8 rfl ?_);refine⟨rfl,ZM [0,2,3,11,12,13] [0,2,3,8,11,12,13] (λm w q=> ∃(i:Nat) (k:Int),w= [p_P j,I lv,I f,lst Zd a,I a.length,I (i:Nat)]/\i<=a.length/\m=a.length-i/\JH q j k/\rightF.kidsF a lv f g=rightF.kidsF (a.drop i) lv f k) a.length ZA ⟨0,g,rfl,om,om,D,rfl⟩ ?_⟩;rintro m w q ⟨i,k,rfl,P,rfl,l,d⟩;refine Zm UK ZJ9 rfl ?_;refine Zq (λe=> ?_) (λC=> ?_)
 .have p:=(F a[i] (qe e)).c lv f k q j l;have b:=Za7 e;rw[Zes e,rightF.kidsF]at d;generalize a[i]=x at p b d;obtain⟨G,L,H,u,t,K⟩:=x;rw[Zn]at p b;generalize rightF (.mk G L H u t K) lv f k=o at p d;refine⟨Zu e,_,_,_,_,_,_,_,_,_,_,_,b,p.mono λv N ⟨z,A⟩=>⟨_,z,Zf (λr=> ?_) (λr=> ?_)⟩⟩
  .have E:o=none:=by cases o with
    |none=>rfl
    |some y=>cases r
   subst E;exact Xc rr rfl (AfterZ.now ⟨by rw[d];rfl,λy n=>by rw[d]at n;cases n⟩)
  .cases o with
   |none=>cases r
   |some y=>exact⟨rfl,a.length-(i+1),om,i+1,y,by rw[Ze om];rfl,om,rfl,A y rfl,d⟩
 .have s:i=a.length:=om;subst s;rw[List.drop_length,rightF.kidsF]at d;refine Zj [] ?_;refine Zo UK ZKa rfl ?_;exact finC rr rfl (.now ⟨by rw[d];rfl,λy n=>by rw[d]at n;cases n;exact l⟩)
theorem QU{c:Nat}{h}{b:Bool}(a:b=false):JP c none (.b b) h:=⟨by rw[a];rfl,λ_ e=>by cases e⟩
theorem ZAw{a:Nat}{h}{g:Int}(c:JH h a g)(b:Bool):JP a (if b=true then some g else none) (.b b) h:=by cases b;exact QU rfl;exact⟨rfl,λy e=>by cases e;exact c⟩
theorem Zwg{B:Nat}(y:B<2 ^ 20){k:Int}{s:S4}{a:List Re}{lo hi n:Int}(C:a.length<=B)(D: ∀x∈a,JR x)(d g:Int){h}{c:Nat}(r:JH h c g):
  Con UY 145 [p_P c, .agg (Zd (.mk k s a lo hi n)),I d] h (JP c (if(n==if ltI 9 (XR (g+1))then 0 else XR (g+1))&&ltI d 64&&((a.length:Nat):Int)==1 then rightF.kidsF a 0 (XR (d+1)) (XR (g+1))else none)):=by
 rw[Zn];refine Zx UK (fn:=Tryz.f145) (Zo UK ZKb rfl ?_);have z:Zb h c 0 1=some [I g]:=by rw[Zr r];rfl
 have f:JH (h.set c (some (.arr [I (XR (g+1))] true))) c (XR (g+1)):=by rw[JH,qc,uF rfl]
 refine⟨g,z,h.set c (some (.arr [I (XR (g+1))] true)),by simp[Zi,r,splice,XR],XR (g+1),by rw[Zr f];rfl,?_⟩;have A:=Zqw y C D 0 (XR (d+1)) (XR (g+1)) f;have e: ∀ {b:Bool},b=false->Fin UY Tryz.f145 [6] (AfterZ (JP c (if b=true then rightF.kidsF a 0 (XR (d+1)) (XR (g+1))else none))) .ret 43 [.b false] (h.set c (some (.arr [I (XR (g+1))] true))):=λj=>by
  subst j;exact finC rr rfl (.now (QU rfl))
 have i: ∀ {b:Bool},b=true->Con UY 144 [p_P c,lst Zd a,I 0,I (XR (d+1))] (h.set c (some (.arr [I (XR (g+1))] true))) λv q=> ∃p,v= .b p/\Fin UY Tryz.f145 [6] (AfterZ (JP c (if b=true then rightF.kidsF a 0 (XR (d+1)) (XR (g+1))else none))) .ret 43 [.b p] q:=λj=>by
  subst j;exact A.mono λv q ⟨u,w⟩=>⟨_,u,finC rr rfl (.now ⟨rfl,w⟩)⟩
 refine Zf (λt=> ?_) (λt=> ?_)<;>rw[t]
 .refine Zf (λo=>Zf (λm=>Zf (λl=>i ?_) (λl=>e ?_)) (λm=>e ?_)) (λo=>e ?_)
  all_goals simp_all
 .refine Zf (λo=>Zf (λm=>Zf (λl=>i ?_) (λl=>e ?_)) (λm=>e ?_)) (λo=>e ?_)
  all_goals simp_all
theorem Zwh{B:Nat}(E:B<2 ^ 20){k:Int}{s}{c:List Re}{lo hi n:Int}(hl:c.length<=B)(ih: ∀x∈c,JR x):JR (.mk k s c lo hi n):=by
  refine⟨λlv z g h y t=> ?_⟩;have r:=ZAv E k s c lo hi n;have w:=Zwg E (k:=k) (s:=s) (lo:=lo) (hi:=hi) (n:=n) hl ih z g t;rw[Zn]at r w ⊢;rw[rightF];refine Zx UK (fn:=Tryz.f113) (Zo UK ZJ6 rfl ?_);refine⟨_,r,?_⟩;generalize Zea k s lo hi n=X;have a: ∀ {o:Option Int} {b:Bool},JP y o (.b b) h->Fin UY Tryz.f113 [8] (AfterZ (JP y o)) .ret 127 [.b b] h:=λhp=>finC rr rfl (.now hp);have j: ∀(l:Int),Con UY 144 [p_P y,lst Zd c,I l,I z] h λv D=> ∃W,v= .b W/\Fin UY Tryz.f113 [8] (AfterZ (JP y (rightF.kidsF c l z g))) .ret 127 [.b W] D:=λl=>
    (Zqw E hl ih l z g t).mono λv D ⟨A,C⟩=>⟨_,A,finC rr rfl (.now ⟨rfl,C⟩)⟩
  refine Zf (λp=> ?_) (λp=> ?_)
  · have p:X=false:=su p
    rw[uF p];exact a (QU rfl)
  have p:X=true:=su p;rw[uE (by simp[p])];clear p r;have f: ∀ {x:Int} {b:Bool},(k==x)=b->(b=true↔k=x):=λe=>by rw[<-e];simp
  refine Zf (λF=> ?_) (λF=> ?_)
  · rw[uF ((f F).1 rfl)]
    refine Zf (λd=> ?_) (λd=> ?_)<;>rw[d]
    · exact a (ZAw t _)
    · exact a (QU rfl)
  rw[uE (λe=>by cases(f F).2 e)];refine Zf (λG=> ?_) (λG=> ?_)
  · rw[uF ((f G).1 rfl)]
    exact a (ZAw t _)
  rw[uE (λe=>by cases(f G).2 e)];refine Zf (λH=> ?_) (λH=> ?_)
  · rw[uF (.inl ((f H).1 rfl))]
    refine Zf (λd=> ?_) (λd=> ?_)<;>rw[d]
    · exact a (ZAw t _)
    · exact a (QU rfl)
  refine Zf (λK=> ?_) (λK=> ?_)
  · rw[uF (.inr ((f K).1 rfl))]
    refine Zf (λd=> ?_) (λd=> ?_)<;>rw[d]
    · exact a (ZAw t _)
    · exact a (QU rfl)
  rw[uE (λe=>by rcases e with e|e;cases(f H).2 e;cases(f K).2 e)]
  refine Zf (λL=> ?_) (λL=> ?_)
  · rw[uF ((f L).1 rfl)]
    refine Zf (λd=> ?_) (λd=> ?_)<;>rw[d]
    · refine Zf (λm=> ?_) (λm=> ?_)<;>rw[m]
      · exact j 2
      · exact a (QU rfl)
    · exact a (QU rfl)
  rw[uE (λe=>by cases(f L).2 e)];refine Zf (λN=> ?_) (λN=> ?_)
  · rw[uF ((f N).1 rfl)]
    refine Zf (λd=> ?_) (λd=> ?_)<;>rw[d]
    · refine Zf (λm=> ?_) (λm=> ?_)<;>rw[m]
      · exact j 1
      · exact a (QU rfl)
    · exact a (QU rfl)
  rw[uE (λe=>by cases(f N).2 e)];refine Zf (λO=> ?_) (λO=> ?_)
  · rw[uF ((f O).1 rfl)]
    have q:Fin UY Tryz.f113 [8] (AfterZ (JP y none)) .ret 127 [.b false] h:=a (QU rfl);refine Zf (λd=> ?_) (λd=> ?_)<;>rw[d]
    · refine Zf (λm=> ?_) (λm=> ?_)<;>rw[m]
      · refine Zf (λY=> ?_) (λY=> ?_)<;>rw[Y]
        · refine Zf (λu=> ?_) (λu=> ?_)<;>rw[u]
          · refine Zf (λi=> ?_) (λi=> ?_)<;>rw[i]
            · exact j 3
            · exact q
          · exact q
        · refine Zf (λu=> ?_) (λu=> ?_)<;>rw[u]
          · refine Zf (λi=> ?_) (λi=> ?_)<;>rw[i]
            · refine Zf (λZ=> ?_) (λZ=> ?_)<;>rw[Z]
              · refine Zf (λh7=> ?_) (λh7=> ?_)<;>rw[h7]
                · exact j 3
                · exact q
              · exact q
            · rw[Bool.and_false];exact q
          · refine Zf (λi=> ?_) (λi=> ?_)<;>rw[i]<;>exact q
      · refine Zf (λi=> ?_) (λi=> ?_)<;>rw[i]<;>exact q
    · refine Zf (λi=> ?_) (λi=> ?_)<;>rw[i]<;>exact q
  rw[uE (λe=>by cases(f O).2 e)];refine Zf (λP=> ?_) (λP=> ?_)
  · rw[uF ((f P).1 rfl)]
    exact w.mono λv D ⟨A,C⟩=>⟨_,A,finC rr rfl (.now ⟨rfl,C⟩)⟩
  rw[uE (λe=>by cases(f P).2 e)];exact a (QU rfl)
mutual
theorem ZDd{B:Nat}(b:B<2 ^ 20): ∀r:Re,wfRe B r->JR r
 | .mk k s a d c n,h=>by
  rw[wfRe]at h;exact Zwh b h.2.2.1 (Zwi b a h.2.2.2)
theorem Zwi{B:Nat}(b:B<2 ^ 20): ∀l:List Re,wfRe.wfRes B l-> ∀x∈l,JR x
 | [],_,x,a=>by cases a
 |r::l,h,x,a=>by
  rw[wfRe.wfRes]at h;have c:=ZDd b r h.1;have d:=Zwi b l h.2;rcases qu.1 a with e|a;exact e▸c;exact d x a
end
theorem ZQv{l c d e f g j a m h}(K):CP UY 26 (flat (Za Tryz.f26)) (.agg [J l c none,J d e none,J f g none,J j a none,.b m]::Rp 34) h [2] K=(∃i,Zi (h.pushT (UY.tag (3:Nat)) (YObj.arr [I 0] true)) h.nx 0 [I (c:Int)]=some i/\ ∃n,Zb i h.nx 0 1=some [I n]/\If (ltI 300 n) (K .ret 35 [.b false] i) (∃o,Zb i h.nx 0 1=some [I o]/\If ((↑a:Int) !=o) (K .ret 35 [.b false] i) (∃q,Zb i h.nx 0 1=some [I q]/\ ∃r,(PCon UY 64 [J d e none,I q] fun(v:V)=>v=.b r)/\If (!r) (K .ret 35 [.b false] i) (∃s,Zb i h.nx 0 1=some [I s]/\ ∃t,(PCon UY 64 [J f g none,I s] fun(v:V)=>v=.b t)/\If (!t) (K .ret 35 [.b false] i) (Con UY 65 [J j a none,V.fn (Fn.func (66:Nat)) [] [p_P h.nx]] i fun(v:V) (k:Heap)=> ∃u,v=.b u/\K .ret 35 [.b !u] k))))):=kr
theorem ZQw(a b x1 h K):CP UY 64 (pre (flat (Za Tryz.f64))) (J a b none::I x1::Rp 33) h [0,1,2,7,8,9] K=(K .normal 35 [J a b none,I x1,Ud,J a b none,I (b:Int),I 0] h):=kr
theorem ZQx(a e x1 x9 h K):CP UY 64 (lp_ (flat (Za Tryz.f64))) (MZ 35 [0,1,2,7,8,9] [J a e none,I x1,V.undef,J a e none,I (e:Int),I x9]) h [0,1,2,4,7,8,9] K=(If (ltI x9 e) ((0<=x9/\x9<e)/\ ∃c,(λf=>Zs 1 (List.drop (x9.toNat*1) a)=some [I c]/\If (ltI c 0) f (If (leI x1 c) f ((λg=>If (ltI 0 x9) (((0:Int)<=wW (x9-(1:Int))/\wW (x9-(1:Int))<(e:Int))/\ ∃d,Zs 1 (List.drop ((wW (x9-(1:Int))).toNat*1) a)=some [I d]/\If (leI c d) f g) g) (K .normal 35 [J a e none,I x1,Ud,Ud,J a e none,I (e:Int),I (wW (x9+(1:Int)))] h)))) (K .ret 35 [J a e none,I x1,Ud, .b false,J a e none,I (e:Int),I x9] h)) (K (.exit 0) 35 [J a e none,I x1,Ud,Ud,J a e none,I (e:Int),I x9] h)):=kr
theorem ZQy(h K):CP UY 64 ((post (flat (Za Tryz.f64))).drop 1) (MZ 35 [] []) h [4] K=(K .ret 35 [.b true] h):=kr
end Go.Y
namespace Go.Y
set_option maxRecDepth 1000000
set_option maxHeartbeats 0
section
variable {Y:YP}
def Zde(n:Nat)(b f:List Nat)(I:Nat->List V->Heap->Prop)(m e:Nat)(Q:Out->St->Prop)(o:Out)(a:Nat)(c:List V)(h:Heap):Prop:=
 match o with
 | .normal=>a=n/\ ∃d,d<m/\ ∃vs',WkE (pick b f c) vs'/\I d vs' h
 | .exit j=>if j=e then AtV b Q .normal a c h else AtV b Q (.exit j) a c h
 | .ret=>AtV b Q .ret a c h
theorem Zwj{n:Nat}(e g:List Nat){p:St}{l:List Code}{Q:Out->St->Prop}(I:Nat->List V->Heap->Prop)(u:Nat)(D:p.env.length=n)
  (w: ∃vs',WkE (e.map λi=>lv i p) vs'/\I u vs' p.h)
  (d: ∀m v h,I m v h->TriL Y (flat (Zw l)) ⟨mk n (e.zip v),[],h⟩ (VQ g (Zde n g e I m (Xb l) Q))) (f:e.all g.contains=true:=by rfl) (C:Zjg l=true:=by kernel_rfl):TriL Y l p Q:=by
 rw[Zhm C];refine QB (Zee (λm q=>q.env.length=n/\ ∃vs',WkE (e.map λi=>lv i q) vs'/\I m vs' q.h) (n:=u) ⟨D,w⟩ ?_);rintro m q ⟨s,vs',F,B⟩;have E:=XQ (c:=Zw l) (r:= []) (by rw[qi];exact d m _ _ B);refine(Zbv s rfl rfl (Zvq (F.mk e) E)).mono ?_;intro o a b
 cases o with
 |normal=>
  obtain⟨x,G,y,t,z,A⟩:=b;exact⟨G,y,x,t,by rw[Jr f rfl];exact z,A⟩
 |exit j=>
  have b:Zde n g e I m (Xb l) Q (.exit j) a.env.length (g.map λi=>lv i a) a.h:=b;simp only[Zde]at b;by_cases k:j=Xb l;rw[uF k]at b;simp only[uF k];exact b a rfl rfl rfl;rw[uE k]at b;simp only[uE k];exact b a rfl rfl rfl
 |ret=>exact b a rfl rfl rfl
theorem Vr{n:Nat}{c f}{I:Nat->List V->Heap->Prop}{m b j:Nat}{Q}{a:Nat}{vs}{h}(d:j=b)(e:AtV c Q .normal a vs h):Zde n c f I m b Q (.exit j) a vs h:=by simp only[Zde];rw[uF d];exact e
end
end Go.Y
namespace Go.Y
open Go.Proofs
set_option maxRecDepth 1000000
set_option maxHeartbeats 0
theorem Zs8{a k s0 s1 s2 s3 kc kn lo hi gn h}(K):CP UY 32 (pre B_32) (p_P a::.agg (R9 k s0 s1 s2 s3 kc kn none lo hi gn)::Rp 103) h [0,3,4,5,12,14] K=(K .normal 105 [p_P a, .lb (R9 k s0 s1 s2 s3 kc kn none lo hi gn), .lb [S0,S0, .b false], .lb [S0,S0, .b true], .agg [S0,S0, .b true],I k] h):=kr
theorem Zs9{id k s0 s1 s2 s3 kc kn lo hi gn h}(K):CP UY 32 (pre (bk_ B_32)) (MZ 105 [0,3,4,5,12,14] [p_P id,.lb (R9 k s0 s1 s2 s3 kc kn none lo hi gn),.lb [S0,S0,.b false],.lb [S0,S0,.b true],.agg [S0,S0,.b true],I k]) h [0,3,4,5,12,14,15] K=(K .normal 105 [p_P id, .lb (R9 k s0 s1 s2 s3 kc kn none lo hi gn), .lb [S0,S0, .b false], .lb [S0,S0, .b true], .agg [S0,S0, .b true],I k, .b (k==(1:Int))] h):=kr
theorem ZQz{id k s0 s1 s2 s3 kc kn lo hi gn h}(K):CP UY 32 (flat (QT (post (bk_ B_32)))) (MZ 105 [0,3,4,5,12,14,15] [p_P id,.lb (R9 k s0 s1 s2 s3 kc kn none lo hi gn),.lb [S0,S0,.b false],.lb [S0,S0,.b true],.agg [S0,S0,.b true],I k,.b true]) h [4,5] K=(∃a c d e,Zb h id 0 1=some [S a c d e]/\ ∃f g i j,Zb h id 0 1=some [S f g i j]/\ ∃l m n o q,Zk UY h 31 31 (S f g i j) (J [U s0,U s1,U s2,U s3] 1 (some 1))=some (S l m n o,q)/\ ∃r,Zi q id 0 [S l m n o]=some r/\ ∃s t u v,Zb r id 3 1=some [S s t u v]/\ ∃w x y z p,Zk UY r 33 33 (S s t u v) (J [S0] 1 (some 1))=some (S w x y z,p)/\ ∃A,Zi p id 3 [S w x y z]=some A/\K .ret 105 [.lb [J [I (c:Int)] 1 (some 1),J [I (c:Int)] 1 (some 1), .b false], .lb [S0,S0, .b true]] A):=kr
theorem Zwk{id k s0 s1 s2 s3 kc kn lo hi gn h}(K):CP UY 32 (pre (flat (ZP (post (bk_ B_32))))) (MZ 105 [0,3,4,5,12,14,15] [p_P id,.lb (R9 k s0 s1 s2 s3 kc kn none lo hi gn),.lb [S0,S0,.b false],.lb [S0,S0,.b true],.agg [S0,S0,.b true],I k,.b false]) h [0,3,4,5,12,14,51] K=(K .normal 105 [p_P id, .lb (R9 k s0 s1 s2 s3 kc kn none lo hi gn), .lb [S0,S0, .b false], .lb [S0,S0, .b true], .agg [S0,S0, .b true],I k, .b (k==(5:Int))] h):=kr
theorem ZQ0{id k s0 s1 s2 s3 kc a lo hi gn h}(K):CP UY 32 (pre (flat (QT (post (flat (ZP (post (bk_ B_32)))))))) (MZ 105 [0,3,4,5,12,14,51] [p_P id,.lb (R9 k s0 s1 s2 s3 kc a none lo hi gn),.lb [S0,S0,.b false],.lb [S0,S0,.b true],.agg [S0,S0,.b true],I k,.b true]) h [0,4,5,12,55,56,57] K=(K .normal 105 [p_P id, .lb [S0,S0, .b false], .lb [S0,S0, .b false], .agg [S0,S0, .b true],J kc a none,I (a:Int),I 0] h):=kr
theorem ZQ1{id kc k d e f g j a h}(K):CP UY 32 (lp_ (flat (QT (post (flat (ZP (post (bk_ B_32)))))))) (MZ 105 [0,4,5,12,55,56,57] [p_P id,.lb [S0,S0,.b false],.lb [J d e none,J f g none,.b j],.agg [S0,S0,.b true],J kc k none,I (k:Int),I a]) h [0,4,5,12,55,56,57] K=(If (ltI a k) ((0<=a/\a<k)/\ ∃c i l m n o q r s t u,Zs 9 (List.drop (a.toNat*9) kc)=some (R9 c i l m n o q r s t u)/\Con UY 32 [p_P id,.agg (R9 c i l m n o q r s t u)] h fun(v:V) (L:Heap)=> ∃w x y z F G H,v=.agg [J w x y,J z F G,.b H]/\ ∃p A B,(PCon UY 72 [J d e none,J w x y] λv=>v=J p A B)/\ ∃C D E,(PCon UY 72 [J f g none,J z F G] fun(v:V)=>v=J C D E)/\If j (K .normal 105 [p_P id, .lb [S0,S0, .b false], .lb [J p A B,J C D E, .b true], .agg [S0,S0, .b true],J kc k none,I (k:Int),I (wW (a+(1:Int)))] L) (K .normal 105 [p_P id, .lb [S0,S0, .b false], .lb [J p A B,J C D E, .b H], .agg [S0,S0, .b true],J kc k none,I (k:Int),I (wW (a+(1:Int)))] L)) (K (.exit 1) 105 [p_P id, .lb [S0,S0, .b false], .lb [J d e none,J f g none, .b j], .agg [S0,S0, .b true],J kc k none,I (k:Int),I a] h)):=kr
theorem ZAx{id k s0 s1 s2 s3 kc kn lo hi gn h}(K):CP UY 32 (pre (flat (ZP (post (flat (ZP (post (bk_ B_32)))))))) (MZ 105 [0,3,4,5,12,14,51] [p_P id,.lb (R9 k s0 s1 s2 s3 kc kn none lo hi gn),.lb [S0,S0,.b false],.lb [S0,S0,.b true],.agg [S0,S0,.b true],I k,.b false]) h [0,3,4,5,14,82] K=(If (k==(4:Int)) (K .normal 105 [p_P id, .lb (R9 k s0 s1 s2 s3 kc kn none lo hi gn), .lb [S0,S0, .b false], .lb [S0,S0, .b true],I k, .b true] h) (K .normal 105 [p_P id, .lb (R9 k s0 s1 s2 s3 kc kn none lo hi gn), .lb [S0,S0, .b false], .lb [S0,S0, .b true],I k, .b (k==(7:Int))] h)):=kr
theorem ZKc{id k s0 s1 s2 s3 kc a lo hi gn h}(K):CP UY 32 (pre (flat (QT (post (flat (ZP (post (flat (ZP (post (bk_ B_32))))))))))) (MZ 105 [0,3,4,5,14,82] [p_P id,.lb (R9 k s0 s1 s2 s3 kc a none lo hi gn),.lb [S0,S0,.b false],.lb [S0,S0,.b true],I k,.b true]) h [0,4,5,86,87,88] K=(K .normal 105 [p_P id, .lb [S0,S0, .b false], .lb [S0,S0, .b true],J kc a none,I (a:Int),I 0] h):=kr
theorem ZKd{id kc k d e f g j a h}(K):CP UY 32 (lp_ (flat (QT (post (flat (ZP (post (flat (ZP (post (bk_ B_32))))))))))) (MZ 105 [0,4,5,86,87,88] [p_P id,.lb [S0,S0,.b false],.lb [J d e none,J f g none,.b j],J kc k none,I (k:Int),I a]) h [0,4,5,86,87,88] K=(If (ltI a k) ((0<=a/\a<k)/\ ∃c i l m n o q r s t u,Zs 9 (List.drop (a.toNat*9) kc)=some (R9 c i l m n o q r s t u)/\ ∃w x y z A B C D,(Con UY 32 [p_P id,.agg (R9 c i l m n o q r s t u)] h fun(v:V) (p:Heap)=>v=.agg [J w x y,J z A B,.b C]/\p=D)/\ ∃E F G H L N O P,(Con UY 73 [p_P id,.agg [J d e none,J f g none,.b j],.agg [J w x y,J z A B,.b C]] D fun(v:V) (p:Heap)=>v=.agg [J E F G,J H L N,.b O]/\p=P)/\K .normal 105 [p_P id, .lb [S0,S0, .b false], .lb [J E F G,J H L N, .b O],J kc k none,I (k:Int),I (wW (a+(1:Int)))] P) (K (.exit 3) 105 [p_P id, .lb [S0,S0, .b false], .lb [J d e none,J f g none, .b j],J kc k none,I (k:Int),I a] h)):=kr
theorem ZKe{id k s0 s1 s2 s3 kc kn lo hi gn h}(K):CP UY 32 (flat (ZP (post (flat (ZP (post (flat (ZP (post (bk_ B_32)))))))))) (MZ 105 [0,3,4,5,14,82] [p_P id,.lb (R9 k s0 s1 s2 s3 kc kn none lo hi gn),.lb [S0,S0,.b false],.lb [S0,S0,.b true],I k,.b false]) h [4,5] K=(If (k==(6:Int)) (Con UY 74 [p_P id,.agg (R9 k s0 s1 s2 s3 kc kn none lo hi gn)] h fun(v:V) (j:Heap)=> ∃a c d e f g i,v=.agg [J a c d,J e f g,.b i]/\K .ret 105 [.lb [J a c d,J e f g, .b i], .lb [S0,S0, .b true]] j) (K .normal 105 [.lb [S0,S0, .b false], .lb [S0,S0, .b true]] h)):=kr
theorem Zqx{g a c d e f h}(K):CP UY 32 ((post B_32).drop 1) (MZ 105 [4,5] [.lb [S0,S0,.b g],.lb [J a c none,J d e none,.b f]]) h [4] K=(K .ret 105 [.lb [J a c none,J d e none, .b f]] h):=kr
end Go.Y
