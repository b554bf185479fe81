/- A part of the proof. -/
import Derived.Test.YteennilbmmlikaaGreatDoorYAny3
import Derived.Test.YteennilbmmlikaaGreatDoorYLoop
import Derived.Test.YteennilbmmlikaaGreatDoorYFrz
import Derived.Test.YteennilbmmlikaaGreatDoorGReD
import Derived.Test.YteennilbmmlikaaGreatDoorGSortK
import Derived.Test.YteennilbmmlikaaGreatDoorED1
import Derived.KernelRfl
namespace Go.Y
open Go.Proofs
set_option maxRecDepth 1000000
set_option maxHeartbeats 0
theorem ZPa{k s0 s1 s2 s3 kc kn lo hi gn h}(K):CP UY 71 (flat (Za Tryz.f71)) (.agg (R9 k s0 s1 s2 s3 kc kn none lo hi gn)::Rp 10) h [2] K=(If (leI 0 hi) (K .ret 11 [I hi] h) (K .ret 11 [I ((fun(x y:Int)=>if y>x then y else x) lo (1:Int))] h)):=kr
theorem ZIs{id c1 a c2 n2 h}(K):CP UY 119 (pre (flat (Za Tryz.f119))) (.p (some (id,0))::J c1 a none::J c2 n2 none::Rp 29) h [0,2,8,9,10] K=(K .normal 32 [.p (some (id,0)),J c2 n2 none,J c1 a none,I (a:Int),I 0] h):=kr
theorem ZIt{id c1 k c2 n2 b h}(K):CP UY 119 (flat (Zx (post (flat (Za Tryz.f119))))) (MZ 32 [0,2,8,9,10] [.p (some (id,0)),J c2 n2 none,J c1 k none,I (k:Int),I b]) h [0,2,8,9,10] K=(If (ltI b k) ((0<=b/\b<k)/\ ∃a,Zr 1 (List.drop (b.toNat*1) c1)=some [I a]/\ ∃c d e f,Zb h id 3 1=some [S c d e f]/\ ∃g i j l,Zb h id 3 1=some [S g i j l]/\SlO g False fun(u off:Nat)=>(0<=a/\a<i)/\l=1/\ ∃m n o,Zb h u (off+a.toNat*1) 1=some [J m n o]/\ ∃q r s,(PCon UY 72 [J m n o,J c2 n2 none] fun(v:V)=>v=J q r s)/\SlO c False fun(w off:Nat)=>(0<=a/\a<d)/\f=1/\ ∃t,Zi h w (off+a.toNat*1) [J q r s]=some t/\K .normal 32 [.p (some (id,0)),J c2 n2 none,J c1 k none,I (k:Int),I (wW (b+(1:Int)))] t) (K (.exit 0) 32 [.p (some (id,0)),J c2 n2 none,J c1 k none,I (k:Int),I b] h)):=kr
theorem ZPb{id e f g i e1 j m a d e2 h}(K):CP UY 73 (flat (Za Tryz.f73)) (.p (some (id,0))::.agg [J e f none,J g i none,.b e1]::.agg [J j m none,J a d none,.b e2]::Rp 39) h [6] K=(Con UY 119 [.p (some (id,0)),J g i none,J j m none] h fun(v:V) (k:Heap)=>v=.tup []/\If e1 (If e1 (∃c l n,(PCon UY 72 [J e f none,J j m none] λv=>v=J c l n)/\If e2 (∃o q r,(PCon UY 72 [J g i none,J a d none] fun(v:V)=>v=J o q r)/\K .ret 42 [.lb [J c l n,J o q r, .b e2]] k) (K .ret 42 [.lb [J c l n,J a d none, .b e2]] k)) (If e2 (∃c l n,(PCon UY 72 [J g i none,J a d none] λv=>v=J c l n)/\K .ret 42 [.lb [J e f none,J c l n, .b e2]] k) (K .ret 42 [.lb [J e f none,J a d none, .b e2]] k))) (If e1 (∃c l n,(PCon UY 72 [J e f none,J j m none] λv=>v=J c l n)/\If e2 (∃o q r,(PCon UY 72 [J g i none,J a d none] fun(v:V)=>v=J o q r)/\K .ret 42 [.lb [J c l n,J o q r, .b false]] k) (K .ret 42 [.lb [J c l n,J a d none, .b false]] k)) (If e2 (∃c l n,(PCon UY 72 [J g i none,J a d none] λv=>v=J c l n)/\K .ret 42 [.lb [J e f none,J c l n, .b false]] k) (K .ret 42 [.lb [J e f none,J a d none, .b false]] k)))):=kr
theorem ZPc{k s0 s1 s2 s3 kc a lo hi gn h}(K):CP UY 31 (pre (flat (Za Tryz.f31))) (.agg (R9 k s0 s1 s2 s3 kc a none lo hi gn)::Rp 32) h [1,3,12,13,14] K=(If (k==(1:Int)) (K .normal 33 [.lb (R9 k s0 s1 s2 s3 kc a none lo hi gn),I (wW ((0:Int)+(1:Int))),J kc a none,I (a:Int),I 0] h) (K .normal 33 [.lb (R9 k s0 s1 s2 s3 kc a none lo hi gn),I 0,J kc a none,I (a:Int),I 0] h)):=kr
theorem ZPd{k s0 s1 s2 s3 kc r lo hi gn x3 a h}(K):CP UY 31 (flat (Zx (post (flat (Za Tryz.f31))))) (MZ 33 [1,3,12,13,14] [.lb (R9 k s0 s1 s2 s3 kc r none lo hi gn),I x3,J kc r none,I (r:Int),I a]) h [1,3,12,13,14] K=(If (ltI a r) ((0<=a/\a<r)/\ ∃b c d e f g i j l m n,Zr 9 (List.drop (a.toNat*9) kc)=some (R9 b c d e f g i j l m n)/\ ∃o,(PCon UY 31 [.agg (R9 b c d e f g i j l m n)] λv=>v=I o)/\K .normal 33 [.lb (R9 k s0 s1 s2 s3 kc r none lo hi gn),I ((fun(x y:Int)=>if y<x then y else x) (wW (x3+o)) (301:Int)),J kc r none,I (r:Int),I (wW (a+(1:Int)))] h) (K (.exit 0) 33 [.lb (R9 k s0 s1 s2 s3 kc r none lo hi gn),I x3,J kc r none,I (r:Int),I a] h)):=kr
theorem ZPe{k s0 s1 s2 s3 kc kn lo hi gn x3 h}(K):CP UY 31 ((post (flat (Za Tryz.f31))).drop 1) (MZ 33 [1,3] [.lb (R9 k s0 s1 s2 s3 kc kn none lo hi gn),I x3]) h [2] K=(If (k==(6:Int)) (∃a,(PCon UY 71 [.agg (R9 k s0 s1 s2 s3 kc kn none lo hi gn)] λv=>v=I a)/\K .ret 33 [I ((fun(x y:Int)=>if y<x then y else x) (wW (x3*a)) (301:Int))] h) (K .ret 33 [I ((fun(x y:Int)=>if y<x then y else x) x3 (301:Int))] h)):=kr
theorem ZPf{k s0 s1 s2 s3 kc kn lo hi gn h}(K):CP UY 30 (flat (Za Tryz.f30)) (.agg (R9 k s0 s1 s2 s3 kc kn none lo hi gn)::Rp 15) h [2] K=(If (k==(2:Int)) (K .ret 16 [.b true] h) (If (k==(3:Int)) (K .ret 16 [.b true] h) (Con UY 70 [J kc kn none,V.fn (Fn.func (30:Nat)) [] []] h fun(v:V) (c:Heap)=> ∃a,v=.b a/\K .ret 16 [.b a] c))):=kr
theorem ZPg{b m d n1 h}(K):CP UY 72 (flat (Za Tryz.f72)) (J b m none::J d n1 none::Rp 12) h [4] K=(Con UY 118 [J [J b m none,J d n1 none] 2 (some 2)] h fun(v:V) (k:Heap)=> ∃a c e f,v=S a c e f/\Con UY 75 [S a c e f] k fun(v:V) (k:Heap)=>v=.tup []/\Con UY 76 [S a c e f] k fun(v:V) (k:Heap)=> ∃g i j l,v=S g i j l/\K .ret 14 [S g i j l] k):=kr
end Go.Y
namespace Go.Y
open Go.Proofs Go.Sort
set_option maxRecDepth 100000
set_option maxHeartbeats 1000000
theorem QH(l:List Nat):(ints l).length=l.length:=by simp[ints]
theorem Zu9(l:List Int)(h):FrzL h (Xj l) (Xj l):=by
 have:=Zd6 l h
 rwa [rowI]at this
theorem Zbz(G:ZY UY.P 75)(t:ZF UY.P 76)(a b:List Nat)(X:a.length<=1000)(Z:b.length<=1000):PCon UY 72 [lst encI (ints a),lst encI (ints b)] (· =lst encI (ints (boS a b))):=by
 refine Zw UK (fn:=Tryz.f72) rfl ZPg rfl ?_;have g:Jq UY 75:=⟨Tryz.f75,_,kr,rfl⟩;have j:Jq UY 76:=⟨Tryz.f76,_,kr,rfl⟩;have u: [ints a,ints b].flatten=ints a++ints b:=sm;have E:=Znt [ints a,ints b] sm (by rw[u,qf,QH,QH];omega) .empty;rw[u]at E;have D:(ints a++ints b).length<=2000:=by rw[qf,QH,QH];omega
 have w:ints (boS a b)=Xl (Ql (ints a++ints b)):=by rw[Zu2,Zlg]
 rw[w];generalize ints a++ints b=d at E D;refine(Con.wk (args':= [lst Zdy [ints a,ints b]]) (.one _ _ _ _ (.inr (.inr ⟨_,_,_,rfl,rfl⟩)) .nil) E).mono λv o ⟨q,n,c,k,L,N⟩=>⟨q,n,c,k,L,?_⟩;rcases N with ⟨K,rfl,rfl⟩|⟨C,f,rfl,rfl,rfl,rfl,W,r⟩
 .have F:d= []:=qg K;subst F;refine(Zle g G).mono λv o ⟨l,A⟩=>⟨l,?_⟩;refine(Zdq j t).mono λv o ⟨l,A⟩=>⟨_,_,_,_,l,?_⟩;refine ZB rr rfl (.sln _ _ none (λ_ h=>by cases h)) ?_;rw[show Ql ([]:List Int)= [] from List.mergeSort_nil]
  rfl
 .have z:d≠ []:=λe=>by rw[e]at f;exact absurd f dc
  rw[vK]at r;have r:o.get C=some (.arr (Xj d) true):=by rw[r];simp[rowI]
  refine(Zp0 g G r z om).mono λv o ⟨l,A⟩=>⟨l,?_⟩;subst A;have r:(o.set C (some (.arr (Xj (Ql d)) true))).get C=some (.arr (Xj (Ql d)) true):=by rw[qc,uF rfl]
  have m:(Ql d).length=d.length:=List.length_mergeSort _;have B:=Zfj j t (c:=none) (k:=1) r (λe=>by rw[e]at m;exact z (qg m.symm)) om;rw[m]at B;refine B.mono λv o ⟨l,A⟩=>⟨_,_,_,_,l,?_⟩;subst A;refine ZB rr rfl (.sl C 0 _ none 1 (Xj (Zu3 (Ql d))) true (Xj (Xl (Ql d))) (Xj (Xl (Ql d))) none (by rw[qc,uF rfl]) ?_ (λ_ h=>by cases h) dc ?_) ?_
  .rw[ql,uY];have: ∀(x y:List V),Zr x.length (x++y)=some x:=by
    intro x
    induction x with
    |nil=>intro y;rfl
    |cons v x O=>intro y;simp[Zr,O]
   have H:=this (Xj (Xl (Ql d))) (Xj (List.replicate ((Ql d).length-(Xl (Ql d)).length) 0));rw[qC]at H;rw[<-H,Xj,uV]
  .exact Zu9 _ _
  .simp only[lst,rowI]
abbrev Qd(l:List Nat):List V:= [lst encI (ints l)]
theorem Zb0(l):(Qd l).length=1:=rfl
theorem Zr7(l):Xb (Qd l)=true:=rfl
theorem Zea(s):(setC s).length=4:=rfl
theorem Zva(s):Xb (setC s)=true:=rfl
structure MkA(h:Heap)(id:Nat)(A:Au0):Prop where
 lt:id<h.nx
 ex: ∃(a1:Option (Nat×Nat)) (l1:Nat) (c1:Option Nat) (k1:Nat) (a2:Option (Nat×Nat)) (l2:Nat) (c2:Option Nat) (k2:Nat),
  h.get id=some (.arr [.sl a1 l1 c1 k1, .sl none 0 (some 0) 0, .sl none 0 (some 0) 0, .sl a2 l2 c2 k2, .b false] true)∧LX setC 4 h a1 l1 c1 k1 A.sets∧LX Qd 1 h a2 l2 c2 k2 A.fol∧
  (∀j o,a1=some (j,o)->j≠id)∧(∀j o,a2=some (j,o)->j≠id)∧(∀j o o',a1=some (j,o)->a2≠some (j,o'))
abbrev XK(p:Part):List V:= [lst encI (ints p.first),lst encI (ints p.last), .b p.empty]
def qOf(h:Heap)(a:Nat):Nat:=match h.get a with
 |some (.arr [_,_,_, .sl (some (q,_)) _ _ _,_] _)=>q
 |_=>0
def Zlk(h:Heap)(c:Nat)(a:List (List Nat)):Heap:=h.set (qOf h c) (some (.arr (row Qd a) true))
theorem MkA.fols{h}{g:Nat}{c:List S4}{a:List (List Nat)}(l:MkA h g ⟨c,a⟩)(j:a≠ []):
  ∃(q e:Nat) (c2:Option Nat),Zb h g 3 1=some [.sl (some (q,0)) e c2 1]/\e=a.length/\qOf h g=q/\h.get q=some (.arr (row Qd a) true):=by
 obtain⟨r,x,z,c1,v,y,e,c2,A,k,u,d,t,o,m⟩:=l;obtain⟨q,rfl,rfl,w,f,n⟩:=d.cells j;exact⟨q,e,c2,(Zs k 3 1).trans rfl,d.len,by unfold qOf;rw[k],f⟩
theorem MkA.set{h}{id:Nat}{d:List S4}{c a:List (List Nat)}(A:MkA h id ⟨d,c⟩)(l:c≠ [])(u:a.length=c.length):MkA (Zlk h id a) id ⟨d,a⟩:=by
 have k:a≠ []:=λe=>by rw[e]at u;exact l (qg u.symm)
 obtain⟨t,E,G,c1,B,K,z,c2,L,y,w,m,v,n,g⟩:=A;obtain⟨q,rfl,rfl,C,D,r⟩:=m.cells l;have o:qOf h id=q:=by unfold qOf;rw[y]
 have f:z=c.length:=m.len;have x:q≠id:=n q 0 rfl;unfold Zlk;rw[o];refine⟨by simpa using t,E,G,c1,B,some (q,0),z,c2,1,by rw[qc,uE (Ne.symm x)];exact y,?_,?_,v,n,g⟩
 .exact w.fr sm λj F H=>by
   rw[qc,uE (λe=>by subst e;exact g j 0 0 F rfl)]
 .exact⟨λe=>absurd e k,λ_=>⟨q,rfl,rfl,by simpa using C,by rw[qc,uF rfl],r⟩,by rw[f,u]⟩
def Za3(h:Heap)(e:Nat)(a:List (List Nat))(c d:List Nat):Nat->Heap
 |0=>h
 |i+1=>Zlk (Za3 h e a c d i) e (Zaz boS a (c.take (i+1)) d)
theorem Zr8(c:List (List Nat))(a:List Nat)(d:List Nat){i:Nat}(e:i<a.length):Zaz boS c (a.take (i+1)) d=(Zaz boS c (a.take i) d).set a[i] (boS ((Zaz boS c (a.take i) d).getD a[i] []) d):=by
 rw[qa e];simp only[Zaz,List.foldl_append,uR,List.foldl_nil]
theorem Zeb{h}{k:Nat}{A:Au0}(f:AuB A)(l:MkA h k A){a j:List Nat}(c:Rz A.sets.length a)(g:Rz A.sets.length j): ∀i,i<=a.length->MkA (Za3 h k A.fol a j i) k ⟨A.sets,Zaz boS A.fol (a.take i) j⟩
 |0,_=>l
 |i+1,r=>by
  have o:=Zeb f l c g i om;have d:=(Zlb (n:=A.sets.length) g.2 (a.take i) A.fol f.fo).1;have m:=(Zlb (n:=A.sets.length) g.2 (a.take (i+1)) A.fol f.fo).1;have hp:a[i]<A.sets.length:=c.2 _ (qe om);exact o.set (λe=>by rw[e]at d;rw[f.wf]at d;simp at d;omega) (by rw[d,m])
theorem Zvb(X:ZY UY.P 75)(C:ZF UY.P 76){h}{t:Nat}{A:Au0}(O:AuB A)(Z:MkA h t A)(hn:A.sets.length<=300){a d}(u:Rz A.sets.length a)(E:Rz A.sets.length d):
  Con UY 119 [.p (some (t,0)),lst encI (ints a),lst encI (ints d)] h λv h'=>v= .tup []/\h'=Za3 h t A.fol a d a.length:=by
 refine Zv UK (fn:=Tryz.f119) (Zh UK 32 ZIs rfl ?_);have a1:=u.len;have a0:=E.len;refine⟨rfl,Zfa [0,2,8,9,10] [0,2,8,9,10] (λm W B=> ∃i:Nat,W= [.p (some (t,0)),lst encI (ints d),lst encI (ints a),I (ints a).length,I (i:Nat)]/\i<=a.length/\m=a.length-i/\B=Za3 h t A.fol a d i) a.length ZA ⟨0,rfl,om,om,rfl⟩ ?_⟩;rintro m W B ⟨i,rfl,hi,rfl,o⟩;have w:=Zeb O Z u E i hi;rw[<-o]at w;refine Zn UK ZIt rfl ?_;refine Zq (λj=> ?_) (λK=> ?_)
 .have r:i<a.length:=by rw[QH]at j;exact j
  have N:=(Zlb (n:=A.sets.length) E.2 (a.take i) A.fol O.fo);have hp:a[i]<(Zaz boS A.fol (a.take i) d).length:=by rw[N.1,O.wf];exact u.2 _ (qe r)
  have z:=Zr8 A.fol a d r;have hnx:Za3 h t A.fol a d (i+1)=Zlk B t (Zaz boS A.fol (a.take (i+1)) d):=by rw[Za3,<-o]
  rw[z]at hnx;generalize Zaz boS A.fol (a.take i) d=c at w N hp z hnx;have G:c≠ []:=λe=>by rw[e]at hp;exact absurd hp sm
  obtain⟨q,l2,c2,g,F,H,y⟩:=w.fols G;have L:=N.2 _ (qe hp);have D:=Zbz X C c[a[i]] d (by have:=L.len;omega) om;have hD:c.getD a[i] []=c[a[i]]:=by simp[qw,hp]
  have x:(ints a)[i]'(by rw[QH];exact r)=(a[i]:Nat):=by simp[ints]
  refine⟨Zu j,((a[i]:Nat):Int),?_,_,_,_,_,g,_,_,_,_,g,?_⟩
  .rw[qdq];have:=Xp (f:=encI) (k:=1) Zi6 (l:=ints a) (i:=i) (by rw[QH];exact r);rw[this,x]
  refine⟨⟨om,om⟩,rfl,_,_,_,(Zs y _ _).trans ?_,_,_,_,D,⟨om,om⟩,rfl,B.set q (some (.arr (row Qd (c.set a[i] (boS c[a[i]] d))) true)),?_,?_⟩
  .rw[qdq,uJ];exact Xp (f:=Qd) (k:=1) Zb0 hp
  .simp only[Zi,y];rw[qdq,uF (by rw[Xh Zb0];simp;omega)];have:=Zlc (f:=Qd) Zb0 c a[i] (boS c[a[i]] d) hp;rw[uJ,uY];rw[show([V.ts (row encI (ints (boS c[a[i]] d))) (ints (boS c[a[i]] d)).length none]:List V)=Qd (boS c[a[i]] d) from rfl,this]
  .exact⟨rfl,a.length-(i+1),om,i+1,by rw[Ze om];rfl,om,rfl,by rw[hnx,hD,Zlk,H]⟩
 .have he:i=a.length:=by rw[QH]at K;omega
  rw[he]at o;exact ZZ (.inl rfl) rfl (AfterZ.now ⟨rfl,o⟩)
theorem Zp3(m:ZY UY.P 75)(j:ZF UY.P 76){h}{k:Nat}{A:Au0}(y:AuB A)(u:MkA h k A)(z:A.sets.length<=300){a b:Part}(o:PaB A.sets.length a)(r:PaB A.sets.length b):
  Con UY 73 [.p (some (k,0)), .agg (XK a), .agg (XK b)] h λv n=>v= .agg (XK (catP boS A a b).2)/\n=Za3 h k A.fol a.last b.first a.last.length:=by
 refine Zv UK (fn:=Tryz.f73) (Zo UK ZPb rfl ?_);refine(Zvb m j y u z o.la r.fi).mono λv c ⟨w,t⟩=>⟨w,?_⟩;have C:=o.fi.len;have E:=o.la.len;have D:=r.fi.len;have B:=r.la.len;have c1:=Zbz m j a.first b.first om om;have c2:=Zbz m j a.last b.last om om;have g: ∀(f l:List Nat) (e:Bool),f=(if a.empty then boS a.first b.first else a.first)->l=(if b.empty then boS a.last b.last else b.last)->e=(a.empty&&b.empty)->
   Go.Y.Fin UY Tryz.f73 [6] (AfterZ λv n=>v= .agg (XK (catP boS A a b).2)/\n=Za3 h k A.fol a.last b.first a.last.length) .ret 42 [.lb [lst encI (ints f),lst encI (ints l), .b e]] c:=λf l e c d x=>
  finC rr rfl (.now ⟨by subst c d x;rfl,t⟩)
 refine Zf (λc=>Zf (λ_=>⟨_,_,_,c1,Zf (λd=>⟨_,_,_,c2,g _ _ _ (by rw[c];rfl) (by rw[d];rfl) (by rw[c,d];rfl)⟩) (λd=>g _ _ _ (by rw[c];rfl) (by rw[d];rfl) (by rw[c,d];rfl))⟩) (λh=>by rw[c]at h;cases h)) (λc=>Zf (λh=>by rw[c]at h;cases h) (λ_=>Zf (λd=>⟨_,_,_,c2,g _ _ _ (by rw[c];rfl) (by rw[d];rfl) (by rw[c];rfl)⟩) (λd=>g _ _ _ (by rw[c];rfl) (by rw[d];rfl) (by rw[c];rfl))))
theorem Zp4{h}{c:Nat}{A:Au0}(g:AuB A)(d:MkA h c A){a b:Part}(e:PaB A.sets.length a)(f:PaB A.sets.length b):MkA (Za3 h c A.fol a.last b.first a.last.length) c (catP boS A a b).1:=by
 have:=Zeb g d e.la f.fi a.last.length (qnq _);rw[qm]at this;exact this
theorem Zll(k:Int)(s)(c)(a d n:Int)(e:0<=a):PCon UY 71 [.agg (Zd (.mk k s c a d n))] (· = I (XF a d:Nat)):=by
 rw[Zm];refine Zw UK (fn:=Tryz.f71) rfl ZPa rfl ?_;refine JT (λh=>ZB rr rfl (.i _ _) ?_) (λh=>ZB rr rfl (.i _ _) ?_)
 .unfold XF;rw[uF h,Int.toNat_of_nonneg h]
 .unfold XF;rw[uE om]
  congr 1
  show(if 1>a then 1 else a)=_;split<;>omega
end Go.Y
namespace Go.Y
open Gl
theorem Wp{c:Type}(P:Nat->c->Prop)(R:Nat->c->c->Prop)(d:c): ∀(n:Nat),P 0 d->(∀i,i<n-> ∀x,P i x-> ∃y,R i x y/\P (i+1) y)-> ∃H:Nat->c,H 0=d/\(∀i,i<=n->P i (H i))/\ ∀i,i<n->R i (H i) (H (i+1))
 |0,h,_=>⟨λ_=>d,rfl,λi a=>by
   have:i=0:=om;subst this;exact h,λi a=>absurd a om⟩
 |n+1,h,step=>by
  obtain⟨H,l,j,k⟩:=Wp P R d n h λi a=>step i om;obtain⟨y,f,g⟩:=step n om (H n) (j n (qnq _));refine⟨λi=>if i=n+1 then y else H i,by simp[l],λi a=> ?_,λi a=> ?_⟩
  .by_cases e:i=n+1
   .subst e;simp only[uF];exact g
   .simp only[uE e];exact j i om
  .by_cases e:i=n
   .subst e;simp only[uE (show¬i=i+1 from om),uF];exact f
   .simp only[uE (show¬i=n+1 from om),uE (show¬i+1=n+1 from om)];exact k i om
theorem Zlm(bo:List Nat->List Nat->List Nat)(x:Re): ∀(l:List Re) (A:Au0) (a:Part),partF.altF bo (l++ [x]) A a=
  ((partF bo x (partF.altF bo l A a).1).1,⟨bo (partF.altF bo l A a).2.first (partF bo x (partF.altF bo l A a).1).2.first,bo (partF.altF bo l A a).2.last (partF bo x (partF.altF bo l A a).1).2.last,(partF.altF bo l A a).2.empty||(partF bo x (partF.altF bo l A a).1).2.empty⟩)
 | [],A,a=>by rw[qy,partF.altF,partF.altF,partF.altF]
 |r::l,A,a=>by
  rw[qs,partF.altF,Zlm bo x l];rw[show partF.altF bo (r::l) A a=partF.altF bo l (partF bo r A).1 ⟨bo a.first (partF bo r A).2.first,bo a.last (partF bo r A).2.last,a.empty||(partF bo r A).2.empty⟩ from by rw[partF.altF]]
theorem Zfm(bo:List Nat->List Nat->List Nat)(x:Re): ∀(l:List Re) (A:Au0) (a:Part),partF.catF bo (l++ [x]) A a=
  catP bo (partF bo x (partF.catF bo l A a).1).1 (partF.catF bo l A a).2 (partF bo x (partF.catF bo l A a).1).2
 | [],A,a=>by rw[qy,partF.catF,partF.catF,partF.catF]
 |r::l,A,a=>by
  rw[qs,partF.catF,Zfm bo x l];rw[show partF.catF bo (r::l) A a=partF.catF bo l (catP bo (partF bo r A).1 a (partF bo r A).2).1 (catP bo (partF bo r A).1 a (partF bo r A).2).2 from by rw[partF.catF]]
def Zn0(bo:List Nat->List Nat->List Nat)(g:Au0->Au0×Part)(a c:Int)(n i:Nat)(s:Au0×Part):Au0×Part:=
 catP bo (if c<0/\i+1=n then Znv bo (g s.1).1 (g s.1).2 else(g s.1).1) s.2 ⟨(g s.1).2.first,(g s.1).2.last,(g s.1).2.empty||decide (a<=(i:Int))⟩
theorem Zp5(bo:List Nat->List Nat->List Nat)(g:Au0->Au0×Part)(d c:Int)(n:Nat): ∀(k i:Nat) (A:Au0) (a:Part),repP bo g d c n (k+1) i A a=Zn0 bo g d c n (i+k) (repP bo g d c n k i A a)
 |0,i,A,a=>by rw[repP,repP,repP];rfl
 |k+1,i,A,a=>by
  have e:repP bo g d c n (k+1+1) i A a=repP bo g d c n (k+1) (i+1) (Zn0 bo g d c n i (A,a)).1 (Zn0 bo g d c n i (A,a)).2:=by rw[repP];rfl
  have f:repP bo g d c n (k+1) i A a=repP bo g d c n k (i+1) (Zn0 bo g d c n i (A,a)).1 (Zn0 bo g d c n i (A,a)).2:=by rw[repP];rfl
  rw[e,Zp5 bo g d c n k (i+1),f,show i+1+k=i+(k+1) from om]
theorem Zb1(l:List Re)(i:Nat):cntRe.cnts (l.take i)<=cntRe.cnts l:=by
 induction l generalizing i with
 |nil=>simp
 |cons r l a=>
  cases i with
  |zero=>rw[uQ,cntRe.cnts];omega
  |succ i=>rw[List.take_succ_cons,cntRe.cnts,cntRe.cnts];have:=a i;omega
theorem Zb2(x): ∀l:List Re,cntRe.cnts (l++ [x])=cntRe.cnts l+cntRe x
 | []=>by rw[qy,cntRe.cnts,cntRe.cnts,cntRe.cnts];omega
 |r::l=>by rw[qs,cntRe.cnts,Zb2 x l,cntRe.cnts];omega
theorem VU{B:Nat} : ∀ {l:List Re},wfRe.wfRes B l-> ∀i,wfRe.wfRes B (l.take i)
 | [],h,i=>by simpa using h
 |r::l,h,0=>by rw[uQ,wfRe.wfRes];trivial
 |r::l,h,i+1=>by
  rw[wfRe.wfRes]at h;rw[List.take_succ_cons,wfRe.wfRes];exact⟨h.1,VU h.2 i⟩
theorem Zc3{B:Nat} : ∀ {l:List Re},wfRe.wfRes B l-> ∀x∈l,wfRe B x
 | [],_,x,a=>by cases a
 |r::l,h,x,a=>by
  rw[wfRe.wfRes]at h;rcases qu.1 a with rfl|a
  .exact h.1
  .exact Zc3 h.2 x a
end Go.Y
namespace Go.Y
open Go.Proofs
set_option maxRecDepth 1000000
set_option maxHeartbeats 0
theorem ZPh(id k s0 s1 s2 s3 kc kn lo hi gn h K):CP UY 74 (pre (flat (Za Tryz.f74))) (.p (some (id,0))::.agg (R9 k s0 s1 s2 s3 kc kn none lo hi gn)::Rp 50) h [0,2,3,4,5,6,12,13] K=(∃a,(PCon UY 71 [.agg (R9 k s0 s1 s2 s3 kc kn none lo hi gn)] λv=>v=I a)/\K .normal 52 [.p (some (id,0)),Ud, .lb (R9 k s0 s1 s2 s3 kc kn none lo hi gn), .lb [S0,S0, .b false], .lb [S0,S0, .b true],I a,I a,I 0] h):=kr
theorem ZPi(id k s0 s1 s2 s3 kc L lo hi gn x6 d e f g j m o q a h K):CP UY 74 (flat (Zx (post (flat (Za Tryz.f74))))) (MZ 52 [0,2,3,4,5,6,12,13] [.p (some (id,0)),V.undef,.lb (R9 k s0 s1 s2 s3 kc L none lo hi gn),.lb [S0,S0,.b false],.lb [J f g e,J m o j,.b q],I x6,I d,I a]) h [0,2,3,4,5,6,12,13] K=(If (ltI a d) (((0:Int)<=(0:Int)/\(0:Int)<(L:Int))/\ ∃c i l n r s t u w x y,Zr 9 kc=some (R9 c i l n r s t u w x y)/\Con UY 32 [.p (some (id,0)),.agg (R9 c i l n r s t u w x y)] h fun(v:V) (A:Heap)=> ∃z N P O X W Z,(λP0=>v=.agg [J z N P,J O X W,.b Z]/\If (ltI hi 0) (If (a==wW (x6-(1:Int))) (Con UY 119 [.p (some (id,0)),J O X W,J z N P] A fun(v:V) (A:Heap)=>v=.tup []/\If Z (Con UY 73 [.p (some (id,0)),.agg [J f g e,J m o j,.b q],.agg [J z N P,J O X W,.b true]] A fun(v:V) (A:Heap)=> ∃D H G B C F E,v=.agg [J D H G,J B C F,.b E]/\K .normal 52 [.p (some (id,0)),Ud, .lb (R9 k s0 s1 s2 s3 kc L none lo hi gn), .lb [S0,S0, .b false], .lb [J D H G,J B C F, .b E],I x6,I d,I (wW (a+(1:Int)))] A) (Con UY 73 [.p (some (id,0)),.agg [J f g e,J m o j,.b q],.agg [J z N P,J O X W,.b (leI lo a)]] A fun(v:V) (A:Heap)=> ∃D H G B C F E,v=.agg [J D H G,J B C F,.b E]/\K .normal 52 [.p (some (id,0)),Ud, .lb (R9 k s0 s1 s2 s3 kc L none lo hi gn), .lb [S0,S0, .b false], .lb [J D H G,J B C F, .b E],I x6,I d,I (wW (a+(1:Int)))] A)) P0) P0) (If Z (Con UY 73 [.p (some (id,0)),.agg [J f g e,J m o j,.b q],.agg [J z N P,J O X W,.b true]] A fun(v:V) (A:Heap)=> ∃D H G B C F E,v=.agg [J D H G,J B C F,.b E]/\K .normal 52 [.p (some (id,0)),Ud, .lb (R9 k s0 s1 s2 s3 kc L none lo hi gn), .lb [S0,S0, .b false], .lb [J D H G,J B C F, .b E],I x6,I d,I (wW (a+(1:Int)))] A) (Con UY 73 [.p (some (id,0)),.agg [J f g e,J m o j,.b q],.agg [J z N P,J O X W,.b (leI lo a)]] A fun(v:V) (A:Heap)=> ∃D H G B C F E,v=.agg [J D H G,J B C F,.b E]/\K .normal 52 [.p (some (id,0)),Ud, .lb (R9 k s0 s1 s2 s3 kc L none lo hi gn), .lb [S0,S0, .b false], .lb [J D H G,J B C F, .b E],I x6,I d,I (wW (a+(1:Int)))] A))) (K (.exit 0) 52 [.p (some (id,0)),Ud, .lb (R9 k s0 s1 s2 s3 kc L none lo hi gn), .lb [S0,S0, .b false], .lb [J f g e,J m o j, .b q],I x6,I d,I a] h)):=kr
theorem ZPj(a c d e f g j i h K):CP UY 74 ((post (flat (Za Tryz.f74))).drop 1) (MZ 52 [4,5] [.lb [S0,S0,.b j],.lb [J c d a,J f g e,.b i]]) h [4] K=(K .ret 52 [.lb [J c d a,J f g e, .b i]] h):=kr
theorem ZIu{c n h}(K):CP UY 117 (pre (flat (Za Tryz.f117))) (J c n none::V.fn (.func 30) [] []::Rp 17) h [0,1,7,8] K=(K .normal 19 [J c n none, .fn (Fn.func 30) [] [],I (n:Int),I 0] h):=kr
theorem ZIv{c n x8 h}(K):CP UY 117 (flat (Zx (post (flat (Za Tryz.f117))))) (MZ 19 [0,1,7,8] [J c n none,V.fn (Fn.func 30) [] [],I (n:Int),I x8]) h [0,1,4,7,8] K=(If (ltI x8 n) ((0<=x8/\x8<n)/\ ∃a b d e f g i j l m o,Zr 9 (List.drop (x8.toNat*9) c)=some (R9 a b d e f g i j l m o)/\ ∃p,(PCon UY 30 [.agg (R9 a b d e f g i j l m o)] λv=>v=.b p)/\If p (K .ret 19 [J c n none, .fn (Fn.func 30) [] [],I x8,I (n:Int),I x8] h) (K .normal 19 [J c n none, .fn (Fn.func 30) [] [],Ud,I (n:Int),I (wW (x8+(1:Int)))] h)) (K (.exit 0) 19 [J c n none, .fn (Fn.func 30) [] [],Ud,I (n:Int),I x8] h)):=kr
theorem ZIw{h}(K):CP UY 117 ((post (flat (Za Tryz.f117))).drop 1) (MZ 19 [] []) h [4] K=(K .ret 19 [I (-1)] h):=kr
theorem ZPk{c n h}(K):CP UY 70 (flat (Za Tryz.f70)) (J c n none::V.fn (.func 30) [] []::Rp 7) h [4] K=(Con UY 117 [J c n none,V.fn (Fn.func 30) [] []] h fun(v:V) (d:Heap)=> ∃a,v=I a/\K .ret 9 [.b (leI 0 a)] d):=kr
theorem ZPl{b g h}(K):CP UY 33 (flat (Za Tryz.f33)) (J b g none::Rp 7) h [2] K=((g=0->K .ret 8 [S0] h)/\((∃a c d e f,Zk UY h 32 32 (J [] 0 (some 0)) (J b g none)=some (S a c d e,f)/\K .ret 8 [S a c d e] f)\/Zk UY h 32 32 (J [] 0 (some 0)) (J b g none)=some (J [] 0 (some 0),h)/\K .ret 8 [J [] 0 (some 0)] h)):=kr
theorem Za4{a:List Re}{i:Nat}(c:i<a.length):Zr 9 (List.drop ((i:Int).toNat*9) (row Zd a))=some (Zd a[i]):=by
 rw[qdq];exact Xp (f:=Zd) (k:=9) ZW c
theorem Zfn: ∀l:List Re,anchB.anchs l=l.any anchB
 | []=>by rw[anchB.anchs];rfl
 |r::l=>by rw[anchB.anchs,Zfn l];rfl
theorem ZIx{B:Nat}(E:B<2 ^ 20){a:List Re}(F:a.length<=B)(w: ∀x∈a,PCon UY 30 [.agg (Zd x)] (· = .b (anchB x)))(h:Heap):
  Con UY 117 [lst Zd a, .fn (.func 30) [] []] h λv u=> ∃n:Int,v= I n/\leI 0 n=a.any anchB/\u=h:=by
 refine Zv UK (fn:=Tryz.f117) (Zh UK 19 ZIu rfl ?_);refine⟨rfl,ZN [0,1,7,8] [0,1,4,7,8] (λm r g=> ∃i:Nat,r= [lst Zd a, .fn (.func 30) [] [],I a.length,I (i:Nat)]/\i<=a.length/\m=a.length-i/\(a.take i).any anchB=false/\g=h) a.length ZA ⟨0,rfl,om,om,sm,rfl⟩ ?_⟩;rintro m r g ⟨i,rfl,G,rfl,l,rfl⟩;refine Zn UK ZIv rfl ?_;refine Zq (λd=> ?_) (λt=> ?_)
 .have k:=w a[i] (qe d);have c:=Za4 d;have j:(a.take (i+1)).any anchB=anchB a[i]:=by rw[qa d,uj,l];simp
  have f:anchB a[i]=true->a.any anchB=true:=λe=>List.any_eq_true.2 ⟨_,qe d,e⟩;generalize a[i]=x at k c j f;obtain⟨C,K,D,y,A,H⟩:=x;rw[Zm]at k c;refine⟨Zu d,_,_,_,_,_,_,_,_,_,_,_,c,_,k,Zf (λo=> ?_) (λo=> ?_)⟩
  .exact ZZ rr rfl (AfterZ.now ⟨_,rfl,by rw[f o];simp[leI],rfl⟩)
  .exact⟨rfl,a.length-(i+1),om,i+1,by rw[Ze om];rfl,om,rfl,by rw[j,o],rfl⟩
 .have z:i=a.length:=om;subst z;rw[qm]at l;refine Zj [] ?_;refine Zo UK ZIw rfl ?_;exact finC rr rfl (.now ⟨-1,rfl,by rw[l];rfl,rfl⟩)
structure AX(r:Re):Prop where
 c:PCon UY 30 [.agg (Zd r)] (· = .b (anchB r))
theorem Zzk{B:Nat}(o:B<2 ^ 20){k:Int}{s}{a:List Re}{g j n:Int}(t:a.length<=B)(l: ∀x∈a,PCon UY 30 [.agg (Zd x)] (· = .b (anchB x))):PCon UY 30 [.agg (Zd (.mk k s a g j n))] (· = .b (anchB (.mk k s a g j n))):=by
 rw[Zm,anchB,Zfn];refine Zw UK (fn:=Tryz.f30) rfl ZPf rfl ?_;refine Zf (λc=>ZB rr rfl (.b _) (by rw[c];rfl)) (λc=>Zf (λe=>ZB rr rfl (.b _) (by rw[c,e];rfl)) (λe=> ?_));have d:Con UY 70 [lst Zd a, .fn (.func 30) [] []] .empty λv h=>v= .b (a.any anchB):=by
  refine Zv UK (fn:=Tryz.f70) (Zo UK ZPk rfl ?_);exact(ZIx o t l .empty).mono λv h ⟨m,f,r,_⟩=>⟨m,f,finC rr rfl (.now (by rw[r];rfl))⟩
 exact d.mono λv h f=>⟨_,f,ZB rr rfl (.b _) (by rw[c,e];rfl)⟩
mutual
theorem ZB3{B:Nat}(d:B<2 ^ 20): ∀r:Re,wfRe B r->AX r
 | .mk k s a j g n,h=>by
  rw[wfRe]at h;have f:=Zvc d a h.2.2.2;exact⟨Zzk d h.2.2.1 λx e=>(f x e).c⟩
theorem Zvc{B:Nat}(c:B<2 ^ 20): ∀l:List Re,wfRe.wfRes B l-> ∀x∈l,AX x
 | [],_,x,a=>by cases a
 |r::l,h,x,a=>by
  rw[wfRe.wfRes]at h;have d:=ZB3 c r h.1;have f:=Zvc c l h.2;rcases qu.1 a with e|a
  .rw[e];exact d
  .exact f x a
end
/-! ### Spots -/
theorem Zhm(x): ∀(l:List Re) (n:Nat),spotN.spots (l++ [x]) n=min (spotN.spots l n+spotN x) 301
 | [],n=>by rw[qy,spotN.spots,spotN.spots,spotN.spots]
 |r::l,n=>by rw[qs,spotN.spots,Zhm x l,spotN.spots]
structure SX(r:Re):Prop where
 c:PCon UY 31 [.agg (Zd r)] (· = I (spotN r:Nat))
theorem minV(a b:Nat):((fun(x y:Int)=>if y<x then y else x) (a:Int) (b:Int))=((min a b:Nat):Int):=by
 show(if(b:Int)<a then(b:Int)else a)=_;split<;>omega
theorem Zzl{B:Nat}(hB:B<2 ^ 20){k:Int}{s}{a:List Re}{f d n:Int}(D:wfRe B (.mk k s a f d n))(ih: ∀x∈a,PCon UY 31 [.agg (Zd x)] (· = I (spotN x:Nat))):PCon UY 31 [.agg (Zd (.mk k s a f d n))] (· = I (spotN (.mk k s a f d n):Nat)):=by
  have E:=D;rw[wfRe]at E;obtain⟨h1,h2,h3,P⟩:=E;have O:k=6->PCon UY 71 [.agg (Zd (.mk k s a f d n))] (· = I (XF f d:Nat))/\XF f d<=8:=λe=>by
    obtain⟨g1,X,g3,g4⟩:=h1 e;exact⟨Zll k s a f d n g1,Zja X om⟩
  have F: ∀i m,m<=301->spotN.spots (a.take i) m<=301:=λi m hm=>(Zff (a.take i) (VU P i) m hm).1;rw[Zm]at O ⊢;refine ZG UK (fn:=Tryz.f31) rfl ?_;refine Zh UK 33 ZPc rfl ?_;have o: ∀c:Nat,c=(if k=1 then 1 else 0)->PreV UY 33 [1,3,12,13,14] (post (flat (Za Tryz.f31))) (FinS UY Tryz.f31 λv h=> ∃r,Frz h v r/\r= I (spotN (.mk k s a f d n):Nat)) .normal 33 [.lb [I k,U s.1,U s.2.1,U s.2.2.1,U s.2.2.2,lst Zd a,I f,I d,I n],I (c:Nat),lst Zd a,I a.length,I 0] .empty:=by
    intro c u;have A:c<=301:=by rw[u];split<;>omega
    refine⟨rfl,ZN [1,3,12,13,14] [1,3,12,13,14] (λm N g=> ∃i:Nat,N= [.lb [I k,U s.1,U s.2.1,U s.2.2.1,U s.2.2.2,lst Zd a,I f,I d,I n],I (spotN.spots (a.take i) c:Nat),lst Zd a,I a.length,I (i:Nat)]/\i<=a.length/\m=a.length-i) a.length ZA ⟨0,by rw[uQ,spotN.spots];rfl,om,om⟩ ?_⟩;rintro m N g ⟨i,rfl,a1,rfl⟩;refine Zn UK ZPd rfl ?_;refine Zq (λl=> ?_) (λa0=> ?_)
    · have C:=ih a[i] (qe l)
      have j:=Za4 l;have hx:=(Zd9 a[i] (Zc3 P _ (qe l))).1;have y:spotN.spots (a.take (i+1)) c=min (spotN.spots (a.take i) c+spotN a[i]) 301:=by rw[qa l,Zhm]
      have t:=F i c A;generalize a[i]=x at C j hx y;obtain⟨K,H,L,w,z,G⟩:=x;rw[Zm]at C j;refine⟨Zu l,_,_,_,_,_,_,_,_,_,_,_,j,_,C,rfl,a.length-(i+1),om,i+1,?_,om,rfl⟩;rw[Ze om,y,ZI (n:=((spotN.spots (a.take i) c:Nat):Int)+(spotN (.mk K H L w z G):Nat)) om om];have:=minV (spotN.spots (a.take i) c+spotN (.mk K H L w z G)) 301;rw[<-this];rfl
    · have Z:i=a.length:=om
      subst Z;have t:=F a.length c A;rw[qm]at t ⊢;refine Zj [1,3] ?_;refine Zo UK ZPe rfl ?_;refine Zf (λe=> ?_) (λe=>ZB rr rfl (.i _ _) ?_)
      · have e:k=6:=by simpa using e
        obtain⟨W,t6⟩:=O e;refine⟨_,W,ZB rr rfl (.i _ _) ?_⟩;have hb:spotN.spots a c*XF f d<=301*8:=Nat.mul_le_mul t t6;have ew:wW (((spotN.spots a c:Nat):Int)*((XF f d:Nat):Int))=((spotN.spots a c*XF f d:Nat):Int):=by
          rw[ZI (by have:(0:Int)<=((spotN.spots a c*XF f d:Nat):Int):= om;rw[<-Int.natCast_mul];omega) (by rw[<-Int.natCast_mul];omega),Int.natCast_mul]
        rw[ew,spotN,uF e];have:=minV (spotN.spots a c*XF f d) 301;rw[<-u,<-this];rfl
      · have e:k≠6:=by simpa using e
        rw[spotN,uE e];have:=minV (spotN.spots a c) 301;rw[<-u,<-this];rfl
  exact Zf (λe=>o 1 (by rw[uF (by simpa using e)])) (λe=>o 0 (by rw[uE (by simpa using e)]))
mutual
theorem ZB4{B:Nat}(e:B<2 ^ 20): ∀r:Re,wfRe B r->SX r
 | .mk k s a l j n,h=>by
  have d:=h;rw[wfRe]at d;have g:=Zvd e a d.2.2.2;exact⟨Zzl e h λx f=>(g x f).c⟩
theorem Zvd{B:Nat}(c:B<2 ^ 20): ∀l:List Re,wfRe.wfRes B l-> ∀x∈l,SX x
 | [],_,x,a=>by cases a
 |r::l,h,x,a=>by
  rw[wfRe.wfRes]at h;have d:=ZB4 c r h.1;have f:=Zvd c l h.2;rcases qu.1 a with e|a
  .rw[e];exact d
  .exact f x a
end
theorem ZPm{k s0 s1 s2 s3 kc kn lo hi gn h}(K):CP UY 29 (flat (Za Tryz.f29)) (.agg (R9 k s0 s1 s2 s3 kc kn none lo hi gn)::Rp 11) h [2] K=(∃a c,(PCon UY 69 [.agg (R9 k s0 s1 s2 s3 kc kn none lo hi gn)] λv=>v=.tup [.s a,I c])/\K .ret 12 [.b (c==(0:Int))] h):=kr
theorem ZPn{k s0 s1 s2 s3 kc kn lo hi gn h}(K):CP UY 69 (flat (Za Tryz.f69)) (.agg (R9 k s0 s1 s2 s3 kc kn none lo hi gn)::Rp 13) h [2,3] K=(Con UY 113 [.p (some (h.nx,0)),.agg (R9 k s0 s1 s2 s3 kc kn none lo hi gn),I 0,I 0] (h.pushT (UY.tag (178:Nat)) (YObj.arr [I 0] true)) fun(v:V) (e:Heap)=> ∃a,v=.b a/\If (!a) (K .ret 14 [.s #[].toList,I 5] e) (Con UY 114 [.p (some (e.nx,0)),.agg (R9 k s0 s1 s2 s3 kc kn none lo hi gn)] (e.pushT (UY.tag (182:Nat)) (YObj.arr [.p none,S none (0:Nat) (some (0:Nat)) (0:Nat)] true)) fun(v:V) (d:Heap)=>v=.tup []/\ ∃b,RCon UY (115:Nat) [.p (some (e.nx,0))] d (I b)/\If (ltI 200 b) (K .ret 14 [.s #[].toList,I 2] d) (Con UY 116 [.p (some (e.nx,0))] d fun(v:V) (e:Heap)=> ∃c,v=.s c/\K .ret 14 [.s c,I 0] e))):=kr
theorem ZIy{id k s0 s1 s2 s3 kc kn lo hi gn lv dp h}(K):CP UY 113 (flat (Za Tryz.f113)) (.p (some (id,0))::.agg (R9 k s0 s1 s2 s3 kc kn none lo hi gn)::I lv::I dp::Rp 123) h [8] K=(∃a,(PCon UY 143 [.agg (R9 k s0 s1 s2 s3 kc kn none lo hi gn)] λv=>v=.b a)/\If (!a) (K .ret 127 [.b false] h) (If (k==(0:Int)) (If (leI lv 1) (K .ret 127 [.b ((↑kn:Int)==(0:Int))] h) (K .ret 127 [.b false] h)) (If (k==(1:Int)) (K .ret 127 [.b ((↑kn:Int)==(0:Int))] h) ((λf=>If (k==(2:Int)) f (If (k==(3:Int)) f (If (k==(4:Int)) (If (leI lv 1) (If (ltI 1 kn) (Con UY 144 [.p (some (id,0)),J kc kn none,I 2,I dp] h fun(v:V) (c:Heap)=> ∃b,v=.b b/\K .ret 127 [.b b] c) (K .ret 127 [.b false] h)) (K .ret 127 [.b false] h)) (If (k==(5:Int)) (If (lv==(0:Int)) (If (ltI 1 kn) (Con UY 144 [.p (some (id,0)),J kc kn none,I 1,I dp] h fun(v:V) (c:Heap)=> ∃b,v=.b b/\K .ret 127 [.b b] c) (K .ret 127 [.b false] h)) (K .ret 127 [.b false] h)) (If (k==(6:Int)) ((λd=>If (leI 0 lo) (If (leI lo 8) ((λe=>If (hi==(-1:Int)) (If (leI lv 2) e (K .ret 127 [.b false] h)) (If (leI lo hi) (If (leI lv 2) (If (leI hi 8) e (K .ret 127 [.b false] h)) (K .ret 127 [.b false] h)) d)) (If ((↑kn:Int)==(1:Int)) (Con UY 144 [.p (some (id,0)),J kc kn none,I 3,I dp] h fun(v:V) (c:Heap)=> ∃b,v=.b b/\K .ret 127 [.b b] c) (K .ret 127 [.b false] h))) d) d) (If (leI lv 2) (K .ret 127 [.b false] h) (K .ret 127 [.b false] h))) (If (k==(7:Int)) (Con UY 145 [.p (some (id,0)),.agg (R9 k s0 s1 s2 s3 kc kn none lo hi gn),I dp] h fun(v:V) (c:Heap)=> ∃b,v=.b b/\K .ret 127 [.b b] c) (K .ret 127 [.b false] h))))))) (If (leI lv 2) (K .ret 127 [.b ((↑kn:Int)==(0:Int))] h) (K .ret 127 [.b false] h)))))):=kr
theorem ZIz{k s0 s1 s2 s3 kc kn lo hi gn h}(K):CP UY 143 (flat (Za Tryz.f143)) (.agg (R9 k s0 s1 s2 s3 kc kn none lo hi gn)::Rp 36) h [2] K=((λa=>If (k==(1:Int)) a (If (s0==(0:Int)&&(s1==(0:Int)&&(s2==(0:Int)&&(s3==(0:Int)&&true)))) a (K .ret 37 [.b false] h))) ((λc=>If (k==(6:Int)) c (If (lo==(0:Int)) (If (hi==(0:Int)) c (K .ret 37 [.b false] h)) (K .ret 37 [.b false] h))) (If (k==(7:Int)) (K .ret 37 [.b true] h) (K .ret 37 [.b (gn==(0:Int))] h)))):=kr
theorem ZI0{id c n lv dp h}(K):CP UY 144 (pre (flat (Za Tryz.f144))) (.p (some (id,0))::J c n none::I lv::I dp::Rp 20) h [0,2,3,11,12,13] K=(K .normal 24 [.p (some (id,0)),I lv,I dp,J c n none,I (n:Int),I 0] h):=kr
theorem ZI1{id c n lv dp a h}(K):CP UY 144 (flat (Zx (post (flat (Za Tryz.f144))))) (MZ 24 [0,2,3,11,12,13] [.p (some (id,0)),I lv,I dp,J c n none,I (n:Int),I a]) h [0,2,3,8,11,12,13] K=(If (ltI a n) ((0<=a/\a<n)/\ ∃b d e f g i j l m o q,Zr 9 (List.drop (a.toNat*9) c)=some (R9 b d e f g i j l m o q)/\Con UY 113 [.p (some (id,0)),.agg (R9 b d e f g i j l m o q),I lv,I dp] h fun(v:V) (k:Heap)=> ∃r,v=.b r/\If (!r) (K .ret 24 [.p (some (id,0)),I lv,I dp, .b false,J c n none,I (n:Int),I a] k) (K .normal 24 [.p (some (id,0)),I lv,I dp,Ud,J c n none,I (n:Int),I (wW (a+(1:Int)))] k)) (K (.exit 0) 24 [.p (some (id,0)),I lv,I dp,Ud,J c n none,I (n:Int),I a] h)):=kr
theorem ZI2{h}(K):CP UY 144 ((post (flat (Za Tryz.f144))).drop 1) (MZ 24 [] []) h [8] K=(K .ret 24 [.b true] h):=kr
theorem ZI3{id k s0 s1 s2 s3 kc kn lo hi gn dp h}(K):CP UY 145 (flat (Za Tryz.f145)) (.p (some (id,0))::.agg (R9 k s0 s1 s2 s3 kc kn none lo hi gn)::I dp::Rp 40) h [6] K=(∃a,Zb h id 0 1=some [I a]/\ ∃b,Zi h id 0 [I (wW (a+(1:Int)))]=some b/\ ∃c,(λe=>Zb b id 0 1=some [I c]/\If (ltI 9 c) (If (gn==(0:Int)) e (K .ret 43 [.b false] b)) (If (gn==c) e (K .ret 43 [.b false] b))) (If (ltI dp 64) (If ((↑kn:Int)==(1:Int)) (Con UY 144 [.p (some (id,0)),J kc kn none,I 0,I (wW (dp+(1:Int)))] b fun(v:V) (f:Heap)=> ∃d,v=.b d/\K .ret 43 [.b d] f) (K .ret 43 [.b false] b)) (K .ret 43 [.b false] b))):=kr
def Zfo(k:Int)(s:S4)(a c d:Int):Bool:=(k==1||(s.1==0&&(s.2.1==0&&(s.2.2.1==0&&(s.2.2.2==0&&true)))))&&(k==6||(a==0&&c==0))&&(k==7||d==0)
abbrev XV(x:Int):Int:=wW x
def rightF:Re->Int->Int->Int->Option Int
 | .mk k s a d e n,lv,c,g=>
  if Zfo k s d e n=false then none
  else if k=0 then(if leI lv 1&&((a.length:Nat):Int)==0 then some g else none)
  else if k=1 then(if((a.length:Nat):Int)==0 then some g else none)
  else if k=2\/k=3 then(if leI lv 2&&((a.length:Nat):Int)==0 then some g else none)
  else if k=4 then(if leI lv 1&&ltI 1 a.length then kidsF a 2 c g else none)
  else if k=5 then(if lv==0&&ltI 1 a.length then kidsF a 1 c g else none)
  else if k=6 then(if leI 0 d&&leI d 8&&(e== -1||(leI d e&&leI e 8))&&leI lv 2&&((a.length:Nat):Int)==1 then kidsF a 3 c g else none)
  else if k=7 then(if(n==if ltI 9 (XV (g+1))then 0 else XV (g+1))&&ltI c 64&&((a.length:Nat):Int)==1 then kidsF a 0 (XV (c+1)) (XV (g+1))else none)
  else none
where
 kidsF:List Re->Int->Int->Int->Option Int
  | [],_,_,g=>some g
  |r::l,lv,c,g=>match rightF r lv c g with
   |none=>none
   |some f=>kidsF l lv c f
abbrev JH(h:Heap)(a:Nat)(g:Int):Prop:=h.get a=some (.arr [I g] true)
def JP(a:Nat)(o:Option Int)(v:V)(c:Heap):Prop:=v= .b o.isSome/\ ∀g,o=some g->JH c a g
structure JR(r:Re):Prop where
 c: ∀(lv dp g:Int) (h:Heap) (id:Nat),JH h id g->Con UY 113 [.p (some (id,0)), .agg (Zd r),I lv,I dp] h (JP id (rightF r lv dp g))
theorem Zzm{B:Nat}(d:B<2 ^ 20)(k:Int)(s)(a)(lo hi c:Int):PCon UY 143 [.agg (Zd (.mk k s a lo hi c))] (· = .b (Zfo k s lo hi c)):=by
 rw[Zm];refine Zw UK (fn:=Tryz.f143) rfl ZIz rfl ?_;unfold Zfo;generalize (s.1==0&&(s.2.1==0&&(s.2.2.1==0&&(s.2.2.2==0&&true))))=z;cases k==1<;>cases z<;>cases k==6<;>cases lo==0<;>cases hi==0<;>cases k==7<;>exact ZB (n:=37) rr rfl (.b _) sm
theorem Zec{l:List Re}{i:Nat}(a:i<l.length):l.drop i=l[i]::l.drop (i+1):=(List.getElem_cons_drop a).symm
theorem Zp6{B:Nat}(hB:B<2 ^ 20){a:List Re}(X:a.length<=B)(L: ∀x∈a,JR x)(lv j g:Int){h}{k:Nat}(O:JH h k g):
  Con UY 144 [.p (some (k,0)),lst Zd a,I lv,I j] h (JP k (rightF.kidsF a lv j g)):=by
 refine Zv UK (fn:=Tryz.f144) (Zh UK 24 ZI0 rfl ?_);refine⟨rfl,ZN [0,2,3,11,12,13] [0,2,3,8,11,12,13] (λm D u=> ∃(i:Nat) (l:Int),D= [.p (some (k,0)),I lv,I j,lst Zd a,I a.length,I (i:Nat)]/\i<=a.length/\m=a.length-i/\JH u k l/\rightF.kidsF a lv j g=rightF.kidsF (a.drop i) lv j l) a.length ZA ⟨0,g,rfl,om,om,O,rfl⟩ ?_⟩;rintro m D u ⟨i,l,rfl,Z,rfl,n,e⟩;refine Zn UK ZI1 rfl ?_;refine Zq (λf=> ?_) (λH=> ?_)
 .have t:=(L a[i] (qe f)).c lv j l u k n;have d:=Za4 f;rw[Zec f,rightF.kidsF]at e;generalize a[i]=x at t d e;obtain⟨K,G,N,A,C,F⟩:=x;rw[Zm]at t d;generalize rightF (.mk K G N A C F) lv j l=o at t e;refine⟨Zu f,_,_,_,_,_,_,_,_,_,_,_,d,t.mono λv h2 ⟨W,E⟩=>⟨_,W,Zf (λw=> ?_) (λw=> ?_)⟩⟩
  .have P:o=none:=by cases o with
    |none=>rfl
    |some y=>cases w
   subst P;exact ZZ rr rfl (AfterZ.now ⟨by rw[e];rfl,λy r=>by rw[e]at r;cases r⟩)
  .cases o with
   |none=>cases w
   |some y=>exact⟨rfl,a.length-(i+1),om,i+1,y,by rw[Ze om];rfl,om,rfl,E y rfl,e⟩
 .have z:i=a.length:=om;subst z;rw[List.drop_length,rightF.kidsF]at e;refine Zj [] ?_;refine Zo UK ZI2 rfl ?_;exact finC rr rfl (.now ⟨by rw[e];rfl,λy r=>by rw[e]at r;cases r;exact n⟩)
theorem QV{c:Nat}{h}{b:Bool}(a:b=false):JP c none (.b b) h:=⟨by rw[a];rfl,λ_ e=>by cases e⟩
theorem Zzn{a:Nat}{h}{g:Int}(c:JH h a g)(b:Bool):JP a (if b=true then some g else none) (.b b) h:=by
 cases b
 .exact QV rfl
 .exact⟨rfl,λy e=>by cases e;exact c⟩
theorem Zve{B:Nat}(E:B<2 ^ 20){k:Int}{s:S4}{a:List Re}{lo hi n:Int}(C:a.length<=B)(D: ∀x∈a,JR x)(d g:Int){h}{c:Nat}(y:JH h c g):
  Con UY 145 [.p (some (c,0)), .agg (Zd (.mk k s a lo hi n)),I d] h (JP c (if(n==if ltI 9 (XV (g+1))then 0 else XV (g+1))&&ltI d 64&&((a.length:Nat):Int)==1 then rightF.kidsF a 0 (XV (d+1)) (XV (g+1))else none)):=by
 rw[Zm];refine Zv UK (fn:=Tryz.f145) (Zo UK ZI3 rfl ?_);have z:Zb h c 0 1=some [I g]:=by rw[Zs y];rfl
 have j:JH (h.set c (some (.arr [I (XV (g+1))] true))) c (XV (g+1)):=by rw[JH,qc,uF rfl]
 refine⟨g,z,h.set c (some (.arr [I (XV (g+1))] true)),by simp[Zi,y,splice,XV],XV (g+1),by rw[Zs j];rfl,?_⟩;have F:=Zp6 E C D 0 (XV (d+1)) (XV (g+1)) j;have e: ∀ {b:Bool},b=false->Fin UY Tryz.f145 [6] (AfterZ (JP c (if b=true then rightF.kidsF a 0 (XV (d+1)) (XV (g+1))else none))) .ret 43 [.b false] (h.set c (some (.arr [I (XV (g+1))] true))):=λo=>by
  subst o;exact finC rr rfl (.now (QV rfl))
 have f: ∀ {b:Bool},b=true->Con UY 144 [.p (some (c,0)),lst Zd a,I 0,I (XV (d+1))] (h.set c (some (.arr [I (XV (g+1))] true))) λv t=> ∃w,v= .b w/\Fin UY Tryz.f145 [6] (AfterZ (JP c (if b=true then rightF.kidsF a 0 (XV (d+1)) (XV (g+1))else none))) .ret 43 [.b w] t:=λo=>by
  subst o;exact F.mono λv t ⟨G,A⟩=>⟨_,G,finC rr rfl (.now ⟨rfl,A⟩)⟩
 refine Zf (λu=> ?_) (λu=> ?_)<;>rw[u]
 .refine Zf (λr=>Zf (λl=>Zf (λm=>f ?_) (λm=>e ?_)) (λl=>e ?_)) (λr=>e ?_)
  all_goals simp_all
 .refine Zf (λr=>Zf (λl=>Zf (λm=>f ?_) (λm=>e ?_)) (λl=>e ?_)) (λr=>e ?_)
  all_goals simp_all
theorem Zvf{B:Nat}(P:B<2 ^ 20){k:Int}{s}{c:List Re}{lo hi n:Int}(hl:c.length<=B)(ih: ∀x∈c,JR x):JR (.mk k s c lo hi n):=by
  refine⟨λlv D g h A y=> ?_⟩;have w:=Zzm P k s c lo hi n;have z:=Zve P (k:=k) (s:=s) (lo:=lo) (hi:=hi) (n:=n) hl ih D g y;rw[Zm]at w z ⊢;rw[rightF];refine Zv UK (fn:=Tryz.f113) (Zo UK ZIy rfl ?_);refine⟨_,w,?_⟩;generalize Zfo k s lo hi n=bb;have a: ∀ {o:Option Int} {b:Bool},JP A o (.b b) h->Fin UY Tryz.f113 [8] (AfterZ (JP A o)) .ret 127 [.b b] h:=λhp=>finC rr rfl (.now hp);have m: ∀(l:Int),Con UY 144 [.p (some (A,0)),lst Zd c,I l,I D] h λv E=> ∃b',v= .b b'/\Fin UY Tryz.f113 [8] (AfterZ (JP A (rightF.kidsF c l D g))) .ret 127 [.b b'] E:=λl=>
    (Zp6 P hl ih l D g y).mono λv E ⟨Z,H⟩=>⟨_,Z,finC rr rfl (.now ⟨rfl,H⟩)⟩
  refine Zf (λr=> ?_) (λr=> ?_)
  · have r:bb=false:=by simpa using r
    rw[uF r];exact a (QV rfl)
  have r:bb=true:=by simpa using r
  rw[uE (by simp[r])];clear r w;have f: ∀ {x:Int} {b:Bool},(k==x)=b->(b=true↔k=x):=λe=>by rw[<-e];simp
  refine Zf (λK=> ?_) (λK=> ?_)
  · rw[uF ((f K).1 rfl)]
    refine Zf (λd=> ?_) (λd=> ?_)<;>rw[d]
    · exact a (Zzn y _)
    · exact a (QV rfl)
  rw[uE (λe=>by cases(f K).2 e)];refine Zf (λF=> ?_) (λF=> ?_)
  · rw[uF ((f F).1 rfl)]
    exact a (Zzn y _)
  rw[uE (λe=>by cases(f F).2 e)];refine Zf (λL=> ?_) (λL=> ?_)
  · rw[uF (.inl ((f L).1 rfl))]
    refine Zf (λd=> ?_) (λd=> ?_)<;>rw[d]
    · exact a (Zzn y _)
    · exact a (QV rfl)
  refine Zf (λO=> ?_) (λO=> ?_)
  · rw[uF (.inr ((f O).1 rfl))]
    refine Zf (λd=> ?_) (λd=> ?_)<;>rw[d]
    · exact a (Zzn y _)
    · exact a (QV rfl)
  rw[uE (λe=>by rcases e with e|e;cases(f L).2 e;cases(f O).2 e)]
  refine Zf (λW=> ?_) (λW=> ?_)
  · rw[uF ((f W).1 rfl)]
    refine Zf (λd=> ?_) (λd=> ?_)<;>rw[d]
    · refine Zf (λu=> ?_) (λu=> ?_)<;>rw[u]
      · exact m 2
      · exact a (QV rfl)
    · exact a (QV rfl)
  rw[uE (λe=>by cases(f W).2 e)];refine Zf (λN=> ?_) (λN=> ?_)
  · rw[uF ((f N).1 rfl)]
    refine Zf (λd=> ?_) (λd=> ?_)<;>rw[d]
    · refine Zf (λu=> ?_) (λu=> ?_)<;>rw[u]
      · exact m 1
      · exact a (QV rfl)
    · exact a (QV rfl)
  rw[uE (λe=>by cases(f N).2 e)];refine Zf (λG=> ?_) (λG=> ?_)
  · rw[uF ((f G).1 rfl)]
    have t:Fin UY Tryz.f113 [8] (AfterZ (JP A none)) .ret 127 [.b false] h:=a (QV rfl);refine Zf (λd=> ?_) (λd=> ?_)<;>rw[d]
    · refine Zf (λu=> ?_) (λu=> ?_)<;>rw[u]
      · refine Zf (λh3=> ?_) (λh3=> ?_)<;>rw[h3]
        · refine Zf (λC=> ?_) (λC=> ?_)<;>rw[C]
          · refine Zf (λj=> ?_) (λj=> ?_)<;>rw[j]
            · exact m 3
            · exact t
          · exact t
        · refine Zf (λC=> ?_) (λC=> ?_)<;>rw[C]
          · refine Zf (λj=> ?_) (λj=> ?_)<;>rw[j]
            · refine Zf (λh6=> ?_) (λh6=> ?_)<;>rw[h6]
              · refine Zf (λh7=> ?_) (λh7=> ?_)<;>rw[h7]
                · exact m 3
                · exact t
              · exact t
            · rw[Bool.and_false];exact t
          · refine Zf (λj=> ?_) (λj=> ?_)<;>rw[j]<;>exact t
      · refine Zf (λj=> ?_) (λj=> ?_)<;>rw[j]<;>exact t
    · refine Zf (λj=> ?_) (λj=> ?_)<;>rw[j]<;>exact t
  rw[uE (λe=>by cases(f G).2 e)];refine Zf (λX=> ?_) (λX=> ?_)
  · rw[uF ((f X).1 rfl)]
    exact z.mono λv E ⟨Z,H⟩=>⟨_,Z,finC rr rfl (.now ⟨rfl,H⟩)⟩
  rw[uE (λe=>by cases(f X).2 e)];exact a (QV rfl)
mutual
theorem ZB5{B:Nat}(c:B<2 ^ 20): ∀r:Re,wfRe B r->JR r
 | .mk k s a e d n,h=>by
  rw[wfRe]at h;exact Zvf c h.2.2.1 (Zvg c a h.2.2.2)
theorem Zvg{B:Nat}(c:B<2 ^ 20): ∀l:List Re,wfRe.wfRes B l-> ∀x∈l,JR x
 | [],_,x,a=>by cases a
 |r::l,h,x,a=>by
  rw[wfRe.wfRes]at h;have d:=ZB5 c r h.1;have f:=Zvg c l h.2;rcases qu.1 a with e|a
  .exact e▸d
  .exact f x a
end
theorem ZPo{l c d e f g j a m h}(K):CP UY 26 (flat (Za Tryz.f26)) (.agg [J l c none,J d e none,J f g none,J j a none,.b m]::Rp 34) h [2] K=(∃i,Zi (h.pushT (UY.tag (3:Nat)) (YObj.arr [I 0] true)) h.nx 0 [I (c:Int)]=some i/\ ∃n,Zb i h.nx 0 1=some [I n]/\If (ltI 300 n) (K .ret 35 [.b false] i) (∃o,Zb i h.nx 0 1=some [I o]/\If ((↑a:Int) !=o) (K .ret 35 [.b false] i) (∃q,Zb i h.nx 0 1=some [I q]/\ ∃r,(PCon UY 64 [J d e none,I q] fun(v:V)=>v=.b r)/\If (!r) (K .ret 35 [.b false] i) (∃s,Zb i h.nx 0 1=some [I s]/\ ∃t,(PCon UY 64 [J f g none,I s] fun(v:V)=>v=.b t)/\If (!t) (K .ret 35 [.b false] i) (Con UY 65 [J j a none,V.fn (Fn.func (66:Nat)) [] [.p (some (h.nx,0))]] i fun(v:V) (k:Heap)=> ∃u,v=.b u/\K .ret 35 [.b !u] k))))):=kr
theorem ZPp(a c x1 h K):CP UY 64 (pre (flat (Za Tryz.f64))) (J a c none::I x1::Rp 33) h [0,1,2,7,8,9] K=(K .normal 35 [J a c none,I x1,Ud,J a c none,I (c:Int),I 0] h):=kr
theorem ZPq(a e x1 x9 h K):CP UY 64 (flat (Zx (post (flat (Za Tryz.f64))))) (MZ 35 [0,1,2,7,8,9] [J a e none,I x1,V.undef,J a e none,I (e:Int),I x9]) h [0,1,2,4,7,8,9] K=(If (ltI x9 e) ((0<=x9/\x9<e)/\ ∃c,(λf=>Zr 1 (List.drop (x9.toNat*1) a)=some [I c]/\If (ltI c 0) f (If (leI x1 c) f ((λg=>If (ltI 0 x9) (((0:Int)<=wW (x9-(1:Int))/\wW (x9-(1:Int))<(e:Int))/\ ∃d,Zr 1 (List.drop ((wW (x9-(1:Int))).toNat*1) a)=some [I d]/\If (leI c d) f g) g) (K .normal 35 [J a e none,I x1,Ud,Ud,J a e none,I (e:Int),I (wW (x9+(1:Int)))] h)))) (K .ret 35 [J a e none,I x1,Ud, .b false,J a e none,I (e:Int),I x9] h)) (K (.exit 0) 35 [J a e none,I x1,Ud,Ud,J a e none,I (e:Int),I x9] h)):=kr
theorem ZPr(h K):CP UY 64 ((post (flat (Za Tryz.f64))).drop 1) (MZ 35 [] []) h [4] K=(K .ret 35 [.b true] h):=kr
end Go.Y
namespace Go.Y
set_option maxRecDepth 1000000
set_option maxHeartbeats 0
section
variable {Y:YP}
def Zc4(n:Nat)(c sl:List Nat)(I:Nat->List V->Heap->Prop)(m e:Nat)(Q:Out->St->Prop)(o:Out)(len:Nat)(a:List V)(h:Heap):Prop:=
 match o with
 | .normal=>len=n/\ ∃d,d<m/\ ∃vs',WkE (pick c sl a) vs'/\I d vs' h
 | .exit j=>if j=e then AtV c Q .normal len a h else AtV c Q (.exit j) len a h
 | .ret=>AtV c Q .ret len a h
theorem Zvh{n:Nat}(sl e:List Nat){g:St}{l:List Code}{Q:Out->St->Prop}(I:Nat->List V->Heap->Prop)(x:Nat)(D:g.env.length=n)
  (E: ∃vs',WkE (sl.map λi=>lv i g) vs'/\I x vs' g.h)
  (round: ∀m w h,I m w h->TriL Y (flat (Zx l)) ⟨mk n (sl.zip w),[],h⟩ (VQ e (Zc4 n e sl I m (Xd l) Q))) (f:sl.all e.contains=true:=by rfl) (F:Zi2 l=true:=by kernel_rfl):TriL Y l g Q:=by
 rw[Zhd F];refine QC (Zd1 (λm k=>k.env.length=n/\ ∃vs',WkE (sl.map λi=>lv i k) vs'/\I m vs' k.h) (n:=x) ⟨D,E⟩ ?_);rintro m k ⟨v,vs',A,z⟩;have hr:=XP (c:=Zx l) (r:= []) (by rw[qi];exact round m _ _ z);refine(Zbq v rfl rfl (Zur (A.mk sl) hr)).mono ?_;intro o a d
 cases o with
 |normal=>
  obtain⟨G,C,H,u,B,y⟩:=d;exact⟨C,H,G,u,by rw[Jt f rfl];exact B,y⟩
 |exit j=>
  have d:Zc4 n e sl I m (Xd l) Q (.exit j) a.env.length (e.map λi=>lv i a) a.h:=d;simp only[Zc4]at d;by_cases t:j=Xd l
  .rw[uF t]at d;simp only[uF t];exact d a rfl rfl rfl
  .rw[uE t]at d;simp only[uE t];exact d a rfl rfl rfl
 |ret=>exact d a rfl rfl rfl
theorem Vm{n:Nat}{c sl}{I:Nat->List V->Heap->Prop}{m a j:Nat}{Q}{len:Nat}{vs}{h}(d:j=a)(e:AtV c Q .normal len vs h):Zc4 n c sl I m a Q (.exit j) len vs h:=by
 simp only[Zc4];rw[uF d];exact e
end
end Go.Y
namespace Go.Y
open Go.Proofs
set_option maxRecDepth 1000000
set_option maxHeartbeats 0
theorem Zr9{id k s0 s1 s2 s3 kc kn lo hi gn h}(K):CP UY 32 (pre (flat (Za Tryz.f32))) (.p (some (id,0))::.agg (R9 k s0 s1 s2 s3 kc kn none lo hi gn)::Rp 103) h [0,3,4,5,12,14] K=(K .normal 105 [.p (some (id,0)), .lb (R9 k s0 s1 s2 s3 kc kn none lo hi gn), .lb [S0,S0, .b false], .lb [S0,S0, .b true], .agg [S0,S0, .b true],I k] h):=kr
theorem Zsa{id k s0 s1 s2 s3 kc kn lo hi gn h}(K):CP UY 32 (pre (flat (ZL (post (flat (Za Tryz.f32)))))) (MZ 105 [0,3,4,5,12,14] [.p (some (id,0)),.lb (R9 k s0 s1 s2 s3 kc kn none lo hi gn),.lb [S0,S0,.b false],.lb [S0,S0,.b true],.agg [S0,S0,.b true],I k]) h [0,3,4,5,12,14,15] K=(K .normal 105 [.p (some (id,0)), .lb (R9 k s0 s1 s2 s3 kc kn none lo hi gn), .lb [S0,S0, .b false], .lb [S0,S0, .b true], .agg [S0,S0, .b true],I k, .b (k==(1:Int))] h):=kr
theorem ZPs{id k s0 s1 s2 s3 kc kn lo hi gn h}(K):CP UY 32 (flat (QU (post (flat (ZL (post (flat (Za Tryz.f32)))))))) (MZ 105 [0,3,4,5,12,14,15] [.p (some (id,0)),.lb (R9 k s0 s1 s2 s3 kc kn none lo hi gn),.lb [S0,S0,.b false],.lb [S0,S0,.b true],.agg [S0,S0,.b true],I k,.b true]) h [4,5] K=(∃a c d e,Zb h id 0 1=some [S a c d e]/\ ∃f g i j,Zb h id 0 1=some [S f g i j]/\ ∃l m n o q,Zk UY h 31 31 (S f g i j) (J [U s0,U s1,U s2,U s3] 1 (some 1))=some (S l m n o,q)/\ ∃r,Zi q id 0 [S l m n o]=some r/\ ∃s t u v,Zb r id 3 1=some [S s t u v]/\ ∃w x y z A,Zk UY r 33 33 (S s t u v) (J [S0] 1 (some 1))=some (S w x y z,A)/\ ∃B,Zi A id 3 [S w x y z]=some B/\K .ret 105 [.lb [J [I (c:Int)] 1 (some 1),J [I (c:Int)] 1 (some 1), .b false], .lb [S0,S0, .b true]] B):=kr
theorem Zvi{id k s0 s1 s2 s3 kc kn lo hi gn h}(K):CP UY 32 (pre (flat (ZT (post (flat (ZL (post (flat (Za Tryz.f32))))))))) (MZ 105 [0,3,4,5,12,14,15] [.p (some (id,0)),.lb (R9 k s0 s1 s2 s3 kc kn none lo hi gn),.lb [S0,S0,.b false],.lb [S0,S0,.b true],.agg [S0,S0,.b true],I k,.b false]) h [0,3,4,5,12,14,51] K=(K .normal 105 [.p (some (id,0)), .lb (R9 k s0 s1 s2 s3 kc kn none lo hi gn), .lb [S0,S0, .b false], .lb [S0,S0, .b true], .agg [S0,S0, .b true],I k, .b (k==(5:Int))] h):=kr
theorem ZPt{id k s0 s1 s2 s3 kc a lo hi gn h}(K):CP UY 32 (pre (flat (QU (post (flat (ZT (post (flat (ZL (post (flat (Za Tryz.f32)))))))))))) (MZ 105 [0,3,4,5,12,14,51] [.p (some (id,0)),.lb (R9 k s0 s1 s2 s3 kc a none lo hi gn),.lb [S0,S0,.b false],.lb [S0,S0,.b true],.agg [S0,S0,.b true],I k,.b true]) h [0,4,5,12,55,56,57] K=(K .normal 105 [.p (some (id,0)), .lb [S0,S0, .b false], .lb [S0,S0, .b false], .agg [S0,S0, .b true],J kc a none,I (a:Int),I 0] h):=kr
theorem ZPu{id kc k d e f g j a h}(K):CP UY 32 (flat (Zx (post (flat (QU (post (flat (ZT (post (flat (ZL (post (flat (Za Tryz.f32)))))))))))))) (MZ 105 [0,4,5,12,55,56,57] [.p (some (id,0)),.lb [S0,S0,.b false],.lb [J d e none,J f g none,.b j],.agg [S0,S0,.b true],J kc k none,I (k:Int),I a]) h [0,4,5,12,55,56,57] K=(If (ltI a k) ((0<=a/\a<k)/\ ∃c i l m n o q r s t u,Zr 9 (List.drop (a.toNat*9) kc)=some (R9 c i l m n o q r s t u)/\Con UY 32 [.p (some (id,0)),.agg (R9 c i l m n o q r s t u)] h fun(v:V) (G:Heap)=> ∃w x y z H N L,v=.agg [J w x y,J z H N,.b L]/\ ∃F E B,(PCon UY 72 [J d e none,J w x y] λv=>v=J F E B)/\ ∃A C D,(PCon UY 72 [J f g none,J z H N] fun(v:V)=>v=J A C D)/\If j (K .normal 105 [.p (some (id,0)), .lb [S0,S0, .b false], .lb [J F E B,J A C D, .b true], .agg [S0,S0, .b true],J kc k none,I (k:Int),I (wW (a+(1:Int)))] G) (K .normal 105 [.p (some (id,0)), .lb [S0,S0, .b false], .lb [J F E B,J A C D, .b L], .agg [S0,S0, .b true],J kc k none,I (k:Int),I (wW (a+(1:Int)))] G)) (K (.exit 1) 105 [.p (some (id,0)), .lb [S0,S0, .b false], .lb [J d e none,J f g none, .b j], .agg [S0,S0, .b true],J kc k none,I (k:Int),I a] h)):=kr
theorem Zzo{id k s0 s1 s2 s3 kc kn lo hi gn h}(K):CP UY 32 (pre (flat (ZT (post (flat (ZT (post (flat (ZL (post (flat (Za Tryz.f32)))))))))))) (MZ 105 [0,3,4,5,12,14,51] [.p (some (id,0)),.lb (R9 k s0 s1 s2 s3 kc kn none lo hi gn),.lb [S0,S0,.b false],.lb [S0,S0,.b true],.agg [S0,S0,.b true],I k,.b false]) h [0,3,4,5,14,82] K=(If (k==(4:Int)) (K .normal 105 [.p (some (id,0)), .lb (R9 k s0 s1 s2 s3 kc kn none lo hi gn), .lb [S0,S0, .b false], .lb [S0,S0, .b true],I k, .b true] h) (K .normal 105 [.p (some (id,0)), .lb (R9 k s0 s1 s2 s3 kc kn none lo hi gn), .lb [S0,S0, .b false], .lb [S0,S0, .b true],I k, .b (k==(7:Int))] h)):=kr
theorem ZI4{id k s0 s1 s2 s3 kc a lo hi gn h}(K):CP UY 32 (pre (flat (QU (post (flat (ZT (post (flat (ZT (post (flat (ZL (post (flat (Za Tryz.f32))))))))))))))) (MZ 105 [0,3,4,5,14,82] [.p (some (id,0)),.lb (R9 k s0 s1 s2 s3 kc a none lo hi gn),.lb [S0,S0,.b false],.lb [S0,S0,.b true],I k,.b true]) h [0,4,5,86,87,88] K=(K .normal 105 [.p (some (id,0)), .lb [S0,S0, .b false], .lb [S0,S0, .b true],J kc a none,I (a:Int),I 0] h):=kr
theorem ZI5{id kc k d e f g j a h}(K):CP UY 32 (flat (Zx (post (flat (QU (post (flat (ZT (post (flat (ZT (post (flat (ZL (post (flat (Za Tryz.f32))))))))))))))))) (MZ 105 [0,4,5,86,87,88] [.p (some (id,0)),.lb [S0,S0,.b false],.lb [J d e none,J f g none,.b j],J kc k none,I (k:Int),I a]) h [0,4,5,86,87,88] K=(If (ltI a k) ((0<=a/\a<k)/\ ∃c i l m n o q r s t u,Zr 9 (List.drop (a.toNat*9) kc)=some (R9 c i l m n o q r s t u)/\ ∃w x y z B O D W,(Con UY 32 [.p (some (id,0)),.agg (R9 c i l m n o q r s t u)] h fun(v:V) (A:Heap)=>v=.agg [J w x y,J z B O,.b D]/\A=W)/\ ∃P H F L N C E G,(Con UY 73 [.p (some (id,0)),.agg [J d e none,J f g none,.b j],.agg [J w x y,J z B O,.b D]] W fun(v:V) (A:Heap)=>v=.agg [J P H F,J L N C,.b E]/\A=G)/\K .normal 105 [.p (some (id,0)), .lb [S0,S0, .b false], .lb [J P H F,J L N C, .b E],J kc k none,I (k:Int),I (wW (a+(1:Int)))] G) (K (.exit 3) 105 [.p (some (id,0)), .lb [S0,S0, .b false], .lb [J d e none,J f g none, .b j],J kc k none,I (k:Int),I a] h)):=kr
theorem ZI6{id k s0 s1 s2 s3 kc kn lo hi gn h}(K):CP UY 32 (flat (ZT (post (flat (ZT (post (flat (ZT (post (flat (ZL (post (flat (Za Tryz.f32)))))))))))))) (MZ 105 [0,3,4,5,14,82] [.p (some (id,0)),.lb (R9 k s0 s1 s2 s3 kc kn none lo hi gn),.lb [S0,S0,.b false],.lb [S0,S0,.b true],I k,.b false]) h [4,5] K=(If (k==(6:Int)) (Con UY 74 [.p (some (id,0)),.agg (R9 k s0 s1 s2 s3 kc kn none lo hi gn)] h fun(v:V) (j:Heap)=> ∃a c d e f g i,v=.agg [J a c d,J e f g,.b i]/\K .ret 105 [.lb [J a c d,J e f g, .b i], .lb [S0,S0, .b true]] j) (K .normal 105 [.lb [S0,S0, .b false], .lb [S0,S0, .b true]] h)):=kr
theorem Zp7{g a c d e f h}(K):CP UY 32 ((post (flat (Za Tryz.f32))).drop 1) (MZ 105 [4,5] [.lb [S0,S0,.b g],.lb [J a c none,J d e none,.b f]]) h [4] K=(K .ret 105 [.lb [J a c none,J d e none, .b f]] h):=kr
end Go.Y
