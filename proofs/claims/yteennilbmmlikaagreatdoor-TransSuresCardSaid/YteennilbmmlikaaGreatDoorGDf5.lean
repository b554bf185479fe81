/- A part of the proof. -/
import Derived.Test.YteennilbmmlikaaGreatDoorGDf4
import Derived.Test.YteennilbmmlikaaGreatDoorYLoop
namespace Go.Y
open Go.Proofs
set_option maxRecDepth 1000000
set_option maxHeartbeats 0
theorem appR{n:Nat}{h}{a}{l:Nat}{c}{k:Nat}{r:List Int}(x:Int)(o:LN h a l c k (Xh r))(s:r.length<=256)(p: ∀j,a=some (j,0)->n<=j):
  ∃b i f g d,Zk dY_ h 32 32 (.sl a l c k) (.ts [I x] 1 (some 1))=some (.sl b i f g,d)/\LN d b i f g (Xh (r++ [x]))/\FrK 4 n h d/\ ∃j,b=some (j,0)/\h.nx<=j:=by
 obtain⟨b,i,f,g,d,t,u,v,w⟩:=appN (Y:=dY_) (st:=32) (e:=3) (te:=⟨1,8, .int .i64,[I 0]⟩) (q:=4) (n:=n) (I x) kr kr rfl dc rfl o (by simp[Xh];omega) (λm=>VA (λe=>m (by rw[e];rfl)) s) p;exact⟨b,i,f,g,d,t,by simpa[Xh]using u,v,w⟩
theorem ZNy{K:KT}{F w:Nat}{cl:List Nat}{T N:List (List Int)}{G:List Bool}{b d m:Nat}{u:Option Nat}{P:Heap}{id14:Nat}{l:List Int}{g:Option (Nat×Nat)}{t:Nat}{p:Option Nat}{q:Nat}{r:List Int}{most at_ i:Nat}{A L7 N7:V}
  (s:MkI F w cl T N G b d m u P) (hg:P.get id14=some (.arr [lst encI l] true)) (a6:F<=id14) (hT:TOk most T) (hm:most<=300) (hr:LN P g t p q (Xh r)) (hrl:r.length<256) (ha: ∀j,g=some (j,0)->F<=j)
  (D: ∀f,Zal T l=none->most<=T.length+1->K Out.ret 108 [I most,A, .lb zDfa,I 9,L7, p_P b, .sl (some (d,0)) m u 1,I at_, .sl g t p q,L7,N7,I (i:Nat)] f)
  (Z: ∀z a2 L o B y E f,Zal T l=none-> ¬most<=T.length+1->MkI F w cl (T++ [l]) N G b z a2 L f->LN f o B y E (Xh (r++ [((T.length+1:Nat):Int)]))->(∀j,o=some (j,0)->F<=j)->
   K Out.normal 108 [I most,A, .lb zDfa, .undef,L7, p_P b, .sl (some (z,0)) a2 L 1,I at_, .sl o B y E,L7,N7,I (wW ((i:Nat)+1))] f)
  (a0: ∀j o B y E f,Zal T l=some j->MkI F w cl T N G b d m u f->LN f o B y E (Xh (r++ [((j+1:Nat):Int)]))->(∀j,o=some (j,0)->F<=j)->
   K Out.normal 108 [I most,A, .lb zDfa, .undef,L7, p_P b, .sl (some (d,0)) m u 1,I at_, .sl o B y E,L7,N7,I (wW ((i:Nat)+1))] f):
  1=1/\((0:Int)<=(1:Int)/\(1:Int)<=(m:Int))/\
   Con dY_ (85:Nat) [V.sl (some (d,1)) (m-Int.toNat (1:Int)) (Option.map (fun(x:Nat)=>x-Int.toNat (1:Int)) u) 1,V.fn (Fn.func (86:Nat)) [] [p_P id14]] P fun(v:V) (f:Heap)=>
    ∃(n:Int),v=V.i IntKind.i64 n/\
     If (wW ((1:Int)+n)==(0:Int))
      (If (leI (most:Nat) (m:Int))
       (K Out.ret 108 [I most,A, .lb zDfa,I 9,L7, p_P b, .sl (some (d,0)) m u 1,I at_, .sl g t p q,L7,N7,I (i:Nat)] f)
       (∃(cs:List V) (l:Nat) (c:Option Nat),Zb f id14 0 1=some [V.ts cs l c]/\
        ∃(a:Option (Nat×Nat)) (a3:Nat) (O:Option Nat) (k:Nat) (h:Heap),Zk dY_ f 33 33 (V.sl (some (d,0)) m u 1) (V.ts [V.ts cs l c] 1 (some 1))=some (V.sl a a3 O k,h)/\
        ∃(H:Option (Nat×Nat)) (l:Nat) (c:Option Nat) (a1:Nat) (W:Heap),Zk dY_ h 32 32 (V.sl g t p q) (V.ts [V.i IntKind.i64 (m:Int)] 1 (some 1))=some (V.sl H l c a1,W)/\
        K Out.normal 108 [I most,A, .lb zDfa, .undef,L7, p_P b, .sl a a3 O k,I at_, .sl H l c a1,L7,N7,I (wW ((i:Nat)+1))] W))
      (∃(a:Option (Nat×Nat)) (l:Nat) (c:Option Nat) (k:Nat) (h:Heap),Zk dY_ f 32 32 (V.sl g t p q) (V.ts [V.i IntKind.i64 (wW ((1:Int)+n))] 1 (some 1))=some (V.sl a l c k,h)/\
       K Out.normal 108 [I most,A, .lb zDfa, .undef,L7, p_P b, .sl (some (d,0)) m u 1,I at_, .sl a l c k,L7,N7,I (wW ((i:Nat)+1))] h):=by
 have a5:m=T.length+1:=by have:=s.li.len;simpa using this
 have a7:=hT.len;subst a5;obtain⟨jj,e,_,a9,Y,_⟩:=s.li.cells sm;cases e;rw[Zmw]at Y;refine⟨rfl,⟨om,om⟩,?_⟩;have a4:=ZHg T l (λx hx=>by have:=hT.el x hx;omega) om (h:=P) (id0:=d) (o0:=1) (id:=id14) (pre:= [nilC]) (c:=Option.map (λx=>x-Int.toNat (1:Int)) u) Y rfl hg;rw[show T.length+1-Int.toNat (1:Int)=T.length from rfl];refine a4.mono λv f ⟨e1,e2⟩=> ?_;subst e2
 cases C:Zal T l with
 |some j=>
  rw[C]at e1;have b0:j<T.length:=by
   unfold Zal at C;exact(List.findIdx?_eq_some_iff_getElem.1 C).1
  have hw:wW ((1:Int)+((j:Nat):Int))=((j+1:Nat):Int):=by rw[Int.add_comm];exact Ze om
  refine⟨_,e1,Zf (λX=> ?_) (λ_=> ?_)⟩;rw[hw]at X;simp at X;omega;rw[hw];obtain⟨o,B,y,E,h3,q1,q2,q3,j',q4,q5⟩:=appR (((j+1:Nat):Int)) hr om ha;exact⟨o,B,y,E,h3,q1,a0 j _ _ _ _ _ C (s.row q3) q2 (λi e=>by rw[q4]at e;cases e;have:=s.n0;omega)⟩
 |none=>
  rw[C]at e1;have hw:wW ((1:Int)+(-1))=0:=dc;refine⟨_,e1,Zf (λ_=> ?_) (λX=> ?_)⟩;refine JU (λb1=>D _ C om) (λa8=> ?_);obtain⟨b2,B,y,h3,q1,q2,q3⟩:=s.list l om hr om;obtain⟨o,l2,c2,k2,h4,p1,p2,p3,j',p4,p5⟩:=appR (((T.length+1:Nat):Int)) q3 om ha;exact⟨_,_,_,by rw[Zr hg];rfl,_,_,_,_,h3,q1,o,l2,c2,k2,h4,p1,Z _ _ _ _ _ _ _ _ C om (q2.row p3) p2 (λi e=>by rw[p4]at e;cases e;have:=q2.n0;omega)⟩;rw[hw]at X;simp at X
theorem ZL{h:Heap}{id off:Nat}{cs new:List V}(a:h.get id=some (.arr cs true))(b:off+new.length<=cs.length):Zi h id off new=some (h.set id (some (.arr (splice cs off new) true))):=by simp only[Zi,a];rw[uF b]
theorem ZS7(a:List Nat)(h:a.length=256)(x y z:V):splice (clsI a++ [x,y]) 256 [z]=clsI a++ [z,y]:=by
 have:=Zj8 (clsI a) x z [y]
 rwa [show(clsI a).length=256 by simp[clsI,h]]at this
theorem ZNz(a:List Nat)(h:a.length=256)(x y z:V):splice (clsI a++ [x,y]) 257 [z]=clsI a++ [x,z]:=by have:=Zj8 (clsI a++ [x]) y z [];rw[show(clsI a++ [x]).length=257 by simp[clsI,h]]at this;simpa using this
theorem ZHk{h:Heap}{b:Nat}{a:List Nat}{x y:V}(c:h.get b=some (.arr (clsI a++ [x,y]) true))(d:a.length=256):Zb h b 256 1=some [x]/\Zb h b 257 1=some [y]:=by
 have e:(clsI a).length=256:=by simp[clsI,d]
 constructor;rw[Zr c,List.drop_append,e,qB om];rfl;rw[Zr c,List.drop_append,e,qB om];rfl
theorem frK5{h:Heap}{c:Nat}{d:List Nat}{x y:V}{o:Option YObj}(f:h.get c=some (.arr (clsI d++ [x,y]) true))(g:d.length=256):FrK 5 0 h (h.set c o):=
 ⟨qnq _,λj i wr k a b=>by
  by_cases e:j=c;subst e;rw[f]at a;cases a;rcases b with b|b;exact absurd (Zmx g x y) b;omega
  .rw[qc,uE e]⟩
theorem ZS8{n0 w:Nat}{u:List Nat}{T N:List (List Int)}{G:List Bool}{f H l9:Nat}{c9:Option Nat}{h:Heap}{j:Option (Nat×Nat)}{d:Nat}{p:Option Nat}{K:Nat}{r:List Int}
  (s:MkI n0 w u T N G f H l9 c9 h) (hr:LN h j d p K (Xh r)) (hrl:r.length=w) (hN:N.length<2 ^ 20):
  ∃(a:Option (Nat×Nat)) (l:Nat) (c:Option Nat) (k:Nat),Zb h f 256 1=some [V.sl a l c k]/\ ∃(m:Option (Nat×Nat)) (O:Nat) (t:Option Nat) (L:Nat) (y:Heap),
   Zk dY_ (h.push (YObj.arr [V.sl j d p K] true)) 33 33 (V.sl a l c k) (V.sl (some (h.nx,0)) 1 (some 1) 1)=some (V.sl m O t L,y)/\
   ∃(v:Heap),Zi y f 256 [V.sl m O t L]=some v/\MkI v.nx w u T (N++ [r]) G f H l9 c9 v:=by
 obtain⟨an,ln,cn,kn,P,lg,W,kg,cells,h1,v,h3,h4⟩:=s.ex;have hw:=s.w;rcases hr with ⟨_,_,he⟩|⟨Z,rfl,rfl,rfl,hj,A,a4,a3⟩
 .exfalso;have:r= []:=by cases r with|nil=>rfl|cons x r=>simp[Xh]at he
  subst this;simp at hrl;omega
 have D:d=w:=by rw[a3];simp[Xh,hrl]
 subst D;obtain⟨a',l',c',k',b,q1,q2,g,j',q4,q5⟩:=ZS4 (Y:=dY_) (st:=33) (e:=32) (te:=⟨1,24, .slice 3,[.sl none 0 (some 0) 0]⟩) (q:=2) (n:=0) (.sl (some (Z,0)) d none 1) kr kr rfl dc rfl v (by rw[h3.1];omega) h3.kind (λ_ _=>qx _);have z:b.get f=some (.arr (clsI u++ [.sl an ln cn kn, .sl P lg W kg]) true):=by rw[g.keep _ _ _ s.l8 h1 (.inl (by rw[Zmx s.cl];decide)),h1]
 have E:(clsI u++ [V.sl an ln cn kn, .sl P lg W kg]).length=258:=by simp[clsI,s.cl]
 refine⟨an,ln,cn,kn,(ZHk h1 s.cl).1,a',l',c',k',b,q1,_,ZL z (by rw[E];simp),?_⟩;rw[ZS7 _ s.cl];have X:=frK5 (o:=some (.arr (clsI u++ [.sl a' l' c' k', .sl P lg W kg]) true)) z s.cl;have i:NestZ b.nx d b cells N:=(h3.keep g hw (.inl dc)).more (uu s.n0 g.nx);have B:b.get Z=some (.arr (Xh r) true):=by rw[g.keep _ _ _ hj A (.inl (by rw[VA (λe=>by rw[e]at hrl;simp at hrl;omega) om];decide)),A]
 have C:Z<b.nx:=qv hj g.nx;have F:=i.snoc hrl B (qnq _) C C;have a2:=(s.li.keepK g dc).keepK X dc;have a0:=(h4.keep g (.inl (h4.kindne (Zif G) dc dc))).keep X (.inl (h4.kindne (Zif G) dc dc));have a1:Zbc (cells++ [V.sl (some (Z,0)) d none 1])=2:=F.kind sm;exact⟨⟨a',l',c',k',P,lg,W,kg,_,by rw[qc,uF rfl],q2.keep X (.inl (by rw[a1];decide)),F.keep X hw (.inl dc),a0⟩,a2,by rw[Heap.nx_set];exact qv s.l8 g.nx,qnq _,s.cl,hw⟩
theorem ZN0{n0 w:Nat}{j}{T N:List (List Int)}{G:List Bool}{d u l9:Nat}{c9}{h}(s:MkI n0 w j T N G d u l9 c9 h)(hG:G.length<2 ^ 20):
  ∃(a:Option (Nat×Nat)) (l:Nat) (c:Option Nat) (k:Nat),Zb h d 257 1=some [V.sl a l c k]/\ ∀b,∃(g:Option (Nat×Nat)) (x:Nat) (i:Option Nat) (v:Nat) (p:Heap),Zk dY_ h 96 96 (V.sl a l c k) (V.ts [V.b b] 1 (some 1))=some (V.sl g x i v,p)/\
   ∃(K:Heap),Zi p d 257 [V.sl g x i v]=some K/\MkI K.nx w j T N (G++ [b]) d u l9 c9 K:=by
 obtain⟨y,C,z,B,E,lg,H,kg,cells,L,O,P,h4⟩:=s.ex;have Z:=s.w;refine⟨E,lg,H,kg,(ZHk L s.cl).2,λb=> ?_⟩;obtain⟨D,l',F,k',m,q1,q2,f,j',q4,q5⟩:=appN (Y:=dY_) (st:=96) (e:=4) (te:=⟨1,1, .bool,[.b false]⟩) (q:=3) (n:=0) (.b b) kr kr rfl dc rfl h4 (by simp;omega) (Zif G) (λ_ _=>qx _);have r:m.get d=some (.arr (clsI j++ [.sl y C z B, .sl E lg H kg]) true):=by rw[f.keep _ _ _ s.l8 L (.inl (by rw[Zmx s.cl];decide)),L]
 have t:(clsI j++ [V.sl y C z B, .sl E lg H kg]).length=258:=by simp[clsI,s.cl]
 refine⟨D,l',F,k',m,q1,_,ZL r (by rw[t];simp),?_⟩;rw[ZNz _ s.cl];have A:=frK5 (o:=some (.arr (clsI j++ [.sl y C z B, .sl D l' F k']) true)) r s.cl;have e2:G.map V.b++ [V.b b]=(G++ [b]).map V.b:=sm;rw[e2]at q2;have W:=(s.li.keepK f dc).keepK A dc;have hnx:=(O.keep f (.inl (O.kindne P.kind dc dc))).keep A (.inl (O.kindne P.kind dc dc));have X:=((P.keep f Z (.inl dc)).keep A Z (.inl dc)).more (uu s.n0 f.nx);exact⟨⟨y,C,z,B,D,l',F,k',cells,by rw[qc,uF rfl],hnx,X,q2.keep A (.inl (q2.kindne (Zif _) dc dc))⟩,W,by rw[Heap.nx_set];exact qv s.l8 f.nx,qnq _,s.cl,Z⟩
def dfaC(a:List Nat)(N:List (List Int))(G:List Bool):List V:=clsI a++ [lst Xk N,lst Zl G]
def zDfaF:List V:=List.replicate 256 (.i .i64 0)++ [.ts [] 0 none, .ts [] 0 none]
def Zmz(a:Au)(most:Nat)(b le:List Nat):V:=match Jd a most le (most+1) 0 [] [] [] with
 |some (N,G)=> .tup [.agg (dfaC b N G), .i .i64 0]
 |none=> .tup [.agg zDfaF, .i .i64 9]
def Ztu(a:Au)(most:Nat):V:=Zmz a most (srtS a.sets 256).1 (srtS a.sets 256).2
theorem ZD5{l:List (Nat×V)}(a:List V)(h:a.length=258)(e:Int)(d:Zbw l 4=some (.lb a))(f:Zbw l 5=some (I e)):resV dY_ Tryz.f38 l=some (.tup [.agg a,I e]):=by
 have g:Tryz.f38.results.toList= [.cell 4 98, .tmp 5]:=kr;have i:dY_.ty 98=some (TI.mk 258 2096 (.struct [(0,95),(256,33),(257,96)]) zDfa):=kr;have b:Zd4 dY_ l (.cell 4 98)=some (.agg a):=by
  simp only[Zd4,i,d];show(Zs 258 a).bind _=_;rw[ZC h.symm];rfl
 have c:Zd4 dY_ l (.tmp 5)=some (I e):=by simp only[Zd4,f];rfl
 unfold resV;rw[g,Zd5,Zd5,Zd5,b,c]
theorem Qc:zDfa.length=258:=by unfold zDfa;simp
theorem ZD6(h): ∀n:Nat,FrzL h (List.replicate n (I 0)) (List.replicate n (I 0))
 |0=> .nil
 |n+1=>by rw[uZ];exact .cons _ _ _ _ (.i _ _) (ZD6 h n)
theorem ZBt(h):FrzL h zDfa zDfaF:=(ZD6 h 256).append (.cons _ _ _ _ (.sln _ _ none (λx a=>by cases a)) (.cons _ _ _ _ (.sln _ _ none (λx a=>by cases a)) .nil))
theorem Zm0(h): ∀G:List Bool,FrzL h (G.map V.b) (row Zl G)
 | []=> .nil
 |b::G=> .cons _ _ _ _ (.b _) (Zm0 h G)
theorem LN.frz{h}{a}{l:Nat}{c}{k:Nat}{cells b:List V}(o:LN h a l c k cells)(e:FrzL h cells b){n:Nat}(g:n=cells.length):Frz h (.sl a l c k) (.ts b n none):=by subst g;rcases o with ⟨rfl,rfl,rfl⟩|⟨j,rfl,rfl,rfl,i,f,m,rfl⟩;cases e;exact .sln _ _ none (λx d=>by cases d);exact .sl _ _ _ _ _ _ true _ _ _ f (by rw[ql];exact ZC sm) (λx d=>by cases d) dc e
theorem MkI.frz{n w:Nat}{b}{T N:List (List Int)}{G}{a e m:Nat}{c9}{h}(s:MkI n w b T N G a e m c9 h):
  ∃c,c.length=258/\Zp c=true/\h.get a=some (.arr c true)/\FrzL h c (dfaC b N G):=by
 obtain⟨p,A,r,u,o,z,q,t,cells,g,i,f,j⟩:=s.ex;refine⟨_,by simp[clsI,s.cl],?_,g,(frzN h b).append (.cons _ _ _ _ (i.frz f.frz f.1.symm) (.cons _ _ _ _ (j.frz (Zm0 h G) sm) .nil))⟩;have: ∀(x y:List V),Zp x=true->Zp y=true->Zp (x++y)=true:=by
  intro x
  induction x with
  |nil=>exact λy _ h=>h
  |cons v x l=>
   intro y d k;simp only[Zp,qrq,qs]at d ⊢;exact⟨d.1,l y d.2 k⟩
 exact this _ _ (allI b) rfl
theorem getU(l:List Nat){i:Nat}(h:i<l.length):Zs 1 (List.drop ((i:Int).toNat*1) (row encU l))=some [.i .u8 (l[i]:Nat)]:=by
 rw[qdq];exact Xw (f:=encU) (k:=1) Zez h
theorem Zm1(n:Nat)(h:n=258):zDfa.drop n= []:=qB (by rw[Qc];omega)
theorem splz(a:List V)(h:a.length=256):splice zDfa 0 a=a++ [nilC,nilC]:=by
 rw[Qv,h];unfold zDfa;rw[List.drop_append,qB sm]
 rfl
theorem ZS9(a:List Nat):Zp (clsI a++ [nilC,nilC])=true:=by
 induction a with
 |nil=>rfl
 |cons k r b=>simp only[clsI,qz,qs,Zp,qrq];exact⟨rfl,b⟩
theorem ZHl{d:List Nat}(c:d.length=256){w:Nat}(n:0<w/\w<=256)(t1 t2:Option TypeId){K:List V->Heap->Nat->Heap->Prop}
  (l: ∀f g,MkI (g.nx+1) w d [] [] [] f g.nx 1 (some 1) (g.push (.arr [nilC] true))->K (clsI d++ [nilC,nilC]) Heap.empty f g):
  ∃b,Zi (Heap.empty.pushT t1 (.arr (List.replicate 256 (I 0)) true)) Heap.empty.nx 0 (clsI d)=some b/\ ∃i,Zb b Heap.empty.nx 0 256=some i/\ ∃a,Zvf dY_ 98 0 256 i=some a/\If (decide (a.length=258)&&Zp a)
   (∃h,Zi (b.pushT t2 (.arr zDfa true)) b.nx 0 a=some h/\K a Heap.empty b.nx h) False:=by
 have e:(clsI d).length=256:=by simp[clsI,c]
 have m:dY_.ty 98=some (TI.mk 258 2096 (.struct [(0,95),(256,33),(257,96)]) zDfa):=kr;have j:(Heap.empty.pushT t1 (.arr (List.replicate 256 (I 0)) true)).get Heap.empty.nx=some (.arr (List.replicate 256 (I 0)) true):=by rw[qj,uF rfl]
 refine⟨_,ZL j (by rw[e];simp),clsI d,?_,clsI d++ [nilC,nilC],?_,ifT ?_ ?_⟩;rw[Zr (by rw[qc,uF rfl]),ql,Qv,e,qB sm,qi];exact ZC e.symm;unfold Zvf;rw[m];simp only[];rw[uF ⟨e,by rw[e,Qc];omega,allI d⟩,splz _ e];rw[ZS9];simp[clsI,c]
 .have k: ∀(h:Heap),(h.pushT t2 (.arr zDfa true)).get h.nx=some (.arr zDfa true):=λh=>by rw[qj,uF rfl]
  refine⟨_,ZL (k _) (by rw[Qc];simp[clsI,c]),l _ _ ⟨⟨none,0,some 0,0,none,0,some 0,0,[],?_,LN.nil _ _ _,NestZ.nil _ _ _,LN.nil _ _ _⟩,?_,?_,?_,c,n⟩⟩
  .rw[qk,uE sm,qc,uF rfl]
   congr 2
   rw[Qv,Zm1 _ (by simp[clsI,c]),qi]
  .exact LX.one (λv:V=> [v]) 1 _ nilC
  .simp
  .simp
def MkO(a:Au)(most:Nat)(f le:List Nat)(m:Nat)(j:List V)(h:Heap):Prop:=
 ∃(at_ g:Nat) (T N:List (List Int)) (G:List Bool) (b c e:Nat) (d:Option Nat),j= [.i .i64 (most:Nat), .lb (auC a), .lb zDfa,lst encU le, p_P b, .sl (some (c,0)) e d 1, .i .i64 (at_:Nat)]/\
  MkI g le.length f T N G b c e d h/\TOk most T/\N.length=at_/\G.length=at_/\at_<=T.length+1/\m+at_=most+1/\Jd a most le (most+1) 0 [] [] []=Jd a most le m at_ T N G
def MkN(a:Au)(most:Nat)(p le:List Nat)(at_ o:Nat)(T N:List (List Int))(G:List Bool)(d:Nat)(m:Nat)(q:List V)(h:Heap):Prop:=
 ∃(i:Nat) (k:List (List Int)) (r:List Int) (e n:Nat) (l:Option Nat) (b:Option (Nat×Nat)) (g:Nat) (c:Option Nat) (f:Nat),
  q= [.i .i64 (most:Nat), .lb (auC a), .lb zDfa,lst encU le, p_P d, .sl (some (e,0)) n l 1, .i .i64 (at_:Nat), .sl b g c f,lst encU le, .i .i64 (le.length:Nat), .i .i64 (i:Nat)]/\
  MkI o le.length p k N G d e n l h/\LN h b g c f (Xh r)/\(∀j,b=some (j,0)->o<=j)/\r.length=i/\i<=le.length/\TOk most k/\at_<k.length+1/\m=le.length-i/\
  rowD a most at_ le T []=rowD a most at_ (le.drop i) k r
theorem ZN1{a:Au}{most:Nat}{f le:List Nat}{at_ mm g:Nat}{T N:List (List Int)}{G:List Bool}{b c e:Nat}{d:Option Nat}{h:Heap}{id:Nat}{rr:List Code}{Q:Out->St->Prop}(m:at_<2 ^ 20)
  (s:MkI g le.length f T N G b c e d h) (l:TOk most T) (k:N.length=at_+1) (j:G.length=at_+1) (i:at_+1<=T.length+1) (n:mm+(at_+1)=most+1) (o:Jd a most le (most+1) 0 [] [] []=Jd a most le mm (at_+1) T N G):
  TriL dY_ ((post (lp_ B_38)).drop 1) ⟨mk 108 ([1,2,4,7,8,9,10].zip [I most, .lb (auC a), .lb zDfa,lst encU le, p_P b, .sl (some (c,0)) e d 1,I at_]),[],h⟩
   (VQ [1,2,4,5,7,8,9,10] (XF dY_ 108 [1,2,4,5,7,8,9,10] [1,2,4,7,8,9,10] (MkO a most f le) (mm+1) id rr Q)):=by
 refine Zjl dK_ ZNw rfl ?_;refine λq p=>Zji p rfl rfl rfl mm om ⟨at_+1,g,T,N,G,b,c,e,d,by rw[Ze om];rfl,s,l,k,j,i,n,o⟩
theorem ZD7(hs:ZQ UY.P 75)(d2:ZE UY.P 76){a}(ha:OkA a)(most:Nat)(f0:1<=most)(hm:most<=300):PCon UY 38 [.agg (auC a),I most] (· =Ztu a most):=by
 refine PCon.dz ?_;refine ZF dK_ (fn:=Tryz.f38) rfl ?_;refine Zh dK_ 108 ZNr rfl ?_;have a6:=may7 a ha.small;rw[ha.may]at a6;have E:=Ztt a ha.nsets;unfold Zgn at E;have d:=JQ a.sets 256;have Y:=Zx5 a.sets 256;have Z:=Zmv a.sets 256 dc;unfold Ztu;revert E d Y Z;generalize srtS a.sets 256=p;obtain⟨F,le⟩:=p;intro E d Y Z;simp only[]at E d Y Z;have c0:clsC F=clsI F:=by unfold clsC;rw[d.1];simp
 rw[c0]at E;refine⟨true,PCon.zd a6,ifF rfl ⟨clsI F,_,_,_,PCon.zd E,ifT ?_ ?_⟩⟩;rw[allI];simp[clsI,d.1];have b8:((fun(x y:Int)=>if y<x then y else x) ((fun(x y:Int)=>if y>x then y else x) (most:Int) (1:Int)) (300:Int))=(most:Int):=by
  simp only[];rw[show(if(1:Int)>(most:Int)then(1:Int)else(most:Int))=(most:Int) by split<;>omega]
  split<;>omega
 rw[b8];refine ZHl d.1 (w:=le.length) ⟨Z,d.2⟩ (dY_.tag 95) (dY_.tag 98) (K:=λ_ _ o h9=>PreV dY_ 108 [1,2,4,5,7,8,9,10] (post B_38) (FinS dY_ Tryz.f38 λv h=> ∃r,Frz h v r/\r=Zmz a most F le) .normal 108
  [I most, .lb (auC a), .lb zDfa,I 0,lst encU le, p_P o, .sl (some (h9.nx,0)) 1 (some 1) 1,I 0] (h9.push (.arr [nilC] true))) λo h9 hI=> ?_
 refine⟨rfl,ZM [1,2,4,7,8,9,10] [1,2,4,5,7,8,9,10] (MkO a most F le) (most+1) ZA ⟨0,_,[],[],[],o,_,_,_,rfl,hI,⟨by simp;omega,sm⟩,rfl,rfl,sm,om,rfl⟩ ?_⟩;rintro m vs h ⟨at_,n0,T,N,G,o,d7,l9,c9,rfl,hI,hT,hN,hG,e5,f1,hp⟩;have e4:=hT.len;have e7:l9=T.length+1:=by have:=hI.li.len;simpa using this
 refine Zh dK_ 108 ZNs rfl ?_;refine Zq (λe8=>⟨rfl,QX (n:=108) [1,2,4,5,7,8,9,10] kr ?_⟩) (λe6=> ?_)
 .refine Zh dK_ 108 ZNt rfl ?_;obtain⟨mm,rfl⟩: ∃mm,m=mm+1:=⟨m-1,om⟩;refine⟨rfl,ZM [1,2,4,7,8,9,10,11,37,38,39] [1,2,4,5,7,8,9,10,11,37,38,39] (MkN a most F le at_ h.nx T N G o) le.length ZA ⟨0,T,[],d7,l9,c9,none,0,some 0,0,rfl,hI.more,LN.nil _ _ _,(λj e=>by cases e),rfl,qx _,hT,om,om,rfl⟩ ?_⟩;rintro m1 f2 H ⟨i,c,r,f,a0,a7,c7,d9,c8,d8,rfl,L,hr,d1,hrl,hi,s,b9,rfl,C⟩;have e3:a0=c.length+1:=by have:=L.li.len;simpa using this
  refine Zm dK_ ZNu rfl ?_;refine Zq (λB=> ?_) (λe2=> ?_)
  .have hc:le[i]<256:=Y _ (qe B);have u:le.drop i=le[i]::le.drop (i+1):=uM B;have d4: ∀(t:Option TypeId),(H.pushT t (.arr [nilC] true)).get H.nx=some (.arr [nilC] true):=λt=>by rw[qj,uF rfl]
   refine⟨Zu B,_,getU le B,_,_,_,PCon.zd (ZHc ha _ hc),_,ZL (d4 _) sm,?_⟩;have a3: ∀g:Heap,g.get H.nx=some (.arr [lst encI (stD a at_ c le[i])] true)->H.nx<=g.nx->(∀j,j<H.nx->g.get j=H.get j)->MkI h.nx le.length F c N G o f a0 a7 g/\LN g c7 d9 c8 d8 (Xh r):=λg W g2 g3=>
    ⟨L.row (FrK.of g2 g3),hr.keep (FrK.of (q:=9) (n:=0) g2 g3) (.inl (by
     by_cases e:r= [];subst e;decide
     .rw[VA e (by have:=d.2;omega)];decide))⟩
   have b3:Jd a most le (mm+1) at_ T N G=match rowD a most at_ (le.drop i) c r with
     |none=>none
     |some (T',r)=>Jd a most le mm (at_+1) T' (N++ [r]) (G++ [Zec a at_ T']):=by
    rw[Jd,uF om,C];cases rowD a most at_ (le.drop i) c r<;>rfl
   rw[b3,u,rowD]at hp;have d6:=Zx7 ha at_ c le[i];have D:=fun(g:Heap) (W:g.get H.nx=some (.arr [lst encI (stD a at_ c le[i])] true)) (g2:H.nx<=g.nx) (g3: ∀j,j<H.nx->g.get j=H.get j)=>
    ZNy (K:=XF dY_ 108 [1,2,4,5,7,8,9,10,11,37,38,39] [1,2,4,7,8,9,10,11,37,38,39] (MkN a most F le at_ h.nx T N G o) (le.length-i) (Xb (post (bk_ (lp_ B_38)))) ((post (bk_ (lp_ B_38))).drop 1)
      (VQ [1,2,4,5,7,8,9,10] (Zd6 dY_ 108 [1,2,4,5,7,8,9,10] (JV (post (lp_ B_38))) ((post (lp_ B_38)).drop 1) (VQ [1,2,4,5,7,8,9,10] (XF dY_ 108 [1,2,4,5,7,8,9,10] [1,2,4,7,8,9,10] (MkO a most F le) (mm+1) (Xb (post B_38)) ((post B_38).drop 1) (FinS dY_ Tryz.f38 λv h=> ∃r,Frz h v r/\r=Zmz a most F le))))))
     (A:= .lb (auC a)) (L7:=lst encU le) (N7:= I (le.length:Nat)) (at_:=at_) (i:=i) (most:=most) (l:=stD a at_ c le[i]) (id14:=H.nx) (a3 g W g2 g3).1 W L.n0 s hm (a3 g W g2 g3).2 (by have:=d.2;omega) d1
     (λh' hf b2=>by
      rw[hf]at hp;simp only[]at hp;rw[uF b2]at hp;refine ZR rfl (ZR rfl (Xc (v:= .tup [.agg zDfa,I 9]) (.inr rfl) (ZD5 zDfa Qc 9 rfl rfl) ⟨_, .tup _ _ (.cons _ _ _ _ (.agg _ _ (ZBt _)) (.cons _ _ _ _ (.i _ _) .nil)),?_⟩));unfold Zmz;rw[hp])
     (λc6 e0 d0 a' l' c' k' h' hf b2 sI sr sa=>by
      have z:rowD a most at_ (le.drop i) c r=rowD a most at_ (le.drop (i+1)) (c++ [stD a at_ c le[i]]) (r++ [((c.length+1:Nat):Int)]):=by
       rw[u,rowD,hf];simp only[];rw[uE b2]
      refine⟨rfl,le.length-(i+1),om,i+1,c++ [stD a at_ c le[i]],r++ [((c.length+1:Nat):Int)],c6,e0,d0,a',l',c',k',by rw[Ze (by have:=d.2;omega)];rfl,sI,sr,sa,by simp[hrl],om,⟨by simp;omega,λx hx=> ?_⟩,by simp;omega,rfl,by rw[C,z]⟩;rcases qA.1 hx with hx|hx;exact s.el x hx
      .simp at hx;subst hx;exact d6)
     (λj a' l' c' k' h' hf sI sr sa=>by
      have z:rowD a most at_ (le.drop i) c r=rowD a most at_ (le.drop (i+1)) c (r++ [((j+1:Nat):Int)]):=by
       rw[u,rowD,hf]
      exact⟨rfl,le.length-(i+1),om,i+1,c,r++ [((j+1:Nat):Int)],f,a0,a7,a',l',c',k',by rw[Ze (by have:=d.2;omega)];rfl,sI,sr,sa,by simp[hrl],om,s,b9,rfl,by rw[C,z]⟩)
   refine Zq (a:=0) (λh0=> ?_) (λh0=> ?_)
   .have b5:stD a at_ c le[i]=WN a (c.getD (at_-1) []) le[i]:=by unfold stD;rw[uF h0]
    obtain⟨jj,e,_,d5,O,_⟩:=L.li.cells sm;cases e;rw[Zmw]at O;have d3:(c.getD (at_-1) []).length<=300:=by
     rw[qw,qo om];exact s.el _ (qe _)
    have a9: ∀g:Heap,g.get f=H.get f->Zb g f (0+(at_:Int).toNat*1) 1=some [lst encI (c.getD (at_-1) [])]:=λg e=>by
     rw[Zr (by rw[e];exact O),qdq];obtain⟨k,rfl⟩: ∃k,at_=k+1:=⟨at_-1,om⟩;have hk:k<c.length:=om;rw[show 0+(k+1)*1=k+1 from om,List.drop_succ_cons,uM (su hk)];simp[Zs,hk]
    refine⟨⟨om,om⟩,rfl,_,_,_,a9 _ (by rw[qc,uE om,qj,uE om]),_,_,_,PCon.zd (ZNg hs d2 ha (c.getD (at_-1) []) le[i] hc om),_,ZL (by rw[qc,uF rfl]) (by simp[splice]),?_⟩;rw[b5]at D;exact D _ (by rw[qc,uF rfl];rfl) sm (λj hj=>by rw[qc,uE om,qc,uE om,qj,uE om])
   .have b5:stD a at_ c le[i]=havL a.sets a.first le[i]:=by unfold stD;rw[uE om]
    rw[b5]at D;exact D _ (by rw[qc,uF rfl];rfl) sm (λj hj=>by rw[qc,uE om,qj,uE om])
  .have he:i=le.length:=om;subst he;have b4:rowD a most at_ le T []=some (c,r):=by rw[C,List.drop_length,rowD]
   have b3:Jd a most le (mm+1) at_ T N G=Jd a most le mm (at_+1) c (N++ [r]) (G++ [Zec a at_ c]):=by
    rw[Jd,uF om,b4]
   rw[b3]at hp;have e1:=s.len;refine Zj [1,2,4,7,8,9,10,11] ?_;refine Zjl dK_ ZNv rfl ?_;obtain⟨a1,l1,c1,k1,p1,a2,l2,c2,k2,g,p2,h3,p3,s3⟩:=ZS8 L hr hrl om;obtain⟨a4,l4,c4,k4,p4,s4⟩:=ZN0 s3 om;have a8:=fun(b:Bool) (h':Heap) (eb:b=Zec a at_ c) (sI:MkI h'.nx le.length F c (N++ [r]) (G++ [b]) o f a0 a7 h')=>
    ZN1 (at_:=at_) (mm:=mm) (id:=Xb (post B_38)) (rr:=(post B_38).drop 1) (Q:=FinS dY_ Tryz.f38 λv h=> ∃r,Frz h v r/\r=Zmz a most F le) om sI s (by simp[hN]) (by simp[hG]) om om (by rw[hp,eb])
   refine⟨a1,l1,c1,k1,p1,a2,l2,c2,k2,g,p2,h3,p3,a4,l4,c4,k4,p4,?_⟩;have b7: ∀k,at_=k+1->Zb h3 f (0+(at_:Int).toNat*1) 1=some [lst encI (c.getD (at_-1) [])]:=λk e=>by
    obtain⟨jj,e9,_,d5,O,_⟩:=s3.li.cells sm;cases e9;rw[Zmw]at O;rw[Zr O,qdq];subst e;have hk:k<c.length:=om;rw[show 0+(k+1)*1=k+1 from om,List.drop_succ_cons,uM (su hk)];simp[Zs,hk]
   have d3:(c.getD (at_-1) []).length<=300:=by
    by_cases hk:at_-1<c.length;rw[qw,qo hk];exact s.el _ (qe _);simp[qw,qq (Nat.le_of_not_lt hk)]
   have c3:=PCon.zd (ZNh ha (c.getD (at_-1) []) om);rcases Nat.eq_zero_or_pos at_ with h0|h0;subst h0;refine ifT rfl ?_;have X:Zec a 0 c=a.empty:=rfl;refine Zf (λb0=> ?_) (λb0=>ifF rfl ?_);obtain⟨a5,l5,c5,k5,h5,p5,h6,p6,p7⟩:=s4 true;exact⟨a5,l5,c5,k5,h5,p5,h6,p6,λb6 ht=>Zfq (sl':= [1,2,4,7,8,9,10]) ht rfl rfl rfl (a8 true h6 (by rw[X,b0]) p7)⟩;obtain⟨a5,l5,c5,k5,h5,p5,h6,p6,p7⟩:=s4 false;exact⟨a5,l5,c5,k5,h5,p5,h6,p6,λb6 ht=>Zfq (sl':= [1,2,4,7,8,9,10]) ht rfl rfl rfl (a8 false h6 (by rw[X,b0]) p7)⟩
   .refine ifF (by simp;omega) ?_;have X:Zec a at_ c=Zb3 a (c.getD (at_-1) []):=by unfold Zec;rw[uE om]
    refine Zq (a:=0) (λ_=> ?_) (λh=>om);obtain⟨a5,l5,c5,k5,h5,p5,h6,p6,p7⟩:=s4 (Zb3 a (c.getD (at_-1) []));exact⟨⟨om,om⟩,rfl,_,_,_,b7 (at_-1) om,_,c3,a5,l5,c5,k5,h5,p5,h6,p6,λb6 ht=>Zfq (sl':= [1,2,4,7,8,9,10]) ht rfl rfl rfl (a8 _ h6 X.symm p7)⟩
 .refine Zvp λb6 ht=>Vo [4,8] ht rfl rfl rfl rfl ?_;refine Zo dK_ ZNx rfl ?_;obtain⟨cs,W,g2,g3,g4⟩:=hI.frz;refine⟨cs,(by rw[Zr g3,ql];exact ZC W.symm),ifT ?_ ?_⟩;rw[g2,Qc];simp[W]
  .have e:splice zDfa 0 cs=cs:=by rw[Qv,Zm1 _ W,qi]
   rw[e];refine⟨.inr rfl,_,ZD5 cs W 0 rfl rfl,_, .tup _ _ (.cons _ _ _ _ (.agg _ _ g4) (.cons _ _ _ _ (.i _ _) .nil)),?_⟩;obtain⟨mm,rfl⟩: ∃mm,m=mm+1:=⟨m-1,om⟩;have b1:Jd a most le (mm+1) at_ T N G=some (N,G):=by rw[Jd,uE om]
   rw[b1]at hp;unfold Zmz;rw[hp]
end Go.Y
