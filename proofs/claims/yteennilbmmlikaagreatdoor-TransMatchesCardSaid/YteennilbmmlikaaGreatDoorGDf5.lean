/- A part of the proof. -/
import Derived.Test.YteennilbmmlikaaGreatDoorGTrO
import Derived.Test.YteennilbmmlikaaGreatDoorGDf1
import Derived.Test.YteennilbmmlikaaGreatDoorYAny3
import Derived.Test.YteennilbmmlikaaGreatDoorYLoop
namespace Go.Y
open Go.Proofs
set_option maxRecDepth 1000000
set_option maxHeartbeats 0
theorem appR{n:Nat}{h}{a}{l:Nat}{c}{k:Nat}{r:List Int}(x:Int)(o:LN h a l c k (Xj r))(hr:r.length<=256)(y: ∀j,a=some (j,0)->n<=j):
  ∃f g t m d,Zk Tryd.Y h 32 32 (.sl a l c k) (.ts [I x] 1 (some 1))=some (.sl f g t m,d)/\LN d f g t m (Xj (r++ [x]))/\FrK 4 n h d/\ ∃j,f=some (j,0)/\h.nx<=j:=by
 obtain⟨f,g,t,m,d,w,v,z,A⟩:=appN (Y:=Tryd.Y) (st:=32) (e:=3) (te:=⟨1,8, .int .i64,[I 0]⟩) (q:=4) (n:=n) (I x) kr kr rfl dc rfl o (by simp[Xj];omega) (λu=>Vx (λe=>u (by rw[e];rfl)) hr) y;exact⟨f,g,t,m,d,w,by simpa[Xj]using v,z,A⟩
theorem ZMq{K:KT}{O w:Nat}{cl:List Nat}{T N:List (List Int)}{G:List Bool}{f d o:Nat}{B:Option Nat}{h2:Heap}{id14:Nat}{l:List Int}{m:Option (Nat×Nat)}{y:Nat}{t:Option Nat}{z:Nat}{r:List Int}{most at_ i:Nat}{A L7 N7:V}
  (s:MkI O w cl T N G f d o B h2) (hg:h2.get id14=some (.arr [lst encI l] true)) (b3:O<=id14) (hT:TOk most T) (hm:most<=300) (hr:LN h2 m y t z (Xj r)) (hrl:r.length<256) (ha: ∀j,m=some (j,0)->O<=j)
  (F: ∀g,Zce T l=none->most<=T.length+1->K Out.ret 108 [I most,A, .lb zDfa,I 9,L7, .p (some (f,0)), .sl (some (d,0)) o B 1,I at_, .sl m y t z,L7,N7,I (i:Nat)] g)
  (a2: ∀E a0 a5 u C D L g,Zce T l=none-> ¬most<=T.length+1->MkI O w cl (T++ [l]) N G f E a0 a5 g->LN g u C D L (Xj (r++ [((T.length+1:Nat):Int)]))->(∀j,u=some (j,0)->O<=j)->
   K Out.normal 108 [I most,A, .lb zDfa, .undef,L7, .p (some (f,0)), .sl (some (E,0)) a0 a5 1,I at_, .sl u C D L,L7,N7,I (wW ((i:Nat)+1))] g)
  (X: ∀j u C D L g,Zce T l=some j->MkI O w cl T N G f d o B g->LN g u C D L (Xj (r++ [((j+1:Nat):Int)]))->(∀j,u=some (j,0)->O<=j)->
   K Out.normal 108 [I most,A, .lb zDfa, .undef,L7, .p (some (f,0)), .sl (some (d,0)) o B 1,I at_, .sl u C D L,L7,N7,I (wW ((i:Nat)+1))] g):
  1=1/\((0:Int)<=(1:Int)/\(1:Int)<=(o:Int))/\
   Con Tryd.Y (85:Nat) [V.sl (some (d,1)) (o-Int.toNat (1:Int)) (Option.map (fun(x:Nat)=>x-Int.toNat (1:Int)) B) 1,V.fn (Fn.func (86:Nat)) [] [V.p (some (id14,0))]] h2 fun(v:V) (g:Heap)=>
    ∃(n:Int),v=V.i IntKind.i64 n/\
     If (wW ((1:Int)+n)==(0:Int))
      (If (leI (most:Nat) (o:Int))
       (K Out.ret 108 [I most,A, .lb zDfa,I 9,L7, .p (some (f,0)), .sl (some (d,0)) o B 1,I at_, .sl m y t z,L7,N7,I (i:Nat)] g)
       (∃(cs:List V) (l:Nat) (c:Option Nat),Zb g id14 0 1=some [V.ts cs l c]/\
        ∃(a:Option (Nat×Nat)) (W:Nat) (Z:Option Nat) (k:Nat) (h:Heap),Zk Tryd.Y g 33 33 (V.sl (some (d,0)) o B 1) (V.ts [V.ts cs l c] 1 (some 1))=some (V.sl a W Z k,h)/\
        ∃(P:Option (Nat×Nat)) (l:Nat) (c:Option Nat) (a3:Nat) (a1:Heap),Zk Tryd.Y h 32 32 (V.sl m y t z) (V.ts [V.i IntKind.i64 (o:Int)] 1 (some 1))=some (V.sl P l c a3,a1)/\
        K Out.normal 108 [I most,A, .lb zDfa, .undef,L7, .p (some (f,0)), .sl a W Z k,I at_, .sl P l c a3,L7,N7,I (wW ((i:Nat)+1))] a1))
      (∃(a:Option (Nat×Nat)) (l:Nat) (c:Option Nat) (k:Nat) (h:Heap),Zk Tryd.Y g 32 32 (V.sl m y t z) (V.ts [V.i IntKind.i64 (wW ((1:Int)+n))] 1 (some 1))=some (V.sl a l c k,h)/\
       K Out.normal 108 [I most,A, .lb zDfa, .undef,L7, .p (some (f,0)), .sl (some (d,0)) o B 1,I at_, .sl a l c k,L7,N7,I (wW ((i:Nat)+1))] h):=by
 have a7:o=T.length+1:=by have:=s.li.len;simpa using this
 have a9:=hT.len;subst a7;obtain⟨jj,e,_,a8,a4,_⟩:=s.li.cells sm;cases e;rw[Zl7]at a4;refine⟨rfl,⟨om,om⟩,?_⟩;have a6:=ZGe T l (λx hx=>by have:=hT.el x hx;omega) om (h:=h2) (id0:=d) (o0:=1) (id:=id14) (pre:= [nilC]) (c:=Option.map (λx=>x-Int.toNat (1:Int)) B) a4 rfl hg;rw[show T.length+1-Int.toNat (1:Int)=T.length from rfl];refine a6.mono λv g ⟨e1,e2⟩=> ?_;subst e2
 cases H:Zce T l with
 |some j=>
  rw[H]at e1;have b4:j<T.length:=by
   unfold Zce at H;exact(List.findIdx?_eq_some_iff_getElem.1 H).1
  have hw:wW ((1:Int)+((j:Nat):Int))=((j+1:Nat):Int):=by rw[Int.add_comm];exact Ze om
  refine⟨_,e1,Zf (λhc=> ?_) (λ_=> ?_)⟩
  .rw[hw]at hc;simp at hc;omega
  .rw[hw];obtain⟨u,C,D,L,h3,q1,q2,q3,j',q4,q5⟩:=appR (((j+1:Nat):Int)) hr om ha;exact⟨u,C,D,L,h3,q1,X j _ _ _ _ _ H (s.row q3) q2 (λi e=>by rw[q4]at e;cases e;have:=s.n0;omega)⟩
 |none=>
  rw[H]at e1;have hw:wW ((1:Int)+(-1))=0:=dc;refine⟨_,e1,Zf (λ_=> ?_) (λhc=> ?_)⟩
  .refine JT (λb1=>F _ H om) (λb0=> ?_);obtain⟨b2,C,D,h3,q1,q2,q3⟩:=s.list l om hr om;obtain⟨u,l2,c2,k2,h4,p1,p2,p3,j',p4,p5⟩:=appR (((T.length+1:Nat):Int)) q3 om ha;exact⟨_,_,_,by rw[Zs hg];rfl,_,_,_,_,h3,q1,u,l2,c2,k2,h4,p1,a2 _ _ _ _ _ _ _ _ H om (q2.row p3) p2 (λi e=>by rw[p4]at e;cases e;have:=q2.n0;omega)⟩
  .rw[hw]at hc;simp at hc
theorem ZM{h:Heap}{id off:Nat}{cs new:List V}(a:h.get id=some (.arr cs true))(c:off+new.length<=cs.length):Zi h id off new=some (h.set id (some (.arr (splice cs off new) true))):=by
 simp only[Zi,a];rw[uF c]
theorem ZR6(a:List Nat)(h:a.length=256)(x y z:V):splice (clsI a++ [x,y]) 256 [z]=clsI a++ [z,y]:=by
 have:=Zjq (clsI a) x z [y]
 rwa [show(clsI a).length=256 by simp[clsI,h]]at this
theorem ZMr(a:List Nat)(h:a.length=256)(x y z:V):splice (clsI a++ [x,y]) 257 [z]=clsI a++ [x,z]:=by
 have:=Zjq (clsI a++ [x]) y z [];rw[show(clsI a++ [x]).length=257 by simp[clsI,h]]at this;simpa using this
theorem ZGi{h:Heap}{c:Nat}{a:List Nat}{x y:V}(d:h.get c=some (.arr (clsI a++ [x,y]) true))(f:a.length=256):Zb h c 256 1=some [x]/\Zb h c 257 1=some [y]:=by
 have e:(clsI a).length=256:=by simp[clsI,f]
 constructor
 .rw[Zs d,List.drop_append,e,qB om];rfl
 .rw[Zs d,List.drop_append,e,qB om];rfl
theorem frK5{h:Heap}{d:Nat}{f:List Nat}{x y:V}{o:Option YObj}(g:h.get d=some (.arr (clsI f++ [x,y]) true))(k:f.length=256):FrK 5 0 h (h.set d o):=
 ⟨qnq _,λj m wr l a c=>by
  by_cases e:j=d
  .subst e;rw[g]at a;cases a;rcases c with c|c
   .exact absurd (Zl8 k x y) c
   .omega
  .rw[qc,uE e]⟩
theorem ZR7{n0 w:Nat}{C:List Nat}{T N:List (List Int)}{G:List Bool}{g B l9:Nat}{c9:Option Nat}{h:Heap}{t:Option (Nat×Nat)}{f:Nat}{A:Option Nat}{H:Nat}{r:List Int}
  (s:MkI n0 w C T N G g B l9 c9 h) (hr:LN h t f A H (Xj r)) (hrl:r.length=w) (hN:N.length<2 ^ 20):
  ∃(a:Option (Nat×Nat)) (l:Nat) (c:Option Nat) (k:Nat),Zb h g 256 1=some [V.sl a l c k]/\ ∃(u:Option (Nat×Nat)) (v:Nat) (z:Option Nat) (F:Nat) (W:Heap),
   Zk Tryd.Y (h.push (YObj.arr [V.sl t f A H] true)) 33 33 (V.sl a l c k) (V.sl (some (h.nx,0)) 1 (some 1) 1)=some (V.sl u v z F,W)/\
   ∃(D:Heap),Zi W g 256 [V.sl u v z F]=some D/\MkI D.nx w C T (N++ [r]) G g B l9 c9 D:=by
 obtain⟨an,ln,cn,kn,Z,lg,cg,kg,cells,h1,D,h3,h4⟩:=s.ex;have hw:=s.w;rcases hr with ⟨_,_,he⟩|⟨jr,rfl,rfl,rfl,hj,E,a4,a2⟩
 .exfalso;have:r= []:=by cases r with|nil=>rfl|cons x r=>simp[Xj]at he
  subst this;simp at hrl;omega
 have P:f=w:=by rw[a2];simp[Xj,hrl]
 subst P;obtain⟨a',l',c',k',d,q1,q2,j,j',q4,q5⟩:=ZR3 (Y:=Tryd.Y) (st:=33) (e:=32) (te:=⟨1,24, .slice 3,[.sl none 0 (some 0) 0]⟩) (q:=2) (n:=0) (.sl (some (jr,0)) f none 1) kr kr rfl dc rfl D (by rw[h3.1];omega) h3.kind (λ_ _=>qx _);have O:d.get g=some (.arr (clsI C++ [.sl an ln cn kn, .sl Z lg cg kg]) true):=by rw[j.keep _ _ _ s.l8 h1 (.inl (by rw[Zl8 s.cl];decide)),h1]
 have L:(clsI C++ [V.sl an ln cn kn, .sl Z lg cg kg]).length=258:=by simp[clsI,s.cl]
 refine⟨an,ln,cn,kn,(ZGi h1 s.cl).1,a',l',c',k',d,q1,_,ZM O (by rw[L];simp),?_⟩;rw[ZR6 _ s.cl];have f5:=frK5 (o:=some (.arr (clsI C++ [.sl a' l' c' k', .sl Z lg cg kg]) true)) O s.cl;have m:NestZ d.nx f d cells N:=(h3.keep j hw (.inl dc)).more (uu s.n0 j.nx);have y:d.get jr=some (.arr (Xj r) true):=by rw[j.keep _ _ _ hj E (.inl (by rw[Vx (λe=>by rw[e]at hrl;simp at hrl;omega) om];decide)),E]
 have K:jr<d.nx:=qv hj j.nx;have X:=m.snoc hrl y (qnq _) K K;have a3:=(s.li.keepK j dc).keepK f5 dc;have a1:=(h4.keep j (.inl (h4.kindne (Zh0 G) dc dc))).keep f5 (.inl (h4.kindne (Zh0 G) dc dc));have a0:Za9 (cells++ [V.sl (some (jr,0)) f none 1])=2:=X.kind sm;exact⟨⟨a',l',c',k',Z,lg,cg,kg,_,by rw[qc,uF rfl],q2.keep f5 (.inl (by rw[a0];decide)),X.keep f5 hw (.inl dc),a1⟩,a3,by rw[Heap.nx_set];exact qv s.l8 j.nx,qnq _,s.cl,hw⟩
theorem ZMs{n0 w:Nat}{v}{T N:List (List Int)}{G:List Bool}{d u l9:Nat}{c9}{h}(s:MkI n0 w v T N G d u l9 c9 h)(hG:G.length<2 ^ 20):
  ∃(a:Option (Nat×Nat)) (l:Nat) (c:Option Nat) (k:Nat),Zb h d 257 1=some [V.sl a l c k]/\ ∀b,∃(y:Option (Nat×Nat)) (g:Nat) (z:Option Nat) (x:Nat) (t:Heap),Zk Tryd.Y h 96 96 (V.sl a l c k) (V.ts [V.b b] 1 (some 1))=some (V.sl y g z x,t)/\
   ∃(F:Heap),Zi t d 257 [V.sl y g z x]=some F/\MkI F.nx w v T N (G++ [b]) d u l9 c9 F:=by
 obtain⟨B,C,A,E,ag,lg,cg,kg,cells,h1,h2,h3,h4⟩:=s.ex;have H:=s.w;refine⟨ag,lg,cg,kg,(ZGi h1 s.cl).2,λb=> ?_⟩;obtain⟨P,O,X,W,r,q1,K,f,j',q4,q5⟩:=appN (Y:=Tryd.Y) (st:=96) (e:=4) (te:=⟨1,1, .bool,[.b false]⟩) (q:=3) (n:=0) (.b b) kr kr rfl dc rfl h4 (by simp;omega) (Zh0 G) (λ_ _=>qx _);have m:r.get d=some (.arr (clsI v++ [.sl B C A E, .sl ag lg cg kg]) true):=by rw[f.keep _ _ _ s.l8 h1 (.inl (by rw[Zl8 s.cl];decide)),h1]
 have j:(clsI v++ [V.sl B C A E, .sl ag lg cg kg]).length=258:=by simp[clsI,s.cl]
 refine⟨P,O,X,W,r,q1,_,ZM m (by rw[j];simp),?_⟩;rw[ZMr _ s.cl];have D:=frK5 (o:=some (.arr (clsI v++ [.sl B C A E, .sl P O X W]) true)) m s.cl;have e2:G.map V.b++ [V.b b]=(G++ [b]).map V.b:=sm;rw[e2]at K;have Z:=(s.li.keepK f dc).keepK D dc;have hnx:=(h2.keep f (.inl (h2.kindne h3.kind dc dc))).keep D (.inl (h2.kindne h3.kind dc dc));have L:=((h3.keep f H (.inl dc)).keep D H (.inl dc)).more (uu s.n0 f.nx);exact⟨⟨B,C,A,E,P,O,X,W,cells,by rw[qc,uF rfl],hnx,L,K.keep D (.inl (K.kindne (Zh0 _) dc dc))⟩,Z,by rw[Heap.nx_set];exact qv s.l8 f.nx,qnq _,s.cl,H⟩
def dfaC(a:List Nat)(N:List (List Int))(G:List Bool):List V:=clsI a++ [lst Xm N,lst Zl G]
def zDfaF:List V:=List.replicate 256 (.i .i64 0)++ [.ts [] 0 none, .ts [] 0 none]
def Zma(a:Au)(most:Nat)(c le:List Nat):V:=match JZ a most le (most+1) 0 [] [] [] with
 |some (N,G)=> .tup [.agg (dfaC c N G), .i .i64 0]
 |none=> .tup [.agg zDfaF, .i .i64 9]
def Zsv(a:Au)(most:Nat):V:=Zma a most (srtS a.sets 256).1 (srtS a.sets 256).2
theorem ZC0{l:List (Nat×V)}(a:List V)(h:a.length=258)(e:Int)(c:Zbr l 4=some (.lb a))(j:Zbr l 5=some (I e)):resV Tryd.Y Tryz.f38 l=some (.tup [.agg a,I e]):=by
 have hr:Tryz.f38.results.toList= [.cell 4 98, .tmp 5]:=kr;have d:Tryd.Y.ty 98=some (TI.mk 258 2096 (.struct [(0,95),(256,33),(257,96)]) zDfa):=kr;have g:Zdv Tryd.Y l (.cell 4 98)=some (.agg a):=by
  simp only[Zdv,d,c];show(Zr 258 a).bind _=_;rw[ZD h.symm];rfl
 have f:Zdv Tryd.Y l (.tmp 5)=some (I e):=by simp only[Zdv,j];rfl
 unfold resV;rw[hr,Zdw,Zdw,Zdw,g,f]
theorem Qb:zDfa.length=258:=by unfold zDfa;simp
theorem ZC1(h): ∀n:Nat,FrzL h (List.replicate n (I 0)) (List.replicate n (I 0))
 |0=> .nil
 |n+1=>by rw[uZ];exact .cons _ _ _ _ (.i _ _) (ZC1 h n)
theorem ZAr(h):FrzL h zDfa zDfaF:=(ZC1 h 256).append (.cons _ _ _ _ (.sln _ _ none (λx a=>by cases a)) (.cons _ _ _ _ (.sln _ _ none (λx a=>by cases a)) .nil))
theorem Zmb(h): ∀G:List Bool,FrzL h (G.map V.b) (row Zl G)
 | []=> .nil
 |b::G=> .cons _ _ _ _ (.b _) (Zmb h G)
theorem LN.frz{h}{a}{l:Nat}{c}{k:Nat}{cells d:List V}(o:LN h a l c k cells)(f:FrzL h cells d){n:Nat}(m:n=cells.length):Frz h (.sl a l c k) (.ts d n none):=by
 subst m;rcases o with ⟨rfl,rfl,rfl⟩|⟨j,rfl,rfl,rfl,t,g,r,rfl⟩
 .cases f;exact .sln _ _ none (λx e=>by cases e)
 .exact .sl _ _ _ _ _ _ true _ _ _ g (by rw[ql];exact ZD sm) (λx e=>by cases e) dc f
theorem MkI.frz{j w:Nat}{d}{T N:List (List Int)}{G}{a e r:Nat}{c9}{h}(s:MkI j w d T N G a e r c9 h):
  ∃c,c.length=258/\Zp c=true/\h.get a=some (.arr c true)/\FrzL h c (dfaC d N G):=by
 obtain⟨A,D,u,C,t,E,B,z,cells,n,k,g,o⟩:=s.ex;refine⟨_,by simp[clsI,s.cl],?_,n,(frzN h d).append (.cons _ _ _ _ (k.frz g.frz g.1.symm) (.cons _ _ _ _ (o.frz (Zmb h G) sm) .nil))⟩;have: ∀(x y:List V),Zp x=true->Zp y=true->Zp (x++y)=true:=by
  intro x
  induction x with
  |nil=>exact λy _ h=>h
  |cons v x l=>
   intro y f m;simp only[Zp,qrq,qs]at f ⊢;exact⟨f.1,l y f.2 m⟩
 exact this _ _ (allI d) rfl
theorem getU(l:List Nat){i:Nat}(h:i<l.length):Zr 1 (List.drop ((i:Int).toNat*1) (row encU l))=some [.i .u8 (l[i]:Nat)]:=by
 rw[qdq];exact Xp (f:=encU) (k:=1) Zek h
theorem Zmc(n:Nat)(h:n=258):zDfa.drop n= []:=qB (by rw[Qb];omega)
theorem splz(a:List V)(h:a.length=256):splice zDfa 0 a=a++ [nilC,nilC]:=by
 rw[Qy,h];unfold zDfa;rw[List.drop_append,qB sm]
 rfl
theorem ZR8(a:List Nat):Zp (clsI a++ [nilC,nilC])=true:=by
 induction a with
 |nil=>rfl
 |cons k r c=>simp only[clsI,qz,qs,Zp,qrq];exact⟨rfl,c⟩
theorem ZGj{f:List Nat}(d:f.length=256){w:Nat}(o:0<w/\w<=256)(k m:Option TypeId){K:List V->Heap->Nat->Heap->Prop}
  (u: ∀g j,MkI (j.nx+1) w f [] [] [] g j.nx 1 (some 1) (j.push (.arr [nilC] true))->K (clsI f++ [nilC,nilC]) Heap.empty g j):
  ∃c,Zi (Heap.empty.pushT k (.arr (List.replicate 256 (I 0)) true)) Heap.empty.nx 0 (clsI f)=some c/\ ∃l,Zb c Heap.empty.nx 0 256=some l/\ ∃a,Zug Tryd.Y 98 0 256 l=some a/\If (decide (a.length=258)&&Zp a)
   (∃h,Zi (c.pushT m (.arr zDfa true)) c.nx 0 a=some h/\K a Heap.empty c.nx h) False:=by
 have e:(clsI f).length=256:=by simp[clsI,d]
 have n:Tryd.Y.ty 98=some (TI.mk 258 2096 (.struct [(0,95),(256,33),(257,96)]) zDfa):=kr;have r:(Heap.empty.pushT k (.arr (List.replicate 256 (I 0)) true)).get Heap.empty.nx=some (.arr (List.replicate 256 (I 0)) true):=by rw[qj,uF rfl]
 refine⟨_,ZM r (by rw[e];simp),clsI f,?_,clsI f++ [nilC,nilC],?_,ifT ?_ ?_⟩
 .rw[Zs (by rw[qc,uF rfl]),ql,Qy,e,qB sm,qi];exact ZD e.symm
 .unfold Zug;rw[n];simp only[];rw[uF ⟨e,by rw[e,Qb];omega,allI f⟩,splz _ e]
 .rw[ZR8];simp[clsI,d]
 .have t: ∀(h:Heap),(h.pushT m (.arr zDfa true)).get h.nx=some (.arr zDfa true):=λh=>by rw[qj,uF rfl]
  refine⟨_,ZM (t _) (by rw[Qb];simp[clsI,d]),u _ _ ⟨⟨none,0,some 0,0,none,0,some 0,0,[],?_,LN.nil _ _ _,NestZ.nil _ _ _,LN.nil _ _ _⟩,?_,?_,?_,d,o⟩⟩
  .rw[qk,uE sm,qc,uF rfl]
   congr 2
   rw[Qy,Zmc _ (by simp[clsI,d]),qi]
  .exact LX.one (λv:V=> [v]) 1 _ nilC
  .simp
  .simp
def MkO(a:Au)(most:Nat)(g le:List Nat)(m:Nat)(k:List V)(h:Heap):Prop:=
 ∃(at_ j:Nat) (T N:List (List Int)) (G:List Bool) (c d f:Nat) (e:Option Nat),k= [.i .i64 (most:Nat), .lb (auC a), .lb zDfa,lst encU le, .p (some (c,0)), .sl (some (d,0)) f e 1, .i .i64 (at_:Nat)]/\
  MkI j le.length g T N G c d f e h/\TOk most T/\N.length=at_/\G.length=at_/\at_<=T.length+1/\m+at_=most+1/\JZ a most le (most+1) 0 [] [] []=JZ a most le m at_ T N G
def MkN(a:Au)(most:Nat)(v le:List Nat)(at_ n:Nat)(T N:List (List Int))(G:List Bool)(d:Nat)(m:Nat)(u:List V)(h:Heap):Prop:=
 ∃(i:Nat) (l:List (List Int)) (r:List Int) (e t:Nat) (o:Option Nat) (c:Option (Nat×Nat)) (k:Nat) (g:Option Nat) (f:Nat),
  u= [.i .i64 (most:Nat), .lb (auC a), .lb zDfa,lst encU le, .p (some (d,0)), .sl (some (e,0)) t o 1, .i .i64 (at_:Nat), .sl c k g f,lst encU le, .i .i64 (le.length:Nat), .i .i64 (i:Nat)]/\
  MkI n le.length v l N G d e t o h/\LN h c k g f (Xj r)/\(∀j,c=some (j,0)->n<=j)/\r.length=i/\i<=le.length/\TOk most l/\at_<l.length+1/\m=le.length-i/\
  rowD a most at_ le T []=rowD a most at_ (le.drop i) l r
theorem ZMt{a:Au}{most:Nat}{j le:List Nat}{at_ mm g:Nat}{T N:List (List Int)}{G:List Bool}{c d f:Nat}{e:Option Nat}{h:Heap}{id:Nat}{rr:List Code}{Q:Out->St->Prop}(l:at_<2 ^ 20)
  (s:MkI g le.length j T N G c d f e h) (n:TOk most T) (r:N.length=at_+1) (m:G.length=at_+1) (u:at_+1<=T.length+1) (t:mm+(at_+1)=most+1) (hp:JZ a most le (most+1) 0 [] [] []=JZ a most le mm (at_+1) T N G):
  TriL Tryd.Y ((post (flat (Zx (post (flat (Za Tryz.f38)))))).drop 1) ⟨mk 108 ([1,2,4,7,8,9,10].zip [I most, .lb (auC a), .lb zDfa,lst encU le, .p (some (c,0)), .sl (some (d,0)) f e 1,I at_]),[],h⟩
   (VQ [1,2,4,5,7,8,9,10] (XE Tryd.Y 108 [1,2,4,5,7,8,9,10] [1,2,4,7,8,9,10] (MkO a most j le) (mm+1) id rr Q)):=by
 refine Zi7 Tryd.Yok ZMo rfl ?_;refine λo k=>Zi4 k rfl rfl rfl mm om ⟨at_+1,g,T,N,G,c,d,f,e,by rw[Ze om];rfl,s,n,r,m,u,t,hp⟩
theorem ZC2(hs:ZY UY.P 75)(e2:ZF UY.P 76){a:Au}(ha:OkA a)(most:Nat)(e7:1<=most)(hm:most<=300):PCon UY 38 [.agg (auC a),I most] (· =Zsv a most):=by
 refine PCon.dz ?_;refine ZG Tryd.Yok (fn:=Tryz.f38) rfl ?_;refine Zh Tryd.Yok 108 ZMj rfl ?_;have a7:=may7 a ha.small;rw[ha.may]at a7;have F:=Zsu a ha.nsets;unfold Zf9 at F;have d:=WO a.sets 256;have a3:=Zw4 a.sets 256;have X:=Zl6 a.sets 256 dc;unfold Zsv;revert F d a3 X;generalize srtS a.sets 256=p;obtain⟨H,le⟩:=p;intro F d a3 X;simp only[]at F d a3 X;have b8:clsC H=clsI H:=by unfold clsC;rw[d.1];simp
 rw[b8]at F;refine⟨true,PCon.zd a7,ifF rfl ⟨clsI H,_,_,_,PCon.zd F,ifT ?_ ?_⟩⟩
 .rw[allI];simp[clsI,d.1]
 have d0:((fun(x y:Int)=>if y<x then y else x) ((fun(x y:Int)=>if y>x then y else x) (most:Int) (1:Int)) (300:Int))=(most:Int):=by
  simp only[];rw[show(if(1:Int)>(most:Int)then(1:Int)else(most:Int))=(most:Int) by split<;>omega]
  split<;>omega
 rw[d0];refine ZGj d.1 (w:=le.length) ⟨X,d.2⟩ (Tryd.Y.tag 95) (Tryd.Y.tag 98) (K:=λ_ _ o h9=>PreV Tryd.Y 108 [1,2,4,5,7,8,9,10] (post (flat (Za Tryz.f38))) (FinS Tryd.Y Tryz.f38 λv h=> ∃r,Frz h v r/\r=Zma a most H le) .normal 108
  [I most, .lb (auC a), .lb zDfa,I 0,lst encU le, .p (some (o,0)), .sl (some (h9.nx,0)) 1 (some 1) 1,I 0] (h9.push (.arr [nilC] true))) λo h9 hI=> ?_
 refine⟨rfl,ZN [1,2,4,7,8,9,10] [1,2,4,5,7,8,9,10] (MkO a most H le) (most+1) ZA ⟨0,_,[],[],[],o,_,_,_,rfl,hI,⟨by simp;omega,sm⟩,rfl,rfl,sm,om,rfl⟩ ?_⟩;rintro m vs h ⟨at_,n0,T,N,G,o,d4,l9,c9,rfl,hI,hT,hN,hG,f2,f0,hp⟩;have e8:=hT.len;have f3:l9=T.length+1:=by have:=hI.li.len;simpa using this
 refine Zh Tryd.Yok 108 ZMk rfl ?_;refine Zq (λf5=>⟨rfl,QZ (n:=108) [1,2,4,5,7,8,9,10] kr ?_⟩) (λf1=> ?_)
 .refine Zh Tryd.Yok 108 ZMl rfl ?_;obtain⟨mm,rfl⟩: ∃mm,m=mm+1:=⟨m-1,om⟩;refine⟨rfl,ZN [1,2,4,7,8,9,10,11,37,38,39] [1,2,4,5,7,8,9,10,11,37,38,39] (MkN a most H le at_ h.nx T N G o) le.length ZA ⟨0,T,[],d4,l9,c9,none,0,some 0,0,rfl,hI.more,LN.nil _ _ _,(λj e=>by cases e),rfl,qx _,hT,om,om,rfl⟩ ?_⟩;rintro m1 f4 L ⟨i,c,r,f,a0,b7,d1,d8,d3,d6,rfl,O,hr,e1,hrl,hi,u,c8,rfl,C⟩;have e6:a0=c.length+1:=by have:=O.li.len;simpa using this
  refine Zn Tryd.Yok ZMm rfl ?_;refine Zq (λD=> ?_) (λe5=> ?_)
  .have hc:le[i]<256:=a3 _ (qe D);have z:le.drop i=le[i]::le.drop (i+1):=uM D;have d9: ∀(t:Option TypeId),(L.pushT t (.arr [nilC] true)).get L.nx=some (.arr [nilC] true):=λt=>by rw[qj,uF rfl]
   refine⟨Zu D,_,getU le D,_,_,_,PCon.zd (ZGa ha _ hc),_,ZM (d9 _) sm,?_⟩;have a6: ∀g:Heap,g.get L.nx=some (.arr [lst encI (stD a at_ c le[i])] true)->L.nx<=g.nx->(∀j,j<L.nx->g.get j=L.get j)->MkI h.nx le.length H c N G o f a0 b7 g/\LN g d1 d8 d3 d6 (Xj r):=λg g1 g2 g3=>
    ⟨O.row (FrK.of g2 g3),hr.keep (FrK.of (q:=9) (n:=0) g2 g3) (.inl (by
     by_cases e:r= []
     .subst e;decide
     .rw[Vx e (by have:=d.2;omega)];decide))⟩
   have a8:JZ a most le (mm+1) at_ T N G=match rowD a most at_ (le.drop i) c r with
     |none=>none
     |some (T',r)=>JZ a most le mm (at_+1) T' (N++ [r]) (G++ [Zol a at_ T']):=by
    rw[JZ,uF om,C];cases rowD a most at_ (le.drop i) c r<;>rfl
   rw[a8,z,rowD]at hp;have e3:=Zw6 ha at_ c le[i];have E:=fun(g:Heap) (g1:g.get L.nx=some (.arr [lst encI (stD a at_ c le[i])] true)) (g2:L.nx<=g.nx) (g3: ∀j,j<L.nx->g.get j=L.get j)=>
    ZMq (K:=XE Tryd.Y 108 [1,2,4,5,7,8,9,10,11,37,38,39] [1,2,4,7,8,9,10,11,37,38,39] (MkN a most H le at_ h.nx T N G o) (le.length-i) (Xd (post (flat (ZL (post (flat (Zx (post (flat (Za Tryz.f38)))))))))) ((post (flat (ZL (post (flat (Zx (post (flat (Za Tryz.f38))))))))).drop 1)
      (VQ [1,2,4,5,7,8,9,10] (Zdx Tryd.Y 108 [1,2,4,5,7,8,9,10] (JU (post (flat (Zx (post (flat (Za Tryz.f38))))))) ((post (flat (Zx (post (flat (Za Tryz.f38)))))).drop 1) (VQ [1,2,4,5,7,8,9,10] (XE Tryd.Y 108 [1,2,4,5,7,8,9,10] [1,2,4,7,8,9,10] (MkO a most H le) (mm+1) (Xd (post (flat (Za Tryz.f38)))) ((post (flat (Za Tryz.f38))).drop 1) (FinS Tryd.Y Tryz.f38 λv h=> ∃r,Frz h v r/\r=Zma a most H le))))))
     (A:= .lb (auC a)) (L7:=lst encU le) (N7:= I (le.length:Nat)) (at_:=at_) (i:=i) (most:=most) (l:=stD a at_ c le[i]) (id14:=L.nx) (a6 g g1 g2 g3).1 g1 O.n0 u hm (a6 g g1 g2 g3).2 (by have:=d.2;omega) e1
     (λh' hf b1=>by
      rw[hf]at hp;simp only[]at hp;rw[uF b1]at hp;refine ZU rfl (ZU rfl (ZZ (v:= .tup [.agg zDfa,I 9]) (.inr rfl) (ZC0 zDfa Qb 9 rfl rfl) ⟨_, .tup _ _ (.cons _ _ _ _ (.agg _ _ (ZAr _)) (.cons _ _ _ _ (.i _ _) .nil)),?_⟩));unfold Zma;rw[hp])
     (λc6 d5 e0 a' l' c' k' h' hf b1 sI sr sa=>by
      have B:rowD a most at_ (le.drop i) c r=rowD a most at_ (le.drop (i+1)) (c++ [stD a at_ c le[i]]) (r++ [((c.length+1:Nat):Int)]):=by
       rw[z,rowD,hf];simp only[];rw[uE b1]
      refine⟨rfl,le.length-(i+1),om,i+1,c++ [stD a at_ c le[i]],r++ [((c.length+1:Nat):Int)],c6,d5,e0,a',l',c',k',by rw[Ze (by have:=d.2;omega)];rfl,sI,sr,sa,by simp[hrl],om,⟨by simp;omega,λx hx=> ?_⟩,by simp;omega,rfl,by rw[C,B]⟩;rcases qA.1 hx with hx|hx
      .exact u.el x hx
      .simp at hx;subst hx;exact e3)
     (λj a' l' c' k' h' hf sI sr sa=>by
      have B:rowD a most at_ (le.drop i) c r=rowD a most at_ (le.drop (i+1)) c (r++ [((j+1:Nat):Int)]):=by
       rw[z,rowD,hf]
      exact⟨rfl,le.length-(i+1),om,i+1,c,r++ [((j+1:Nat):Int)],f,a0,b7,a',l',c',k',by rw[Ze (by have:=d.2;omega)];rfl,sI,sr,sa,by simp[hrl],om,u,c8,rfl,by rw[C,B]⟩)
   refine Zq (a:=0) (λh0=> ?_) (λh0=> ?_)
   .have a9:stD a at_ c le[i]=Zgv a (c.getD (at_-1) []) le[i]:=by unfold stD;rw[uF h0]
    obtain⟨jj,e,_,d2,W,_⟩:=O.li.cells sm;cases e;rw[Zl7]at W;have d7:(c.getD (at_-1) []).length<=300:=by
     rw[qw,qo om];exact u.el _ (qe _)
    have b6: ∀g:Heap,g.get f=L.get f->Zb g f (0+(at_:Int).toNat*1) 1=some [lst encI (c.getD (at_-1) [])]:=λg e=>by
     rw[Zs (by rw[e];exact W),qdq];obtain⟨k,rfl⟩: ∃k,at_=k+1:=⟨at_-1,om⟩;have hk:k<c.length:=om;rw[show 0+(k+1)*1=k+1 from om,List.drop_succ_cons,uM (by simpa using hk)];simp[Zr,hk]
    refine⟨⟨om,om⟩,rfl,_,_,_,b6 _ (by rw[qc,uE om,qj,uE om]),_,_,_,PCon.zd (ZL8 hs e2 ha (c.getD (at_-1) []) le[i] hc om),_,ZM (by rw[qc,uF rfl]) (by simp[splice]),?_⟩;rw[a9]at E;exact E _ (by rw[qc,uF rfl];rfl) sm (λj hj=>by rw[qc,uE om,qc,uE om,qj,uE om])
   .have a9:stD a at_ c le[i]=havL a.sets a.first le[i]:=by unfold stD;rw[uE om]
    rw[a9]at E;exact E _ (by rw[qc,uF rfl];rfl) sm (λj hj=>by rw[qc,uE om,qj,uE om])
  .have he:i=le.length:=om;subst he;have b2:rowD a most at_ le T []=some (c,r):=by rw[C,List.drop_length,rowD]
   have a8:JZ a most le (mm+1) at_ T N G=JZ a most le mm (at_+1) c (N++ [r]) (G++ [Zol a at_ c]):=by
    rw[JZ,uF om,b2]
   rw[a8]at hp;have e4:=u.len;refine Zj [1,2,4,7,8,9,10,11] ?_;refine Zi7 Tryd.Yok ZMn rfl ?_;obtain⟨a1,l1,c1,k1,p1,a2,l2,c2,k2,g,p2,h3,p3,s3⟩:=ZR7 O hr hrl om;obtain⟨a4,l4,c4,k4,p4,s4⟩:=ZMs s3 om;have b0:=fun(b:Bool) (h':Heap) (eb:b=Zol a at_ c) (sI:MkI h'.nx le.length H c (N++ [r]) (G++ [b]) o f a0 b7 h')=>
    ZMt (at_:=at_) (mm:=mm) (id:=Xd (post (flat (Za Tryz.f38)))) (rr:=(post (flat (Za Tryz.f38))).drop 1) (Q:=FinS Tryd.Y Tryz.f38 λv h=> ∃r,Frz h v r/\r=Zma a most H le) om sI u (by simp[hN]) (by simp[hG]) om om (by rw[hp,eb])
   refine⟨a1,l1,c1,k1,p1,a2,l2,c2,k2,g,p2,h3,p3,a4,l4,c4,k4,p4,?_⟩;have b9: ∀k,at_=k+1->Zb h3 f (0+(at_:Int).toNat*1) 1=some [lst encI (c.getD (at_-1) [])]:=λk e=>by
    obtain⟨jj,e9,_,d2,W,_⟩:=s3.li.cells sm;cases e9;rw[Zl7]at W;rw[Zs W,qdq];subst e;have hk:k<c.length:=om;rw[show 0+(k+1)*1=k+1 from om,List.drop_succ_cons,uM (by simpa using hk)];simp[Zr,hk]
   have d7:(c.getD (at_-1) []).length<=300:=by
    by_cases hk:at_-1<c.length
    .rw[qw,qo hk];exact u.el _ (qe _)
    .simp[qw,qq (Nat.le_of_not_lt hk)]
   have c7:=PCon.zd (ZL9 ha (c.getD (at_-1) []) om);rcases Nat.eq_zero_or_pos at_ with h0|h0
   .subst h0;refine ifT rfl ?_;have Z:Zol a 0 c=a.empty:=rfl;refine Zf (λb4=> ?_) (λb4=>ifF rfl ?_)
    .obtain⟨a5,l5,c5,k5,h5,p5,h6,p6,p7⟩:=s4 true;exact⟨a5,l5,c5,k5,h5,p5,h6,p6,λb3 ht=>Zfc (sl':= [1,2,4,7,8,9,10]) ht rfl rfl rfl (b0 true h6 (by rw[Z,b4]) p7)⟩
    .obtain⟨a5,l5,c5,k5,h5,p5,h6,p6,p7⟩:=s4 false;exact⟨a5,l5,c5,k5,h5,p5,h6,p6,λb3 ht=>Zfc (sl':= [1,2,4,7,8,9,10]) ht rfl rfl rfl (b0 false h6 (by rw[Z,b4]) p7)⟩
   .refine ifF (by simp;omega) ?_;have Z:Zol a at_ c=Zfi a (c.getD (at_-1) []):=by unfold Zol;rw[uE om]
    refine Zq (a:=0) (λ_=> ?_) (λh=>om);obtain⟨a5,l5,c5,k5,h5,p5,h6,p6,p7⟩:=s4 (Zfi a (c.getD (at_-1) []));exact⟨⟨om,om⟩,rfl,_,_,_,b9 (at_-1) om,_,c7,a5,l5,c5,k5,h5,p5,h6,p6,λb3 ht=>Zfc (sl':= [1,2,4,7,8,9,10]) ht rfl rfl rfl (b0 _ h6 Z.symm p7)⟩
 .refine Zuq λb3 ht=>Vk [4,8] ht rfl rfl rfl rfl ?_;refine Zo Tryd.Yok ZMp rfl ?_;obtain⟨cs,g1,g2,g3,g4⟩:=hI.frz;refine⟨cs,(by rw[Zs g3,ql];exact ZD g1.symm),ifT ?_ ?_⟩
  .rw[g2,Qb];simp[g1]
  .have e:splice zDfa 0 cs=cs:=by rw[Qy,Zmc _ g1,qi]
   rw[e];refine⟨.inr rfl,_,ZC0 cs g1 0 rfl rfl,_, .tup _ _ (.cons _ _ _ _ (.agg _ _ g4) (.cons _ _ _ _ (.i _ _) .nil)),?_⟩;obtain⟨mm,rfl⟩: ∃mm,m=mm+1:=⟨m-1,om⟩;have b5:JZ a most le (mm+1) at_ T N G=some (N,G):=by rw[JZ,uE om]
   rw[b5]at hp;unfold Zma;rw[hp]
end Go.Y
namespace Go.Y
set_option maxRecDepth 1000000
set_option maxHeartbeats 0
structure DOk(cl:List Nat)(N:List (List Int))(G:List Bool)(w:Nat):Prop where
 c256:cl.length=256
 clt: ∀k∈cl,k<w
 cmx:w-1∈cl
 w1:0<w
 w2:w<=256
 n1:0<N.length
 n2:N.length<=300
 ng:G.length=N.length
 rl: ∀r∈N,r.length=w
 rx: ∀r∈N,∀x∈r,0<=x∧x<(N.length:Nat)
theorem Zq0(a:List Set4): ∀c,(∀k∈(srtS a c).1,k<(srtS a c).2.length)/\(∀j,j<(srtS a c).2.length->j∈(srtS a c).1)
 |0=>⟨λk h=>(by cases h),λj h=>(by simp[srtS]at h)⟩
 |c+1=>by
  obtain⟨l,n⟩:=Zq0 a c;rw[srtS]
  cases m:(srtS a c).2.findIdx? λd=>keyN a c==keyN a d with
  |some k=>
   have o:k<(srtS a c).2.length:=by
    rw[List.findIdx?_eq_some_iff_findIdx_eq]at m;exact m.1
   refine⟨λx f=> ?_,λj g=> ?_⟩
   .rcases qA.1 f with f|f
    .exact l x f
    .simp at f;subst f;exact o
   .exact List.mem_append_left _ (n j g)
  |none=>
   refine⟨λx f=> ?_,λj g=> ?_⟩
   .simp only[qf,qh,qp];rcases qA.1 f with f|f
    .have:=l x f;omega
    .simp at f;omega
   .simp only[qf,qh,qp]at g;by_cases e:j=(srtS a c).2.length
    .subst e;simp
    .exact List.mem_append_left _ (n j om)
theorem ZAs{T:List (List Int)}{l:List Int}{i:Nat}(h:Zce T l=some i):i<T.length:=by
 unfold Zce at h;rw[List.findIdx?_eq_some_iff_findIdx_eq]at h;exact h.1
theorem Zon{a:Au}{most at_:Nat} : ∀ {g:List Nat} {T:List (List Int)} {r:List Int} {e:List (List Int)} {f:List Int},rowD a most at_ g T r=some (e,f)->
  (∀x∈r,0<=x/\x<=(T.length:Nat))->T.length<=e.length/\ ∀x∈f,0<=x/\x<=(e.length:Nat)
 | [],T,r,e,f,h,hr=>by rw[rowD]at h;cases h;exact⟨qnq _,hr⟩
 |c::g,T,r,e,f,h,hr=>by
  rw[rowD]at h;split at h
  .rename_i i j;have:=ZAs j;exact Zon h λx d=>by
    rcases qA.1 d with d|d
    .exact hr x d
    .simp at d;subst d;omega
  .split at h
   .cases h
   .obtain⟨k,l⟩:=Zon h λx d=>by
     rcases qA.1 d with d|d
     .have:=hr x d;simp only[qf,qh,qp];omega
     .simp at d;subst d;simp only[qf,qh,qp];omega
    exact⟨by simp at k;omega,l⟩
theorem Zq1{a:Au}(o:OkA a){most w:Nat}{le:List Nat}(n:le.length=w): ∀(f at_:Nat) {T N:List (List Int)} {G:List Bool} {g:List (List Int)} {l:List Bool},JZ a most le f at_ T N G=some (g,l)->
  f+at_=most+1->TOk most T->N.length=at_->G.length=at_->at_<=T.length+1->(∀r∈N,r.length=w/\ ∀x∈r,0<=x/\x<=(T.length:Nat))->
  l.length=g.length/\0<g.length/\g.length<=most/\ ∀r∈g,r.length=w/\ ∀x∈r,0<=x/\x<(g.length:Nat)
 |0,at_,T,N,G,g,l,h,A,k,u,t,m,hr=>by
  have:=k.len;omega
 |f+1,at_,T,N,G,g,l,h,A,k,u,t,m,hr=>by
  rw[JZ]at h;split at h
  .split at h
   .cases h
   .rename_i E F r d;obtain⟨D,z,K,_⟩:=Zom o k d;obtain⟨H,v⟩:=Zon d (λx j=>by cases j);refine Zq1 o n f (at_+1) h om D (by simp[u]) (by simp[t]) om λy c=> ?_;rcases qA.1 c with c|c
    .exact⟨(hr y c).1,λx j=>by have:=(hr y c).2 x j;omega⟩
    .simp at c;subst c;exact⟨by rw[z];simp[n],v⟩
  .rename_i C;cases h;have B:=k.len;have e:at_=T.length+1:=om;refine⟨om,om,om,λy c=>⟨(hr y c).1,λx j=> ?_⟩⟩;have:=(hr y c).2 x j;omega
theorem ZGk{a:Au}(f:OkA a){most:Nat}(j:1<=most)(g:most<=300){N:List (List Int)}{G:List Bool}(h:JZ a most (srtS a.sets 256).2 (most+1) 0 [] [] []=some (N,G)):
  DOk (srtS a.sets 256).1 N G (srtS a.sets 256).2.length:=by
 have c1:=Zq0 a.sets 256;have c2:=WO a.sets 256;have c3:=Zl6 a.sets 256 dc;obtain⟨d,e,k,c⟩:=Zq1 f rfl (most+1) 0 h rfl ⟨by simp;omega,sm⟩ rfl rfl sm sm;exact⟨c2.1,c1.1,c1.2 _ om,c3,c2.2,e,om,d,λr hr=>(c r hr).1,λr hr=>(c r hr).2⟩
/-! ### first -/
def nxt(a:List Nat)(N:List (List Int))(x c:Nat):Nat:=((N.getD x []).getD (a.getD c 0) 0).toNat
theorem DOk.row{a}{N:List (List Int)}{G}{w:Nat}(d:DOk a N G w){x c:Nat}(g:x<N.length)(l:c<256):
  ∃(k:Nat) (r:List Int) (h:k<r.length),a[c]? =some k/\N[x]? =some r/\r[k]=((nxt a N x c:Nat):Int)/\nxt a N x c<N.length:=by
 have f:c<a.length:=by rw[d.c256];exact l
 have h:=d.clt a[c] (qe f);have hr:=d.rl N[x] (qe g);have j:=d.rx N[x] (qe g) (N[x][a[c]]' om) (qe _);have e:nxt a N x c=(N[x][a[c]]' om).toNat:=by
  unfold nxt;simp only[qw,qo g,qo f,uq];rw[qo om];rfl
 exact⟨a[c],N[x],om,qo f,qo g,by rw[e];omega,by rw[e];omega⟩
structure Dn where
 cl:List Nat
 N:List (List Int)
 G:List Bool
def Zsw(d e:Dn)(p:Nat×Nat)(c:Nat):Nat×Nat:=(nxt d.cl d.N p.1 c,nxt e.cl e.N p.2 c)
def addQ(L:List (Nat×Nat))(q:Nat×Nat):List (Nat×Nat):=if q∈L then L else L++ [q]
def rowQ(d e:Dn)(p:Nat×Nat):Nat->List (Nat×Nat)->List (Nat×Nat)
 |0,L=>L
 |n+1,L=>addQ (rowQ d e p n L) (Zsw d e p n)
def soQ(d e:Dn)(p:Nat×Nat):Bool:=d.G.getD p.1 false&& !e.G.getD p.2 false
def Zxb(d e:Dn):Nat->Nat->List (Nat×Nat)->Bool
 |0,_,_=>false
 |f+1,at_,L=>if at_<L.length then if soQ d e (L.getD at_ (0,0))then true else Zxb d e f (at_+1) (rowQ d e (L.getD at_ (0,0)) 256 L)else false
def Zan(d e:Dn):Bool:=Zxb d e (d.N.length*e.N.length+1) 0 [(0,0)]
structure LOk(d e:Dn)(L:List (Nat×Nat)):Prop where
 nd:L.Nodup
 lt: ∀p∈L,p.1<d.N.length∧p.2<e.N.length
theorem LOk.len{d e:Dn}{L:List (Nat×Nat)}(o:LOk d e L):L.length<=d.N.length*e.N.length:=by
 have c: ∀p∈L,∀q∈L,p.1*e.N.length+p.2=q.1*e.N.length+q.2->p=q:=by
  intro p hp q j h;have f:=o.lt p hp;have u:=o.lt q j;have g:p.1=q.1:=by
   have k:(p.1*e.N.length+p.2) / e.N.length=p.1:=by
    rw[Nat.mul_comm,Nat.mul_add_div om,Nat.div_eq_of_lt f.2];omega
   have l:(q.1*e.N.length+q.2) / e.N.length=q.1:=by
    rw[Nat.mul_comm,Nat.mul_add_div om,Nat.div_eq_of_lt u.2];omega
   rw[<-k,<-l,h]
  rw[g]at h;exact Prod.ext g om
 have n:(L.map λp=>p.1*e.N.length+p.2).Nodup:=by
  rw[List.Nodup,List.pairwise_map];exact o.nd.imp_of_mem λr t a h=>a (c _ r _ t h)
 have:=List.Nodup.length_le_of_subset n (l₂:=List.range (d.N.length*e.N.length)) λx m=>by
  obtain⟨p,hp,rfl⟩:=uW.1 m;have f:=o.lt p hp;rw[List.mem_range]
  calc p.1*e.N.length+p.2<p.1*e.N.length+e.N.length:=om
   _=(p.1+1)*e.N.length:=by rw[Nat.succ_mul]
   _<=d.N.length*e.N.length:=Nat.mul_le_mul_right _ om
 simpa using this
theorem LOk.add{d e:Dn}{L:List (Nat×Nat)}(o:LOk d e L){q:Nat×Nat}(f:q.1<d.N.length/\q.2<e.N.length):LOk d e (addQ L q):=by
 unfold addQ;split
 .exact o
 .rename_i g;refine⟨?_,λp hp=> ?_⟩
  .rw[List.nodup_append];exact⟨o.nd,sm,λa h b c e=>g (by simp at c;subst c;rwa [e]at h)⟩
  .rcases qA.1 hp with hp|hp
   .exact o.lt p hp
   .simp at hp;subst hp;exact f
theorem DOk.step{d e:Dn}{w1 j:Nat}(g:DOk d.cl d.N d.G w1)(f:DOk e.cl e.N e.G j){p:Nat×Nat}(hp:p.1<d.N.length/\p.2<e.N.length){c:Nat}(a:c<256):
  (Zsw d e p c).1<d.N.length/\(Zsw d e p c).2<e.N.length:=by
 obtain⟨_,_,_,_,_,_,h⟩:=g.row hp.1 a;obtain⟨_,_,_,_,_,_,k⟩:=f.row hp.2 a;exact⟨h,k⟩
theorem LOk.zero{d e:Dn}{w1 c:Nat}(f:DOk d.cl d.N d.G w1)(a:DOk e.cl e.N e.G c):LOk d e [(0,0)]:=
 ⟨sm,λp hp=>by simp at hp;subst hp;exact⟨f.n1,a.n1⟩⟩
end Go.Y
namespace Go.Y
open Go.Proofs
set_option maxRecDepth 1000000
set_option maxHeartbeats 0
def Trye.locs:List (List Nat):=(((Tryz.locs.set 127 []).set 89 [12,14,27]).set 39 []).set 13 [3,4,12,13,16,17,20,46,63]
def Trye.modes:List Nat:=((Tryz.modes.set 39 0).set 127 7).set 166 0
noncomputable def Trye.Y:YP:=⟨Go.Proofs.Tryz.prog,Tryz.tys,Trye.locs,Trye.modes,[182,5],[(185,1),(197,2)],[26,27,28,32,33,96]⟩
theorem Trye.Yok:YOK Trye.Y:=Vg kr Tryz.extok
theorem PCon.ez{f:FuncId}{a}{Q:V->Prop}(c:PCon Trye.Y f a Q):PCon UY f a Q:=⟨c.body,c.tr⟩
theorem PCon.ze{f:FuncId}{a}{Q:V->Prop}(c:PCon UY f a Q):PCon Trye.Y f a Q:=⟨c.body,c.tr⟩
theorem ZMu{a f c d h}(K):CP Trye.Y 65 (flat (Za Tryz.f65)) (J a f none::V.fn (.func 165) [] [.p (some (c,0)),.p (some (d,0))]::Rp 7) h [4] K=(Con Trye.Y 85 [J a f none,V.fn (Fn.func 165) [] [.p (some (c,0)),.p (some (d,0))]] h fun(v:V) (g:Heap)=> ∃e,v=I e/\K .ret 9 [.b (leI 0 e)] g):=kr
theorem ZMv{a d b c h}(K):CP Trye.Y 85 (pre (flat (Za Tryz.f85))) (J a d none::V.fn (.func 165) [] [.p (some (b,0)),.p (some (c,0))]::Rp 17) h [0,1,7,8] K=(K .normal 19 [J a d none, .fn (Fn.func 165) [] [.p (some (b,0)), .p (some (c,0))],I (d:Int),I 0] h):=kr
theorem ZMw{a j d e x8 h}(K):CP Trye.Y 85 (flat (Zx (post (flat (Za Tryz.f85))))) (MZ 19 [0,1,7,8] [J a j none,V.fn (Fn.func 165) [] [.p (some (d,0)),.p (some (e,0))],I (j:Int),I x8]) h [0,1,4,7,8] K=(If (ltI x8 j) ((0<=x8/\x8<j)/\ ∃b c f,Zr 1 (List.drop (x8.toNat*1) a)=some [J b c f]/\ ∃g,RCon Trye.Y 165 [J b c f,.p (some (d,0)),.p (some (e,0))] h (.b g)/\If g (K .ret 19 [J a j none, .fn (Fn.func 165) [] [.p (some (d,0)), .p (some (e,0))],I x8,I (j:Int),I x8] h) (K .normal 19 [J a j none, .fn (Fn.func 165) [] [.p (some (d,0)), .p (some (e,0))],Ud,I (j:Int),I (wW (x8+(1:Int)))] h)) (K (.exit 0) 19 [J a j none, .fn (Fn.func 165) [] [.p (some (d,0)), .p (some (e,0))],Ud,I (j:Int),I x8] h)):=kr
theorem ZMx{h}(K):CP Trye.Y 85 ((post (flat (Za Tryz.f85))).drop 1) (MZ 19 [] []) h [4] K=(K .ret 19 [I (-1)] h):=kr
theorem ZGl{a j c d h}(K):CP Trye.Y 165 (flat (Za Tryz.f165)) (J a j none::.p (some (c,0))::.p (some (d,0))::Rp 17) h [4] K=(∃e,Zb h c 0 1=some [I e]/\If ((↑j:Int) !=e) (K .ret 20 [.b true] h) (∃f,(PCon Trye.Y 164 [J a j none] λv=>v=I f)/\If (ltI f 0) (K .ret 20 [.b true] h) (∃g,(PCon Trye.Y 163 [J a j none] λv=>v=I g)/\ ∃i,Zb h d 0 1=some [I i]/\K .ret 20 [.b (leI i g)] h))):=kr
theorem ZGm{cs h}(K):CP Trye.Y 127 (flat (Za Tryz.f127)) (.agg cs::Rp 39) h [2] K=(If (decide (cs.length=(258:Nat))&&Zp cs) (∃a b c,Zb (h.push (YObj.arr cs true)) h.nx 256 1=some [J a b c]/\ ∃d,Zi ((h.push (YObj.arr cs true)).pushT (Trye.Y.tag (3:Nat)) (YObj.arr [I 0] true)) (h.nx+(1:Nat)) 0 [I (b:Int)]=some d/\((1=0->False)/\ ∃e f,d.get h.nx=some (YObj.arr e f)/\256<=e.length)/\ ∃e,FCon Trye.Y (163:Nat) [S (some (h.nx,0)) 256 (some 256) 1] d (I e)/\ ∃f,Zi (d.pushT (Trye.Y.tag (3:Nat)) (YObj.arr [I 0] true)) d.nx 0 [I (wW (e+(1:Int)))]=some f/\((1=0->False)/\ ∃g i,f.get h.nx=some (YObj.arr g i)/\256<=g.length)/\ ∃g,FCon Trye.Y (164:Nat) [S (some (h.nx,0)) 256 (some 256) 1] f (I g)/\If (ltI g 0) (K .ret 40 [.b false] f) (∃i,Zb f d.nx 0 1=some [I i]/\If (ltI 256 i) (K .ret 40 [.b false] f) (∃j,Zb f (h.nx+(1:Nat)) 0 1=some [I j]/\If (ltI j 1) (K .ret 40 [.b false] f) (∃l,Zb f (h.nx+(1:Nat)) 0 1=some [I l]/\If (ltI 300 l) (K .ret 40 [.b false] f) (∃m n o,Zb f h.nx 257 1=some [J m n o]/\ ∃q,Zb f (h.nx+(1:Nat)) 0 1=some [I q]/\If ((↑n:Int) !=q) (K .ret 40 [.b false] f) (∃r s t,Zb f h.nx 256 1=some [J r s t]/\Con Trye.Y 65 [J r s t,V.fn (Fn.func (165:Nat)) [] [.p (some (d.nx,0)),.p (some (h.nx+(1:Nat),0))]] f fun(v:V) (k:Heap)=> ∃u,v=.b u/\K .ret 40 [.b !u] k)))))) False):=kr
theorem Zh1: ∀(r:List Int) (a x:Int),(x=a\/x∈r)->x<=r.foldl (λx y=>if y>x then y else x) a
 | [],a,x,h=>by
  rcases h with h|h
  .rw[h];exact Int.le_refl _
  .cases h
 |y::r,a,x,h=>by
  rw[uR];have c:=Zh1 r (if y>a then y else a);rcases h with h|h
  .have:=c _ (.inl rfl);subst h;split at this<;>split<;>omega
  .rcases qu.1 h with h|h
   .have:=c _ (.inl rfl);subst h;split at this<;>split<;>omega
   .exact c x (.inr h)
theorem Zh2: ∀(r:List Int) (a b:Int),a<=b->(∀x∈r,x<=b)->r.foldl (λx y=>if y>x then y else x) a<=b
 | [],a,b,h,_=>h
 |y::r,a,b,h,hr=>by
  rw[uR];refine Zh2 r _ b ?_ λx c=>hr x (.tail _ c);have:=hr y (.head _);split<;>omega
theorem Zh3: ∀(r:List Int) (a b:Int),b<=a->(∀x∈r,b<=x)->b<=r.foldl (λx y=>if y<x then y else x) a
 | [],a,b,h,_=>h
 |y::r,a,b,h,hr=>by
  rw[uR];refine Zh3 r _ b ?_ λx c=>hr x (.tail _ c);have:=hr y (.head _);split<;>omega
theorem Zxc{l:List Int}{b:Int}(a:l≠ [])(h: ∀x∈l,x<=b):maxZ l<=b:=by
 cases l with
 |nil=>exact absurd rfl a
 |cons x r=>exact Zh2 r x b (h x (.head _)) λy c=>h y (.tail _ c)
theorem ZGn{l:List Int}{x:Int}(h:x∈l):x<=maxZ l:=by
 cases l with
 |nil=>cases h
 |cons y r=>exact Zh1 r y x (qu.1 h)
theorem Zxd{l:List Int}{b:Int}(a:l≠ [])(h: ∀x∈l,b<=x):b<=minZ l:=by
 cases l with
 |nil=>exact absurd rfl a
 |cons x r=>exact Zh3 r x b (h x (.head _)) λy c=>h y (.tail _ c)
theorem Zq2: ∀l:List Nat,row encI (l.map fun(k:Nat)=>(k:Int))=clsI l
 | []=>rfl
 |k::l=>by
  have e:row encI ((k::l).map fun(k:Nat)=>(k:Int))=I (k:Nat)::row encI (l.map fun(k:Nat)=>(k:Int)):=rfl;rw[e,Zq2 l];rfl
theorem ZGo(r:List Int)(w n:Nat)(g:r.length=w)(o:0<w/\w<=256)(hr: ∀x∈r,0<=x/\x<(n:Nat)){h:Heap}{c d:Nat}(l:h.get c=some (.arr [I w] true))(m:h.get d=some (.arr [I n] true)):
  RCon Trye.Y 165 [lst encI r, .p (some (c,0)), .p (some (d,0))] h (.b false):=by
 have a:r≠ []:=by intro e;subst e;simp at g;omega
 have k:Con Trye.Y 165 [lst encI r, .p (some (c,0)), .p (some (d,0))] h λv j=>v= .b false/\j=h:=by
  refine Zv Trye.Yok (fn:=Tryz.f165) (Zo Trye.Yok ZGl rfl ?_);refine⟨_,by rw[Zs l];rfl,ifF (by rw[g];simp) ⟨_,PCon.ze (ZCy r a om),ifF ?_ ⟨_,PCon.ze (ZCx r a om),_,(by rw[Zs m];rfl),finC rr rfl (.now ⟨?_,rfl⟩)⟩⟩⟩
  .have:=Zxd a λx f=>(hr x f).1;simp[ltI];omega
  .have:=Zxc (b:=(n:Int)-1) a λx f=>by have:=(hr x f).2;omega
   simp only[leI];rw[uK om];rfl
 exact⟨h,k,λ_ _=>rfl,λ_ hp=>hp⟩
theorem ZAt(N:List (List Int))(w n:Nat)(k:0<w/\w<=256)(t: ∀r∈N,r.length=w/\ ∀x∈r,0<=x/\x<(n:Nat)){h:Heap}{a d:Nat}(l:h.get a=some (.arr [I w] true))(o:h.get d=some (.arr [I n] true))(u:N.length<=300):
  Con Trye.Y 85 [lst Xm N, .fn (.func 165) [] [.p (some (a,0)), .p (some (d,0))]] h λv e=>v= I (-1)/\e=h:=by
 refine Zv Trye.Yok (fn:=Tryz.f85) ?_;refine Zh Trye.Yok 19 ZMv rfl ?_;refine⟨rfl,ZN [0,1,7,8] [0,1,4,7,8] (λm f e=> ∃i:Nat,f= [lst Xm N, .fn (.func 165) [] [.p (some (a,0)), .p (some (d,0))],I N.length,I (i:Nat)]/\i<=N.length/\m=N.length-i/\e=h) N.length ZA ⟨0,rfl,om,om,rfl⟩ ?_⟩;rintro m f e ⟨i,rfl,y,rfl,rfl⟩;refine Zn Trye.Yok ZMw rfl ?_;refine Zq (λc=> ?_) (λj=> ?_)
 .have g:=t _ (qe c);refine⟨Zu c,_,_,_,getL N c,_,ZGo N[i] w n g.1 k g.2 l o,ifF rfl ?_⟩;exact⟨rfl,N.length-(i+1),om,i+1,by rw[Ze om];rfl,om,rfl,rfl⟩
 .refine Zj [] ?_;refine Zo Trye.Yok ZMx rfl ?_;exact finC rr rfl (.now ⟨rfl,rfl⟩)
theorem Zoo(N:List (List Int))(w n:Nat)(f:0<w/\w<=256)(e: ∀r∈N,r.length=w/\ ∀x∈r,0<=x/\x<(n:Nat)){h:Heap}{a c:Nat}(m:h.get a=some (.arr [I w] true))(g:h.get c=some (.arr [I n] true))(k:N.length<=300):
  Con Trye.Y 65 [lst Xm N, .fn (.func 165) [] [.p (some (a,0)), .p (some (c,0))]] h λv d=>v= .b false/\d=h:=by
 refine Zv Trye.Yok (fn:=Tryz.f65) (Zo Trye.Yok ZMu rfl ?_);exact(ZAt N w n f e m g k).mono λv d ⟨l,j⟩=>⟨_,l,finC rr rfl (.now ⟨rfl,j⟩)⟩
theorem DOk.max{a:List Nat}{N:List (List Int)}{G}{w:Nat}(d:DOk a N G w):maxZ (a.map fun(k:Nat)=>(k:Int))=((w-1:Nat):Int):=by
 have c:(a.map fun(k:Nat)=>(k:Int))≠ []:=by
  intro e;have:=congrArg List.length e;rw[qC,d.c256]at this;simp at this
 have h:=Zxc (b:=((w-1:Nat):Int)) c λx f=>by
  obtain⟨k,g,rfl⟩:=uW.1 f;have:=d.clt k g;have:=d.w1;omega
 have j:=ZGn (l:=a.map fun(k:Nat)=>(k:Int)) (uW.2 ⟨w-1,d.cmx,rfl⟩);omega
theorem DOk.min{a:List Nat}{N:List (List Int)}{G}{w:Nat}(d:DOk a N G w):0<=minZ (a.map fun(k:Nat)=>(k:Int)):=by
 refine Zxd (λe=> ?_) λx c=> ?_
 .have:=congrArg List.length e;rw[qC,d.c256]at this;simp at this
 .obtain⟨k,f,rfl⟩:=uW.1 c;omega
theorem QW(a:List Nat)(N:List (List Int))(G)(h:a.length=256):(dfaC a N G).length=258:=by simp[dfaC,clsI,h]
theorem Zba(a)(N:List (List Int))(G):Zp (dfaC a N G)=true:=by
 unfold dfaC
 induction a with
 |nil=>rfl
 |cons k r c=>simp only[clsI,qz,qs,Zp,qrq];exact⟨rfl,c⟩
theorem WP(a)(N:List (List Int))(G):Xb (dfaC a N G)=true:=by
 unfold dfaC
 induction a with
 |nil=>rfl
 |cons k r c=>simp only[clsI,qz,qs,Xb,qrq];exact⟨rfl,c⟩
theorem Zxe(a)(N:List (List Int))(G):Xo [.agg (dfaC a N G)]=true:=by
 show(Xb (dfaC a N G)&&true)=true;rw[WP];rfl
theorem WQ{h:Heap}{a:Nat}{c:List Nat}{N:List (List Int)}{G}(d:h.get a=some (.arr (dfaC c N G) true))(e:c.length=256):Zb h a 256 1=some [lst Xm N]/\Zb h a 257 1=some [lst Zl G]:=ZGi d e
theorem Zxf{h:Heap}{d:Nat}{a:List Nat}{N:List (List Int)}{G}(e:h.get d=some (.arr (dfaC a N G) true)){c:Nat}(f:c<a.length)(o:Nat)(g:o=c):Zb h d o 1=some [I (a[c]:Nat)]:=by
 subst g;rw[Zs e];unfold dfaC;rw[List.drop_append_of_le_length (by simp[clsI];omega),uM (by simpa[clsI]using f)];simp[Zr]
theorem Zxg{h:Heap}{f:Nat}{a:List Nat}{N:List (List Int)}{G}(j:h.get f=some (.arr (dfaC a N G) true))(d:a.length=256):Frz h (.sl (some (f,0)) 256 (some 256) 1) (lst encI (a.map fun(k:Nat)=>(k:Int))):=by
 have e:lst encI (a.map fun(k:Nat)=>(k:Int))= .ts (clsI a) 256 none:=by
  show V.ts _ _ _=_;rw[Zq2,qC,d]
 rw[e];refine .sl _ _ _ _ _ _ true (clsI a) _ _ j ?_ (λx g=>by cases g) dc (frzN h a);rw[ql];unfold dfaC;have c:(clsI a).length=256:=by simp[clsI,d]
 rw[WD (by simp[c]),List.take_left' c]
theorem ZC3{f}{N:List (List Int)}{G}{w:Nat}(d:DOk f N G w):PCon Trye.Y 127 [.agg (dfaC f N G)] (· = .b true):=by
 refine Zw Trye.Yok (fn:=Tryz.f127) (Zxe _ _ _) ZGm rfl ?_;have n:Trye.Y.tag 3=none:=kr;rw[n];have l:(f.map fun(k:Nat)=>(k:Int))≠ []:=by
  intro e;have:=congrArg List.length e;rw[qC,d.c256]at this;simp at this
 have z:=d.max;have E:=d.min;have w1:=d.w1;have K:=d.w2;have X:=d.n1;have L:=d.n2;have m:(f.map fun(k:Nat)=>(k:Int)).length<2 ^ 20:=by rw[qC,d.c256];decide
 generalize g:dfaC f N G=h;have o:h.length=258:=by rw[<-g];exact QW _ _ _ d.c256
 have j:Zp h=true:=by rw[<-g];exact Zba _ _ _
 refine ifT (by rw[j];simp[o]) ?_;have C:(Heap.empty.push (.arr h true)).get Heap.empty.nx=some (.arr (dfaC f N G) true):=by rw[qk,uF rfl,g]
 refine⟨_,_,_,(WQ C d.c256).1,?_⟩;obtain⟨a,x⟩: ∃a,a=((Heap.empty.push (.arr h true)).pushT none (.arr [I 0] true)).set (Heap.empty.nx+1) (some (.arr [I (N.length:Nat)] true)):=⟨_,rfl⟩;have s1:Zi ((Heap.empty.push (.arr h true)).pushT none (.arr [I 0] true)) (Heap.empty.nx+1) 0 [I (N.length:Nat)]=some a:=by
  rw[x];exact ZM (cs:= [I 0]) (by rw[qj,uF sm]) sm
 have y:a.get Heap.empty.nx=some (.arr (dfaC f N G) true):=by
  rw[x,qc,uE om,qj,uE sm];exact C
 have D:a.get (Heap.empty.nx+1)=some (.arr [I (N.length:Nat)] true):=by rw[x,qc,uF rfl]
 have W:a.nx=Heap.empty.nx+2:=by rw[x,Heap.nx_set];simp
 refine⟨a,s1,⟨dc,_,_,y,by rw[QW _ _ _ d.c256];decide⟩,_,⟨_, .cons _ _ _ _ (Zxg y d.c256) .nil,PCon.ze (ZCx _ l m)⟩,?_⟩;rw[z,show(((w-1:Nat):Int)+1)=(w:Int) from om];have H:wW (w:Int)=(w:Int):=by
  have:=Ze (i:=w-1) om;rw[show((w-1:Nat):Int)+1=(w:Int) from om]at this;rw[this];omega
 rw[H];obtain⟨c,u⟩: ∃c,c=(a.pushT none (.arr [I 0] true)).set a.nx (some (.arr [I w] true)):=⟨_,rfl⟩;have s2:Zi (a.pushT none (.arr [I 0] true)) a.nx 0 [I w]=some c:=by
  rw[u];exact ZM (cs:= [I 0]) (by rw[qj,uF rfl]) sm
 have t:c.get Heap.empty.nx=some (.arr (dfaC f N G) true):=by
  rw[u,qc,uE om,qj,uE om];exact y
 have A:c.get (Heap.empty.nx+1)=some (.arr [I (N.length:Nat)] true):=by
  rw[u,qc,uE om,qj,uE om];exact D
 have B:c.get a.nx=some (.arr [I w] true):=by rw[u,qc,uF rfl]
 have c1:Zb c (Heap.empty.nx+1) 0 1=some [I (N.length:Nat)]:=by rw[Zs A];rfl
 have c2:Zb c a.nx 0 1=some [I w]:=by rw[Zs B];rfl
 refine⟨c,s2,⟨dc,_,_,t,by rw[QW _ _ _ d.c256];decide⟩,_,⟨_, .cons _ _ _ _ (Zxg t d.c256) .nil,PCon.ze (ZCy _ l m)⟩,?_⟩;refine ifF (by simp[ltI];omega) ⟨_,c2,ifF (by simp[ltI];omega) ⟨_,c1,ifF (by simp[ltI];omega) ⟨_,c1,ifF (by simp[ltI];omega) ⟨_,_,_,(WQ t d.c256).2,_,c1,ifF (by rw[d.ng];simp) ⟨_,_,_,(WQ t d.c256).1,?_⟩⟩⟩⟩⟩;refine(Zoo N w N.length ⟨w1,K⟩ (λr hr=>⟨d.rl r hr,d.rx r hr⟩) B A L).mono λv O ⟨F,P⟩=>⟨_,F,ZB rr rfl (.b _) rfl⟩
end Go.Y
