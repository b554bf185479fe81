/- A part of the proof. -/
import Derived.Test.YteennilbmmlikaaGreatDoorGTrL
import Derived.Test.YteennilbmmlikaaGreatDoorGRule
import Derived.Test.YteennilbmmlikaaGreatDoorGSpanE
import Derived.Test.YteennilbmmlikaaGreatDoorYLoop
import Derived.Test.YteennilbmmlikaaGreatDoorYAny3
import Derived.Test.YteennilbmmlikaaGreatDoorGN0
import Derived.Test.YteennilbmmlikaaGreatDoorGWkD
namespace Go.Y
open Go.Proofs
set_option maxRecDepth 1000000
set_option maxHeartbeats 0
def Zbc:List V->Nat
 | .sl none _ _ _::_=>1
 | .sl (some _) _ _ _::_=>2
 | .b _::_=>3
 | .i k n::r=>if((V.i k n)::r).length<=256 then 4 else 5
 |_=>0
structure FrK(q n:Nat)(h h':Heap):Prop where
 nx:h.nx<=h'.nx
 keep: ∀j cs wr,j<h.nx->h.get j=some (.arr cs wr)->(Zbc cs≠q∨j<n)->h'.get j=h.get j
theorem FrK.of{q n:Nat}{h a:Heap}(c:h.nx<=a.nx)(d: ∀j,j<h.nx->a.get j=h.get j):FrK q n h a:=⟨c,λj _ _ b _ _=>d j b⟩
def LN(h:Heap)(a:Option (Nat×Nat))(l:Nat)(c:Option Nat)(k:Nat)(cells:List V):Prop:=
 (a=none/\l=0/\cells= [])\/ ∃j,a=some (j,0)/\c=none/\k=1/\j<h.nx/\h.get j=some (.arr cells true)/\cells≠ []/\l=cells.length
theorem LN.nil(h)(c)(k:Nat):LN h none 0 c k []:= .inl ⟨rfl,rfl,rfl⟩
theorem LN.isL{h}{a}{l:Nat}{c}{k:Nat}{cells}(o:LN h a l c k cells):IsL h 1 a l c k cells:=by rcases o with ⟨rfl,rfl,rfl⟩|⟨j,rfl,rfl,rfl,b,d,e,rfl⟩;exact IsL.nil _ _ _ _;exact⟨sm, .inr ⟨j,rfl,rfl,rfl,b,d⟩⟩
theorem LN.len{h}{a}{l:Nat}{c}{k:Nat}{cells:List V}(o:LN h a l c k cells):l=cells.length:=by rcases o with ⟨rfl,rfl,rfl⟩|⟨j,rfl,rfl,rfl,b,d,e,rfl⟩<;>rfl
theorem LN.of{h d:Heap}{a}{l:Nat}{c}{k:Nat}{cells}(o:IsL d 1 a l c k cells)(i: ∃j,a=some (j,0)/\h.nx<=j)(b:cells≠ []):LN d a l c k cells:=by rcases o.2 with ⟨rfl,_,_⟩|⟨m,rfl,rfl,rfl,f,g⟩;obtain⟨j,e,_⟩:=i;cases e;exact .inr ⟨m,rfl,rfl,rfl,f,g,b,by have:=o.1;omega⟩
theorem LN.keep{q n:Nat}{h b}{a}{l:Nat}{c}{k:Nat}{cells}(o:LN h a l c k cells)(f:FrK q n h b)(m:Zbc cells≠q\/ ∀j,a=some (j,0)->j<n):LN b a l c k cells:=by rcases o with p|⟨j,rfl,rfl,rfl,d,e,i,rfl⟩;exact .inl p;exact .inr ⟨j,rfl,rfl,rfl,qv d f.nx,by rw[f.keep j _ _ d e (m.imp id λg=>g j rfl),e],i,rfl⟩
theorem ZD4{q n:Nat}{h d}{a}{l:Nat}{c}{k:Nat}{cells}(o:LN h a l c k cells)(s:cells≠ []->Zbc cells=q)(p: ∀j,a=some (j,0)->n<=j)(f:Fr h a d):FrK q n h d:=by refine⟨f.1,λj t wr r g b=>f.2 j r λv e=> ?_⟩;rcases o with ⟨rfl,_⟩|⟨u,rfl,_,_,_,i,m,_⟩;cases e;cases e;rw[i]at g;cases g;rcases b with b|b;exact b (s m);have:=p j rfl;omega
theorem appN{Y:YP}{st e:TypeId}{te:TI}{q n:Nat}{h:Heap}{a:Option (Nat×Nat)}{l:Nat}{c:Option Nat}{k:Nat}{cells:List V}(v:V)(w:Y.kd st=some (.slice e))(r:Y.ty e=some te)(y:te.size=1)(p:te.bytes<=1024)(u:Zp [v]=true)
  (o:LN h a l c k cells) (D:cells.length<2 ^ 29) (x:cells≠ []->Zbc cells=q) (t: ∀j,a=some (j,0)->n<=j):
  ∃b i f g d,Zk Y h st st (.sl a l c k) (.ts [v] 1 (some 1))=some (.sl b i f g,d)/\LN d b i f g (cells++ [v])/\FrK q n h d/\ ∃j,b=some (j,0)/\h.nx<=j:=by
 have F:most=1099511627776:=dc;have E:=o.len;have C:(l+1)*te.bytes<=2 ^ 29*1024:=Nat.mul_le_mul om p;obtain⟨b,i,f,g,d,z,A,B,G,s⟩:=Zbx (Y:=Y) (new:= [v]) (m:=1) (cap:=some 1) w r y dc o.isL dc rfl u om om;exact⟨b,i,f,g,d,z,LN.of A s sm,ZD4 o x t B,s⟩
theorem ZS4{Y:YP}{st e:TypeId}{te:TI}{q n:Nat}{h:Heap}{a:Option (Nat×Nat)}{l:Nat}{c:Option Nat}{k:Nat}{cells:List V}(v:V)(w:Y.kd st=some (.slice e))(r:Y.ty e=some te)(y:te.size=1)(p:te.bytes<=1024)(u:Zp [v]=true)
  (o:LN h a l c k cells) (D:cells.length<2 ^ 29) (x:cells≠ []->Zbc cells=q) (t: ∀j,a=some (j,0)->n<=j):
  ∃b i f g d,Zk Y (h.push (.arr [v] true)) st st (.sl a l c k) (.sl (some (h.nx,0)) 1 (some 1) 1)=some (.sl b i f g,d)/\LN d b i f g (cells++ [v])/\FrK q n h d/\ ∃j,b=some (j,0)/\h.nx<=j:=by
 have F:most=1099511627776:=dc;have E:=o.len;have C:(l+1)*te.bytes<=2 ^ 29*1024:=Nat.mul_le_mul om p;obtain⟨b,i,f,g,d,z,A,B,G,s⟩:=Zsv (Y:=Y) (new:= [v]) (m:=1) w r y dc o.isL dc rfl u om om;exact⟨b,i,f,g,d,z,LN.of A s sm,ZD4 o x t B,s⟩
def NestZ(n w:Nat)(h:Heap)(cells:List V)(N:List (List Int)):Prop:=
 cells.length=N.length/\ ∀(p:Nat) (l:List Int),N[p]? =some l->l.length=w/\ ∃j,cells[p]? =some (.sl (some (j,0)) w none 1)/\h.get j=some (.arr (Xh l) true)/\j<n/\j<h.nx
theorem NestZ.nil(n w:Nat)(h):NestZ n w h [] []:=⟨rfl,λp l a=>by simp at a⟩
theorem VA{l:List Int}(a:l≠ [])(b:l.length<=256):Zbc (Xh l)=4:=by
 cases l with
 |nil=>exact absurd rfl a
 |cons x r=>simp only[Xh,qz,Zbc];rw[uF (by simp at b ⊢;omega)]
theorem NestZ.keep{n w q m:Nat}{h c}{cells}{N:List (List Int)}(z:NestZ n w h cells N)(f:FrK q m h c)(r:0<w/\w<=256)(a:q≠4\/n<=m):NestZ n w c cells N:=
 ⟨z.1,λp l o=>by
  obtain⟨b,j,i,d,k,g⟩:=z.2 p l o;refine⟨b,j,i,?_,k,qv g f.nx⟩;rw[f.keep j _ _ g d ?_,d];rcases a with a|a
  .left
   rw[VA (λe=>by rw[e]at b;simp at b;omega) om];exact Ne.symm a
  .right;omega⟩
theorem NestZ.snoc{n m w:Nat}{h:Heap}{cells}{N:List (List Int)}(z:NestZ n w h cells N){j:Nat}{l:List Int}(r:l.length=w)(o:h.get j=some (.arr (Xh l) true))(v:n<=m)(q:j<m)(c:j<h.nx):NestZ m w h (cells++ [.sl (some (j,0)) w none 1]) (N++ [l]):=by
 have b:=z.1;refine⟨by simp[b],λp t a=> ?_⟩;by_cases d:p<N.length;rw[vC d]at a;obtain⟨f,s,g,i,u,k⟩:=z.2 p t a;exact⟨f,s,by rw[vC om];exact g,i,om,k⟩
 .rw[vB om]at a;have e:p-N.length=0:=by
   rcases Nat.eq_zero_or_pos (p-N.length)with h0|h0;exact h0;rw[qq (by simp;omega)]at a;cases a
  rw[e]at a;simp at a;subst a;exact⟨r,j,by rw[vB om,show p-cells.length=0 from om];rfl,o,q,c⟩
theorem NestZ.more{n m w:Nat}{h}{cells}{N:List (List Int)}(z:NestZ n w h cells N)(f:n<=m):NestZ m w h cells N:=
 ⟨z.1,λp l d=>by obtain⟨h1,j,a,b,e,c⟩:=z.2 p l d;exact⟨h1,j,a,b,om,c⟩⟩
theorem NestZ.kind{n w:Nat}{h}{cells}{N:List (List Int)}(z:NestZ n w h cells N)(b:cells≠ []):Zbc cells=2:=by
 cases cells with
 |nil=>exact absurd rfl b
 |cons v r=>
  have d:=z.1;obtain⟨l,a⟩: ∃l,N[0]? =some l:=⟨N[0]'(by simp at d;omega),qo _⟩;obtain⟨_,j,c,_⟩:=z.2 0 l a;simp at c;subst c;rfl
theorem Ztr(l):ZZ (Xh l)=true:=by
 induction l with
 |nil=>rfl
 |cons x r a=>simp only[Xh,qz,ZZ,qrq];exact⟨rfl,a⟩
theorem NestZ.frz{n' w:Nat} : ∀ {cells} {N:List (List Int)} {h:Heap},NestZ n' w h cells N->FrzL h cells (row Xk N)
 | [],[],_,_=> .nil
 | [],_::_,_,n=>by have:=n.1;simp at this
 |_::_,[],_,n=>by have:=n.1;simp at this
 |v::cells,l::L,h,n=>by
  obtain⟨a,j,b,k,s,t⟩:=n.2 0 l rfl;simp at b;subst b;have e:row Xk (l::L)=lst encI l::row Xk L:=rfl;rw[e];refine .cons _ _ _ _ ?_ (NestZ.frz (n':=n') (w:=w) ⟨by have:=n.1;simp at this;exact this,λp r m=> ?_⟩);rw[show lst encI l= .ts (Xh l) w none by simp only[lst,rowI,a]];exact .sl _ _ _ _ _ _ true _ _ _ k (by rw[ql];exact ZC (by simp[Xh,a])) (λx o=>by cases o) dc (Xa _ (Ztr l));obtain⟨c,q,d,f,g,i⟩:=n.2 (p+1) r (su m);exact⟨c,q,su d,f,g,i⟩
abbrev nilC:V:= .sl none 0 (some 0) 0
abbrev Zl(b:Bool):List V:= [.b b]
abbrev clsI(a:List Nat):List V:=a.map λk=>I (k:Nat)
structure MkI(n0 w:Nat)(cl:List Nat)(T N:List (List Int))(G:List Bool)(id8 id9 l9:Nat)(c9:Option Nat)(h:Heap):Prop where
 ex: ∃(an:Option (Nat×Nat)) (ln:Nat) (cn:Option Nat) (kn:Nat) (ag:Option (Nat×Nat)) (lg:Nat) (cg:Option Nat) (kg:Nat) (cells:List V),h.get id8=some (.arr (clsI cl++ [.sl an ln cn kn, .sl ag lg cg kg]) true)∧
  LN h an ln cn kn cells∧NestZ n0 w h cells N∧LN h ag lg cg kg (G.map V.b)
 li:LX (fun v:V=> [v]) 1 h (some (id9,0)) l9 c9 1 (nilC::T.map (lst encI))
 l8:id8<h.nx
 n0:n0<=h.nx
 cl:cl.length=256
 w:0<w∧w<=256
theorem Zmw(l:List V):row (λv:V=> [v]) l=l:=by
 induction l with
 |nil=>rfl
 |cons v r a=>
  have:row (λv:V=> [v]) (v::r)=v::row (λv:V=> [v]) r:=rfl;rw[this,a]
theorem Zmx{a:List Nat}(h:a.length=256)(x y:V):Zbc (clsI a++ [x,y])=5:=by
 cases a with
 |nil=>simp at h
 |cons k r=>
  simp only[clsI,qz,qs,Zbc];rw[uE (by simp at h ⊢;omega)]
theorem Zif(G:List Bool)(h:G.map V.b≠ []):Zbc (G.map V.b)=3:=by
 cases G with
 |nil=>exact absurd rfl h
 |cons b r=>rfl
theorem Zyb(T:List (List Int)):Zbc (nilC::T.map (lst encI))=1:=rfl
theorem LX.keepK{q n:Nat}{h a}{d l:Nat}{c}{T:List (List Int)}(o:LX (λv:V=> [v]) 1 h (some (d,0)) l c 1 (nilC::T.map (lst encI)))(f:FrK q n h a)(k:q≠1):LX (λv:V=> [v]) 1 a (some (d,0)) l c 1 (nilC::T.map (lst encI)):=by obtain⟨j,e,_,g,b,_⟩:=o.cells sm;cases e;refine o.fr f.nx λm e i=> ?_;cases e;rw[Zmw]at b;exact f.keep _ _ _ g b (.inl (by rw[Zyb];exact Ne.symm k))
theorem LN.kindne{h}{a}{l:Nat}{c}{k:Nat}{cells}{q p:Nat}(o:LN h a l c k cells)(e:cells≠ []->Zbc cells=p)(f:q≠p)(d:q≠0):Zbc cells≠q:=by by_cases b:cells= [];subst b;exact Ne.symm d;rw[e b];exact Ne.symm f
theorem MkI.row{c w:Nat}{d}{T N:List (List Int)}{G}{a b l:Nat}{c9}{h e}(s:MkI c w d T N G a b l c9 h)(f:FrK 4 c h e):MkI c w d T N G a b l c9 e:=by
 obtain⟨n,u,p,r,m,t,o,q,cells,g,i,j,k⟩:=s.ex;exact⟨⟨n,u,p,r,m,t,o,q,cells,by rw[f.keep _ _ _ s.l8 g (.inl (by rw[Zmx s.cl];decide)),g],i.keep f (.inl (i.kindne j.kind dc dc)),j.keep f s.w (.inr (qnq _)),k.keep f (.inl (k.kindne (Zif G) dc dc))⟩,
  s.li.keepK f dc,qv s.l8 f.nx,uu s.n0 f.nx,s.cl,s.w⟩
theorem MkI.more{q w:Nat}{c}{T N:List (List Int)}{G}{a b d:Nat}{c9}{h:Heap}(s:MkI q w c T N G a b d c9 h):MkI h.nx w c T N G a b d c9 h:=by obtain⟨f,p,i,n,e,o,g,m,cells,h1,j,k,l⟩:=s.ex;exact⟨⟨f,p,i,n,e,o,g,m,cells,h1,j,k.more s.n0,l⟩,s.li,s.l8,qnq _,s.cl,s.w⟩
theorem MkI.list{K w:Nat}{z}{T N:List (List Int)}{G}{m n H:Nat}{c9}{h}(s:MkI K w z T N G m n H c9 h)(x:List Int)(hT:T.length<2 ^ 20){a}{l:Nat}{c}{k:Nat}{r:List Int}(F:LN h a l c k (Xh r))(hrl:r.length<=256):
  ∃g u q b,Zk dY_ h 33 33 (.sl (some (n,0)) H c9 1) (.ts [lst encI x] 1 (some 1))=some (.sl (some (g,0)) u q 1,b)/\MkI K w z (T++ [x]) N G m g u q b/\LN b a l c k (Xh r):=by
 obtain⟨j,e,_,hj,E,_⟩:=s.li.cells sm;cases e;rw[Zmw]at E;obtain⟨a',u,q,k',b,q1,L,O,_⟩:=LX.app (Y:=dY_) (f:=λv:V=> [v]) (k:=1) (out:=nilC::T.map (lst encI)) (new:= [lst encI x]) (st:=33) (e:=32) (te:=⟨1,24, .slice 3,[.sl none 0 (some 0) 0]⟩) (lst encI x) rfl (λ_=>rfl) kr kr rfl dc rfl dc s.li (by simp;omega);have f:FrK 1 0 h b:=⟨O.1,λi cs wr hi d t=>O.2 i hi λo eo=>by
  cases eo;rw[E]at d;cases d;rcases t with t|t;exact t (Zyb T)
  .omega⟩
 obtain⟨j',rfl,rfl,_⟩:=L.cells sm;obtain⟨W,ln,Z,kn,P,lg,X,kg,cells,A,B,C,D⟩:=s.ex;refine⟨j',u,q,b,q1,⟨⟨W,ln,Z,kn,P,lg,X,kg,cells,by rw[f.keep _ _ _ s.l8 A (.inl (by rw[Zmx s.cl];decide)),A],B.keep f (.inl (B.kindne C.kind dc dc)),C.keep f s.w (.inl dc),D.keep f (.inl (D.kindne (Zif G) dc dc))⟩,
  by have:=L;rwa [qs,<-List.map_singleton (f:=lst encI),<-uV]at this,qv s.l8 f.nx,uu s.n0 f.nx,s.cl,s.w⟩,F.keep f (.inl (F.kindne (p:=4) (λy=>VA (λe=>y (by rw[e];rfl)) hrl) dc dc))⟩
structure Bk(n:Nat)(h0 h:Heap)(id:Nat)(bs:List UInt8):Prop where
 ex: ∃(a s:Option (Nat×Nat)) (m:Nat) (c:Option Nat) (k:Nat),h.get id=some (.arr [.p a, .sl s m c k] true)∧(a=none∨a=some (id,0))∧IsL h 1 s m c k (bs.map WO)∧
  (∀j o,s=some (j,o)->h.tagOf j=some 5∧j≠id∧n<=j)∧(m=0->s=none)
 tag:h.tagOf id=some 182
 lt:id<h.nx
 lo:n<=id
 keep: ∀i,i<n->h.get i=h0.get i
theorem Bk.more{n:Nat}{q h h1:Heap}{u:Nat}{p}(b:Bk n q h u p)(C:h.nx<=h1.nx)(f: ∀i,i<h.nx->h1.get i=h.get i)(t: ∀i,i<h.nx->h1.tagOf i=h.tagOf i):Bk n q h1 u p:=by
 obtain⟨a,s,m,c,k,g,z,r,D,hz⟩:=b.ex;have d:=b.lt;have l:=b.lo;refine⟨⟨a,s,m,c,k,by rw[f _ d];exact g,z,r.fr C (λj _ B=>f j B),λj o e=> ?_,hz⟩,by rw[t _ d];exact b.tag,om,l,λi A=>by rw[f _ om];exact b.keep i A⟩;obtain⟨v,w,x⟩:=D j o e;refine⟨?_,w,x⟩;rcases r.2 with ⟨rfl,_,_⟩|⟨E,rfl,_,_,y,_⟩;cases e;cases e;rw[t _ y];exact v
theorem ZHh{n:Nat}{z h:Heap}{d:Nat}{u}(b:Bk n z h d u):Con UY 162 [p_P d] h λv y=>v= .tup []/\Bk n z y d u/\y.nx=h.nx:=by
 obtain⟨a,s,m,c,k,l,o,D,C,hz⟩:=b.ex;have r:=b.lo;refine Zx UK (fn:=Tryz.f162) (ZG UK (loc:=UY.loc 162) 100 [] ?_);refine Eq.mpr (ZDj d h _) ?_;have A:Zb h d 0 1=some [.p a]:=by simp[Zb,l,Zs]
 have g:(UY.ty 182).isSome=true:=kr;refine⟨a,A,g,Zf (λB=> ?_) (λB=> ?_)⟩
 .have x: ∃(f:Nat) (w:List V) (wr:Bool) (t:TI),some (d,0)=some (f,0)/\h.get f=some (YObj.arr w wr)/\h.tagOf f=some 182/\some (⟨2,32,Kd.struct [(0,180),(1,138)],[.p none, .sl none 0 (some 0) 0]⟩:TI)=some t/\(t.size=0->False)/\t.size<=w.length:=
   ⟨d,_,_,_,rfl,l,b.tag,rfl,sm,sm⟩
  refine⟨x,x,h.set d (some (.arr [p_P d, .sl s m c k] true)),by simp[Zi,l,splice],finC (.inl rfl) rfl (.now ⟨rfl,⟨⟨some (d,0),s,m,c,k,sm, .inr rfl,?_,C,hz⟩,b.tag,b.lt,r,λi E=> ?_⟩,rfl⟩)⟩
  .exact D.fr (qnq _) λj F _=>by rw[qc,uE (λe=>(C j 0 F).2.1 e)]
  .rw[qc,uE om];exact b.keep i E
 .have q:a=some (d,0):=by
   rcases o with rfl|o;simp at B;exact o
  subst q;exact⟨_,A,g,⟨(d,0),rfl,rfl,by simp[l]⟩,finC (.inl rfl) rfl (.now ⟨rfl,b,rfl⟩)⟩
theorem Zts{n:Nat}{B h:Heap}{d:Nat}{q:List UInt8}(b:Bk n B h d q)(c:UInt8)(X:q.length<2 ^ 29):Con UY 126 [p_P d, .i .u8 (c.toNat:Nat)] h λv A=>v= .nilifc/\Bk n B A d (q++ [c])/\h.nx<=A.nx:=by
 refine Zx UK (fn:=Tryz.f126) (ZG UK (loc:=UY.loc 126) 100 [4] ?_);refine Eq.mpr (ZDk d (c.toNat:Nat) h _) ?_;refine(ZHh b).mono λv r ⟨F,f,hnx⟩=>⟨F,?_⟩;obtain⟨a,s,m,z,k,D,G,C,x,hz⟩:=f.ex;have L:=C.1;simp at L;have g:=f.lt;have w:=f.lo;have l:XJ UY ⟨[],[],r⟩ te8 138 (.ts [WO c] 1 (some 1))=some (1,[WO c]):=by
  have K:UY.kd 138=some (.slice 5):=kr;simp[XJ,K,QS,XS,te8,Zs]
 obtain⟨t,N,O,y,P,E,W⟩:=ZGc (cells:=q.map WO) l om rfl rfl C (λj o e=>(x j o e).1) om;have u:t.get d=some (.arr [.p a, .sl s m z k] true):=by rw[E d g (λo e=>(x d o e).2.1 rfl)];exact D
 refine⟨s,m,z,k,by simp[Zb,D,Zs],_,_,_,_,t,N,t.set d (some (.arr [.p a, .sl (some (r.nx,0)) (m+1) none 1] true)),by simp[Zi,u,splice],finC rr rfl (.now ⟨rfl,⟨⟨a,some (r.nx,0),m+1,none,1,sm,G,⟨by simp;omega, .inr ⟨r.nx,rfl,rfl,rfl,by simp[y],?_⟩⟩,?_,om⟩,?_,?_,w,λi H=> ?_⟩,?_⟩)⟩;rw[qc,uE om,O,uV];rfl;rintro j o e;cases e;exact⟨by rw[Zce];exact P,om,om⟩;rw[Zce,W d g];exact f.tag;rw[Heap.nx_set,y];omega;rw[qc,uE om,E i om (λo e=>by have:=(x i o e).2.2;omega)];exact f.keep i H;rw[Heap.nx_set,y];omega
structure Bs(n:Nat)(h0 h:Heap)(id:Nat)(bs:List UInt8):Prop where
 ex: ∃(a s:Option (Nat×Nat)) (m:Nat) (c:Option Nat) (k:Nat),h.get id=some (.arr [.p a, .sl s m c k] true)∧((s=none∧m=0∧bs= [])∨(m≠0∧m=bs.length∧ ∃i2 wr,s=some (i2,0)∧h.get i2=some (.arr (bs.map WO) wr)∧h.tagOf i2=some 5∧n<=i2∧i2≠id))
 lo:n<=id
 keep: ∀i,i<n->h.get i=h0.get i
theorem Bk.bs{n:Nat}{d h}{l:Nat}{i}(b:Bk n d h l i):Bs n d h l i:=by
 obtain⟨a,s,m,c,k,p,t,j,g,hz⟩:=b.ex;refine⟨⟨a,s,m,c,k,p,?_⟩,b.lo,b.keep⟩;rcases j.2 with ⟨rfl,rfl,d⟩|⟨f,rfl,rfl,rfl,r,o⟩;exact .inl ⟨rfl,rfl,su d⟩
 .have q:m≠0:=λe=>by have:=hz e;cases this
  have:=j.1;simp at this;exact .inr ⟨q,this,f,true,rfl,o,(g f 0 rfl).1,(g f 0 rfl).2.2,(g f 0 rfl).2.1⟩
theorem Zmy{n:Nat}{t h:Heap}{f:Nat}{d:List UInt8}(b:Bs n t h f d)(D:d.length<2 ^ 30):Con UY 116 [p_P f] h λv r=>v= .s d/\Bs n t r f d/\r.nx=h.nx:=by
 obtain⟨a,s,m,c,k,u,C⟩:=b.ex;have g:Zb h f 1 1=some [.sl s m c k]:=by simp[Zb,u,Zs]
 refine Zx UK (fn:=Tryz.f116) (ZG UK (loc:=UY.loc 116) 100 [2] ?_);refine Eq.mpr (ZDi f h _) ?_;have l:most=1099511627776:=dc;rcases C with ⟨rfl,rfl,rfl⟩|⟨w,j,o,wr,rfl,x,p,y,q⟩;refine⟨_,_,_,_,g,λ_=>rfl,_,_,_,_,g,[],h,by simp[strH],finC rr rfl (.now ⟨rfl,b,rfl⟩)⟩
 .refine⟨_,_,_,_,g,λe=>absurd e w,_,_,_,_,g,d,h.set o (some (.arr (d.map WO) false)),?_,finC rr rfl (.now ⟨rfl,⟨⟨a,some (o,0),m,c,k,?_, .inr ⟨w,j,o,false,rfl,sm,p,y,q⟩⟩,b.lo,λi z=> ?_⟩,rfl⟩)⟩
  .have A:UY.kd 5=some (.int .u8):=kr;have B:Ze3 UY 224 5=true:=kr;simp only[strH,x,p,A];rw[uE om,uF ⟨B,by simp;omega,by simp;omega⟩,WP]
   rfl
  .rw[qc,uE (Ne.symm q)];exact u
  .rw[qc,uE om];exact b.keep i z
theorem ZNj{a c d e f g j l m h}(K):CP UY 82 (pre B_82) (.agg [J a c none,J d e none,J f g none,J j l none,.b m]::Rp 58) h [1,2,4,5,6,14] K=(K .normal 59 [.lb [J a c none,J d e none,J f g none,J j l none, .b m], .lb [I 0,I 0,I 0,I 0,I 0,I 0,I 0,I 0,I 0,I 0,I 0,I 0,I 0,I 0,I 0,I 0,I 0,I 0,I 0,I 0,I 0,I 0,I 0,I 0,I 0,I 0,I 0,I 0,I 0,I 0,I 0,I 0,I 0,I 0,I 0,I 0,I 0,I 0,I 0,I 0,I 0,I 0,I 0,I 0,I 0,I 0,I 0,I 0,I 0,I 0,I 0,I 0,I 0,I 0,I 0,I 0,I 0,I 0,I 0,I 0,I 0,I 0,I 0,I 0,I 0,I 0,I 0,I 0,I 0,I 0,I 0,I 0,I 0,I 0,I 0,I 0,I 0,I 0,I 0,I 0,I 0,I 0,I 0,I 0,I 0,I 0,I 0,I 0,I 0,I 0,I 0,I 0,I 0,I 0,I 0,I 0,I 0,I 0,I 0,I 0,I 0,I 0,I 0,I 0,I 0,I 0,I 0,I 0,I 0,I 0,I 0,I 0,I 0,I 0,I 0,I 0,I 0,I 0,I 0,I 0,I 0,I 0,I 0,I 0,I 0,I 0,I 0,I 0,I 0,I 0,I 0,I 0,I 0,I 0,I 0,I 0,I 0,I 0,I 0,I 0,I 0,I 0,I 0,I 0,I 0,I 0,I 0,I 0,I 0,I 0,I 0,I 0,I 0,I 0,I 0,I 0,I 0,I 0,I 0,I 0,I 0,I 0,I 0,I 0,I 0,I 0,I 0,I 0,I 0,I 0,I 0,I 0,I 0,I 0,I 0,I 0,I 0,I 0,I 0,I 0,I 0,I 0,I 0,I 0,I 0,I 0,I 0,I 0,I 0,I 0,I 0,I 0,I 0,I 0,I 0,I 0,I 0,I 0,I 0,I 0,I 0,I 0,I 0,I 0,I 0,I 0,I 0,I 0,I 0,I 0,I 0,I 0,I 0,I 0,I 0,I 0,I 0,I 0,I 0,I 0,I 0,I 0,I 0,I 0,I 0,I 0,I 0,I 0,I 0,I 0,I 0,I 0,I 0,I 0,I 0,I 0,I 0,I 0,I 0,I 0,I 0,I 0,I 0,I 0,I 0,I 0,I 0,I 0,I 0,I 0,I 0,I 0,I 0,I 0,I 0,I 0], p_P h.nx,S0,.mp (some (h.nx+(1:Nat))),I 0] ((h.pushT (UY.tag (95:Nat)) (YObj.arr (List.replicate (256:Nat) (I 0)) true)).push (YObj.map []))):=kr
theorem ZNk{c d e f g j l m n o z2 a5 l5 c5 k5 q a h}(K):CP UY 82 (pre (lp_ B_82)) (MZ 59 [1,2,4,5,6,14] [.lb [J c d none,J e f none,J g j none,J l m none,.b n],.lb z2,p_P o,S a5 l5 c5 k5,.mp (some q),I a]) h [1,2,4,5,6,14] K=(If (ltI a 256) (K .normal 59 [.lb [J c d none,J e f none,J g j none,J l m none, .b n], .lb z2, p_P o,S a5 l5 c5 k5,.mp (some q),I a] h) (K (.exit 0) 59 [.lb [J c d none,J e f none,J g j none,J l m none, .b n], .lb z2, p_P o,S a5 l5 c5 k5,.mp (some q),I a] h)):=kr
theorem ZNl{c a e f g j l m n o z2 a5 l5 c5 k5 q d h}(K):CP UY 82 (pre (bk_ (lp_ B_82))) (MZ 59 [1,2,4,5,6,14] [.lb [J c a none,J e f none,J g j none,J l m none,.b n],.lb z2,p_P o,S a5 l5 c5 k5,.mp (some q),I d]) h [1,2,4,5,6,7,8,14,18,19,20] K=(K .normal 59 [.lb [J c a none,J e f none,J g j none,J l m none, .b n], .lb z2, p_P o,S a5 l5 c5 k5,.mp (some q),I d, p_P h.nx,I d,J c a none,I (a:Int),I 0] (h.pushT (UY.tag (182:Nat)) (YObj.arr [.p none,S none (0:Nat) (some (0:Nat)) (0:Nat)] true))):=kr
theorem ZNm{d a g j l m o q r s z2 a5 l5 c5 k5 u c f e h}(K):CP UY 82 (lp_ (bk_ (lp_ B_82))) (MZ 59 [1,2,4,5,6,7,8,14,18,19,20] [.lb [J d a none,J g j none,J l m none,J o q none,.b r],.lb z2,p_P s,S a5 l5 c5 k5,.mp (some u),I c,p_P f,I c,J d a none,I (a:Int),I e]) h [1,2,4,5,6,7,8,14,18,19,20] K=(If (ltI e a) ((0<=e/\e<a)/\ ∃n t w x,Zs 4 (List.drop (e.toNat*4) d)=some [U n,U t,U w,U x]/\ ∃y,Zi (h.pushT (UY.tag (25:Nat)) (YObj.arr [U 0,U 0,U 0,U 0] true)) h.nx 0 [U n,U t,U w,U x]=some y/\(0:Int)<=(6:Int)/\((0:Int)<=c.fdiv ((2:Int) ^ min (Int.toNat (6:Int)) IntKind.i64.bits)/\c.fdiv ((2:Int) ^ min (Int.toNat (6:Int)) IntKind.i64.bits)<(↑(4:Nat):Int))/\ ∃z,Zb y h.nx ((0:Nat)+(c.fdiv ((2:Int) ^ min (Int.toNat (6:Int)) IntKind.i64.bits)).toNat*1) 1=some [U z]/\(0:Int)<=wW (↑(BitVec.ofInt IntKind.i64.bits c&&&BitVec.ofInt IntKind.i64.bits (63:Int)).toNat:Int)/\Con UY 126 [p_P f,.i IntKind.u8 (IntKind.u8.wrap (IntKind.u64.wrap (↑(BitVec.ofInt IntKind.u64.bits (z.fdiv ((2:Int) ^ min (wW (↑(BitVec.ofInt IntKind.i64.bits c&&&BitVec.ofInt IntKind.i64.bits (63:Int)).toNat:Int)).toNat IntKind.u64.bits))&&&BitVec.ofInt IntKind.u64.bits (1:Int)).toNat:Int)))] y fun(v:V) (k:Heap)=>v=V.nilifc/\K .normal 59 [.lb [J d a none,J g j none,J l m none,J o q none, .b r], .lb z2, p_P s,S a5 l5 c5 k5,.mp (some u),I c, p_P f,I c,J d a none,I (a:Int),I (wW (e+(1:Int)))] k\/ ∃p A,v=V.ifc p A/\K .normal 59 [.lb [J d a none,J g j none,J l m none,J o q none, .b r], .lb z2, p_P s,S a5 l5 c5 k5,.mp (some u),I c, p_P f,I c,J d a none,I (a:Int),I (wW (e+(1:Int)))] k) (K (.exit 2) 59 [.lb [J d a none,J g j none,J l m none,J o q none, .b r], .lb z2, p_P s,S a5 l5 c5 k5,.mp (some u),I c, p_P f,I c,J d a none,I (a:Int),I e] h)):=kr
theorem ZNn{g j m o q r t u w e z2 a5 z c5 k5 f d x h}(K):CP UY 82 ((post (bk_ (lp_ B_82))).drop 1) (MZ 59 [1,2,4,5,6,7,8,14] [.lb [J g j none,J m o none,J q r none,J t u none,.b w],.lb z2,p_P e,S a5 z c5 k5,.mp (some f),I d,p_P x,I d]) h [1,2,4,5,6,14] K=(Con UY 116 [p_P x] h fun(v:V) (p:Heap)=> ∃s,v=.s s/\ ∃n b,Zjd UY p 9 3 (some f) (.s s)=some (I n,b)/\If (!b) (Con UY 116 [p_P x] p fun(v:V) (p:Heap)=> ∃s,v=.s s/\ ∃h,updM UY p 9 (some f) (.s s) (I (z:Int))=some h/\ ∃a l c k y,Zk UY h 138 138 (S a5 z c5 k5) (J [.i .u8 (IntKind.u8.wrap d)] 1 (some 1))=some (S a l c k,y)/\((0:Int)<=d/\d<(↑(256:Nat):Int))/\ ∃h,Zi y e ((0:Nat)+d.toNat*1) [I (z:Int)]=some h/\K .normal 59 [.lb [J g j none,J m o none,J q r none,J t u none, .b w], .lb z2, p_P e,S a l c k,.mp (some f),I d] h) (((0:Int)<=d/\d<(↑(256:Nat):Int))/\ ∃h,Zi p e ((0:Nat)+d.toNat*1) [I n]=some h/\K .normal 59 [.lb [J g j none,J m o none,J q r none,J t u none, .b w], .lb z2, p_P e,S a5 z c5 k5,.mp (some f),I d] h)):=kr
theorem ZNo{a c d e f g j l m z2 n o q r s t u h}(K):CP UY 82 ((post (lp_ B_82)).drop 1) (MZ 59 [1,2,4,5,6,14] [.lb [J a c none,J d e none,J f g none,J j l none,.b q],.lb z2,p_P m,S r s t u,.mp (some n),I o]) h [1,2,4,5,6,14] K=(K .normal 59 [.lb [J a c none,J d e none,J f g none,J j l none, .b q], .lb z2, p_P m,S r s t u,.mp (some n),I (wW (o+(1:Int)))] h):=kr
theorem ZNp{a z2 a5 l5 c5 k5 h}(K):CP UY 82 ((post B_82).drop 1) (MZ 59 [2,4,5] [.lb z2,p_P a,S a5 l5 c5 k5]) h [2,3] K=(∃b,Zb h a 0 256=some b/\If (decide ((ev (((mk (59:Nat) ([(2:Nat),(4:Nat),(5:Nat)].zip [.lb z2,.p (some (a,(0:Nat))),S a5 l5 c5 k5])).set (57:Nat) (.agg b)).set (58:Nat) (ev ((mk (59:Nat) ([(2:Nat),(4:Nat),(5:Nat)].zip [.lb z2,.p (some (a,(0:Nat))),S a5 l5 c5 k5])).set (57:Nat) (.agg b)) (Operand.tmp (5:Nat)))) (Operand.tmp (57:Nat))).cells.length=(256:Nat))&&Zp (ev (((mk (59:Nat) ([(2:Nat),(4:Nat),(5:Nat)].zip [.lb z2,.p (some (a,(0:Nat))),S a5 l5 c5 k5])).set (57:Nat) (.agg b)).set (58:Nat) (ev ((mk (59:Nat) ([(2:Nat),(4:Nat),(5:Nat)].zip [.lb z2,.p (some (a,(0:Nat))),S a5 l5 c5 k5])).set (57:Nat) (.agg b)) (Operand.tmp (5:Nat)))) (Operand.tmp (57:Nat))).cells&&decide ((0:Nat)+(ev (((mk (59:Nat) ([(2:Nat),(4:Nat),(5:Nat)].zip [.lb z2,.p (some (a,(0:Nat))),S a5 l5 c5 k5])).set (57:Nat) (.agg b)).set (58:Nat) (ev ((mk (59:Nat) ([(2:Nat),(4:Nat),(5:Nat)].zip [.lb z2,.p (some (a,(0:Nat))),S a5 l5 c5 k5])).set (57:Nat) (.agg b)) (Operand.tmp (5:Nat)))) (Operand.tmp (57:Nat))).cells.length<=z2.length)) (K .ret 59 [.lb (splice z2 (0:Nat) (ev (((mk (59:Nat) ([(2:Nat),(4:Nat),(5:Nat)].zip [.lb z2, .p (some (a,(0:Nat))),S a5 l5 c5 k5])).set (57:Nat) (.agg b)).set (58:Nat) (ev ((mk (59:Nat) ([(2:Nat),(4:Nat),(5:Nat)].zip [.lb z2, .p (some (a,(0:Nat))),S a5 l5 c5 k5])).set (57:Nat) (.agg b)) (Operand.tmp (5:Nat)))) (Operand.tmp (57:Nat))).cells),S a5 l5 c5 k5] h) False):=kr
abbrev encU(c:Nat):List V:= [.i .u8 (c:Nat)]
theorem Zez(x:Nat):(encU x).length=1:=rfl
def Zgn(a:List Set4):V:= .tup [.agg (clsC (srtS a 256).1),lst encU (srtS a 256).2]
theorem Zrs(a:List Set4)(c:Nat):(keyN a c).length=a.length:=qC _
theorem Zyc(a:List Set4)(c:Nat){j:Nat}(h:j<a.length):keyN (a.take (j+1)) c=keyN (a.take j) c++ [if hasN a[j] c then 1 else 0]:=by unfold keyN;rw[qa h,uV];rfl
theorem bitU(x)(c:Nat):IntKind.u8.wrap (((Zd9 x (c / 64)).fdiv ((2:Int) ^ (c % 64))) % 2)=(((if hasN x c then 1 else 0:UInt8).toNat:Nat):Int):=by unfold hasN;generalize (Zd9 x (c / 64)).fdiv ((2:Int) ^ (c % 64))=y;have:y % 2=0\/y % 2=1:=om;rcases this with e|e<;>rw[e]<;>rfl
theorem ZS5{h:Heap}{g:Nat}{a:List Set4}{le}(j:h.get g=some (.map (esM a le)))(k:List UInt8):
  Zjd UY h 9 3 (some g) (.s k)=match le.findIdx? λd=>k==keyN a d with|some i=>some (I (i:Nat),true)|none=>some (I 0,false):=by
 have l:UY.kd 9=some .str:=kr;have n:QE UY 9=true:=kr;have o:(UY.ty 3).isSome=true:=kr;have hz:Znu UY 3= I 0:=kr;have m:Zbl h (some g)=some (esM a le):=by simp[Zbl,j]
 have c:=Zx6 a k le 0;have f:=Zj6 a k le 0;unfold Zjd;rw[l,m];simp only[n,o,uT,Bool.and_true];have b:ZY .str (.s k) (esM a le)=true:=f;have e:XV .str (.s k) (esM a le)=(le.findIdx? λd=>k==keyN a d).map λi=>I ((i+0:Nat):Int):=c;rw[uF b,e]
 cases le.findIdx? λd=>k==keyN a d with
 |none=>simp[hz]
 |some i=>rfl
theorem updE{h:Heap}{f:Nat}{a:List Set4}{le:List Nat}(g:h.get f=some (.map (esM a le)))(c:Nat)(j:(le.findIdx? λd=>keyN a c==keyN a d)=none):
  updM UY h 9 (some f) (.s (keyN a c)) (I (le.length:Nat))=some (h.set f (some (.map (esM a (le++ [c]))))):=by
 have i:UY.kd 9=some .str:=kr;have k:QE UY 9=true:=kr;have b:ZY .str (.s (keyN a c)) (esM a le)=true:=Zj6 a _ le 0;have e:XV .str (.s (keyN a c)) (esM a le)=none:=by
  have:=Zx6 a (keyN a c) le 0;rw[j]at this;exact this
 unfold updM;simp only[i,g,k,uT];rw[uF b,ZD1 _ _ _ e,ZBr]
theorem ZS6{h}{a}{l:Nat}{c}{m:Nat}{b:List Nat}(x:Nat)(p:Lst encU 1 h a l c m b)(o:b.length<2 ^ 29):
  ∃d n g k f,Zk UY h 138 138 (.sl a l c m) (.ts [.i .u8 (x:Nat)] 1 (some 1))=some (.sl d n g k,f)/\Lst encU 1 f d n g k (b++ [x])/\Fr h a f/\ ∃j,d=some (j,0)/\h.nx<=j:=
 Lst.app1 (Y:=UY) (e:=5) (te:=⟨1,1, .int .u8,[.i .u8 0]⟩) x kr kr rfl dc p (.cons _ _ _ _ (.i _ _) .nil) rfl rfl rfl dc o
structure SrI(sets:List Set4)(i id4 id6:Nat)(a:Option (Nat×Nat))(l:Nat)(c:Option Nat)(k:Nat)(h:Heap):Prop where
 cls:h.get id4=some (.arr (clsC (srtS sets i).1) true)
 mp:h.get id6=some (.map (esM sets (srtS sets i).2))
 le:Lst encU 1 h a l c k (srtS sets i).2
 ap: ∀j o,a=some (j,o)->j≠id4∧j≠id6
 l4:id4<h.nx
 l6:id6<h.nx
 ne:id4≠id6
theorem SrI.same{b:List Set4}{i d e:Nat}{a}{l:Nat}{c}{k:Nat}{h f:Heap}(s:SrI b i d e a l c k h)(m:h.nx<=f.nx)(g: ∀j,j<h.nx->f.get j=h.get j):SrI b i d e a l c k f:=
 ⟨by rw[g _ s.l4];exact s.cls,by rw[g _ s.l6];exact s.mp,s.le.fr m (λj _ n=>g j n),s.ap,qv s.l4 m,qv s.l6 m,s.ne⟩
theorem ZNq{c:Nat}(h:c<256):IntKind.u8.wrap (c:Int)=(c:Nat):=by
 unfold IntKind.wrap;have e:(2:Int) ^ IntKind.u8.bits=256:=dc;simp only[e,IntKind.signed,Bool.false_and];simp only[uI,vF];omega
theorem allI: ∀l:List Nat,Zp (l.map λk=>I (k:Nat))=true
 | []=>rfl
 |k::l=>by simp only[qz,Zp,allI l,Bool.and_true];rfl
theorem frzN(h): ∀l:List Nat,FrzL h (l.map λk=>I (k:Nat)) (l.map λk=>I (k:Nat))
 | []=> .nil
 |k::l=> .cons _ _ _ _ (.i _ _) (frzN h l)
theorem Qv{b:Type}(l a:List b):splice l 0 a=a++l.drop a.length:=by cases l<;>rfl
theorem ZBs(a:List Set4)(t:Option TypeId):SrI a 0 Heap.empty.nx (Heap.empty.nx+1) none 0 (some 0) 0 ((Heap.empty.pushT t (.arr (List.replicate 256 (I 0)) true)).push (.map [])):=by
 refine⟨?_,?_,Lst.nil _ _ _ _ _,(λj o e=>by cases e),?_,?_,sm⟩
 .rw[qk,uE sm,qj,uF rfl]
  rfl
 .rw[qk,uF sm];rfl
 .simp;omega
 .simp
theorem ZHi{b:List Set4}{i f g:Nat}{a}{l:Nat}{c}{k:Nat}{h}(t:i<256)(s:SrI b i f g a l c k h){j:Nat}(p:((srtS b i).2.findIdx? λd=>keyN b i==keyN b d)=some j):
  ∃n,Zi h f (0+(i:Int).toNat*1) [I j]=some n/\SrI b (i+1) f g a l c k n:=by
 have q:=(JQ b i).1;have e:srtS b (i+1)=((srtS b i).1++ [j],(srtS b i).2):=by rw[srtS];simp only[p]
 refine⟨h.set f (some (.arr (clsC ((srtS b i).1++ [j])) true)),?_,?_⟩
 .simp only[Zi,s.cls];have o:0+(i:Int).toNat*1=(srtS b i).1.length:=by rw[q,qdq];omega
  rw[uF (by rw[Zj7 _ om];simp;omega),o,Zrr _ _ om]
 .refine⟨by rw[qc,uF rfl,e],by rw[qc,uE (Ne.symm s.ne),e];exact s.mp,by rw[e];exact s.le.fr (qnq _) (λr m _=>by rw[qc,uE (s.ap r 0 m).1]),s.ap,s.l4,s.l6,s.ne⟩
theorem ZHj{b:List Set4}{i f g:Nat}{a}{l:Nat}{c}{k:Nat}{h}(O:i<256)(s:SrI b i f g a l c k h)(t:((srtS b i).2.findIdx? λd=>keyN b i==keyN b d)=none):
  ∃y,updM UY h 9 (some g) (.s (keyN b i)) (I l)=some y/\ ∃q v r u m,Zk UY y 138 138 (.sl a l c k) (.ts [.i .u8 (i:Nat)] 1 (some 1))=some (.sl q v r u,m)/\
  ∃z,Zi m f (0+(i:Int).toNat*1) [I l]=some z/\SrI b (i+1) f g q v r u z:=by
 have D:=(JQ b i).1;have E:=(JQ b i).2;have e:srtS b (i+1)=((srtS b i).1++ [(srtS b i).2.length],(srtS b i).2++ [i]):=by rw[srtS];simp only[t]
 have p:=s.le.len;subst p;refine⟨_,updE s.mp i t,?_⟩;have w:Lst encU 1 (h.set g (some (.map (esM b ((srtS b i).2++ [i]))))) a (srtS b i).2.length c k (srtS b i).2:=s.le.fr (qnq _) (λj t _=>by rw[qc,uE (s.ap j 0 t).2]);obtain⟨q,v,r,u,m,H,K,x,j,L,N⟩:=ZS6 i w om;have B:m.get f=some (.arr (clsC (srtS b i).1) true):=by
  rw[x.2 f s.l4 (λo e=>(s.ap _ _ e).1 rfl),qc,uE s.ne];exact s.cls
 have C:m.get g=some (.map (esM b ((srtS b i).2++ [i]))):=by
  rw[x.2 g s.l6 (λo e=>(s.ap _ _ e).2 rfl),qc,uF rfl]
 have F:=x.1;rw[Heap.nx_set]at F N;have P:=s.l4;have W:=s.l6;refine⟨q,v,r,u,m,H,m.set f (some (.arr (clsC ((srtS b i).1++ [(srtS b i).2.length])) true)),?_,?_⟩
 .simp only[Zi,B];have A:0+(i:Int).toNat*1=(srtS b i).1.length:=by rw[D,qdq];omega
  rw[uF (by rw[Zj7 _ om];simp;omega),A,Zrr _ _ om]
 .subst L;refine⟨by rw[qc,uF rfl,e],by rw[qc,uE (Ne.symm s.ne),e];exact C,by rw[e];exact K.fr (qnq _) (λG n _=>by cases n;rw[qc,uE om]),λG o n=>by cases n;omega,by rw[Heap.nx_set];omega,by rw[Heap.nx_set];omega,s.ne⟩
theorem Ztt(a:Au)(hs:a.sets.length<=300):PCon UY 82 [.agg (auC a)] (· =Zgn a.sets):=by
 refine ZF UK (fn:=Tryz.f82) rfl ?_;refine Zh UK 59 ZNj rfl ?_;refine⟨rfl,ZM [1,2,4,5,6,14] [1,2,4,5,6,14] (λm K h=> ∃(i c f:Nat) (z:List V) (q:Option (Nat×Nat)) (n:Nat) (g:Option Nat) (l:Nat),K= [.lb (auC a), .lb z, p_P c, .sl q n g l, .mp (some f),I (i:Nat)]/\z.length=256/\i<=256/\m=256-i/\SrI a.sets i c f q n g l h) 256 ZA ⟨0,_,_,_,_,_,_,_,rfl,rfl,om,om,ZBs _ _⟩ ?_⟩;rintro m K h ⟨i,c,f,z,q,n,g,l,rfl,hz,hi,rfl,N⟩;refine Zh UK 59 ZNk rfl ?_;refine Zq (b:=256) (λA=>⟨rfl,QX (n:=59) [1,2,4,5,6,14] kr ?_⟩) (λa3=> ?_)
 .refine Zh UK 59 ZNl rfl ?_;have Y:UY.tag 182=some 182:=kr;have b0:Bk h.nx h (h.pushT (UY.tag 182) (.arr [.p none, .sl none 0 (some 0) 0] true)) h.nx []:=by
   refine⟨⟨none,none,0,some 0,0,by rw[qj,uF rfl], .inl rfl,IsL.nil _ _ _ _,(λj o e=>by cases e),λ_=>rfl⟩,?_,sm,qnq _,λj hj=>by rw[qj,uE om]⟩;rw[Y];show((h.push _).tagIf h.nx (some 182)).tagOf h.nx=some 182;rw[QD];simp
  refine⟨rfl,ZM [1,2,4,5,6,7,8,14,18,19,20] [1,2,4,5,6,7,8,14,18,19,20] (λm K h'=> ∃j:Nat,K= [.lb (auC a), .lb z, p_P c, .sl q n g l, .mp (some f),I (i:Nat), p_P h.nx,I (i:Nat),lst setC a.sets,I (a.sets.length:Nat),I (j:Nat)]/\j<=a.sets.length/\m=a.sets.length-j/\Bk h.nx h h' h.nx (keyN (a.sets.take j) i)) a.sets.length ZA ⟨0,rfl,om,om,b0⟩ ?_⟩;rintro m2 a7 Z ⟨j,rfl,hj,rfl,L⟩;refine Zm UK ZNm rfl ?_;refine Zq (λw=> ?_) (λa6=> ?_)
  .have W:Zs 4 (List.drop (((j:Nat):Int).toNat*4) (row setC a.sets))=some (setC a.sets[j]):=by rw[qdq];exact getS a.sets w
   refine⟨Zu w,_,_,_,_,W,?_⟩;have F:UY.tag 25=none:=kr;rw[F];have a4:((Z.pushT none (YObj.arr [U 0,U 0,U 0,U 0] true))).get Z.nx=some (YObj.arr [U 0,U 0,U 0,U 0] true):=by rw[qj,uF rfl]
   refine⟨_,by simp only[Zi,a4];rfl,om,?_⟩;rw[ZA2,ZA3 A];refine⟨⟨om,om⟩,Zd9 a.sets[j] (i / 64),?_,om,?_⟩
   .rw[Zr (h:=Heap.set _ _ _) (cs:=setC a.sets[j]) (wr:=true) (by rw[qc,uF rfl];rfl)];have:i / 64=0\/i / 64=1\/i / 64=2\/i / 64=3:=om;rcases this with e|e|e|e<;>rw[e]<;>rfl
   have e4:min (((i % 64:Nat):Int)).toNat IntKind.u64.bits=i % 64:=by
    have:IntKind.u64.bits=64:=rfl;rw[this,qdq];omega
   rw[e4,ZFk,bitU];have a0:=L.more (h1:=(Z.pushT none (YObj.arr [U 0,U 0,U 0,U 0] true)).set Z.nx (some (.arr (setC a.sets[j]) true))) sm (λi hi=>by rw[qc,uE om,qj,uE om]) (λi hi=>rfl);refine(Zts a0 _ (by rw[Zrs,uO];omega)).mono λv h3 ⟨C,a1,_⟩=> .inl ⟨C,rfl,a.sets.length-(j+1),om,j+1,by rw[Ze om];rfl,om,rfl,?_⟩;rw[Zyc _ _ w];exact a1
  .have he:j=a.sets.length:=om;subst he;rw[qm]at L;refine Zj [1,2,4,5,6,7,8,14] ?_;refine Zm UK ZNn rfl ?_;have X:(keyN a.sets i).length<2 ^ 30:=by rw[Zrs];omega
   refine(Zmy L.bs X).mono λv h3 ⟨C,b3,n3⟩=>⟨_,C,?_⟩;have O:SrI a.sets i c f q n g l h3:=N.same (by have:=L.lt;omega) b3.keep;have x: ∀q n g l D,SrI a.sets (i+1) c f q n g l D->Zd6 UY 59 [1,2,4,5,6,14] (JV (post (lp_ B_82))) ((post (lp_ B_82)).drop 1) (VQ [1,2,4,5,6,14] (XF UY 59 [1,2,4,5,6,14] [1,2,4,5,6,14] (λm K h=> ∃(i c f:Nat) (z:List V) (q:Option (Nat×Nat)) (n:Nat) (g:Option Nat) (l:Nat),K= [.lb (auC a), .lb z, p_P c, .sl q n g l, .mp (some f),I (i:Nat)]/\z.length=256/\i<=256/\m=256-i/\SrI a.sets i c f q n g l h) (256-i) (Xb (post B_82)) ((post B_82).drop 1) (FinS UY Tryz.f82 (λv h=> ∃r,Frz h v r/\r=Zgn a.sets)))) .normal 59 [.lb (auC a), .lb z, p_P c, .sl q n g l, .mp (some f),I (i:Nat)] D:=by
    intro q n g l D E;refine⟨rfl,[1,2,4,5,6,14],rfl,?_⟩;refine Zm UK ZNo rfl ?_;exact⟨rfl,256-(i+1),om,i+1,c,f,z,q,n,g,l,by rw[Ze om];rfl,hz,om,rfl,E⟩
   rw[ZS5 O.mp]
   cases hf:(srtS a.sets i).2.findIdx? λd=>keyN a.sets i==keyN a.sets d with
   |some jj=>
    obtain⟨D,p1,p2⟩:=ZHi A O hf;exact⟨_,_,rfl,ifF rfl ⟨⟨om,om⟩,D,p1,x _ _ _ _ _ p2⟩⟩
   |none=>
    refine⟨_,_,rfl,ifT rfl ((Zmy b3 X).mono λv D ⟨C,b4,n4⟩=>⟨_,C,?_⟩)⟩;have E:SrI a.sets i c f q n g l D:=N.same (by have:=L.lt;omega) b4.keep;obtain⟨h5,p1,a',l',c',k',h6,p2,h7,p3,p4⟩:=ZHj A E hf;rw[ZNq A];exact⟨h5,p1,_,_,_,_,h6,p2,⟨om,om⟩,h7,p3,x _ _ _ _ _ p4⟩
 .have he:i=256:=om;subst he;have hl:=(JQ a.sets 256).1;have s:=N.cls;have y:=N.le;have H:Zgn a.sets= .tup [.agg (clsC (srtS a.sets 256).1),lst encU (srtS a.sets 256).2]:=rfl;clear N a3;revert H hl s y;generalize Zgn a.sets=R;generalize srtS a.sets 256=p;obtain⟨G,le⟩:=p;intro hl s y H;simp only[]at hl s y H;refine ZR rfl (Zj [2,4,5] ?_);refine Zo UK ZNp rfl ?_;have a2:clsC G=G.map (λk=>I (k:Nat)):=by unfold clsC;rw[hl];simp
  have t:=Zj7 G om;rw[a2]at t s H;have B:=allI G;have P:=frzN h G;generalize G.map (λk=>I (k:Nat))=u at t s B P H;refine⟨u,(by rw[Zr s,ql];exact ZC t.symm),ifT ?_ ?_⟩;simp only[qrq,vL];exact⟨⟨t,B⟩,by show 0+u.length<=z.length;omega⟩
  .have a5:splice z 0 u=u:=by
    rw[Qv,t,qB om,qi]
   refine Zlo (v1:= .agg u) (.inr rfl) ?_ (.agg _ _ P) (y.frz dc Zez) H.symm;show resV UY Tryz.f82 ([2,3].zip [.lb (splice z 0 u), .sl q n g l])=_;rw[a5];have hr:Tryz.f82.results.toList= [.cell 2 95, .tmp 3]:=kr;have ht:UY.ty 95=some (TI.mk 256 2048 (.arr 256 3) (List.replicate 256 (I 0))):=kr;have C:Zd4 UY ([2,3].zip [V.lb u,V.sl q n g l]) (.cell 2 95)=some (.agg u):=by
    simp only[Zd4,ht];show(Zs 256 u).bind _=_;rw[ZC t.symm];rfl
   have e2:Zd4 UY ([2,3].zip [V.lb u,V.sl q n g l]) (.tmp 3)=some (.sl q n g l):=rfl;unfold resV;rw[hr,Zd5,Zd5,Zd5,C,e2]
theorem ZNr{a d e f g j m n o x1 h}(K):CP dY_ 38 (pre B_38) (.agg [J a d none,J e f none,J g j none,J m n none,.b o]::I x1::Rp 106) h [1,2,4,5,7,8,9,10] K=(∃c,(PCon dY_ 26 [.agg [J a d none,J e f none,J g j none,J m n none,.b o]] λv=>v=.b c)/\If (!c) (K .ret 108 [I x1, .lb [J a d none,J e f none,J g j none,J m n none, .b o], .lb zDfa,I 5,Ud,Ud,Ud,Ud] h) (∃i l q r,(PCon dY_ 82 [.agg [J a d none,J e f none,J g j none,J m n none,.b o]] λv=>v=.tup [.agg i,J l q r])/\If (decide (i.length=(256:Nat))&&Zp i) (∃s,Zi (h.pushT (dY_.tag (95:Nat)) (YObj.arr (List.replicate (256:Nat) (I 0)) true)) h.nx 0 i=some s/\ ∃t,Zb s h.nx 0 256=some t/\ ∃u,Zvf dY_ 98 0 256 t=some u/\If (decide (u.length=(258:Nat))&&Zp u) (∃w,Zi (s.pushT (dY_.tag (98:Nat)) (YObj.arr zDfa true)) s.nx 0 u=some w/\K .normal 108 [I ((fun(x y:Int)=>if y<x then y else x) ((fun(x y:Int)=>if y>x then y else x) x1 (1:Int)) (300:Int)), .lb [J a d none,J e f none,J g j none,J m n none, .b o], .lb zDfa,I 0,J l q r, p_P s.nx,S (some (w.nx,0)) 1 (some 1) 1,I 0] (w.push (YObj.arr [S0] true))) False) False)):=kr
theorem ZNs{c d e f g j l m n o n7 q r l9 c9 m1 a h}(K):CP dY_ 38 (pre (lp_ B_38)) (MZ 108 [1,2,4,7,8,9,10] [I m1,.lb [J c d none,J e f none,J g j none,J l m none,.b n],.lb zDfa,J o n7 none,p_P q,S (some (r,0)) l9 c9 1,I a]) h [1,2,4,7,8,9,10] K=(If (ltI a l9) (K .normal 108 [I m1, .lb [J c d none,J e f none,J g j none,J l m none, .b n], .lb zDfa,J o n7 none, p_P q,S (some (r,0)) l9 c9 1,I a] h) (K (.exit 0) 108 [I m1, .lb [J c d none,J e f none,J g j none,J l m none, .b n], .lb zDfa,J o n7 none, p_P q,S (some (r,0)) l9 c9 1,I a] h)):=kr
theorem ZNt{c d e f g j l m n a i o q l9 c9 m1 r h}(K):CP dY_ 38 (pre (bk_ (lp_ B_38))) (MZ 108 [1,2,4,7,8,9,10] [I m1,.lb [J c d none,J e f none,J g j none,J l m none,.b n],.lb zDfa,J a i none,p_P o,S (some (q,0)) l9 c9 1,I r]) h [1,2,4,7,8,9,10,11,37,38,39] K=(K .normal 108 [I m1, .lb [J c d none,J e f none,J g j none,J l m none, .b n], .lb zDfa,J a i none, p_P o,S (some (q,0)) l9 c9 1,I r,S0,J a i none,I (i:Int),I 0] h):=kr
theorem ZNu{j m o q r s t u w d p y g D c9 m1 e z A B C f h}(K):CP dY_ 38 (lp_ (bk_ (lp_ B_38))) (MZ 108 [1,2,4,7,8,9,10,11,37,38,39] [I m1,.lb [J j m none,J o q none,J r s none,J t u none,.b w],.lb zDfa,J d p none,p_P y,S (some (g,0)) D c9 1,I e,S z A B C,J d p none,I (p:Int),I f]) h [1,2,4,5,7,8,9,10,11,37,38,39] K=(If (ltI f p) ((0<=f/\f<p)/\ ∃n,Zs 1 (List.drop (f.toNat*1) d)=some [.i .u8 n]/\ ∃G l c,(PCon dY_ 83 [.agg [J j m none,J o q none,J r s none,J t u none,.b w],.i .u8 n] λv=>v=J G l c)/\ ∃P,Zi (h.pushT (dY_.tag (32:Nat)) (YObj.arr [S none (0:Nat) (some (0:Nat)) (0:Nat)] true)) h.nx 0 [J G l c]=some P/\If (ltI 0 e) ((0<=e/\e<D)/\1=1/\ ∃G l c,Zb P g ((0:Nat)+e.toNat*1) 1=some [J G l c]/\ ∃W N F,(PCon dY_ 84 [.agg [J j m none,J o q none,J r s none,J t u none,.b w],J G l c,.i .u8 n] λv=>v=J W N F)/\ ∃H,Zi P h.nx 0 [J W N F]=some H/\1=1/\((0:Int)<=(1:Int)/\(1:Int)<=(D:Int))/\Con dY_ 85 [S (some (g,1)) (D-Int.toNat (1:Int)) (Option.map (fun(x:Nat)=>x-Int.toNat (1:Int)) c9) 1,V.fn (Fn.func (86:Nat)) [] [p_P h.nx]] H fun(v:V) (O:Heap)=> ∃n,v=I n/\If (wW ((1:Int)+n)==(0:Int)) (If (leI m1 D) (K .ret 108 [I m1, .lb [J j m none,J o q none,J r s none,J t u none, .b w], .lb zDfa,I 9,J d p none, p_P y,S (some (g,0)) D c9 1,I e,S z A B C,J d p none,I (p:Int),I f] O) (∃G l c,Zb O h.nx 0 1=some [J G l c]/\ ∃a Z X k h,Zk dY_ O 33 33 (S (some (g,0)) D c9 1) (J [J G l c] 1 (some 1))=some (S a Z X k,h)/\ ∃E l c L Y,Zk dY_ h 32 32 (S z A B C) (J [I (D:Int)] 1 (some 1))=some (S E l c L,Y)/\K .normal 108 [I m1, .lb [J j m none,J o q none,J r s none,J t u none, .b w], .lb zDfa,Ud,J d p none, p_P y,S a Z X k,I e,S E l c L,J d p none,I (p:Int),I (wW (f+(1:Int)))] Y)) (∃a l c k h,Zk dY_ O 32 32 (S z A B C) (J [I (wW ((1:Int)+n))] 1 (some 1))=some (S a l c k,h)/\K .normal 108 [I m1, .lb [J j m none,J o q none,J r s none,J t u none, .b w], .lb zDfa,Ud,J d p none, p_P y,S (some (g,0)) D c9 1,I e,S a l c k,J d p none,I (p:Int),I (wW (f+(1:Int)))] h)) (1=1/\((0:Int)<=(1:Int)/\(1:Int)<=(D:Int))/\Con dY_ 85 [S (some (g,1)) (D-Int.toNat (1:Int)) (Option.map (fun(x:Nat)=>x-Int.toNat (1:Int)) c9) 1,V.fn (Fn.func (86:Nat)) [] [p_P h.nx]] P fun(v:V) (O:Heap)=> ∃n,v=I n/\If (wW ((1:Int)+n)==(0:Int)) (If (leI m1 D) (K .ret 108 [I m1, .lb [J j m none,J o q none,J r s none,J t u none, .b w], .lb zDfa,I 9,J d p none, p_P y,S (some (g,0)) D c9 1,I e,S z A B C,J d p none,I (p:Int),I f] O) (∃G l c,Zb O h.nx 0 1=some [J G l c]/\ ∃a N F k h,Zk dY_ O 33 33 (S (some (g,0)) D c9 1) (J [J G l c] 1 (some 1))=some (S a N F k,h)/\ ∃E l c L H,Zk dY_ h 32 32 (S z A B C) (J [I (D:Int)] 1 (some 1))=some (S E l c L,H)/\K .normal 108 [I m1, .lb [J j m none,J o q none,J r s none,J t u none, .b w], .lb zDfa,Ud,J d p none, p_P y,S a N F k,I e,S E l c L,J d p none,I (p:Int),I (wW (f+(1:Int)))] H)) (∃a l c k h,Zk dY_ O 32 32 (S z A B C) (J [I (wW ((1:Int)+n))] 1 (some 1))=some (S a l c k,h)/\K .normal 108 [I m1, .lb [J j m none,J o q none,J r s none,J t u none, .b w], .lb zDfa,Ud,J d p none, p_P y,S (some (g,0)) D c9 1,I e,S a l c k,J d p none,I (p:Int),I (wW (f+(1:Int)))] h))) (K (.exit 2) 108 [I m1, .lb [J j m none,J o q none,J r s none,J t u none, .b w], .lb zDfa,Ud,J d p none, p_P y,S (some (g,0)) D c9 1,I e,S z A B C,J d p none,I (p:Int),I f] h)):=kr
theorem ZNv{g j m n o q r s f u n7 e t l9 c9 m1 d w x y z h}(K):CP dY_ 38 ((post (bk_ (lp_ B_38))).drop 1) (MZ 108 [1,2,4,7,8,9,10,11] [I m1,.lb [J g j none,J m n none,J o q none,J r s none,.b f],.lb zDfa,J u n7 none,p_P e,S (some (t,0)) l9 c9 1,I d,S w x y z]) h [1,2,4,7,8,9,10] K=(∃a c i l,Zb h e 256 1=some [S a c i l]/\ ∃O P W X Y,Zk dY_ (h.push (YObj.arr [S w x y z] true)) 33 33 (S a c i l) (S (some (h.nx,0)) 1 (some 1) 1)=some (S O P W X,Y)/\ ∃E,Zi Y e 256 [S O P W X]=some E/\ ∃F G H L,(λN=>Zb E e 257 1=some [S F G H L]/\If (d==(0:Int)) (If f (∃k p A B C,Zk dY_ E 96 96 (S F G H L) (J [.b true] 1 (some 1))=some (S k p A B,C)/\ ∃D,Zi C e 257 [S k p A B]=some D/\K .normal 108 [I m1, .lb [J g j none,J m n none,J o q none,J r s none, .b f], .lb zDfa,J u n7 none, p_P e,S (some (t,0)) l9 c9 1,I d] D) N) N) (If (ltI 0 d) ((0<=d/\d<l9)/\1=1/\ ∃k p A,Zb E t ((0:Nat)+d.toNat*1) 1=some [J k p A]/\ ∃B,(PCon dY_ 88 [.agg [J g j none,J m n none,J o q none,J r s none,.b f],J k p A] λv=>v=.b B)/\ ∃C D Z b7 b8,Zk dY_ E 96 96 (S F G H L) (J [.b B] 1 (some 1))=some (S C D Z b7,b8)/\ ∃b9,Zi b8 e 257 [S C D Z b7]=some b9/\K .normal 108 [I m1, .lb [J g j none,J m n none,J o q none,J r s none, .b f], .lb zDfa,J u n7 none, p_P e,S (some (t,0)) l9 c9 1,I d] b9) (∃k p A B C,Zk dY_ E 96 96 (S F G H L) (J [.b false] 1 (some 1))=some (S k p A B,C)/\ ∃D,Zi C e 257 [S k p A B]=some D/\K .normal 108 [I m1, .lb [J g j none,J m n none,J o q none,J r s none, .b f], .lb zDfa,J u n7 none, p_P e,S (some (t,0)) l9 c9 1,I d] D))):=kr
theorem ZNw{a c d e f g j l m n7 n o l9 c9 m1 q r h}(K):CP dY_ 38 ((post (lp_ B_38)).drop 1) (MZ 108 [1,2,4,7,8,9,10] [I m1,.lb [J a c none,J d e none,J f g none,J j l none,.b r],.lb zDfa,J m n7 none,p_P n,S (some (o,0)) l9 c9 1,I q]) h [1,2,4,7,8,9,10] K=(K .normal 108 [I m1, .lb [J a c none,J d e none,J f g none,J j l none, .b r], .lb zDfa,J m n7 none, p_P n,S (some (o,0)) l9 c9 1,I (wW (q+(1:Int)))] h):=kr
theorem ZNx{a h}(K):CP dY_ 38 ((post B_38).drop 1) (MZ 108 [4,8] [.lb zDfa,p_P a]) h [4,5] K=(∃b,Zb h a 0 258=some b/\If (decide (b.length=(258:Nat))&&Zp b&&decide ((0:Nat)+b.length<=zDfa.length)) (K .ret 108 [.lb (splice zDfa (0:Nat) b),I 0] h) False):=kr
end Go.Y
