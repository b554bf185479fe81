/- A part of the proof. -/
import Derived.Test.YteennilbmmlikaaGreatDoorGTShp
import Derived.Test.YteennilbmmlikaaGreatDoorGLX
import Derived.Test.YteennilbmmlikaaGreatDoorGSpanE
import Derived.Test.YteennilbmmlikaaGreatDoorYTryzP
import Derived.Test.YteennilbmmlikaaGreatDoorYLoop
import Derived.Test.YteennilbmmlikaaGreatDoorGN0
import Derived.Test.YteennilbmmlikaaGreatDoorGN5
import Derived.Test.YteennilbmmlikaaGreatDoorGEr5
namespace Go.Y
open Go.Proofs
set_option maxRecDepth 1000000
set_option maxHeartbeats 0
def VL:List V->Nat
 | .sl none _ _ _::_=>1
 | .sl (some _) _ _ _::_=>2
 | .b _::_=>3
 | .i k n::r=>if((V.i k n)::r).length<=256 then 4 else 5
 |_=>0
structure FrK(q n:Nat)(h h':Heap):Prop where
 nx:h.nx<=h'.nx
 keep: ∀j cs wr,j<h.nx->h.get j=some (.arr cs wr)->(VL cs≠q∨j<n)->h'.get j=h.get j
theorem FrK.of{q n:Nat}{h h':Heap}(hn:h.nx<=h'.nx)(hs: ∀j,j<h.nx->h'.get j=h.get j):FrK q n h h':=⟨hn,fun j _ _ hj _ _=>hs j hj⟩

def LN(h:Heap)(a:Option (Nat×Nat))(l:Nat)(c:Option Nat)(k:Nat)(cells:List V):Prop:=
 (a=none∧l=0∧cells= [])∨ ∃j,a=some (j,0)∧c=none∧k=1∧j<h.nx∧h.get j=some (.arr cells true)∧cells≠ []∧l=cells.length
theorem LN.nil(h:Heap)(c:Option Nat)(k:Nat):LN h none 0 c k []:= .inl ⟨rfl,rfl,rfl⟩
theorem LN.isL{h:Heap}{a}{l:Nat}{c}{k:Nat}{cells}(o:LN h a l c k cells):IsL h 1 a l c k cells:=by
 rcases o with ⟨rfl,rfl,rfl⟩|⟨j,rfl,rfl,rfl,h1,h2,h3,rfl⟩
 ·exact IsL.nil _ _ _ _
 ·exact⟨by simp, .inr ⟨j,rfl,rfl,rfl,h1,h2⟩⟩
theorem LN.len{h:Heap}{a}{l:Nat}{c}{k:Nat}{cells:List V}(o:LN h a l c k cells):l=cells.length:=by
 rcases o with ⟨rfl,rfl,rfl⟩|⟨j,rfl,rfl,rfl,h1,h2,h3,rfl⟩<;>rfl
theorem LN.of{h h':Heap}{a}{l:Nat}{c}{k:Nat}{cells}(o:IsL h' 1 a l c k cells)(hj: ∃j,a=some (j,0)∧h.nx<=j)(hne:cells≠ []):LN h' a l c k cells:=by
 rcases o.2 with ⟨rfl,_,_⟩|⟨id,rfl,rfl,rfl,h1,h2⟩
 ·obtain⟨j,e,_⟩:=hj;cases e
 ·exact .inr ⟨id,rfl,rfl,rfl,h1,h2,hne,by have:=o.1;omega⟩
theorem LN.keep{q n:Nat}{h h':Heap}{a}{l:Nat}{c}{k:Nat}{cells}(o:LN h a l c k cells)(f:FrK q n h h')(hk:VL cells≠q∨ ∀j,a=some (j,0)->j<n):LN h' a l c k cells:=by
 rcases o with ho|⟨j,rfl,rfl,rfl,h1,h2,h3,rfl⟩
 ·exact .inl ho
 ·exact .inr ⟨j,rfl,rfl,rfl,qv h1 f.nx,by rw[f.keep j _ _ h1 h2 (hk.imp id fun g=>g j rfl),h2],h3,rfl⟩
theorem Zxr{q n:Nat}{h h':Heap}{a}{l:Nat}{c}{k:Nat}{cells}(o:LN h a l c k cells)(hk:cells≠ []->VL cells=q)(ha: ∀j,a=some (j,0)->n<=j)(f:Fr h a h'):FrK q n h h':=by
 refine⟨f.1,fun j cs wr hj hg hc=>f.2 j hj fun o' e=> ?_⟩
 rcases o with ⟨rfl,_⟩|⟨j',rfl,_,_,_,h2,h3,_⟩
 ·cases e
 ·cases e
  rw[h2]at hg;cases hg
  rcases hc with hc|hc
  ·exact hc (hk h3)
  ·have:=ha j rfl;omega
theorem appN{Y:YP}{st e:TypeId}{te:TI}{q n:Nat}{h:Heap}{a:Option (Nat×Nat)}{l:Nat}{c:Option Nat}{k:Nat}{cells:List V}(v:V)(hk:Y.kd st=some (.slice e))(hte:Y.ty e=some te)(hs:te.size=1)(hby:te.bytes<=1024)(hc:Zk [v]=true)
  (o:LN h a l c k cells) (hb:cells.length<2 ^ 29) (hq:cells≠ []->VL cells=q) (ha: ∀j,a=some (j,0)->n<=j):
  ∃a' l' c' k' h',Zf Y h st st (.sl a l c k) (.ts [v] 1 (some 1))=some (.sl a' l' c' k',h')∧LN h' a' l' c' k' (cells++ [v])∧FrK q n h h'∧ ∃j,a'=some (j,0)∧h.nx<=j:=by
 have hm:most=1099511627776:=by decide
 have hl:=o.len
 have h1:(l+1)*te.bytes<=2 ^ 29*1024:=Nat.mul_le_mul (by omega) hby
 obtain⟨a',l',c',k',h',q1,q2,q3,q4,q5⟩:=Zaf (Y:=Y) (new:= [v]) (m:=1) (cap:=some 1) hk hte hs (by decide) o.isL (by decide) rfl hc (by omega) (by omega)
 exact⟨a',l',c',k',h',q1,LN.of q2 q5 (by simp),Zxr o hq ha q3,q5⟩
theorem ZLz{Y:YP}{st e:TypeId}{te:TI}{q n:Nat}{h:Heap}{a:Option (Nat×Nat)}{l:Nat}{c:Option Nat}{k:Nat}{cells:List V}(v:V)(hk:Y.kd st=some (.slice e))(hte:Y.ty e=some te)(hs:te.size=1)(hby:te.bytes<=1024)(hc:Zk [v]=true)
  (o:LN h a l c k cells) (hb:cells.length<2 ^ 29) (hq:cells≠ []->VL cells=q) (ha: ∀j,a=some (j,0)->n<=j):
  ∃a' l' c' k' h',Zf Y (h.push (.arr [v] true)) st st (.sl a l c k) (.sl (some (h.nx,0)) 1 (some 1) 1)=some (.sl a' l' c' k',h')∧LN h' a' l' c' k' (cells++ [v])∧FrK q n h h'∧ ∃j,a'=some (j,0)∧h.nx<=j:=by
 have hm:most=1099511627776:=by decide
 have hl:=o.len
 have h1:(l+1)*te.bytes<=2 ^ 29*1024:=Nat.mul_le_mul (by omega) hby
 obtain⟨a',l',c',k',h',q1,q2,q3,q4,q5⟩:=Zn7 (Y:=Y) (new:= [v]) (m:=1) hk hte hs (by decide) o.isL (by decide) rfl hc (by omega) (by omega)
 exact⟨a',l',c',k',h',q1,LN.of q2 q5 (by simp),Zxr o hq ha q3,q5⟩

def NestZ(n w:Nat)(h:Heap)(cells:List V)(N:List (List Int)):Prop:=
 cells.length=N.length∧ ∀(p:Nat) (l:List Int),N[p]? =some l->l.length=w∧ ∃j,cells[p]? =some (.sl (some (j,0)) w none 1)∧h.get j=some (.arr (ZV l) true)∧j<n∧j<h.nx
theorem NestZ.nil(n w:Nat)(h:Heap):NestZ n w h [] []:=⟨rfl,fun p l hp=>by simp at hp⟩
theorem WK{l:List Int}(h0:l≠ [])(hl:l.length<=256):VL (ZV l)=4:=by
 cases l with
 |nil=>exact absurd rfl h0
 |cons x r=>simp only[ZV,qz,VL];rw[if_pos (by simp at hl ⊢;omega)]
theorem NestZ.keep{n w q m:Nat}{h h':Heap}{cells}{N:List (List Int)}(z:NestZ n w h cells N)(f:FrK q m h h')(hw:0<w∧w<=256)(hq:q≠4∨n<=m):NestZ n w h' cells N:=
 ⟨z.1,fun p l hp=>by
  obtain⟨h1,j,h2,h3,h4,h5⟩:=z.2 p l hp
  refine⟨h1,j,h2,?_,h4,qv h5 f.nx⟩
  rw[f.keep j _ _ h5 h3 ?_,h3]
  rcases hq with hq|hq
  ·left
   rw[WK (fun e=>by rw[e]at h1;simp at h1;omega) (by omega)]
   exact Ne.symm hq
  ·right;omega⟩
theorem NestZ.snoc{n m w:Nat}{h:Heap}{cells}{N:List (List Int)}(z:NestZ n w h cells N){j:Nat}{l:List Int}(hl:l.length=w)(hg:h.get j=some (.arr (ZV l) true))(hn:n<=m)(hj:j<m)(hj2:j<h.nx):NestZ m w h (cells++ [.sl (some (j,0)) w none 1]) (N++ [l]):=by
 have hlen:=z.1
 refine⟨by simp[hlen],fun p l' hp=> ?_⟩
 by_cases hlt:p<N.length
 ·rw[List.getElem?_append_left hlt]at hp
  obtain⟨h1,j',h2,h3,h4,h5⟩:=z.2 p l' hp
  exact⟨h1,j',by rw[List.getElem?_append_left (by omega)];exact h2,h3,by omega,h5⟩
 ·rw[List.getElem?_append_right (by omega)]at hp
  have hp0:p-N.length=0:=by
   rcases Nat.eq_zero_or_pos (p-N.length)with h0|h0
   ·exact h0
   ·rw[qq (by simp;omega)]at hp;cases hp
  rw[hp0]at hp;simp at hp;subst hp
  exact⟨hl,j,by rw[List.getElem?_append_right (by omega),show p-cells.length=0 by omega];rfl,hg,hj,hj2⟩
theorem NestZ.more{n m w:Nat}{h:Heap}{cells}{N:List (List Int)}(z:NestZ n w h cells N)(hn:n<=m):NestZ m w h cells N:=
 ⟨z.1,fun p l hp=>by obtain⟨h1,j,h2,h3,h4,h5⟩:=z.2 p l hp;exact⟨h1,j,h2,h3,by omega,h5⟩⟩
theorem NestZ.kind{n w:Nat}{h:Heap}{cells}{N:List (List Int)}(z:NestZ n w h cells N)(hne:cells≠ []):VL cells=2:=by
 cases cells with
 |nil=>exact absurd rfl hne
 |cons v r=>
  have hl:=z.1
  obtain⟨l,hl2⟩: ∃l,N[0]? =some l:=⟨N[0]'(by simp at hl;omega),qo _⟩
  obtain⟨_,j,h2,_⟩:=z.2 0 l hl2
  simp at h2;subst h2;rfl
theorem Zo2(l:List Int):ZQ (ZV l)=true:=by
 induction l with
 |nil=>rfl
 |cons x r ih=>simp only[ZV,qz,ZQ,qrq];exact⟨rfl,ih⟩
theorem NestZ.frz{n' w:Nat} : ∀ {cells} {N:List (List Int)} {h:Heap},NestZ n' w h cells N->FrzL h cells (row ZY N)
 | [],[],_,_=> .nil
 | [],_::_,_,n=>by have:=n.1;simp at this
 |_::_,[],_,n=>by have:=n.1;simp at this
 |v::cells,l::L,h,n=>by
  obtain⟨h0,j,h1,h2,h3,h4⟩:=n.2 0 l rfl
  simp at h1;subst h1
  have e:row ZY (l::L)=lst encI l::row ZY L:=rfl
  rw[e]
  refine .cons _ _ _ _ ?_ (NestZ.frz (n':=n') (w:=w) ⟨by have:=n.1;simp at this;exact this,fun p l' hp=> ?_⟩)
  ·rw[show lst encI l= .ts (ZV l) w none by simp only[lst,rowI,h0]]
   exact .sl _ _ _ _ _ _ true _ _ _ h2 (by rw[ql];exact ZA (by simp[ZV,h0])) (fun x hx=>by cases hx) (by decide) (ZU _ (Zo2 l))
  ·obtain⟨g0,j',g1,g2,g3,g4⟩:=n.2 (p+1) l' (by simpa using hp)
   exact⟨g0,j',by simpa using g1,g2,g3,g4⟩

abbrev nilC:V:= .sl none 0 (some 0) 0
abbrev Zs9(b:Bool):List V:= [.b b]
abbrev clsI(cl:List Nat):List V:=cl.map fun k=>I (k:Nat)
structure MkI(n0 w:Nat)(cl:List Nat)(T N:List (List Int))(G:List Bool)(id8 id9 l9:Nat)(c9:Option Nat)(h:Heap):Prop where
 ex: ∃(an:Option (Nat×Nat)) (ln:Nat) (cn:Option Nat) (kn:Nat) (ag:Option (Nat×Nat)) (lg:Nat) (cg:Option Nat) (kg:Nat) (cells:List V),h.get id8=some (.arr (clsI cl++ [.sl an ln cn kn, .sl ag lg cg kg]) true)∧
  LN h an ln cn kn cells∧NestZ n0 w h cells N∧LN h ag lg cg kg (G.map V.b)
 li:LX (fun v:V=> [v]) 1 h (some (id9,0)) l9 c9 1 (nilC::T.map (lst encI))
 l8:id8<h.nx
 n0:n0<=h.nx
 cl:cl.length=256
 w:0<w∧w<=256

theorem Zjt(l:List V):row (fun v:V=> [v]) l=l:=by
 induction l with
 |nil=>rfl
 |cons v r ih=>
  have:row (fun v:V=> [v]) (v::r)=v::row (fun v:V=> [v]) r:=rfl
  rw[this,ih]
theorem Zju{cl:List Nat}(h:cl.length=256)(x y:V):VL (clsI cl++ [x,y])=5:=by
 cases cl with
 |nil=>simp at h
 |cons k r=>
  simp only[clsI,qz,qs,VL]
  rw[if_neg (by simp at h ⊢;omega)]
theorem Zfy(G:List Bool)(h:G.map V.b≠ []):VL (G.map V.b)=3:=by
 cases G with
 |nil=>exact absurd rfl h
 |cons b r=>rfl
theorem Zta(T:List (List Int)):VL (nilC::T.map (lst encI))=1:=rfl
theorem LX.keepK{q n:Nat}{h h':Heap}{id l:Nat}{c}{T:List (List Int)}(o:LX (fun v:V=> [v]) 1 h (some (id,0)) l c 1 (nilC::T.map (lst encI)))(f:FrK q n h h')(hq:q≠1):LX (fun v:V=> [v]) 1 h' (some (id,0)) l c 1 (nilC::T.map (lst encI)):=by
 obtain⟨j,e,_,hj,hg,_⟩:=o.cells (by simp)
 cases e
 refine o.fr f.nx fun j' e hj'=> ?_
 cases e
 rw[Zjt]at hg
 exact f.keep _ _ _ hj hg (.inl (by rw[Zta];exact Ne.symm hq))
theorem LN.kindne{h:Heap}{a}{l:Nat}{c}{k:Nat}{cells}{q p:Nat}(o:LN h a l c k cells)(hk:cells≠ []->VL cells=p)(hq:q≠p)(h0:q≠0):VL cells≠q:=by
 by_cases he:cells= []
 ·subst he;exact Ne.symm h0
 ·rw[hk he];exact Ne.symm hq
theorem MkI.row{n0 w:Nat}{cl:List Nat}{T N:List (List Int)}{G:List Bool}{id8 id9 l9:Nat}{c9}{h h':Heap}(s:MkI n0 w cl T N G id8 id9 l9 c9 h)(f:FrK 4 n0 h h'):MkI n0 w cl T N G id8 id9 l9 c9 h':=by
 obtain⟨an,ln,cn,kn,ag,lg,cg,kg,cells,h1,h2,h3,h4⟩:=s.ex
 exact⟨⟨an,ln,cn,kn,ag,lg,cg,kg,cells,by rw[f.keep _ _ _ s.l8 h1 (.inl (by rw[Zju s.cl];decide)),h1],h2.keep f (.inl (h2.kindne h3.kind (by decide) (by decide))),h3.keep f s.w (.inr (qnq _)),h4.keep f (.inl (h4.kindne (Zfy G) (by decide) (by decide)))⟩,
  s.li.keepK f (by decide),qv s.l8 f.nx,Nat.le_trans s.n0 f.nx,s.cl,s.w⟩
theorem MkI.more{n0 w:Nat}{cl:List Nat}{T N:List (List Int)}{G:List Bool}{id8 id9 l9:Nat}{c9}{h:Heap}(s:MkI n0 w cl T N G id8 id9 l9 c9 h):MkI h.nx w cl T N G id8 id9 l9 c9 h:=by
 obtain⟨an,ln,cn,kn,ag,lg,cg,kg,cells,h1,h2,h3,h4⟩:=s.ex
 exact⟨⟨an,ln,cn,kn,ag,lg,cg,kg,cells,h1,h2,h3.more s.n0,h4⟩,s.li,s.l8,qnq _,s.cl,s.w⟩
theorem MkI.list{n0 w:Nat}{cl:List Nat}{T N:List (List Int)}{G:List Bool}{id8 id9 l9:Nat}{c9}{h:Heap}(s:MkI n0 w cl T N G id8 id9 l9 c9 h)(x:List Int)(hT:T.length<2 ^ 20){a}{l:Nat}{c}{k:Nat}{r:List Int}(hr:LN h a l c k (ZV r))(hrl:r.length<=256):
  ∃id' l' c' h',Zf Tryd.Y h 33 33 (.sl (some (id9,0)) l9 c9 1) (.ts [lst encI x] 1 (some 1))=some (.sl (some (id',0)) l' c' 1,h')∧MkI n0 w cl (T++ [x]) N G id8 id' l' c' h'∧LN h' a l c k (ZV r):=by
 obtain⟨j,e,_,hj,hg,_⟩:=s.li.cells (by simp)
 cases e
 rw[Zjt]at hg
 obtain⟨a',l',c',k',h',q1,q2,q3,_⟩:=LX.app (Y:=Tryd.Y) (f:=fun v:V=> [v]) (k:=1) (out:=nilC::T.map (lst encI)) (new:= [lst encI x]) (st:=33) (e:=32) (te:=⟨1,24, .slice 3,[.sl none 0 (some 0) 0]⟩) (lst encI x) rfl (fun _=>rfl) (by kernel_rfl) (by kernel_rfl) rfl (by decide) rfl (by decide) s.li (by simp;omega)
 have f:FrK 1 0 h h':=⟨q3.1,fun i cs wr hi hgi hc=>q3.2 i hi fun o eo=>by
  cases eo
  rw[hg]at hgi;cases hgi
  rcases hc with hc|hc
  ·exact hc (Zta T)
  ·omega⟩
 obtain⟨j',rfl,rfl,_⟩:=q2.cells (by simp)
 obtain⟨an,ln,cn,kn,ag,lg,cg,kg,cells,h1,h2,h3,h4⟩:=s.ex
 refine⟨j',l',c',h',q1,⟨⟨an,ln,cn,kn,ag,lg,cg,kg,cells,by rw[f.keep _ _ _ s.l8 h1 (.inl (by rw[Zju s.cl];decide)),h1],h2.keep f (.inl (h2.kindne h3.kind (by decide) (by decide))),h3.keep f s.w (.inl (by decide)),h4.keep f (.inl (h4.kindne (Zfy G) (by decide) (by decide)))⟩,
  by have:=q2;rwa [qs,<-List.map_singleton (f:=lst encI),<-List.map_append]at this,qv s.l8 f.nx,Nat.le_trans s.n0 f.nx,s.cl,s.w⟩,hr.keep f (.inl (hr.kindne (p:=4) (fun hne=>WK (fun e=>hne (by rw[e];rfl)) hrl) (by decide) (by decide)))⟩
structure Bk(n:Nat)(h0 h:Heap)(id:Nat)(bs:List UInt8):Prop where
 ex: ∃(a s:Option (Nat×Nat)) (m:Nat) (c:Option Nat) (k:Nat),h.get id=some (.arr [.p a, .sl s m c k] true)∧(a=none∨a=some (id,0))∧IsL h 1 s m c k (bs.map Wc)∧
  (∀j o,s=some (j,o)->h.tagOf j=some 5∧j≠id∧n<=j)∧(m=0->s=none)
 tag:h.tagOf id=some 182
 lt:id<h.nx
 lo:n<=id
 keep: ∀i,i<n->h.get i=h0.get i

theorem Bk.more{n:Nat}{h0 h h1:Heap}{id:Nat}{bs:List UInt8}(b:Bk n h0 h id bs)(hn:h.nx<=h1.nx)(hg: ∀i,i<h.nx->h1.get i=h.get i)(ht: ∀i,i<h.nx->h1.tagOf i=h.tagOf i):Bk n h0 h1 id bs:=by
 obtain⟨a,s,m,c,k,g,ha,hL,hs,hz⟩:=b.ex
 have hlt:=b.lt
 have hlo:=b.lo
 refine⟨⟨a,s,m,c,k,by rw[hg _ hlt];exact g,ha,hL.fr hn (fun j _ hj=>hg j hj),fun j o e=> ?_,hz⟩,by rw[ht _ hlt];exact b.tag,by omega,hlo,fun i hi=>by rw[hg _ (by omega)];exact b.keep i hi⟩
 obtain⟨g1,g2,g3⟩:=hs j o e
 refine⟨?_,g2,g3⟩
 rcases hL.2 with ⟨rfl,_,_⟩|⟨i2,rfl,_,_,g4,_⟩
 ·cases e
 ·cases e;rw[ht _ g4];exact g1

theorem ZA3{n:Nat}{h0 h:Heap}{id:Nat}{bs:List UInt8}(b:Bk n h0 h id bs):Con UY 162 [.p (some (id,0))] h fun v h'=>v= .tup []∧Bk n h0 h' id bs∧h'.nx=h.nx:=by
 obtain⟨a,s,m,c,k,hg,ha,hL,ht,hz⟩:=b.ex
 have hlo:=b.lo
 refine Zu UK (fn:=Tryz.f162) (ZB UK (loc:=UY.loc 162) 100 [] ?_)
 refine Eq.mpr (Zw1 id h _) ?_
 have hc:Zb h id 0 1=some [.p a]:=by simp[Zb,hg,Zo]
 have hty:(UY.ty 182).isSome=true:=by kernel_rfl
 refine⟨a,hc,hty,Zg (fun hn=> ?_) (fun hn=> ?_)⟩
 ·have cv: ∃(id_1:Nat) (cs:List V) (wr:Bool) (ti:TI),some (id,0)=some (id_1,0)∧h.get id_1=some (YObj.arr cs wr)∧h.tagOf id_1=some 182∧some (⟨2,32,Kd.struct [(0,180),(1,138)],[.p none, .sl none 0 (some 0) 0]⟩:TI)=some ti∧(ti.size=0->False)∧ti.size<=cs.length:=
   ⟨id,_,_,_,rfl,hg,b.tag,rfl,by simp,by simp⟩
  refine⟨cv,cv,h.set id (some (.arr [.p (some (id,0)), .sl s m c k] true)),by simp[Zj,hg,splice],finC (.inl rfl) rfl (.now ⟨rfl,⟨⟨some (id,0),s,m,c,k,by simp, .inr rfl,?_,ht,hz⟩,b.tag,b.lt,hlo,fun i hi=> ?_⟩,rfl⟩)⟩
  ·exact hL.fr (qnq _) fun j hj _=>by rw[qc,if_neg (fun e=>(ht j 0 hj).2.1 e)]
  ·rw[qc,if_neg (by omega)];exact b.keep i hi
 ·have ha':a=some (id,0):=by
   rcases ha with rfl|ha
   ·simp at hn
   ·exact ha
  subst ha'
  exact⟨_,hc,hty,⟨(id,0),rfl,rfl,by simp[hg]⟩,finC (.inl rfl) rfl (.now ⟨rfl,b,rfl⟩)⟩

theorem Zo3{n:Nat}{h0 h:Heap}{id:Nat}{bs:List UInt8}(b:Bk n h0 h id bs)(c:UInt8)(hl:bs.length<2 ^ 29):Con UY 126 [.p (some (id,0)), .i .u8 (c.toNat:Nat)] h fun v h'=>v= .nilifc∧Bk n h0 h' id (bs++ [c])∧h.nx<=h'.nx:=by
 refine Zu UK (fn:=Tryz.f126) (ZB UK (loc:=UY.loc 126) 100 [4] ?_)
 refine Eq.mpr (Zw2 id (c.toNat:Nat) h _) ?_
 refine(ZA3 b).mono fun v h1 ⟨e1,b1,hnx⟩=>⟨e1,?_⟩
 obtain⟨a,s,m,cc,k,hg,ha,hL,ht,hz⟩:=b1.ex
 have hn:=hL.1
 simp at hn
 have hlt:=b1.lt
 have hlo:=b1.lo
 have hsrc:Xz UY ⟨[],[],h1⟩ te8 138 (.ts [Wc c] 1 (some 1))=some (1,[Wc c]):=by
  have hk:UY.kd 138=some (.slice 5):=by kernel_rfl
  simp[Xz,hk,QL,XE,te8,Zo]
 obtain⟨h2,q1,q2,q3,q4,q5,q6⟩:=Zzs (cells:=bs.map Wc) hsrc (by omega) rfl rfl hL (fun j o e=>(ht j o e).1) (by omega)
 have hgi:h2.get id=some (.arr [.p a, .sl s m cc k] true):=by rw[q5 id hlt (fun o e=>(ht id o e).2.1 rfl)];exact hg
 refine⟨s,m,cc,k,by simp[Zb,hg,Zo],_,_,_,_,h2,q1,h2.set id (some (.arr [.p a, .sl (some (h1.nx,0)) (m+1) none 1] true)),by simp[Zj,hgi,splice],finC (.inr rfl) rfl (.now ⟨rfl,⟨⟨a,some (h1.nx,0),m+1,none,1,by simp,ha,⟨by simp;omega, .inr ⟨h1.nx,rfl,rfl,rfl,by simp[q3],?_⟩⟩,?_,by omega⟩,?_,?_,hlo,fun i hi=> ?_⟩,?_⟩)⟩
 ·rw[qc,if_neg (by omega),q2,List.map_append];rfl
 ·rintro j o e
  cases e
  exact⟨by rw[Zax];exact q4,by omega,by omega⟩
 ·rw[Zax,q6 id hlt];exact b1.tag
 ·rw[Heap.nx_set,q3];omega
 ·rw[qc,if_neg (by omega),q5 i (by omega) (fun o e=>by have:=(ht i o e).2.2;omega)]
  exact b1.keep i hi
 ·rw[Heap.nx_set,q3];omega

structure Bs(n:Nat)(h0 h:Heap)(id:Nat)(bs:List UInt8):Prop where
 ex: ∃(a s:Option (Nat×Nat)) (m:Nat) (c:Option Nat) (k:Nat),h.get id=some (.arr [.p a, .sl s m c k] true)∧((s=none∧m=0∧bs= [])∨(m≠0∧m=bs.length∧ ∃i2 wr,s=some (i2,0)∧h.get i2=some (.arr (bs.map Wc) wr)∧h.tagOf i2=some 5∧n<=i2∧i2≠id))
 lo:n<=id
 keep: ∀i,i<n->h.get i=h0.get i
theorem Bk.bs{n:Nat}{h0 h:Heap}{id:Nat}{bs:List UInt8}(b:Bk n h0 h id bs):Bs n h0 h id bs:=by
 obtain⟨a,s,m,c,k,hg,ha,hL,ht,hz⟩:=b.ex
 refine⟨⟨a,s,m,c,k,hg,?_⟩,b.lo,b.keep⟩
 rcases hL.2 with ⟨rfl,rfl,h0⟩|⟨i2,rfl,rfl,rfl,g1,g2⟩
 ·exact .inl ⟨rfl,rfl,by simpa using h0⟩
 ·have hm:m≠0:=fun e=>by have:=hz e;cases this
  have:=hL.1
  simp at this
  exact .inr ⟨hm,this,i2,true,rfl,g2,(ht i2 0 rfl).1,(ht i2 0 rfl).2.2,(ht i2 0 rfl).2.1⟩
theorem Zjv{n:Nat}{h0 h:Heap}{id:Nat}{bs:List UInt8}(b:Bs n h0 h id bs)(hl:bs.length<2 ^ 30):Con UY 116 [.p (some (id,0))] h fun v h'=>v= .s bs∧Bs n h0 h' id bs∧h'.nx=h.nx:=by
 obtain⟨a,s,m,c,k,hg,hs⟩:=b.ex
 have hc:Zb h id 1 1=some [.sl s m c k]:=by simp[Zb,hg,Zo]
 refine Zu UK (fn:=Tryz.f116) (ZB UK (loc:=UY.loc 116) 100 [2] ?_)
 refine Eq.mpr (Zw0 id h _) ?_
 have hmost:most=1099511627776:=by decide
 rcases hs with ⟨rfl,rfl,rfl⟩|⟨hm,hml,i2,wr,rfl,g2,g3,g4,g5⟩
 ·refine⟨_,_,_,_,hc,fun _=>rfl,_,_,_,_,hc,[],h,by simp[strH],finC (.inr rfl) rfl (.now ⟨rfl,b,rfl⟩)⟩
 ·refine⟨_,_,_,_,hc,fun e=>absurd e hm,_,_,_,_,hc,bs,h.set i2 (some (.arr (bs.map Wc) false)),?_,finC (.inr rfl) rfl (.now ⟨rfl,⟨⟨a,some (i2,0),m,c,k,?_, .inr ⟨hm,hml,i2,false,rfl,by simp,g3,g4,g5⟩⟩,b.lo,fun i hi=> ?_⟩,rfl⟩)⟩
  ·have hk:UY.kd 5=some (.int .u8):=by kernel_rfl
   have hp:Zcw UY 224 5=true:=by kernel_rfl
   simp only[strH,g2,g3,hk]
   rw[if_neg (by omega),if_pos ⟨hp,by simp;omega,by simp;omega⟩,Wd]
   rfl
  ·rw[qc,if_neg (Ne.symm g5)];exact hg
  ·rw[qc,if_neg (by omega)];exact b.keep i hi
theorem ZGj{a c d e f g j l m h}(K):CP UY 82 (pre (flat (Za Tryz.f82))) (.agg [J a c none,J d e none,J f g none,J j l none,.b m]::Rp 58) h [1,2,4,5,6,14] K=(K .normal 59 [.lb [J a c none,J d e none,J f g none,J j l none, .b m], .lb [I 0,I 0,I 0,I 0,I 0,I 0,I 0,I 0,I 0,I 0,I 0,I 0,I 0,I 0,I 0,I 0,I 0,I 0,I 0,I 0,I 0,I 0,I 0,I 0,I 0,I 0,I 0,I 0,I 0,I 0,I 0,I 0,I 0,I 0,I 0,I 0,I 0,I 0,I 0,I 0,I 0,I 0,I 0,I 0,I 0,I 0,I 0,I 0,I 0,I 0,I 0,I 0,I 0,I 0,I 0,I 0,I 0,I 0,I 0,I 0,I 0,I 0,I 0,I 0,I 0,I 0,I 0,I 0,I 0,I 0,I 0,I 0,I 0,I 0,I 0,I 0,I 0,I 0,I 0,I 0,I 0,I 0,I 0,I 0,I 0,I 0,I 0,I 0,I 0,I 0,I 0,I 0,I 0,I 0,I 0,I 0,I 0,I 0,I 0,I 0,I 0,I 0,I 0,I 0,I 0,I 0,I 0,I 0,I 0,I 0,I 0,I 0,I 0,I 0,I 0,I 0,I 0,I 0,I 0,I 0,I 0,I 0,I 0,I 0,I 0,I 0,I 0,I 0,I 0,I 0,I 0,I 0,I 0,I 0,I 0,I 0,I 0,I 0,I 0,I 0,I 0,I 0,I 0,I 0,I 0,I 0,I 0,I 0,I 0,I 0,I 0,I 0,I 0,I 0,I 0,I 0,I 0,I 0,I 0,I 0,I 0,I 0,I 0,I 0,I 0,I 0,I 0,I 0,I 0,I 0,I 0,I 0,I 0,I 0,I 0,I 0,I 0,I 0,I 0,I 0,I 0,I 0,I 0,I 0,I 0,I 0,I 0,I 0,I 0,I 0,I 0,I 0,I 0,I 0,I 0,I 0,I 0,I 0,I 0,I 0,I 0,I 0,I 0,I 0,I 0,I 0,I 0,I 0,I 0,I 0,I 0,I 0,I 0,I 0,I 0,I 0,I 0,I 0,I 0,I 0,I 0,I 0,I 0,I 0,I 0,I 0,I 0,I 0,I 0,I 0,I 0,I 0,I 0,I 0,I 0,I 0,I 0,I 0,I 0,I 0,I 0,I 0,I 0,I 0,I 0,I 0,I 0,I 0,I 0,I 0,I 0,I 0,I 0,I 0,I 0,I 0], .p (some (h.nx,0)),S0,.mp (some (h.nx+(1:Nat))),I 0] ((h.pushT (UY.tag (95:Nat)) (YObj.arr (List.replicate (256:Nat) (I 0)) true)).push (YObj.map []))):=by kernel_rfl
theorem ZGk{c d e f g j l m n o z2 a5 l5 c5 k5 q a h}(K):CP UY 82 (pre (flat (Zx (post (flat (Za Tryz.f82)))))) (MZ 59 [1,2,4,5,6,14] [.lb [J c d none,J e f none,J g j none,J l m none,.b n],.lb z2,.p (some (o,0)),S a5 l5 c5 k5,.mp (some q),I a]) h [1,2,4,5,6,14] K=(If (ltI a 256) (K .normal 59 [.lb [J c d none,J e f none,J g j none,J l m none, .b n], .lb z2, .p (some (o,0)),S a5 l5 c5 k5,.mp (some q),I a] h) (K (.exit 0) 59 [.lb [J c d none,J e f none,J g j none,J l m none, .b n], .lb z2, .p (some (o,0)),S a5 l5 c5 k5,.mp (some q),I a] h)):=by kernel_rfl
theorem ZGl{c a e f g j l m n o z2 a5 l5 c5 k5 q d h}(K):CP UY 82 (pre (flat (Xj (post (flat (Zx (post (flat (Za Tryz.f82))))))))) (MZ 59 [1,2,4,5,6,14] [.lb [J c a none,J e f none,J g j none,J l m none,.b n],.lb z2,.p (some (o,0)),S a5 l5 c5 k5,.mp (some q),I d]) h [1,2,4,5,6,7,8,14,18,19,20] K=(K .normal 59 [.lb [J c a none,J e f none,J g j none,J l m none, .b n], .lb z2, .p (some (o,0)),S a5 l5 c5 k5,.mp (some q),I d, .p (some (h.nx,0)),I d,J c a none,I (a:Int),I 0] (h.pushT (UY.tag (182:Nat)) (YObj.arr [.p none,S none (0:Nat) (some (0:Nat)) (0:Nat)] true))):=by kernel_rfl
theorem ZGm{d a g j l m o q r s z2 a5 l5 c5 k5 u c f e h}(K):CP UY 82 (flat (Zx (post (flat (Xj (post (flat (Zx (post (flat (Za Tryz.f82))))))))))) (MZ 59 [1,2,4,5,6,7,8,14,18,19,20] [.lb [J d a none,J g j none,J l m none,J o q none,.b r],.lb z2,.p (some (s,0)),S a5 l5 c5 k5,.mp (some u),I c,.p (some (f,0)),I c,J d a none,I (a:Int),I e]) h [1,2,4,5,6,7,8,14,18,19,20] K=(If (ltI e a) ((0<=e∧e<a)∧ ∃n t w x,Zo 4 (List.drop (e.toNat*4) d)=some [U n,U t,U w,U x]∧ ∃y,Zj (h.pushT (UY.tag (25:Nat)) (YObj.arr [U 0,U 0,U 0,U 0] true)) h.nx 0 [U n,U t,U w,U x]=some y∧(0:Int)<=(6:Int)∧((0:Int)<=c.fdiv ((2:Int) ^ min (Int.toNat (6:Int)) IntKind.i64.bits)∧c.fdiv ((2:Int) ^ min (Int.toNat (6:Int)) IntKind.i64.bits)<(↑(4:Nat):Int))∧ ∃z,Zb y h.nx ((0:Nat)+(c.fdiv ((2:Int) ^ min (Int.toNat (6:Int)) IntKind.i64.bits)).toNat*1) 1=some [U z]∧(0:Int)<=IntKind.i64.wrap (↑(BitVec.ofInt IntKind.i64.bits c&&&BitVec.ofInt IntKind.i64.bits (63:Int)).toNat:Int)∧Con UY 126 [.p (some (f,0)),.i IntKind.u8 (IntKind.u8.wrap (IntKind.u64.wrap (↑(BitVec.ofInt IntKind.u64.bits (z.fdiv ((2:Int) ^ min (IntKind.i64.wrap (↑(BitVec.ofInt IntKind.i64.bits c&&&BitVec.ofInt IntKind.i64.bits (63:Int)).toNat:Int)).toNat IntKind.u64.bits))&&&BitVec.ofInt IntKind.u64.bits (1:Int)).toNat:Int)))] y fun(v:V) (h':Heap)=>v=V.nilifc∧K .normal 59 [.lb [J d a none,J g j none,J l m none,J o q none, .b r], .lb z2, .p (some (s,0)),S a5 l5 c5 k5,.mp (some u),I c, .p (some (f,0)),I c,J d a none,I (a:Int),I (IntKind.i64.wrap (e+(1:Int)))] h'∨ ∃a0 a1,v=V.ifc a0 a1∧K .normal 59 [.lb [J d a none,J g j none,J l m none,J o q none, .b r], .lb z2, .p (some (s,0)),S a5 l5 c5 k5,.mp (some u),I c, .p (some (f,0)),I c,J d a none,I (a:Int),I (IntKind.i64.wrap (e+(1:Int)))] h') (K (.exit 2) 59 [.lb [J d a none,J g j none,J l m none,J o q none, .b r], .lb z2, .p (some (s,0)),S a5 l5 c5 k5,.mp (some u),I c, .p (some (f,0)),I c,J d a none,I (a:Int),I e] h)):=by kernel_rfl
theorem ZGn{g j m o q r t u w e z2 a5 l5 c5 k5 f d x h}(K):CP UY 82 ((post (flat (Xj (post (flat (Zx (post (flat (Za Tryz.f82))))))))).drop 1) (MZ 59 [1,2,4,5,6,7,8,14] [.lb [J g j none,J m o none,J q r none,J t u none,.b w],.lb z2,.p (some (e,0)),S a5 l5 c5 k5,.mp (some f),I d,.p (some (x,0)),I d]) h [1,2,4,5,6,14] K=(Con UY 116 [.p (some (x,0))] h fun(v:V) (h':Heap)=> ∃s,v=.s s∧ ∃n b,Zgl UY h' 9 3 (some f) (.s s)=some (I n,b)∧If (!b) (Con UY 116 [.p (some (x,0))] h' fun(v:V) (h':Heap)=> ∃s,v=.s s∧ ∃h,updM UY h' 9 (some f) (.s s) (I (l5:Int))=some h∧ ∃a l c k h_1,Zf UY h 138 138 (S a5 l5 c5 k5) (J [.i .u8 (IntKind.u8.wrap d)] 1 (some 1))=some (S a l c k,h_1)∧((0:Int)<=d∧d<(↑(256:Nat):Int))∧ ∃h,Zj h_1 e ((0:Nat)+d.toNat*1) [I (l5:Int)]=some h∧K .normal 59 [.lb [J g j none,J m o none,J q r none,J t u none, .b w], .lb z2, .p (some (e,0)),S a l c k,.mp (some f),I d] h) (((0:Int)<=d∧d<(↑(256:Nat):Int))∧ ∃h,Zj h' e ((0:Nat)+d.toNat*1) [I n]=some h∧K .normal 59 [.lb [J g j none,J m o none,J q r none,J t u none, .b w], .lb z2, .p (some (e,0)),S a5 l5 c5 k5,.mp (some f),I d] h)):=by kernel_rfl
theorem ZGo{a c d e f g j l m z2 n o q r s t u h}(K):CP UY 82 ((post (flat (Zx (post (flat (Za Tryz.f82)))))).drop 1) (MZ 59 [1,2,4,5,6,14] [.lb [J a c none,J d e none,J f g none,J j l none,.b q],.lb z2,.p (some (m,0)),S r s t u,.mp (some n),I o]) h [1,2,4,5,6,14] K=(K .normal 59 [.lb [J a c none,J d e none,J f g none,J j l none, .b q], .lb z2, .p (some (m,0)),S r s t u,.mp (some n),I (IntKind.i64.wrap (o+(1:Int)))] h):=by kernel_rfl
theorem ZGp{a z2 a5 l5 c5 k5 h}(K):CP UY 82 ((post (flat (Za Tryz.f82))).drop 1) (MZ 59 [2,4,5] [.lb z2,.p (some (a,0)),S a5 l5 c5 k5]) h [2,3] K=(∃b,Zb h a 0 256=some b∧If (decide ((ev (((mk (59:Nat) ([(2:Nat),(4:Nat),(5:Nat)].zip [.lb z2,.p (some (a,(0:Nat))),S a5 l5 c5 k5])).set (57:Nat) (.agg b)).set (58:Nat) (ev ((mk (59:Nat) ([(2:Nat),(4:Nat),(5:Nat)].zip [.lb z2,.p (some (a,(0:Nat))),S a5 l5 c5 k5])).set (57:Nat) (.agg b)) (Operand.tmp (5:Nat)))) (Operand.tmp (57:Nat))).cells.length=(256:Nat))&&Zk (ev (((mk (59:Nat) ([(2:Nat),(4:Nat),(5:Nat)].zip [.lb z2,.p (some (a,(0:Nat))),S a5 l5 c5 k5])).set (57:Nat) (.agg b)).set (58:Nat) (ev ((mk (59:Nat) ([(2:Nat),(4:Nat),(5:Nat)].zip [.lb z2,.p (some (a,(0:Nat))),S a5 l5 c5 k5])).set (57:Nat) (.agg b)) (Operand.tmp (5:Nat)))) (Operand.tmp (57:Nat))).cells&&decide ((0:Nat)+(ev (((mk (59:Nat) ([(2:Nat),(4:Nat),(5:Nat)].zip [.lb z2,.p (some (a,(0:Nat))),S a5 l5 c5 k5])).set (57:Nat) (.agg b)).set (58:Nat) (ev ((mk (59:Nat) ([(2:Nat),(4:Nat),(5:Nat)].zip [.lb z2,.p (some (a,(0:Nat))),S a5 l5 c5 k5])).set (57:Nat) (.agg b)) (Operand.tmp (5:Nat)))) (Operand.tmp (57:Nat))).cells.length<=z2.length)) (K .ret 59 [.lb (splice z2 (0:Nat) (ev (((mk (59:Nat) ([(2:Nat),(4:Nat),(5:Nat)].zip [.lb z2, .p (some (a,(0:Nat))),S a5 l5 c5 k5])).set (57:Nat) (.agg b)).set (58:Nat) (ev ((mk (59:Nat) ([(2:Nat),(4:Nat),(5:Nat)].zip [.lb z2, .p (some (a,(0:Nat))),S a5 l5 c5 k5])).set (57:Nat) (.agg b)) (Operand.tmp (5:Nat)))) (Operand.tmp (57:Nat))).cells),S a5 l5 c5 k5] h) False):=by kernel_rfl
abbrev encU(c:Nat):List V:= [.i .u8 (c:Nat)]
theorem Zct(x:Nat):(encU x).length=1:=rfl
def Zeh(sets:List Set4):V:= .tup [.agg (clsC (srtS sets 256).1),lst encU (srtS sets 256).2]

theorem Znm(sets:List Set4)(c:Nat):(keyN sets c).length=sets.length:=List.length_map _
theorem Ztb(sets:List Set4)(c:Nat){j:Nat}(h:j<sets.length):keyN (sets.take (j+1)) c=keyN (sets.take j) c++ [if hasN sets[j] c then 1 else 0]:=by
 unfold keyN;rw[qa h,List.map_append];rfl
theorem bitU(x:Set4)(c:Nat):IntKind.u8.wrap (((Zeo x (c / 64)).fdiv ((2:Int) ^ (c % 64))) % 2)=(((if hasN x c then 1 else 0:UInt8).toNat:Nat):Int):=by
 unfold hasN
 generalize (Zeo x (c / 64)).fdiv ((2:Int) ^ (c % 64))=y
 have:y % 2=0∨y % 2=1:=by omega
 rcases this with e|e<;>rw[e]<;>rfl
theorem ZL0{h:Heap}{id:Nat}{sets:List Set4}{le:List Nat}(hg:h.get id=some (.map (esM sets le)))(k:List UInt8):
  Zgl UY h 9 3 (some id) (.s k)=match le.findIdx? fun d=>k==keyN sets d with|some i=>some (I (i:Nat),true)|none=>some (I 0,false):=by
 have hk:UY.kd 9=some .str:=by kernel_rfl
 have hp:Qm UY 9=true:=by kernel_rfl
 have hs:(UY.ty 3).isSome=true:=by kernel_rfl
 have hz:Zj2 UY 3= I 0:=by kernel_rfl
 have hm:VS h (some id)=some (esM sets le):=by simp[VS,hg]
 have hg2:=Zs5 sets k le 0
 have hpl:=Zhh sets k le 0
 unfold Zgl
 rw[hk,hm]
 simp only[hp,hs,Bool.true_and,Bool.and_true]
 have hpl2:ZP .str (.s k) (esM sets le)=true:=hpl
 have hg3:XF .str (.s k) (esM sets le)=(le.findIdx? fun d=>k==keyN sets d).map fun i=>I ((i+0:Nat):Int):=hg2
 rw[if_pos hpl2,hg3]
 cases le.findIdx? fun d=>k==keyN sets d with
 |none=>simp[hz]
 |some i=>rfl
theorem updE{h:Heap}{id:Nat}{sets:List Set4}{le:List Nat}(hg:h.get id=some (.map (esM sets le)))(c:Nat)(hn:(le.findIdx? fun d=>keyN sets c==keyN sets d)=none):
  updM UY h 9 (some id) (.s (keyN sets c)) (I (le.length:Nat))=some (h.set id (some (.map (esM sets (le++ [c]))))):=by
 have hk:UY.kd 9=some .str:=by kernel_rfl
 have hp:Qm UY 9=true:=by kernel_rfl
 have hpl2:ZP .str (.s (keyN sets c)) (esM sets le)=true:=Zhh sets _ le 0
 have hg3:XF .str (.s (keyN sets c)) (esM sets le)=none:=by
  have:=Zs5 sets (keyN sets c) le 0
  rw[hn]at this
  exact this
 unfold updM
 simp only[hk,hg,hp,Bool.true_and]
 rw[if_pos hpl2,Zxo _ _ _ hg3,Zv1]
theorem ZL1{h:Heap}{a}{l:Nat}{c}{kk:Nat}{out:List Nat}(x:Nat)(hl:Lst encU 1 h a l c kk out)(hb:out.length<2 ^ 29):
  ∃a' l' c' k' h',Zf UY h 138 138 (.sl a l c kk) (.ts [.i .u8 (x:Nat)] 1 (some 1))=some (.sl a' l' c' k',h')∧Lst encU 1 h' a' l' c' k' (out++ [x])∧Fr h a h'∧ ∃j,a'=some (j,0)∧h.nx<=j:=
 Lst.app1 (Y:=UY) (e:=5) (te:=⟨1,1, .int .u8,[.i .u8 0]⟩) x (by kernel_rfl) (by kernel_rfl) rfl (by decide) hl (.cons _ _ _ _ (.i _ _) .nil) rfl rfl rfl (by decide) hb

structure SrI(sets:List Set4)(i id4 id6:Nat)(a:Option (Nat×Nat))(l:Nat)(c:Option Nat)(k:Nat)(h:Heap):Prop where
 cls:h.get id4=some (.arr (clsC (srtS sets i).1) true)
 mp:h.get id6=some (.map (esM sets (srtS sets i).2))
 le:Lst encU 1 h a l c k (srtS sets i).2
 ap: ∀j o,a=some (j,o)->j≠id4∧j≠id6
 l4:id4<h.nx
 l6:id6<h.nx
 ne:id4≠id6
theorem SrI.same{sets:List Set4}{i id4 id6:Nat}{a}{l:Nat}{c}{k:Nat}{h h':Heap}(s:SrI sets i id4 id6 a l c k h)(hn:h.nx<=h'.nx)(hk: ∀j,j<h.nx->h'.get j=h.get j):SrI sets i id4 id6 a l c k h':=
 ⟨by rw[hk _ s.l4];exact s.cls,by rw[hk _ s.l6];exact s.mp,s.le.fr hn (fun j _ hj=>hk j hj),s.ap,qv s.l4 hn,qv s.l6 hn,s.ne⟩

theorem ZGq{c:Nat}(h:c<256):IntKind.u8.wrap (c:Int)=(c:Nat):=by
 unfold IntKind.wrap
 have e:(2:Int) ^ IntKind.u8.bits=256:=by decide
 simp only[e,IntKind.signed,Bool.false_and]
 simp only[Bool.false_eq_true,if_false]
 omega

theorem allI: ∀l:List Nat,Zk (l.map fun k=>I (k:Nat))=true
 | []=>rfl
 |k::l=>by simp only[qz,Zk,allI l,Bool.and_true];rfl
theorem frzN(h:Heap): ∀l:List Nat,FrzL h (l.map fun k=>I (k:Nat)) (l.map fun k=>I (k:Nat))
 | []=> .nil
 |k::l=> .cons _ _ _ _ (.i _ _) (frzN h l)
theorem Qq{α:Type}(l new:List α):splice l 0 new=new++l.drop new.length:=by cases l<;>rfl
theorem Zv2(sets:List Set4)(t:Option TypeId):SrI sets 0 Heap.empty.nx (Heap.empty.nx+1) none 0 (some 0) 0 ((Heap.empty.pushT t (.arr (List.replicate 256 (I 0)) true)).push (.map [])):=by
 refine⟨?_,?_,Lst.nil _ _ _ _ _,(fun j o e=>by cases e),?_,?_,by simp⟩
 ·rw[qk,if_neg (by simp),qj,if_pos rfl]
  rfl
 ·rw[qk,if_pos (by simp)];rfl
 ·simp;omega
 ·simp
theorem ZA4{sets:List Set4}{i id4 id6:Nat}{a}{l:Nat}{c}{k:Nat}{h:Heap}(hi:i<256)(s:SrI sets i id4 id6 a l c k h){j:Nat}(hj:((srtS sets i).2.findIdx? fun d=>keyN sets i==keyN sets d)=some j):
  ∃h',Zj h id4 (0+(i:Int).toNat*1) [I j]=some h'∧SrI sets (i+1) id4 id6 a l c k h':=by
 have hl:=(Wf sets i).1
 have e:srtS sets (i+1)=((srtS sets i).1++ [j],(srtS sets i).2):=by rw[srtS];simp only[hj]
 refine⟨h.set id4 (some (.arr (clsC ((srtS sets i).1++ [j])) true)),?_,?_⟩
 ·simp only[Zj,s.cls]
  have e2:0+(i:Int).toNat*1=(srtS sets i).1.length:=by rw[hl,qdq];omega
  rw[if_pos (by rw[Zhi _ (by omega)];simp;omega),e2,Znl _ _ (by omega)]
 ·refine⟨by rw[qc,if_pos rfl,e],by rw[qc,if_neg (Ne.symm s.ne),e];exact s.mp,by rw[e];exact s.le.fr (qnq _) (fun j' hj' _=>by rw[qc,if_neg (s.ap j' 0 hj').1]),s.ap,s.l4,s.l6,s.ne⟩
theorem ZA5{sets:List Set4}{i id4 id6:Nat}{a}{l:Nat}{c}{k:Nat}{h:Heap}(hi:i<256)(s:SrI sets i id4 id6 a l c k h)(hj:((srtS sets i).2.findIdx? fun d=>keyN sets i==keyN sets d)=none):
  ∃h1,updM UY h 9 (some id6) (.s (keyN sets i)) (I l)=some h1∧ ∃a' l' c' k' h2,Zf UY h1 138 138 (.sl a l c k) (.ts [.i .u8 (i:Nat)] 1 (some 1))=some (.sl a' l' c' k',h2)∧
  ∃h3,Zj h2 id4 (0+(i:Int).toNat*1) [I l]=some h3∧SrI sets (i+1) id4 id6 a' l' c' k' h3:=by
 have hl:=(Wf sets i).1
 have hl2:=(Wf sets i).2
 have e:srtS sets (i+1)=((srtS sets i).1++ [(srtS sets i).2.length],(srtS sets i).2++ [i]):=by rw[srtS];simp only[hj]
 have hlen:=s.le.len
 subst hlen
 refine⟨_,updE s.mp i hj,?_⟩
 have hle:Lst encU 1 (h.set id6 (some (.map (esM sets ((srtS sets i).2++ [i]))))) a (srtS sets i).2.length c k (srtS sets i).2:=s.le.fr (qnq _) (fun j hj _=>by rw[qc,if_neg (s.ap j 0 hj).2])
 obtain⟨a',l',c',k',h2,q1,q2,q3,j,q4,q5⟩:=ZL1 i hle (by omega)
 have g4:h2.get id4=some (.arr (clsC (srtS sets i).1) true):=by
  rw[q3.2 id4 s.l4 (fun o e=>(s.ap _ _ e).1 rfl),qc,if_neg s.ne];exact s.cls
 have g6:h2.get id6=some (.map (esM sets ((srtS sets i).2++ [i]))):=by
  rw[q3.2 id6 s.l6 (fun o e=>(s.ap _ _ e).2 rfl),qc,if_pos rfl]
 have hn:=q3.1
 rw[Heap.nx_set]at hn q5
 have l4:=s.l4
 have l6:=s.l6
 refine⟨a',l',c',k',h2,q1,h2.set id4 (some (.arr (clsC ((srtS sets i).1++ [(srtS sets i).2.length])) true)),?_,?_⟩
 ·simp only[Zj,g4]
  have e2:0+(i:Int).toNat*1=(srtS sets i).1.length:=by rw[hl,qdq];omega
  rw[if_pos (by rw[Zhi _ (by omega)];simp;omega),e2,Znl _ _ (by omega)]
 ·subst q4
  refine⟨by rw[qc,if_pos rfl,e],by rw[qc,if_neg (Ne.symm s.ne),e];exact g6,by rw[e];exact q2.fr (qnq _) (fun j' hj' _=>by cases hj';rw[qc,if_neg (by omega)]),fun j' o hj'=>by cases hj';omega,by rw[Heap.nx_set];omega,by rw[Heap.nx_set];omega,s.ne⟩

theorem Zo4(a:Au)(hs:a.sets.length<=300):PCon UY 82 [.agg (auC a)] (· =Zeh a.sets):=by
 refine ZE UK (fn:=Tryz.f82) rfl ?_
 refine Zl UK 59 ZGj rfl ?_
 refine⟨rfl,ZL [1,2,4,5,6,14] [1,2,4,5,6,14] (fun m vs h=> ∃(i id4 id6:Nat) (z:List V) (q:Option (Nat×Nat)) (n:Nat) (cp:Option Nat) (kk:Nat),vs= [.lb (auC a), .lb z, .p (some (id4,0)), .sl q n cp kk, .mp (some id6),I (i:Nat)]∧z.length=256∧i<=256∧m=256-i∧SrI a.sets i id4 id6 q n cp kk h) 256 Zy ⟨0,_,_,_,_,_,_,_,rfl,rfl,by omega,by omega,Zv2 _ _⟩ ?_⟩
 rintro m vs h ⟨i,id4,id6,z,q,n,cp,kk,rfl,hz,hi,rfl,hI⟩
 refine Zl UK 59 ZGk rfl ?_
 refine Zm (b:=256) (fun hlt=>⟨rfl,Wj (n:=59) [1,2,4,5,6,14] (by kernel_rfl) ?_⟩) (fun hge=> ?_)
 ·refine Zl UK 59 ZGl rfl ?_
  have htag:UY.tag 182=some 182:=by kernel_rfl
  have b0:Bk h.nx h (h.pushT (UY.tag 182) (.arr [.p none, .sl none 0 (some 0) 0] true)) h.nx []:=by
   refine⟨⟨none,none,0,some 0,0,by rw[qj,if_pos rfl], .inl rfl,IsL.nil _ _ _ _,(fun j o e=>by cases e),fun _=>rfl⟩,?_,by simp,qnq _,fun j hj=>by rw[qj,if_neg (by omega)]⟩
   rw[htag]
   show((h.push _).tagIf h.nx (some 182)).tagOf h.nx=some 182
   rw[Ql];simp
  refine⟨rfl,ZL [1,2,4,5,6,7,8,14,18,19,20] [1,2,4,5,6,7,8,14,18,19,20] (fun m vs h'=> ∃j:Nat,vs= [.lb (auC a), .lb z, .p (some (id4,0)), .sl q n cp kk, .mp (some id6),I (i:Nat), .p (some (h.nx,0)),I (i:Nat),lst setC a.sets,I (a.sets.length:Nat),I (j:Nat)]∧j<=a.sets.length∧m=a.sets.length-j∧Bk h.nx h h' h.nx (keyN (a.sets.take j) i)) a.sets.length Zy ⟨0,rfl,by omega,by omega,b0⟩ ?_⟩
  rintro m2 vs2 h2 ⟨j,rfl,hj,rfl,hB⟩
  refine Zs UK ZGm rfl ?_
  refine Zm (fun hlt2=> ?_) (fun hge2=> ?_)
  ·have hget:Zo 4 (List.drop (((j:Nat):Int).toNat*4) (row setC a.sets))=some (setC a.sets[j]):=by rw[qdq];exact getS a.sets hlt2
   refine⟨Zz hlt2,_,_,_,_,hget,?_⟩
   have htag2:UY.tag 25=none:=by kernel_rfl
   rw[htag2]
   have hgp:((h2.pushT none (YObj.arr [U 0,U 0,U 0,U 0] true))).get h2.nx=some (YObj.arr [U 0,U 0,U 0,U 0] true):=by rw[qj,if_pos rfl]
   refine⟨_,by simp only[Zj,hgp];rfl,by omega,?_⟩
   rw[Zux,Zuy hlt]
   refine⟨⟨by omega,by omega⟩,Zeo a.sets[j] (i / 64),?_,by omega,?_⟩
   ·rw[Zr (h:=Heap.set _ _ _) (cs:=setC a.sets[j]) (wr:=true) (by rw[qc,if_pos rfl];rfl)]
    have:i / 64=0∨i / 64=1∨i / 64=2∨i / 64=3:=by omega
    rcases this with e|e|e|e<;>rw[e]<;>rfl
   have e4:min (((i % 64:Nat):Int)).toNat IntKind.u64.bits=i % 64:=by
    have:IntKind.u64.bits=64:=rfl
    rw[this,qdq];omega
   rw[e4,Zy0,bitU]
   have hB2:=hB.more (h1:=(h2.pushT none (YObj.arr [U 0,U 0,U 0,U 0] true)).set h2.nx (some (.arr (setC a.sets[j]) true))) (by simp) (fun i hi=>by rw[qc,if_neg (by omega),qj,if_neg (by omega)]) (fun i hi=>rfl)
   refine(Zo3 hB2 _ (by rw[Znm,List.length_take];omega)).mono fun v h3 ⟨e1,hB3,_⟩=> .inl ⟨e1,rfl,a.sets.length-(j+1),by omega,j+1,by rw[Zh (by omega)];rfl,by omega,rfl,?_⟩
   rw[Ztb _ _ hlt2];exact hB3
  ·have he:j=a.sets.length:=by omega
   subst he
   rw[qm]at hB
   refine Zi [1,2,4,5,6,7,8,14] ?_
   refine Zs UK ZGn rfl ?_
   have hkl:(keyN a.sets i).length<2 ^ 30:=by rw[Znm];omega
   refine(Zjv hB.bs hkl).mono fun v h3 ⟨e1,b3,n3⟩=>⟨_,e1,?_⟩
   have hI3:SrI a.sets i id4 id6 q n cp kk h3:=hI.same (by have:=hB.lt;omega) b3.keep
   have hnext: ∀q n cp kk h4,SrI a.sets (i+1) id4 id6 q n cp kk h4->Zgq UY 59 [1,2,4,5,6,14] (Wy (post (flat (Zx (post (flat (Za Tryz.f82))))))) ((post (flat (Zx (post (flat (Za Tryz.f82)))))).drop 1) (VQ [1,2,4,5,6,14] (XH UY 59 [1,2,4,5,6,14] [1,2,4,5,6,14] (fun m vs h=> ∃(i id4 id6:Nat) (z:List V) (q:Option (Nat×Nat)) (n:Nat) (cp:Option Nat) (kk:Nat),vs= [.lb (auC a), .lb z, .p (some (id4,0)), .sl q n cp kk, .mp (some id6),I (i:Nat)]∧z.length=256∧i<=256∧m=256-i∧SrI a.sets i id4 id6 q n cp kk h) (256-i) (Xa (post (flat (Za Tryz.f82)))) ((post (flat (Za Tryz.f82))).drop 1) (FinS UY Tryz.f82 (fun v h=> ∃r,Frz h v r∧r=Zeh a.sets)))) .normal 59 [.lb (auC a), .lb z, .p (some (id4,0)), .sl q n cp kk, .mp (some id6),I (i:Nat)] h4:=by
    intro q n cp kk h4 hI4
    refine⟨rfl,[1,2,4,5,6,14],rfl,?_⟩
    refine Zs UK ZGo rfl ?_
    exact⟨rfl,256-(i+1),by omega,i+1,id4,id6,z,q,n,cp,kk,by rw[Zh (by omega)];rfl,hz,by omega,rfl,hI4⟩
   rw[ZL0 hI3.mp]
   cases hf:(srtS a.sets i).2.findIdx? fun d=>keyN a.sets i==keyN a.sets d with
   |some jj=>
    obtain⟨h4,p1,p2⟩:=ZA4 hlt hI3 hf
    exact⟨_,_,rfl,ifF rfl ⟨⟨by omega,by omega⟩,h4,p1,hnext _ _ _ _ _ p2⟩⟩
   |none=>
    refine⟨_,_,rfl,ifT rfl ((Zjv b3 hkl).mono fun v h4 ⟨e1,b4,n4⟩=>⟨_,e1,?_⟩)⟩
    have hI4:SrI a.sets i id4 id6 q n cp kk h4:=hI.same (by have:=hB.lt;omega) b4.keep
    obtain⟨h5,p1,a',l',c',k',h6,p2,h7,p3,p4⟩:=ZA5 hlt hI4 hf
    rw[ZGq hlt]
    exact⟨h5,p1,_,_,_,_,h6,p2,⟨by omega,by omega⟩,h7,p3,hnext _ _ _ _ _ p4⟩
 ·have he:i=256:=by omega
  subst he
  have hl:=(Wf a.sets 256).1
  have hI1:=hI.cls
  have hI2:=hI.le
  have hR:Zeh a.sets= .tup [.agg (clsC (srtS a.sets 256).1),lst encU (srtS a.sets 256).2]:=rfl
  clear hI hge
  revert hR hl hI1 hI2
  generalize Zeh a.sets=R
  generalize srtS a.sets 256=p
  obtain⟨cl,le⟩:=p
  intro hl hI1 hI2 hR
  simp only[]at hl hI1 hI2 hR
  refine Qe rfl (Zi [2,4,5] ?_)
  refine Zn UK ZGp rfl ?_
  have hct:clsC cl=cl.map (fun k=>I (k:Nat)):=by unfold clsC;rw[hl];simp
  have hcl:=Zhi cl (by omega)
  rw[hct]at hcl hI1 hR
  have hall:=allI cl
  have hfr:=frzN h cl
  generalize cl.map (fun k=>I (k:Nat))=cs at hcl hI1 hall hfr hR
  refine⟨cs,(by rw[Zr hI1,ql];exact ZA hcl.symm),ifT ?_ ?_⟩
  ·simp only[qrq,decide_eq_true_eq]
   exact⟨⟨hcl,hall⟩,by show 0+cs.length<=z.length;omega⟩
  ·have hsp:splice z 0 cs=cs:=by
    rw[Qq,hcl,List.drop_of_length_le (by omega),qi]
   refine Zik (v1:= .agg cs) (.inr rfl) ?_ (.agg _ _ hfr) (hI2.frz (by decide) Zct) hR.symm
   show resV UY Tryz.f82 ([2,3].zip [.lb (splice z 0 cs), .sl q n cp kk])=_
   rw[hsp]
   have hr:Tryz.f82.results.toList= [.cell 2 95, .tmp 3]:=by kernel_rfl
   have ht:UY.ty 95=some (TI.mk 256 2048 (.arr 256 3) (List.replicate 256 (I 0))):=by kernel_rfl
   have e1:Zca UY ([2,3].zip [V.lb cs,V.sl q n cp kk]) (.cell 2 95)=some (.agg cs):=by
    simp only[Zca,ht]
    show(Zo 256 cs).bind _=_
    rw[ZA hcl.symm];rfl
   have e2:Zca UY ([2,3].zip [V.lb cs,V.sl q n cp kk]) (.tmp 3)=some (.sl q n cp kk):=rfl
   unfold resV
   rw[hr,Zcb,Zcb,Zcb,e1,e2]
theorem ZGr{a d e f g j m n o x1 h}(K):CP Tryd.Y 38 (pre (flat (Za Tryz.f38))) (.agg [J a d none,J e f none,J g j none,J m n none,.b o]::I x1::Rp 106) h [1,2,4,5,7,8,9,10] K=(∃c,(PCon Tryd.Y 26 [.agg [J a d none,J e f none,J g j none,J m n none,.b o]] fun v=>v=.b c)∧If (!c) (K .ret 108 [I x1, .lb [J a d none,J e f none,J g j none,J m n none, .b o], .lb zDfa,I 5,Ud,Ud,Ud,Ud] h) (∃i l q r,(PCon Tryd.Y 82 [.agg [J a d none,J e f none,J g j none,J m n none,.b o]] fun v=>v=.tup [.agg i,J l q r])∧If (decide (i.length=(256:Nat))&&Zk i) (∃s,Zj (h.pushT (Tryd.Y.tag (95:Nat)) (YObj.arr (List.replicate (256:Nat) (I 0)) true)) h.nx 0 i=some s∧ ∃t,Zb s h.nx 0 256=some t∧ ∃u,Zqg Tryd.Y 98 0 256 t=some u∧If (decide (u.length=(258:Nat))&&Zk u) (∃w,Zj (s.pushT (Tryd.Y.tag (98:Nat)) (YObj.arr zDfa true)) s.nx 0 u=some w∧K .normal 108 [I ((fun(x y:Int)=>if y<x then y else x) ((fun(x y:Int)=>if y>x then y else x) x1 (1:Int)) (300:Int)), .lb [J a d none,J e f none,J g j none,J m n none, .b o], .lb zDfa,I 0,J l q r, .p (some (s.nx,0)),S (some (w.nx,0)) 1 (some 1) 1,I 0] (w.push (YObj.arr [S0] true))) False) False)):=by kernel_rfl
theorem ZGs{c d e f g j l m n o n7 q r l9 c9 m1 a h}(K):CP Tryd.Y 38 (pre (flat (Zx (post (flat (Za Tryz.f38)))))) (MZ 108 [1,2,4,7,8,9,10] [I m1,.lb [J c d none,J e f none,J g j none,J l m none,.b n],.lb zDfa,J o n7 none,.p (some (q,0)),S (some (r,0)) l9 c9 1,I a]) h [1,2,4,7,8,9,10] K=(If (ltI a l9) (K .normal 108 [I m1, .lb [J c d none,J e f none,J g j none,J l m none, .b n], .lb zDfa,J o n7 none, .p (some (q,0)),S (some (r,0)) l9 c9 1,I a] h) (K (.exit 0) 108 [I m1, .lb [J c d none,J e f none,J g j none,J l m none, .b n], .lb zDfa,J o n7 none, .p (some (q,0)),S (some (r,0)) l9 c9 1,I a] h)):=by kernel_rfl
theorem ZGt{c d e f g j l m n a n7 o q l9 c9 m1 r h}(K):CP Tryd.Y 38 (pre (flat (Xj (post (flat (Zx (post (flat (Za Tryz.f38))))))))) (MZ 108 [1,2,4,7,8,9,10] [I m1,.lb [J c d none,J e f none,J g j none,J l m none,.b n],.lb zDfa,J a n7 none,.p (some (o,0)),S (some (q,0)) l9 c9 1,I r]) h [1,2,4,7,8,9,10,11,37,38,39] K=(K .normal 108 [I m1, .lb [J c d none,J e f none,J g j none,J l m none, .b n], .lb zDfa,J a n7 none, .p (some (o,0)),S (some (q,0)) l9 c9 1,I r,S0,J a n7 none,I (n7:Int),I 0] h):=by kernel_rfl
theorem ZGu{j m o q r s t u w d n7 y g l9 c9 m1 e z A B C f h}(K):CP Tryd.Y 38 (flat (Zx (post (flat (Xj (post (flat (Zx (post (flat (Za Tryz.f38))))))))))) (MZ 108 [1,2,4,7,8,9,10,11,37,38,39] [I m1,.lb [J j m none,J o q none,J r s none,J t u none,.b w],.lb zDfa,J d n7 none,.p (some (y,0)),S (some (g,0)) l9 c9 1,I e,S z A B C,J d n7 none,I (n7:Int),I f]) h [1,2,4,5,7,8,9,10,11,37,38,39] K=(If (ltI f n7) ((0<=f∧f<n7)∧ ∃n,Zo 1 (List.drop (f.toNat*1) d)=some [.i .u8 n]∧ ∃cs l c,(PCon Tryd.Y 83 [.agg [J j m none,J o q none,J r s none,J t u none,.b w],.i .u8 n] fun v=>v=J cs l c)∧ ∃h_1,Zj (h.pushT (Tryd.Y.tag (32:Nat)) (YObj.arr [S none (0:Nat) (some (0:Nat)) (0:Nat)] true)) h.nx 0 [J cs l c]=some h_1∧If (ltI 0 e) ((0<=e∧e<l9)∧1=1∧ ∃cs l c,Zb h_1 g ((0:Nat)+e.toNat*1) 1=some [J cs l c]∧ ∃cs_1 l_1 c_1,(PCon Tryd.Y 84 [.agg [J j m none,J o q none,J r s none,J t u none,.b w],J cs l c,.i .u8 n] fun v=>v=J cs_1 l_1 c_1)∧ ∃h_2,Zj h_1 h.nx 0 [J cs_1 l_1 c_1]=some h_2∧1=1∧((0:Int)<=(1:Int)∧(1:Int)<=(l9:Int))∧Con Tryd.Y 85 [S (some (g,1)) (l9-Int.toNat (1:Int)) (Option.map (fun(x:Nat)=>x-Int.toNat (1:Int)) c9) 1,V.fn (Fn.func (86:Nat)) [] [.p (some (h.nx,0))]] h_2 fun(v:V) (h':Heap)=> ∃n,v=I n∧If (IntKind.i64.wrap ((1:Int)+n)==(0:Int)) (If (leI m1 l9) (K .ret 108 [I m1, .lb [J j m none,J o q none,J r s none,J t u none, .b w], .lb zDfa,I 9,J d n7 none, .p (some (y,0)),S (some (g,0)) l9 c9 1,I e,S z A B C,J d n7 none,I (n7:Int),I f] h') (∃cs l c,Zb h' h.nx 0 1=some [J cs l c]∧ ∃a l_2 c_2 k h,Zf Tryd.Y h' 33 33 (S (some (g,0)) l9 c9 1) (J [J cs l c] 1 (some 1))=some (S a l_2 c_2 k,h)∧ ∃a_1 l c k_1 h_3,Zf Tryd.Y h 32 32 (S z A B C) (J [I (l9:Int)] 1 (some 1))=some (S a_1 l c k_1,h_3)∧K .normal 108 [I m1, .lb [J j m none,J o q none,J r s none,J t u none, .b w], .lb zDfa,Ud,J d n7 none, .p (some (y,0)),S a l_2 c_2 k,I e,S a_1 l c k_1,J d n7 none,I (n7:Int),I (IntKind.i64.wrap (f+(1:Int)))] h_3)) (∃a l c k h,Zf Tryd.Y h' 32 32 (S z A B C) (J [I (IntKind.i64.wrap ((1:Int)+n))] 1 (some 1))=some (S a l c k,h)∧K .normal 108 [I m1, .lb [J j m none,J o q none,J r s none,J t u none, .b w], .lb zDfa,Ud,J d n7 none, .p (some (y,0)),S (some (g,0)) l9 c9 1,I e,S a l c k,J d n7 none,I (n7:Int),I (IntKind.i64.wrap (f+(1:Int)))] h)) (1=1∧((0:Int)<=(1:Int)∧(1:Int)<=(l9:Int))∧Con Tryd.Y 85 [S (some (g,1)) (l9-Int.toNat (1:Int)) (Option.map (fun(x:Nat)=>x-Int.toNat (1:Int)) c9) 1,V.fn (Fn.func (86:Nat)) [] [.p (some (h.nx,0))]] h_1 fun(v:V) (h':Heap)=> ∃n,v=I n∧If (IntKind.i64.wrap ((1:Int)+n)==(0:Int)) (If (leI m1 l9) (K .ret 108 [I m1, .lb [J j m none,J o q none,J r s none,J t u none, .b w], .lb zDfa,I 9,J d n7 none, .p (some (y,0)),S (some (g,0)) l9 c9 1,I e,S z A B C,J d n7 none,I (n7:Int),I f] h') (∃cs l c,Zb h' h.nx 0 1=some [J cs l c]∧ ∃a l_1 c_1 k h,Zf Tryd.Y h' 33 33 (S (some (g,0)) l9 c9 1) (J [J cs l c] 1 (some 1))=some (S a l_1 c_1 k,h)∧ ∃a_1 l c k_1 h_2,Zf Tryd.Y h 32 32 (S z A B C) (J [I (l9:Int)] 1 (some 1))=some (S a_1 l c k_1,h_2)∧K .normal 108 [I m1, .lb [J j m none,J o q none,J r s none,J t u none, .b w], .lb zDfa,Ud,J d n7 none, .p (some (y,0)),S a l_1 c_1 k,I e,S a_1 l c k_1,J d n7 none,I (n7:Int),I (IntKind.i64.wrap (f+(1:Int)))] h_2)) (∃a l c k h,Zf Tryd.Y h' 32 32 (S z A B C) (J [I (IntKind.i64.wrap ((1:Int)+n))] 1 (some 1))=some (S a l c k,h)∧K .normal 108 [I m1, .lb [J j m none,J o q none,J r s none,J t u none, .b w], .lb zDfa,Ud,J d n7 none, .p (some (y,0)),S (some (g,0)) l9 c9 1,I e,S a l c k,J d n7 none,I (n7:Int),I (IntKind.i64.wrap (f+(1:Int)))] h))) (K (.exit 2) 108 [I m1, .lb [J j m none,J o q none,J r s none,J t u none, .b w], .lb zDfa,Ud,J d n7 none, .p (some (y,0)),S (some (g,0)) l9 c9 1,I e,S z A B C,J d n7 none,I (n7:Int),I f] h)):=by kernel_rfl
theorem ZGv{g j m n o q r s f u n7 e t l9 c9 m1 d w x y z h}(K):CP Tryd.Y 38 ((post (flat (Xj (post (flat (Zx (post (flat (Za Tryz.f38))))))))).drop 1) (MZ 108 [1,2,4,7,8,9,10,11] [I m1,.lb [J g j none,J m n none,J o q none,J r s none,.b f],.lb zDfa,J u n7 none,.p (some (e,0)),S (some (t,0)) l9 c9 1,I d,S w x y z]) h [1,2,4,7,8,9,10] K=(∃a c i l,Zb h e 256 1=some [S a c i l]∧ ∃a0 a1 a2 a3 a4,Zf Tryd.Y (h.push (YObj.arr [S w x y z] true)) 33 33 (S a c i l) (S (some (h.nx,0)) 1 (some 1) 1)=some (S a0 a1 a2 a3,a4)∧ ∃a5,Zj a4 e 256 [S a0 a1 a2 a3]=some a5∧ ∃a6 a7 a8 a9,(fun P0=>Zb a5 e 257 1=some [S a6 a7 a8 a9]∧If (d==(0:Int)) (If f (∃b0 b1 b2 b3 b4,Zf Tryd.Y a5 96 96 (S a6 a7 a8 a9) (J [.b true] 1 (some 1))=some (S b0 b1 b2 b3,b4)∧ ∃b5,Zj b4 e 257 [S b0 b1 b2 b3]=some b5∧K .normal 108 [I m1, .lb [J g j none,J m n none,J o q none,J r s none, .b f], .lb zDfa,J u n7 none, .p (some (e,0)),S (some (t,0)) l9 c9 1,I d] b5) P0) P0) (If (ltI 0 d) ((0<=d∧d<l9)∧1=1∧ ∃b0 b1 b2,Zb a5 t ((0:Nat)+d.toNat*1) 1=some [J b0 b1 b2]∧ ∃b3,(PCon Tryd.Y 88 [.agg [J g j none,J m n none,J o q none,J r s none,.b f],J b0 b1 b2] fun v=>v=.b b3)∧ ∃b4 b5 b6 b7 b8,Zf Tryd.Y a5 96 96 (S a6 a7 a8 a9) (J [.b b3] 1 (some 1))=some (S b4 b5 b6 b7,b8)∧ ∃b9,Zj b8 e 257 [S b4 b5 b6 b7]=some b9∧K .normal 108 [I m1, .lb [J g j none,J m n none,J o q none,J r s none, .b f], .lb zDfa,J u n7 none, .p (some (e,0)),S (some (t,0)) l9 c9 1,I d] b9) (∃b0 b1 b2 b3 b4,Zf Tryd.Y a5 96 96 (S a6 a7 a8 a9) (J [.b false] 1 (some 1))=some (S b0 b1 b2 b3,b4)∧ ∃b5,Zj b4 e 257 [S b0 b1 b2 b3]=some b5∧K .normal 108 [I m1, .lb [J g j none,J m n none,J o q none,J r s none, .b f], .lb zDfa,J u n7 none, .p (some (e,0)),S (some (t,0)) l9 c9 1,I d] b5))):=by kernel_rfl
theorem ZGw{a c d e f g j l m n7 n o l9 c9 m1 q r h}(K):CP Tryd.Y 38 ((post (flat (Zx (post (flat (Za Tryz.f38)))))).drop 1) (MZ 108 [1,2,4,7,8,9,10] [I m1,.lb [J a c none,J d e none,J f g none,J j l none,.b r],.lb zDfa,J m n7 none,.p (some (n,0)),S (some (o,0)) l9 c9 1,I q]) h [1,2,4,7,8,9,10] K=(K .normal 108 [I m1, .lb [J a c none,J d e none,J f g none,J j l none, .b r], .lb zDfa,J m n7 none, .p (some (n,0)),S (some (o,0)) l9 c9 1,I (IntKind.i64.wrap (q+(1:Int)))] h):=by kernel_rfl
theorem ZGx{a h}(K):CP Tryd.Y 38 ((post (flat (Za Tryz.f38))).drop 1) (MZ 108 [4,8] [.lb zDfa,.p (some (a,0))]) h [4,5] K=(∃b,Zb h a 0 258=some b∧If (decide (b.length=(258:Nat))&&Zk b&&decide ((0:Nat)+b.length<=zDfa.length)) (K .ret 108 [.lb (splice zDfa (0:Nat) b),I 0] h) False):=by kernel_rfl
end Go.Y
