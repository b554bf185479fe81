/- A part of the proof. -/
import Derived.Test.YteennilbmmlikaaGreatDoorYOm
import Derived.Test.YteennilbmmlikaaGreatDoorGReD
import Derived.Test.YteennilbmmlikaaGreatDoorGRule
import Derived.Test.YteennilbmmlikaaGreatDoorYLoop
import Derived.Sort.Row
import Derived.Sort.Grow
import Derived.Lib.SlicesCompact
import Derived.Test.YteennilbmmlikaaGreatDoorYAny3
namespace Go.Y
set_option maxRecDepth 1000000
set_option maxHeartbeats 0
def QY(l:List Int):Prop:=l.Pairwise (· < ·)
def putS:List Int->Int->List Int
 | [],n=> [n]
 |a::l,n=>if a<n then a::putS l n else if a=n then a::l else n::a::l
def allS(l more:List Int):List Int:=more.foldl putS l
theorem Zjs{x n:Int} : ∀ {l:List Int},x∈putS l n↔x=n\/x∈l
 | []=>by simp[putS]
 |a::l=>by
  unfold putS;split
  .rw[List.mem_cons,Zjs,List.mem_cons];grind
  .split;rename_i h;subst h;simp;simp
theorem Zfv{n:Int} : ∀ {l:List Int},QY l->QY (putS l n)
 | [],_=>by simp[putS,QY]
 |a::l,h=>by
  obtain⟨d,e⟩:=List.pairwise_cons.1 h;unfold putS;split;rename_i c;refine List.pairwise_cons.2 ⟨λx b=> ?_,Zfv e⟩;rcases Zjs.1 b with rfl|b;exact c;exact d x b;split;exact h;rename_i f g;refine List.pairwise_cons.2 ⟨λx b=> ?_,h⟩;rcases List.mem_cons.1 b with rfl|b;omega;have:=d x b;omega
theorem VW{x:Int} : ∀ {more l:List Int},x∈allS l more↔x∈l\/x∈more
 | [],l=>by simp[allS]
 |n::r,l=>by
  have h:allS l (n::r)=allS (putS l n) r:=rfl;rw[h,VW,Zjs,List.mem_cons];grind
theorem WL: ∀ {more l:List Int},QY l->QY (allS l more)
 | [],l,h=>h
 |n::r,l,h=>by
  have e:allS l (n::r)=allS (putS l n) r:=rfl;rw[e];exact WL (Zfv h)
theorem Zhs: ∀ {a b:List Int},QY a->QY b->(∀x,x∈a↔x∈b)->a=b
 | [],[],_,_,_=>rfl
 | [],y::b,_,_,h=>by have:=(h y).2 sm;cases this
 |x::a,[],_,_,h=>by have:=(h x).1 sm;cases this
 |x::a,y::b,l,m,h=>by
  obtain⟨g,j⟩:=List.pairwise_cons.1 l;obtain⟨i,k⟩:=List.pairwise_cons.1 m;have f:x=y:=by
   have c:x∈y::b:=(h x).1 sm;have d:y∈x::a:=(h y).2 sm;rcases List.mem_cons.1 c with c|c;exact c;rcases List.mem_cons.1 d with d|d;exact d.symm;have:=i x c;have:=g y d;omega
  subst f;rw[Zhs j k λz=> ?_];constructor;intro hz;rcases List.mem_cons.1 ((h z).1 (uv _ hz))with e|e;subst e;have:=g z hz;omega;exact e;intro hz;rcases List.mem_cons.1 ((h z).2 (uv _ hz))with e|e;subst e;have:=i z hz;omega;exact e
def Xj:List Int->List Int
 | []=> []
 | [a]=> [a]
 |a::b::l=>if a=b then Xj (b::l)else a::Xj (b::l)
theorem VX{x:Int} : ∀ {l:List Int},x∈Xj l↔x∈l
 | []=>by simp[Xj]
 | [a]=>by simp[Xj]
 |a::b::l=>by
  unfold Xj;split;rename_i h;subst h;rw[VX];simp;rw[List.mem_cons,VX,List.mem_cons (a:=x) (b:=a)]
theorem WM: ∀ {l:List Int},l.Pairwise (· <= ·)->QY (Xj l)
 | [],_=>by simp[Xj,QY]
 | [a],_=>by simp[Xj,QY]
 |a::b::l,h=>by
  obtain⟨e,d⟩:=List.pairwise_cons.1 h;unfold Xj;split;exact WM d;rename_i f;refine List.pairwise_cons.2 ⟨λx c=> ?_,WM d⟩;have c:=VX.1 c;have g:=e b sm;rcases List.mem_cons.1 c with rfl|c;omega;have:=(List.pairwise_cons.1 d).1 x c;omega
theorem Zs2{a s:List Int}(c:s.Pairwise (· <= ·))(b: ∀x,x∈s↔x∈a):Xj s=allS [] a:=
 Zhs (WM c) (WL (by simp[QY])) λx=>by rw[VX,b,VW];simp
abbrev Set4:=Int×Int×Int×Int
structure Au where
 sets:List Set4
 first:List Int
 last:List Int
 follow:List (List Int)
 empty:Bool
def okAt(l:List Int)(n:Int)(i:Nat):Bool:= !decide (l.getD i 0<0)&& !decide (n<=l.getD i 0)&& !(decide (0<i)&&decide (l.getD i 0<=l.getD (i-1) 0))
def ZP3(a b c d:Int):Nat->Int
 |0=>a
 |1=>b
 |2=>c
 |_=>d
abbrev Zd9(x:Set4)(k:Nat):Int:=ZP3 x.1 x.2.1 x.2.2.1 x.2.2.2 k
def hasN(x:Set4)(c:Nat):Bool:=((Zd9 x (c / 64)).fdiv ((2:Int) ^ (c % 64))) % 2==1
abbrev set0:Set4:=(0,0,0,0)
def havL(a:List Set4)(l:List Int)(c:Nat):List Int:=l.filter λp=>hasN (a.getD p.toNat set0) c
def inR(a:Au)(p:Int):Bool:=decide (0<=p)&&decide (p<a.sets.length)
def Zb2(a:Au)(c:Nat)(p:Int):List Int:=if inR a p then havL a.sets (a.follow.getD p.toNat []) c else []
def catL(a:Au)(b:List Int)(c:Nat):List Int:=b.flatMap (Zb2 a c)
def WN(a:Au)(b:List Int)(c:Nat):List Int:=allS [] (catL a b c)
def hasI(l:List Int)(x:Int):Bool:=l.any λy=>x==y
def Zb3(a:Au)(b:List Int):Bool:=b.any λp=>hasI a.last p
def ZJl(a:Au)(c:UInt8)(r:List UInt8):List Int:=r.foldl (λb c=>WN a b c.toNat) (havL a.sets a.first c.toNat)
def runA(a:Au):List UInt8->Bool
 | []=>a.empty
 |c::r=>Zb3 a (ZJl a c r)
end Go.Y
namespace Go.Y.Gl
def Zv2(has:Nat->UInt8->Bool)(f:Nat->Nat->Prop)(S:Nat->Prop)(c:UInt8)(y:Nat):Prop:= ∃x,S x/\f x y/\has y c=true
def Zly(has:Nat->UInt8->Bool)(f:Nat->Nat->Prop):(Nat->Prop)->List UInt8->Nat->Prop
 |S,[]=>S
 |S,c::w=>Zly has f (Zv2 has f S c) w
theorem Zht{has:Nat->UInt8->Bool}{f:Nat->Nat->Prop}{l:Nat->Prop} : ∀(w:List UInt8) (S:Nat->Prop),(∃z,Zly has f S w z/\l z)↔ ∃x,S x/\((w= []/\l x)\/ ∃y,f x y/\From has f l y w)
 | [],S=>by
  constructor;rintro⟨z,b,a⟩;exact⟨z,b, .inl ⟨rfl,a⟩⟩;rintro⟨x,b,⟨_,a⟩|⟨y,_,a⟩⟩;exact⟨x,b,a⟩;exact a.elim
 |c::w,S=>by
  show(∃z,Zly has f (Zv2 has f S c) w z/\l z)↔_;rw[Zht w];constructor;rintro⟨y,⟨x,b,a,d⟩,e⟩;exact⟨x,b, .inr ⟨y,a,d,e⟩⟩;rintro⟨x,b,⟨a,_⟩|⟨y,a,d,e⟩⟩;cases a;exact⟨y,⟨x,b,a,d⟩,e⟩
theorem ZE9{has:Nat->UInt8->Bool}{f:Nat->Nat->Prop}{first a:Nat->Prop}{e:Prop}(c:UInt8)(w):Acc has f first a e (c::w)↔ ∃z,Zly has f (λx=>first x/\has x c=true) w z/\a z:=by rw[Zht];constructor;rintro(⟨h,_⟩|⟨x,b,d,g⟩);cases h;exact⟨x,⟨b,d⟩,g⟩;rintro⟨x,⟨b,d⟩,g⟩;exact .inr ⟨x,b,d,g⟩
theorem run_nil{has:Nat->UInt8->Bool}{f:Nat->Nat->Prop}{first a:Nat->Prop}{e:Prop} :Acc has f first a e []↔e:=by constructor;rintro(⟨_,h⟩|⟨x,_,h⟩);exact h;exact h.elim;intro h;exact .inl ⟨rfl,h⟩
end Go.Y.Gl
namespace Go.Y
open Gl
abbrev ints(l:List Nat):List Int:=l.map fun(n:Nat)=>(n:Int)
def auF(A:Au0)(p:Part):Au:=⟨A.sets,ints p.first,ints p.last,A.fol.map ints,p.empty⟩
def hasC(x:S4)(c:UInt8):Bool:=hasN x c.toNat
theorem Zeo{l:List Nat}{n:Nat} :(n:Int)∈ints l↔n∈l:=by simp only[ints,uW];constructor;rintro⟨m,h,e⟩;have:m=n:=om;exact this▸h;intro h;exact⟨n,h,rfl⟩
theorem Zep{l:List Nat}{x:Int}(h:x∈ints l): ∃n:Nat,x=n/\n∈l:=by
 obtain⟨n,a,e⟩:=uW.1 h;exact⟨n,e.symm,a⟩
structure Inn(A:Au0)(p:Part):Prop where
 wf:A.fol.length=A.sets.length
 fi: ∀x∈p.first,x<A.sets.length
 la: ∀x∈p.last,x<A.sets.length
 cl: ∀x y,folA A x y->y<A.sets.length
theorem Zqo{A:Au0}{x:Nat}(h:x<A.sets.length)(c:UInt8):hasN (A.sets.getD ((x:Nat):Int).toNat set0) c.toNat=hasA hasC A x c:=by simp[hasA,hasC,h]
theorem ZC5{A:Au0}{x:Nat} :(A.fol.map ints).getD x []=ints (A.fol.getD x []):=by
 simp only[List.getD_eq_getElem?_getD,vH];cases A.fol[x]? <;>rfl
def Zlz(a:List Int)(S:Nat->Prop):Prop:=(∀n:Nat,(n:Int)∈a↔S n)/\ ∀x∈a,0<=x
theorem Zoo{A:Au0}{p:Part}(g:Inn A p){j}{S:Nat->Prop}(h:Zlz j S)(q: ∀x,S x->x<A.sets.length)(c:UInt8):
  Zlz (WN (auF A p) j c.toNat) (Zv2 (hasA hasC A) (folA A) S c)/\ ∀x,Zv2 (hasA hasC A) (folA A) S c x->x<A.sets.length:=by
 have f: ∀y:Int,y∈WN (auF A p) j c.toNat↔ ∃n:Nat,y=n/\Zv2 (hasA hasC A) (folA A) S c n:=by
  intro y;unfold WN catL;rw[VW];simp only[List.not_mem_nil,false_or,List.mem_flatMap];constructor
  .rintro⟨x,a,b⟩;have l:=h.2 x a;obtain⟨n,rfl⟩:=Int.eq_ofNat_of_zero_le l;unfold Zb2 at b;split at b
   .obtain⟨d,o⟩:=List.mem_filter.1 b;have d:y∈ints (A.fol.getD n []):=by rw[<-ZC5];exact d
    obtain⟨m,rfl,k⟩:=Zep d;exact⟨m,rfl,n,(h.1 n).1 a,k,by rw[<-Zqo (g.cl n m k)];exact o⟩
   .cases b
  .rintro⟨m,rfl,n,a,b,d⟩;refine⟨n,(h.1 n).2 a,?_⟩;have r:=q n a;unfold Zb2;have:inR (auF A p) (n:Int)=true:=by simp[inR,auF,r]
   rw[uF this];refine List.mem_filter.2 ⟨?_,?_⟩;show(m:Int)∈(A.fol.map ints).getD n [];rw[ZC5];exact Zeo.2 b;rw[<-Zqo (g.cl n m b)]at d;exact d
 refine⟨⟨λn=> ?_,λx i=> ?_⟩,λx i=> ?_⟩;rw[f];constructor;rintro⟨m,e,a⟩;have:m=n:=om;exact this▸a;intro a;exact⟨n,rfl,a⟩;obtain⟨n,rfl,_⟩:=(f x).1 i;omega;obtain⟨y,_,b,_⟩:=i;exact g.cl y x b
theorem Zfw{A:Au0}{p:Part}(b:Inn A p): ∀(w:List UInt8) {a:List Int} {S:Nat->Prop},Zlz a S->(∀x,S x->x<A.sets.length)->
  Zlz (w.foldl (λa c=>WN (auF A p) a c.toNat) a) (Zly (hasA hasC A) (folA A) S w)
 | [],_,_,h,_=>h
 |c::w,_,_,h,f=>by
  obtain⟨d,e⟩:=Zoo b h f c;exact Zfw b w d e
theorem ZAq{A:Au0}{p:Part}(e:Inn A p)(w:List UInt8):runA (auF A p) w=true↔accA hasC A p w:=by
 cases w with
 |nil=>exact run_nil.symm
 |cons c w=>
  unfold accA;rw[ZE9];show Zb3 (auF A p) (ZJl (auF A p) c w)=true↔_;have g:Zlz (havL A.sets (ints p.first) c.toNat) (λx=>x∈p.first/\hasA hasC A x c=true):=by
   refine⟨λn=> ?_,λx f=> ?_⟩;unfold havL;rw[List.mem_filter,Zeo];constructor;rintro⟨a,b⟩;exact⟨a,by rw[<-Zqo (e.fi n a)];exact b⟩;rintro⟨a,b⟩;exact⟨a,by rw[<-Zqo (e.fi n a)]at b;exact b⟩;obtain⟨n,rfl,_⟩:=Zep (List.mem_filter.1 f).1;omega
  have a:=Zfw e w g (λx f=>e.fi x f.1);unfold Zb3;rw[List.any_eq_true];constructor;rintro⟨x,b,d⟩;obtain⟨n,rfl⟩:=Int.eq_ofNat_of_zero_le (a.2 x b);refine⟨n,(a.1 n).1 b,?_⟩;unfold hasI at d;obtain⟨y,h,i⟩:=List.any_eq_true.1 d;have:y=(n:Int):=(eq_of_beq i).symm;subst this;exact Zeo.1 h;rintro⟨n,b,d⟩;refine⟨n,(a.1 n).2 b,?_⟩;unfold hasI;exact List.any_eq_true.2 ⟨n,Zeo.2 d,sm⟩
def Zop(a:List Nat->List Nat->List Nat)(r:Re):Au:=auF (partF a r ⟨[],[]⟩).1 (partF a r ⟨[],[]⟩).2
theorem Zs3{c:List Nat->List Nat->List Nat}(g: ∀a b x,x∈c a b↔x∈a\/x∈b){r}(h:okRe r)(w:List UInt8):runA (Zop c r) w=true↔ReL hasC r w:=by
 have f:=Zb1 (has:=hasC) g r h ⟨[],[]⟩ rfl;have i:Inn (partF c r ⟨[],[]⟩).1 (partF c r ⟨[],[]⟩).2:=⟨f.wf,λx e=>(f.fi x e).2,λx e=>(f.la x e).2,λx y d=>by
  by_cases e:x<(partF c r ⟨[],[]⟩).1.sets.length;exact(f.cl x (Nat.zero_le _) e y d).2
  .have:(partF c r ⟨[],[]⟩).1.fol.getD x []= []:=by simp[List.getD_eq_getElem?_getD,List.getElem?_eq_none (show(partF c r ⟨[],[]⟩).1.fol.length<=x by have:=f.wf;omega)]
   rw[folA,this]at d;cases d⟩
 rw[<-f.ac w];exact ZAq i w
end Go.Y
namespace Go.Y
open Gl
def boS(a b:List Nat):List Nat:=(allS [] (ints a++ints b)).map Int.toNat
theorem Zv3(a b:List Nat)(x:Nat):x∈boS a b↔x∈a\/x∈b:=by unfold boS;simp only[uW,VW,List.not_mem_nil,false_or,qA];constructor;rintro⟨y,h|h,rfl⟩;obtain⟨n,c,rfl⟩:=h;exact .inl (su c);obtain⟨n,c,rfl⟩:=h;exact .inr (su c);rintro(h|h);exact⟨(x:Int), .inl ⟨x,h,rfl⟩,sm⟩;exact⟨(x:Int), .inr ⟨x,h,rfl⟩,sm⟩
theorem Zhu: ∀ {l:List Int},(∀x∈l,0<=x)->ints (l.map Int.toNat)=l
 | [],_=>rfl
 |x::l,h=>by
  have c:=h x sm;have a:=Zhu (l:=l) λy b=>h y (by simp[b]);simp only[ints,qz,List.map_map]at a ⊢;rw[a]
  congr 1
  omega
theorem Zv4(a b:List Nat):ints (boS a b)=allS [] (ints a++ints b):=by refine Zhu λx c=> ?_;rw[VW]at c;rcases c with c|c;cases c;rcases qA.1 c with c|c;obtain⟨n,rfl,_⟩:=Zep c;omega;obtain⟨n,rfl,_⟩:=Zep c;omega
theorem Zoq{l:List Nat} :QY (ints l)↔l.Pairwise (· < ·):=by
 unfold QY ints;rw[List.pairwise_map];exact⟨λh=>h.imp λh=>om,λh=>h.imp λh=>om⟩
def Rz(n:Nat)(l:List Nat):Prop:=l.Pairwise (· < ·)/\ ∀x∈l,x<n
theorem Rz.mono{n m:Nat}{l}(h:Rz n l)(a:n<=m):Rz m l:=⟨h.1,λx b=>qv (h.2 x b) a⟩
theorem Rz.nil(n:Nat):Rz n []:=⟨.nil,λx a=>by cases a⟩
theorem Rz.bo{n:Nat}{a b:List Nat}(c: ∀x∈a,x<n)(d: ∀x∈b,x<n):Rz n (boS a b):=
 ⟨Zoq.1 (by rw[Zv4];exact WL .nil),λx e=>((Zv3 a b x).1 e).elim (c x) (d x)⟩
theorem ZC6: ∀ {l:List Nat} {k n:Nat},l.Pairwise (· < ·)->(∀x∈l,k<=x/\x<n)->l.length<=n-k
 | [],_,_,_,_=>qx _
 |x::l,k,n,h,g=>by
  obtain⟨b,c⟩:=List.pairwise_cons.1 h;have d:=g x sm;have:=ZC6 (k:=x+1) (n:=n) c λy a=>⟨b y a,(g y (by simp[a])).2⟩;rw[qh];omega
theorem Rz.len{n:Nat}{l:List Nat}(h:Rz n l):l.length<=n:=by
 have:=ZC6 (k:=0) h.1 λx a=>⟨qx _,h.2 x a⟩;omega
structure AuB(A:Au0):Prop where
 wf:A.fol.length=A.sets.length
 fo: ∀l∈A.fol,Rz A.sets.length l
structure PaB(n:Nat)(p:Part):Prop where
 fi:Rz n p.first
 la:Rz n p.last
theorem PaB.mono{n m:Nat}{p:Part}(h:PaB n p)(a:n<=m):PaB m p:=⟨h.fi.mono a,h.la.mono a⟩
theorem PaB.nil(n:Nat)(e:Bool):PaB n ⟨[],[],e⟩:=⟨.nil n, .nil n⟩
theorem Zl0{n:Nat}{d:List Nat}(g: ∀x∈d,x<n): ∀(b:List Nat) (a:List (List Nat)),(∀l∈a,Rz n l)->(JX boS a b d).length=a.length/\ ∀l∈JX boS a b d,Rz n l
 | [],a,h=>⟨rfl,h⟩
 |p::b,a,h=>by
  have k: ∀l∈a.set p (boS (a.getD p []) d),Rz n l:=λl f=>by
   rcases List.mem_or_eq_of_mem_set f with f|rfl;exact h l f
   .refine Rz.bo (λx c=> ?_) g;rw[qw]at c
    cases e:a[p]? with
    |none=>rw[e]at c;cases c
    |some m=>rw[e]at c;exact(h m (List.mem_of_getElem? e)).2 x c
  obtain⟨i,j⟩:=Zl0 g b _ k;exact⟨by show(JX boS (a.set p _) b d).length=_;rw[i,vJ],j⟩
theorem AuB.link{A:Au0}(h:AuB A){a b:List Nat}(e: ∀x∈b,x<A.sets.length):AuB ⟨A.sets,JX boS A.fol a b⟩:=by obtain⟨c,d⟩:=Zl0 e a A.fol h.fo;exact⟨c.trans h.wf,d⟩
theorem ZJm{A:Au0}{a b:Part}(h:AuB A)(d:PaB A.sets.length a)(c:PaB A.sets.length b):AuB (catP boS A a b).1/\PaB A.sets.length (catP boS A a b).2:=by refine⟨h.link c.fi.2,?_,?_⟩;show Rz _ (if a.empty then boS a.first b.first else a.first);split;exact Rz.bo d.fi.2 c.fi.2;exact d.fi;show Rz _ (if b.empty then boS a.last b.last else b.last);split;exact Rz.bo d.la.2 c.la.2;exact c.la
theorem ZFa{g:Au0->Au0×Part}{c:Nat}(o: ∀A,AuB A->AuB (g A).1/\PaB (g A).1.sets.length (g A).2/\(g A).1.sets.length=A.sets.length+c)(d b:Int)(n:Nat):
  ∀(k i:Nat) (A:Au0) (a:Part),AuB A->PaB A.sets.length a->AuB (repP boS g d b n k i A a).1/\PaB (repP boS g d b n k i A a).1.sets.length (repP boS g d b n k i A a).2/\(repP boS g d b n k i A a).1.sets.length=A.sets.length+k*c
 |0,i,A,a,j,l=>⟨j,l,by simp[repP]⟩
 |k+1,i,A,a,j,l=>by
  obtain⟨m,h,t⟩:=o A j;rw[repP]
  try simp only[]
  have e:AuB (if b<0/\i+1=n then Zd8 boS (g A).1 (g A).2 else(g A).1)/\(if b<0/\i+1=n then Zd8 boS (g A).1 (g A).2 else(g A).1).sets.length=(g A).1.sets.length:=by
   split;exact⟨m.link h.fi.2,rfl⟩;exact⟨m,rfl⟩
  generalize (if b<0/\i+1=n then Zd8 boS (g A).1 (g A).2 else(g A).1)=f at e;obtain⟨v,q⟩:=e;have u:PaB f.sets.length ⟨(g A).2.first,(g A).2.last,(g A).2.empty||decide (d<=(i:Int))⟩:=by rw[q];exact⟨h.fi,h.la⟩
  obtain⟨r,s⟩:=ZJm v (l.mono om) u;have p:(catP boS f a ⟨(g A).2.first,(g A).2.last,(g A).2.empty||decide (d<=(i:Int))⟩).1.sets.length=f.sets.length:=rfl
  obtain⟨r1,w,x⟩:=ZFa o d b n k (i+1) _ _ r (by rw[p];exact s);exact⟨r1,w,by rw[x,p,q,t,ur];omega⟩
mutual
theorem Zap{B:Nat} : ∀(r:Re),wfRe B r-> ∀A,AuB A->AuB (partF boS r A).1/\PaB (partF boS r A).1.sets.length (partF boS r A).2/\(partF boS r A).1.sets.length=A.sets.length+cntRe r
 | .mk a t b s p n,h,A,c=>by
  rw[wfRe]at h;obtain⟨m,o,_,d⟩:=h;rw[partF,cntRe]
  dsimp only
  by_cases i:a=1;rw[uF i,uF i];refine⟨⟨by simp[c.wf],λl e=> ?_⟩,⟨⟨sm,λx g=> ?_⟩,⟨sm,λx g=> ?_⟩⟩,sm⟩;rcases qA.1 e with e|e;exact(c.fo l e).mono sm;rw[vE]at e;subst e;exact Rz.nil _;simp at g;simp[g];simp at g;simp[g];rw[uE i,uE i];by_cases k:a=5;rw[uF k,uE om];exact ZAr b d A c _ (PaB.nil _ _);rw[uE k];by_cases j:a=4\/a=7;rw[uF j,uE om];exact Zqp b d A c _ (PaB.nil _ _);rw[uE j];by_cases f:a=6
  .rw[uF f,uF f];have q:=(m f).2.2.2
   match b,q,d with
   | [r],_,d=>
    rw[wfRe.wfRes]at d;rw[partF.repF,cntRe.cnts,cntRe.cnts,Nat.add_zero];exact ZFa (λA c=>Zap r d.1 A c) s p _ _ 0 A _ c (PaB.nil _ _)
  .rw[uE f,uE f];have:b= []:=o om om om om;subst this;rw[cntRe.cnts];exact⟨c,PaB.nil _ _,rfl⟩
theorem ZAr{B:Nat} : ∀(l:List Re),wfRe.wfRes B l-> ∀A,AuB A-> ∀a,PaB A.sets.length a->AuB (partF.altF boS l A a).1/\PaB (partF.altF boS l A a).1.sets.length (partF.altF boS l A a).2/\(partF.altF boS l A a).1.sets.length=A.sets.length+cntRe.cnts l
 | [],_,A,c,a,d=>by rw[partF.altF,cntRe.cnts];exact⟨c,d,rfl⟩
 |r::l,h,A,c,a,d=>by
  rw[wfRe.wfRes]at h;rw[partF.altF,cntRe.cnts];obtain⟨f,e,g⟩:=Zap r h.1 A c;have b:=d.mono (show A.sets.length<=(partF boS r A).1.sets.length from om);obtain⟨i,j,k⟩:=ZAr l h.2 _ f ⟨boS a.first (partF boS r A).2.first,boS a.last (partF boS r A).2.last,a.empty||(partF boS r A).2.empty⟩ ⟨Rz.bo b.fi.2 e.fi.2,Rz.bo b.la.2 e.la.2⟩;exact⟨i,j,by rw[k,g];omega⟩
theorem Zqp{B:Nat} : ∀(l:List Re),wfRe.wfRes B l-> ∀A,AuB A-> ∀a,PaB A.sets.length a->AuB (partF.catF boS l A a).1/\PaB (partF.catF boS l A a).1.sets.length (partF.catF boS l A a).2/\(partF.catF boS l A a).1.sets.length=A.sets.length+cntRe.cnts l
 | [],_,A,b,a,c=>by rw[partF.catF,cntRe.cnts];exact⟨b,c,rfl⟩
 |r::l,h,A,b,a,c=>by
  rw[wfRe.wfRes]at h;rw[partF.catF,cntRe.cnts];obtain⟨i,j,k⟩:=Zap r h.1 A b;have d:=c.mono (show A.sets.length<=(partF boS r A).1.sets.length from om);obtain⟨f,g⟩:=ZJm i d j;have e:(catP boS (partF boS r A).1 a (partF boS r A).2).1.sets.length=(partF boS r A).1.sets.length:=rfl;obtain⟨m,n,o⟩:=Zqp l h.2 _ f _ (by rw[e];exact g);exact⟨m,n,by rw[o,e,k];omega⟩
end
end Go.Y
namespace Go.Y
set_option maxRecDepth 1000000
set_option maxHeartbeats 0
theorem Zl1{g:Type}{f:g->List V}(b: ∀x,(f x).length=1): ∀(l:List g) (i:Nat) (x:g),i<l.length->splice (row f l) i (f x)=row f (l.set i x)
 |y::l,0,x,_=>by
  have c:row f (y::l)=f y++row f l:=rfl;have d:row f ((y::l).set 0 x)=f x++row f l:=rfl;rw[c,d];obtain⟨a,e⟩:=List.length_eq_one_iff.1 (b y);rw[e];simp only[qs,qy,splice,b,List.drop_succ_cons,ql]
 |y::l,i+1,x,h=>by
  have c:row f (y::l)=f y++row f l:=rfl;have d:row f ((y::l).set (i+1) x)=f y++row f (l.set i x):=rfl;rw[c,d];obtain⟨a,e⟩:=List.length_eq_one_iff.1 (b y);rw[e];simp only[qs,qy,splice];rw[Zl1 b l i x (su h)]
end Go.Y
namespace Go.Y
open Go.Sort
abbrev Xh(a:List Int):List V:=a.map (V.i .i64)
abbrev encZ:Int->Value:=Value.int .i64
theorem Zl2(w:World){b a:Nat}{d:Array Int}{c:Array Value}{e}{f:Nat×Nat}(h:w.heap[b]? =some (.cells c e f)):
  (putRow encZ w b a d).heap[b]? =some (.cells (putCells encZ a d c) e f):=by
 simp only[putRow,mapBlock,Array.getElem?_modify,vG,h,uw,onCells]
theorem Zs4(w:World){b c a:Nat}{d:Array Int}(h:c≠b):(putRow encZ w b a d).heap[c]? =w.heap[c]? :=by
 simp only[putRow,mapBlock,Array.getElem?_modify,uE (Ne.symm h)]
theorem HRel.holds{W}{h:Heap}{w}{a:Nat}{d}(o:HRel W h w)(n:h.get a=some (.arr (Xh d) true)):
  Holds encZ w (W.mu a).1 (W.mu a).2 d.toArray/\(W.mu a).1<w.heap.size:=by
 obtain⟨c,e,p,f,q,r,k,l⟩:=o.obj a _ n;refine⟨λj b=> ?_,Zt f⟩;have b:j<d.length:=su b;obtain⟨u,i,g⟩:=k j (I d[j]) (by simp[b]);cases g;have m:=(Array.getElem?_eq_some_iff.1 i).1;constructor;rw[Zi0 f,i];simp[b,encZ];rw[Zks f];have:=l ((W.mu a).2+j) sm m;rw[Bool.eq_false_iff];simp only[ne_eq,qrq,vL];exact this
theorem HRel.row{W}{h:Heap}{w}{a:Nat}{y zs':List Int}(q:HRel W h w)(u:h.get a=some (.arr (Xh y) true))(E:zs'.length=y.length)(n:Nat):
  HRel W (h.set a (some (.arr (Xh zs') true))) (putRow encZ (Sort.ahead w n) (W.mu a).1 (W.mu a).2 zs'.toArray)/\Stp W W.own w W W.own (putRow encZ (Sort.ahead w n) (W.mu a).1 (W.mu a).2 zs'.toArray):=by
 obtain⟨c,e,r,l,C,s,K,D⟩:=q.obj a _ u;have p:W.lv a:=(q.lv a).2 (by simp[u]);have d:(putCells encZ (W.mu a).2 zs'.toArray c).size=c.size:=by simp[putCells]
 have k:Str w (putRow encZ (Sort.ahead w n) (W.mu a).1 (W.mu a).2 zs'.toArray):=⟨rfl,rfl,rfl⟩;have F:ORel W (putRow encZ (Sort.ahead w n) (W.mu a).1 (W.mu a).2 zs'.toArray) a (.arr (Xh zs') true):=by
  refine⟨putCells encZ (W.mu a).2 zs'.toArray c,e,r,Zl2 (Sort.ahead w n) l,by rw[d];exact C,by rw[d];simpa[E]using s,λj v x=> ?_,λj o g=>D j (su o) (by rw[d]at g;exact g)⟩;have f:j<zs'.length:=by
   have:=(qb.1 x).1;simpa using this
  have G:v= I zs'[j]:=by
   have:=x;simp[f]at this;exact this.symm
  subst G;refine⟨encZ zs'[j],?_, .i _ _⟩;have m:(W.mu a).2+j<c.size:=by simp at s;omega
  simp only[putCells,Array.getElem?_mapIdx,Array.getElem?_eq_getElem m,uw];rw[uF ⟨om,by simp;omega⟩];simp[f]
 refine q.write k p (λb m=>Zs4 (Sort.ahead w n) m) sm (λH e' z t A B=> ?_) F;rw[l]at t;cases t;exact⟨_,r,Zl2 (Sort.ahead w n) l,A,by rw[d];exact B⟩
theorem HRel.grown{W:Vw}{h}{w}(e:HRel W h w)(os:Array Obj): ∃a,HRel a h (grow w os)/\Stp W W.own w a a.own (grow w os):=by
 have d: ∀b,b<w.heap.size->(grow w os).heap[b]? =w.heap[b]? :=λb c=>by
  simp only[grow,Array.getElem?_append_left c]
 obtain⟨f,g⟩:=e.more (w':=grow w os) (s:=W.snap) (λ_ _ h=>h) (by simp[grow]) d (λb o c=>by
  have:=e.snap b o c;rw[d b (Zt this)];exact this) ⟨rfl,rfl,rfl⟩
 exact⟨_,f,g⟩
abbrev Qk(a:List Int):List Int:=a.mergeSort λx y=>decide (x<=y)
abbrev ZQ(P:Program)(f:FuncId):Prop:=(∀(a b cap:Nat) (c:List Int) (w:World),Holds encZ w a b c.toArray->a<w.heap.size->c.length<4611686018427387904->
   Calls P f #[.slice (some ⟨a,b,none⟩) c.length cap] w λe d=>e= .returned (.tuple #[])/\ ∃n os,d=grow (putRow encZ (Sort.ahead w n) a b (Qk c).toArray) os)/\
  ∀(w:World),Calls P f #[.slice none 0 0] w λe d=>e= .returned (.tuple #[])/\d=w
abbrev ZE(P:Program)(f:FuncId):Prop:=(∀(a b cap:Nat) (c:List Int) (w:World),Holds encZ w a b c.toArray->c.length<=9223372036854775807->c.length<=cap->
   Calls P f #[.slice (some ⟨a,b,none⟩) c.length cap] w λe d=>e= .returned (.slice (some ⟨a,b,none⟩) (Lib.compact c).length cap)/\ ∃q,d=putRow encZ (Sort.ahead w q) a b (Lib.compact c++List.replicate (c.length-(Lib.compact c).length) 0).toArray)/\
  ∀(w:World),Calls P f #[.slice none 0 0] w λe d=>e= .returned (.slice none 0 0)/\d=w
theorem Zqq{Y:YP}{f}(A:Jo Y f)(D:ZQ Y.P f){h:Heap}{g k:Nat}{c:Option Nat}{b:List Int}(j:h.get g=some (.arr (Xh b) true))(m:b≠ [])(O:b.length<2 ^ 60):
  Con Y f [.sl (some (g,0)) b.length c k] h λv t=>v= .tup []/\t=h.set g (some (.arr (Xh (Qk b)) true)):=
 ⟨A,λW w Z o E=>by
  obtain⟨r,s⟩:=o.holds j;have p:0<b.length:=List.length_pos_iff.2 m;have l:W.lv g:=(o.lv g).2 (by simp[j])
  cases E with
  |cons _ u _ _ x y=>
   cases y
   cases x with
   |sls _ _ _ _ _ a d B C L z X N=>
    have i:=z l om;subst i;refine(D.1 _ _ d b w r s om).mono ?_;rintro e w' ⟨rfl,n,os,rfl⟩;obtain⟨F,G⟩:=o.row j (zs':=Qk b) (List.length_mergeSort _) n;obtain⟨q,H,K⟩:=F.grown os;exact⟨.tup [],_,q,_,⟨rfl,rfl⟩,rfl,H, .tup [] [] .nil,G.trans K⟩⟩
theorem Zl3{Y:YP}{f}(g:Jo Y f)(j:ZQ Y.P f){h:Heap}{k:Nat}{c:Option Nat} :
  Con Y f [.sl none 0 c k] h λv a=>v= .tup []/\a=h:=
 ⟨g,λW w m i l=>by
  cases l with
  |cons _ u _ _ b d=>
   cases d;cases b;refine(j.2 w).mono ?_;rintro e n ⟨rfl,rfl⟩;exact⟨.tup [],_,W,_,⟨rfl,rfl⟩,rfl,i, .tup [] [] .nil, .refl _ _ _⟩⟩
/-! ### Compact -/
def Zl4:Int->List Int->List Int
 |_,[]=> []
 |a,b::l=>if b=a then Zl4 b l else b::Zl4 b l
theorem Zhv: ∀(a:Int) (l:List Int),Xj (a::l)=a::Zl4 a l
 |a,[]=>by simp[Xj,Zl4]
 |a,b::l=>by
  have c:=Zhv b l;unfold Xj Zl4;by_cases h:a=b;rw[uF h,uF h.symm,c,h];rw[uE h,uE (Ne.symm h),c]
theorem Zhw: ∀(a:Int) (l:List Int),((List.range l.length).filter λj=>decide ((a::l)[j+1]! ≠(a::l)[j]!)).map (λj=>(a::l)[j+1]!)=Zl4 a l
 |a,[]=>by simp[Zl4]
 |a,b::l=>by
  have c:=Zhw b l;have e:List.range (b::l).length=0::(List.range l.length).map Nat.succ:=by
   rw[qh,List.range_succ_eq_map]
  rw[e,List.filter_cons,List.filter_map];have d:((λj=>decide ((a::b::l)[j+1]! ≠(a::b::l)[j]!)) ∘ Nat.succ)=λj=>decide ((b::l)[j+1]! ≠(b::l)[j]!):=rfl;unfold Zl4;rw[d];by_cases h:b=a;subst h;rw[uE sm,List.map_map];simp only[vG];exact c;rw[uE h,uF (su h),qz,List.map_map];exact congrArg (b:: ·) c
theorem Zjt: ∀b:List Int,Lib.compact b=Xj b
 | []=>rfl
 |a::l=>by
  rw[Zhv,<-Zhw];unfold Lib.compact Lib.compactUpTo;rw[qh,List.range_succ_eq_map,List.filter_cons,List.filter_map,uF (by simp[Lib.keeps]),qz,List.map_map];have c:(a::l).toArray[0]! =a:=sm;rw[c];refine congrArg (a:: ·) ?_;have d:(Lib.keeps (a::l).toArray ∘ Nat.succ)=λj=>decide ((a::l)[j+1]! ≠(a::l)[j]!):=by
   funext j;simp[Lib.keeps]
  rw[d];refine List.map_congr_left λj _=> ?_;simp
theorem Zqr: ∀c:List Int,(Xj c).length<=c.length
 | []=>by simp[Xj]
 | [a]=>by simp[Xj]
 |a::b::l=>by
  have:=Zqr (b::l);unfold Xj;split;simp at this ⊢;omega;simp at this ⊢;omega
abbrev Zv5(a:List Int):List Int:=Xj a++List.replicate (a.length-(Xj a).length) 0
theorem Zfx{Y:YP}{f}(A:Jo Y f)(E:ZE Y.P f){h:Heap}{g k:Nat}{c:Option Nat}{b:List Int}(j:h.get g=some (.arr (Xh b) true))(p:b≠ [])(N:b.length<2 ^ 60):
  Con Y f [.sl (some (g,0)) b.length c k] h λv t=>v= .sl (some (g,0)) (Xj b).length c k/\t=h.set g (some (.arr (Xh (Zv5 b)) true)):=
 ⟨A,λW w O q F=>by
  obtain⟨s,K⟩:=q.holds j;have r:0<b.length:=List.length_pos_iff.2 p;have o:W.lv g:=(q.lv g).2 (by simp[j]);have L:=Zqr b
  cases F with
  |cons _ u _ _ x y=>
   cases y
   cases x with
   |sls _ _ _ _ _ a d l m B z D C=>
    have i:=z o om;subst i;refine(E.1 _ _ d b w s om m).mono ?_;rintro e X ⟨rfl,n,rfl⟩;rw[Zjt];obtain⟨G,H⟩:=q.row j (zs':=Zv5 b) (by simp;omega) n;exact⟨.sl (some (g,0)) (Xj b).length c k,_,W,_,⟨rfl,rfl⟩,rfl,G, .sls _ _ _ _ _ _ d l om B (λ_ _=>rfl) D C,H⟩⟩
theorem Zd0{Y:YP}{f}(g:Jo Y f)(j:ZE Y.P f){h:Heap}{k:Nat}{c:Option Nat} :
  Con Y f [.sl none 0 c k] h λv a=>v= .sl none 0 c k/\a=h:=
 ⟨g,λW w m i l=>by
  cases l with
  |cons _ u _ _ b d=>
   cases d;cases b;refine(j.2 w).mono ?_;rintro e n ⟨rfl,rfl⟩;exact⟨.sl none 0 c k,_,W,_,⟨rfl,rfl⟩,rfl,i, .sln _ _, .refl _ _ _⟩⟩
theorem ZAs(d):(Qk d).Pairwise (· <= ·):=by have:=List.pairwise_mergeSort (le:=λx y:Int=>decide (x<=y)) (λa b c h g=>by simp at*;omega) (λa b=>by simp;omega) d;exact this.imp (λh=>su h)
theorem Zv6(a:List Int)(x:Int):x∈Qk a↔x∈a:=List.mem_mergeSort
theorem Zl5(a):Xj (Qk a)=allS [] a:=Zs2 (ZAs a) (Zv6 a)
end Go.Y
namespace Go.Y
set_option maxRecDepth 1000000
set_option maxHeartbeats 0
theorem Con.wk{Y}{f}{args args'}{h}{Q}(d:WkA args args')(c:Con Y f args' h Q):Con Y f args h Q:=
 ⟨c.body,λW w e a b=>c.tr W w e a (d.vr b)⟩
theorem WkL.get: ∀ {l a:List V},WkL l a-> ∀ {t:Nat} {v':V},a[t]? =some v'-> ∃v,l[t]? =some v/\Wk0 v v'
 |_,_, .nil,t,v',h=>by simp at h
 |_,_, .cons v v1 l a c b,0,v',h=>by simp at h;subst h;exact⟨v,rfl,c⟩
 |_,_, .cons v v1 l a c b,t+1,v',h=>by simp at h;simpa using b.get h
theorem WkL.length: ∀ {l a:List V},WkL l a->l.length=a.length
 |_,_, .nil=>rfl
 |_,_, .cons _ _ _ _ _ b=>by simp[b.length]
theorem WkL.append: ∀ {a a' b b'},WkL a a'->WkL b b'->WkL (a++b) (a'++b')
 |_,_,_,_, .nil,g=>g
 |_,_,_,_, .cons v d l e h c,g=> .cons v d _ _ h (c.append g)
theorem HRel.weak{W}{h:Heap}{w}{g:Nat}{cs cs'}(r:HRel W h w)(k:h.get g=some (.arr cs true))(n:WkL cs cs'):HRel W (h.set g (some (.arr cs' true))) w:=by
 have a: ∀i,((h.set g (some (.arr cs' true))).raw i).isSome=true↔(h.raw i).isSome=true:=λi=>by
  rw[Heap.raw_set];split
  .next e=>
   subst e;have d:(h.raw i).join=some (.arr cs true):=k
   cases m:h.raw i with
   |none=>rw[m]at d;cases d
   |some o=>simp
  .exact Iff.rfl
 have b: ∀i,((h.set g (some (.arr cs' true))).get i).isSome=true↔(h.get i).isSome=true:=λi=>by
  rw[qc];split
  .next e=>subst e;rw[k];simp
  .exact Iff.rfl
 refine⟨λi l=>(a i).2 (r.kn i l),r.lk,λi=>(r.lv i).trans (b i).symm,λi l=>su (r.lt i ((a i).1 l)),r.snap,λi o f=> ?_,r.inj,r.apart,λp D=>r.tg p D,r.gl⟩;rw[qc]at f;split at f
 .next e=>
  subst e;cases f;obtain⟨c,e,q,s,t,x,y,z⟩:=r.obj i _ k;refine⟨c,e,q,s,t,by rw[<-n.length];exact x,λj G d=> ?_,λj A B=>z j A B⟩;obtain⟨v,F,C⟩:=n.get d;obtain⟨u,E,m⟩:=y j v F;exact⟨u,E,C.vr m⟩
 .exact r.obj i o f
def ZP4(Q:V->Heap->Prop)(v:V)(h:Heap):Prop:=Q v h\/ ∃(c:Nat) (b a:List V),h.get c=some (.arr b true)/\WkL b a/\Q v (h.set c (some (.arr a true)))
theorem Con.weakH{Y}{f}{args}{h}{Q}(c:Con Y f args h (ZP4 Q)):Con Y f args h Q:=
 ⟨c.body,λW w q n o=>(c.tr W w q n o).mono λe t ⟨v,l,g,u,a,i,j,d,b⟩=>by
  rcases a with a|⟨s,r,k,m,p,a⟩;exact⟨v,l,g,u,a,i,j,d,b⟩
  .exact⟨v,_,g,u,a,i,j.weak m p,d,b⟩⟩
end Go.Y
namespace Go.Y
open Go.Proofs
set_option maxRecDepth 1000000
set_option maxHeartbeats 0
theorem ZP5(a:List UInt8)(b:Int)(h)(K:KT):(Zc UY (UY.loc 62) 100 (pre (flat (Za Tryz.f62))) ⟨(.s a::I b::List.replicate 79 .undef),[],h⟩ (VQ [0,1,3,4,7,9] K))=(K .normal 81 [.s a,I b,Ud,S0,S0,Ud] h):=kr
theorem ZP6(q:List UInt8)(p:Int)(d)(b:Nat)(e)(f:Nat)(g:V)(h)(K:KT):(Zc UY (UY.loc 62) 100 ((lp_ (flat (Za Tryz.f62)))) ⟨mk 81 (([0,1,3,4,7,9]:List Nat).zip [.s q,I p,V.undef,S0,S d b e f,g]),[],h⟩ (VQ [0,1,3,4,5,6,7,9] K))=(If (ltI 0 b) (If (ltI p (↑q.length:Int)) (∃c,(0<=p/\q[p.toNat]? =some c)/\If ((↑c.toNat:Int)==93) (K .ret 81 [.s q,I p,Ud,S d b e f,I (wW (p+1)),I 0,S d b e f,g] h) (∃n j t,(PCon UY 111 [.s q,I p] fun(v:V)=>v=.tup [.i .u8 n,I j,I t])/\If (ltI j 0) (K .ret 81 [.s q,I p,Ud,S0,I (-1),I t,S d b e f,I j] h) (If (ltI (wW (p+j)) (↑q.length:Int)) (∃c,(0<=wW (p+j)/\q[(wW (p+j)).toNat]? =some c)/\If ((↑c.toNat:Int)==45) (∃r o u,(PCon UY 111 [.s q,I (wW (wW (p+j)+1))] fun(v:V)=>v=.tup [.i .u8 r,I o,I u])/\If (ltI o 0) (K .ret 81 [.s q,I (wW (p+j)),Ud,S0,I (-1),I u,S d b e f,I o] h) (If (ltI r n) (K .ret 81 [.s q,I (wW (p+j)),Ud,S0,I (-1),I (wW (wW (p+j)+o)),S d b e f,I o] h) (∃a l c k m,Zk UY h 57 57 (S d b e f) (J [.i .u8 n,.i .u8 r] 1 (some 1))=some (S a l c k,m)/\K .normal 81 [.s q,I (wW (wW (wW (p+j)+1)+o)),Ud,S0,Ud,Ud,S a l c k,I o] m))) (∃a l c k m,Zk UY h 57 57 (S d b e f) (J [.i .u8 n,.i .u8 n] 1 (some 1))=some (S a l c k,m)/\K .normal 81 [.s q,I (wW (p+j)),Ud,S0,Ud,Ud,S a l c k,I j] m)) (∃a l c k m,Zk UY h 57 57 (S d b e f) (J [.i .u8 n,.i .u8 n] 1 (some 1))=some (S a l c k,m)/\K .normal 81 [.s q,I (wW (p+j)),Ud,S0,Ud,Ud,S a l c k,I j] m)))) (∃n j t,(PCon UY 111 [.s q,I p] fun(v:V)=>v=.tup [.i .u8 n,I j,I t])/\If (ltI j 0) (K .ret 81 [.s q,I p,Ud,S0,I (-1),I t,S d b e f,I j] h) (If (ltI (wW (p+j)) (↑q.length:Int)) (∃c,(0<=wW (p+j)/\q[(wW (p+j)).toNat]? =some c)/\If ((↑c.toNat:Int)==45) (∃r o u,(PCon UY 111 [.s q,I (wW (wW (p+j)+1))] fun(v:V)=>v=.tup [.i .u8 r,I o,I u])/\If (ltI o 0) (K .ret 81 [.s q,I (wW (p+j)),Ud,S0,I (-1),I u,S d b e f,I o] h) (If (ltI r n) (K .ret 81 [.s q,I (wW (p+j)),Ud,S0,I (-1),I (wW (wW (p+j)+o)),S d b e f,I o] h) (∃a l c k m,Zk UY h 57 57 (S d b e f) (J [.i .u8 n,.i .u8 r] 1 (some 1))=some (S a l c k,m)/\K .normal 81 [.s q,I (wW (wW (wW (p+j)+1)+o)),Ud,S0,Ud,Ud,S a l c k,I o] m))) (∃a l c k m,Zk UY h 57 57 (S d b e f) (J [.i .u8 n,.i .u8 n] 1 (some 1))=some (S a l c k,m)/\K .normal 81 [.s q,I (wW (p+j)),Ud,S0,Ud,Ud,S a l c k,I j] m)) (∃a l c k m,Zk UY h 57 57 (S d b e f) (J [.i .u8 n,.i .u8 n] 1 (some 1))=some (S a l c k,m)/\K .normal 81 [.s q,I (wW (p+j)),Ud,S0,Ud,Ud,S a l c k,I j] m)))) (∃n j t,(PCon UY 111 [.s q,I p] fun(v:V)=>v=.tup [.i .u8 n,I j,I t])/\If (ltI j 0) (K .ret 81 [.s q,I p,Ud,S0,I (-1),I t,S d b e f,I j] h) (If (ltI (wW (p+j)) (↑q.length:Int)) (∃c,(0<=wW (p+j)/\q[(wW (p+j)).toNat]? =some c)/\If ((↑c.toNat:Int)==45) (∃r o u,(PCon UY 111 [.s q,I (wW (wW (p+j)+1))] λv=>v=.tup [.i .u8 r,I o,I u])/\If (ltI o 0) (K .ret 81 [.s q,I (wW (p+j)),Ud,S0,I (-1),I u,S d b e f,I o] h) (If (ltI r n) (K .ret 81 [.s q,I (wW (p+j)),Ud,S0,I (-1),I (wW (wW (p+j)+o)),S d b e f,I o] h) (∃a l c k m,Zk UY h 57 57 (S d b e f) (J [.i .u8 n,.i .u8 r] 1 (some 1))=some (S a l c k,m)/\K .normal 81 [.s q,I (wW (wW (wW (p+j)+1)+o)),Ud,S0,Ud,Ud,S a l c k,I o] m))) (∃a l c k m,Zk UY h 57 57 (S d b e f) (J [.i .u8 n,.i .u8 n] 1 (some 1))=some (S a l c k,m)/\K .normal 81 [.s q,I (wW (p+j)),Ud,S0,Ud,Ud,S a l c k,I j] m)) (∃a l c k m,Zk UY h 57 57 (S d b e f) (J [.i .u8 n,.i .u8 n] 1 (some 1))=some (S a l c k,m)/\K .normal 81 [.s q,I (wW (p+j)),Ud,S0,Ud,Ud,S a l c k,I j] m)))):=kr
theorem ZJn(b:List UInt8)(a:Int)(h)(K:KT):(Zc UY (UY.loc 111) 100 ((flat (Za Tryz.f111))) ⟨(.s b::I a::List.replicate 40 .undef),[],h⟩ (VQ [4,5,6] K))=(If (leI (↑b.length:Int) a) (K .ret 42 [.i .u8 0,I (-1),I a] h) (∃c,(0<=a/\b[a.toNat]? =some c)/\If ((↑c.toNat:Int)==93) (K .ret 42 [.i .u8 0,I (-1),I a] h) (∃c,(0<=a/\b[a.toNat]? =some c)/\If ((↑c.toNat:Int)==45) (K .ret 42 [.i .u8 0,I (-1),I a] h) (∃c,(0<=a/\b[a.toNat]? =some c)/\If ((↑c.toNat:Int) !=92) (∃c,(0<=a/\b[a.toNat]? =some c)/\K .ret 42 [.i .u8 (↑c.toNat:Int),I 1,I 0] h) (If (leI (↑b.length:Int) (wW (a+1))) (K .ret 42 [.i .u8 0,I (-1),I (wW (a+1))] h) (∃c,(0<=wW (a+1)/\b[(wW (a+1)).toNat]? =some c)/\K .ret 42 [.i .u8 (↑c.toNat:Int),I 2,I 0] h)))))):=kr
end Go.Y
