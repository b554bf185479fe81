/- A part of the proof. -/
import Derived.Test.YteennilbmmlikaaGreatDoorGRule
import Derived.Test.YteennilbmmlikaaGreatDoorYLoop
namespace Go.Y
set_option maxRecDepth 1000000
set_option maxHeartbeats 0
mutual
def Zd:Re->List V
 | .mk k s l lo a n=> [.i .i64 k, .i .u64 s.1, .i .u64 s.2.1, .i .u64 s.2.2.1, .i .u64 s.2.2.2, .ts (Zvu l) l.length none, .i .i64 lo, .i .i64 a, .i .i64 n]
def Zvu:List Re->List V
 | []=> []
 |r::l=>Zd r++Zvu l
end
theorem Zqg: ∀l:List Re,Zvu l=row Zd l
 | []=>by rw[Zvu];rfl
 |r::l=>by rw[Zvu,Zqg l];rfl
theorem Zn(k:Int)(s:S4)(l)(b a n:Int):Zd (.mk k s l b a n)= [I k,U s.1,U s.2.1,U s.2.2.1,U s.2.2.2,lst Zd l,I b,I a,I n]:=by rw[Zd,Zqg]
theorem ZT(r):(Zd r).length=9:=by obtain⟨k,s,l,b,a,n⟩:=r;rw[Zn];rfl
theorem XK(r):ZZ (Zd r)=true:=by obtain⟨k,s,l,b,a,n⟩:=r;rw[Zn];rfl
theorem Zfr(r):Zp (Zd r)=true:=by obtain⟨k,s,l,b,a,n⟩:=r;rw[Zn];rfl
def XG:Re:= .mk 0 (0,0,0,0) [] 0 0 0
/-! ### The words of a set -/
def Xe(p:Nat->Bool)(k m:Nat):Nat:=(List.range m).foldl (fun(n:Nat) b=>if p (64*k+b)then n+2 ^ b else n) 0
theorem Qa(p)(k m:Nat):Xe p k (m+1)=if p (64*k+m)then Xe p k m+2 ^ m else Xe p k m:=by simp only[Xe,List.range_succ,List.foldl_append,uR,List.foldl_nil]
theorem WK(p)(k:Nat): ∀m,Xe p k m<2 ^ m
 |0=>by simp[Xe]
 |m+1=>by
  rw[Qa,Nat.pow_succ];have:=WK p k m;split<;>omega
theorem Zb0(p)(k:Nat):Zs0 p k=(Xe p k 64:Nat):=rfl
theorem VU{p:Nat->Bool}{k:Nat} : ∀ {m:Nat},(∀b,b<m->p (64*k+b)=false)->Xe p k m=0
 |0,_=>rfl
 |m+1,h=>by rw[Qa,h m om,VU λb a=>h b om];rfl
theorem Zlu{p:Nat->Bool}{k b:Nat}(c:p (64*k+b)=true): ∀ {m:Nat},b<m->(∀x,x<m->x≠b->p (64*k+x)=false)->Xe p k m=2 ^ b
 |m+1,h,a=>by
  rw[Qa];by_cases e:m=b;subst e;rw[uF c,VU λx f=>a x om om];omega;rw[a m om e,Zlu c om λx g d=>a x om d];rfl
theorem Zek{n:Nat}(h:n<2 ^ 64):IntKind.u64.wrap (n:Int)=(n:Int):=by simp only[IntKind.wrap,IntKind.signed,IntKind.bits];have:((n:Int)) % 2 ^ 64=n:=om;simpa using this
theorem Zom{b:Nat}(a:b<64):IntKind.u64.wrap (1*2 ^ min b IntKind.u64.bits)=((2 ^ b:Nat):Int):=by have e:min b IntKind.u64.bits=b:=Nat.min_eq_left (by have:IntKind.u64.bits=64:=rfl;omega);rw[e,Int.one_mul,show((2:Int) ^ b)=((2 ^ b:Nat):Int) by norm_cast];exact Zek (Nat.pow_lt_pow_right dc a)
theorem ZJk{n b:Nat}(h:n<2 ^ b)(a:b<64):IntKind.u64.wrap (((BitVec.ofInt IntKind.u64.bits (n:Int)|||BitVec.ofInt IntKind.u64.bits (IntKind.u64.wrap (1*2 ^ min b IntKind.u64.bits))).toNat:Nat):Int)=((n+2 ^ b:Nat):Int):=by
 have e:2 ^ b<2 ^ 64:=Nat.pow_lt_pow_right dc a;have f:2 ^ b*2<=2 ^ 64:=by rw[<-Nat.pow_succ];exact Nat.pow_le_pow_right dc a
 rw[Zom a];have c: ∀m:Nat,m<2 ^ 64->(BitVec.ofInt IntKind.u64.bits (m:Int)).toNat=m:=by
  intro m g;show(BitVec.ofInt 64 (m:Int)).toNat=m;rw[BitVec.toNat_ofInt];omega
 rw[BitVec.toNat_or,c n om,c _ e];have d:n|||2 ^ b=n+2 ^ b:=by
  have:=Nat.two_pow_add_eq_or_of_lt h 1;rw[uY]at this;rw[Nat.or_comm,<-this,Nat.add_comm]
 rw[d];exact Zek om
theorem Zvv(c:Nat):Int.tdiv (c:Int) 64=((c / 64:Nat):Int):=by rw[Int.tdiv_eq_ediv_of_nonneg om];omega
theorem Zho(c:Nat):Int.tmod (c:Int) 64=((c % 64:Nat):Int):=by rw[Int.tmod_eq_emod_of_nonneg om];omega
def QC(p:Nat->Bool)(c:Nat):List V:= [.i .u64 (Xe p 0 (min 64 c):Nat), .i .u64 (Xe p 1 (min 64 (c-64)):Nat), .i .u64 (Xe p 2 (min 64 (c-128)):Nat), .i .u64 (Xe p 3 (min 64 (c-192)):Nat)]
theorem Zvw(p){c:Nat}(h:c<256):Zs 1 ((QC p c).drop (0+c / 64*1))=some [U (Xe p (c / 64) (c % 64):Nat)]:=by have:c / 64=0\/c / 64=1\/c / 64=2\/c / 64=3:=om;rcases this with e|e|e|e;rw[e,show c % 64=min 64 c from om];rfl;rw[e,show c % 64=min 64 (c-64) from om];rfl;rw[e,show c % 64=min 64 (c-128) from om];rfl;rw[e,show c % 64=min 64 (c-192) from om];rfl
theorem ZAl(p){c:Nat}(h:c<256)(i:p c=false):QC p (c+1)=QC p c:=by
 have a: ∀k,k<4->Xe p k (min 64 (c+1-64*k))=Xe p k (min 64 (c-64*k)):=by
  intro k j;by_cases e:c / 64=k;rw[show min 64 (c+1-64*k)=c % 64+1 from om,show min 64 (c-64*k)=c % 64 from om,Qa,show 64*k+c % 64=c from om,i];rfl;rw[show min 64 (c+1-64*k)=min 64 (c-64*k) from om]
 have b:=a 0 om;have d:=a 1 om;have f:=a 2 om;have g:=a 3 om;simp only[Nat.mul_zero,Nat.sub_zero,uY,show 64*2=128 by rfl,show 64*3=192 by rfl]at b d f g;simp only[QC,b,d,f,g]
theorem Zvx(p){c:Nat}(h:c<256)(m:p c=true):splice (QC p c) (0+c / 64*1) [U ((Xe p (c / 64) (c % 64)+2 ^ (c % 64):Nat):Int)]=QC p (c+1):=by
 have f: ∀k,c / 64=k->Xe p k (min 64 (c+1-64*k))=Xe p (c / 64) (c % 64)+2 ^ (c % 64):=by
  intro k e;rw[show min 64 (c+1-64*k)=c % 64+1 from om,Qa,show 64*k+c % 64=c from om,uF m,e]
 have d: ∀k,c / 64≠k->Xe p k (min 64 (c+1-64*k))=Xe p k (min 64 (c-64*k)):=by
  intro k e;rw[show min 64 (c+1-64*k)=min 64 (c-64*k) from om]
 have g:=f 0;have i:=f 1;have j:=f 2;have l:=f 3;have a:=d 0;have Ze8:=d 1;have Zg4:=d 2;have b:=d 3;simp only[Nat.mul_zero,Nat.sub_zero,uY,show 64*2=128 by rfl,show 64*3=192 by rfl]at g i j l a Ze8 Zg4 b;have:c / 64=0\/c / 64=1\/c / 64=2\/c / 64=3:=om;rcases this with e|e|e|e;simp only[QC,g e,Ze8 om,Zg4 om,b om];rw[e];rfl;simp only[QC,a om,i e,Zg4 om,b om];rw[e];rfl;simp only[QC,a om,Ze8 om,j e,b om];rw[e];rfl;simp only[QC,a om,Ze8 om,Zg4 om,l e];rw[e];rfl
theorem Zqh{a}{i j:Nat}{l x:Int}(h:XW a i l= .ok (x,j)):i<=j:=by unfold XW at h;split at h;split at h;injection h with h;injection h with e1 e2;omega;cases h;cases h
theorem Zlv{a}{i j:Nat}{e d:Int}(h:Xi a i= .ok (e,d,j)):i<=j:=by
 unfold Xi at h;split at h;cases h
 .next b=>
  have f:=Zqh b;split at h
  .split at h;injection h with h;injection h with e1 h;injection h with e2 e3;omega
   .split at h;cases h
    .next c=>
     have g:=Zqh c;split at h;injection h with h;injection h with e1 h;injection h with e2 e3;omega;cases h
  .split at h;injection h with h;injection h with e1 h;injection h with e2 e3;omega;cases h
theorem ZAm{a}{i j:Nat}{x:S4}(h:QN a i= .ok (x,j)):i<=j:=by
 unfold QN at h;simp only at h;split at h;cases h
 .next b=>
  have c:=(Za2 b);injection h with h;injection h with e1 e2;split at c<;>omega
section
variable (a pre post:List UInt8)
end
theorem Zel{s}{i j:Nat}{c:Int}(h:endS s i= .ok (c,j)):0<=c/\c<256:=by unfold endS at h;split at h;cases h;rename_i d _;split at h;cases h;split at h;split at h;cases h;rename_i e _;cases h;have:=e.toNat_lt;omega;cases h;have:=d.toNat_lt;omega
theorem Zvy{s}{i j:Nat}{x:Span}(h:XU s i= .ok (x,j)):(0<=x.lo/\x.lo<256)/\(0<=x.hi/\x.hi<256):=by unfold XU at h;split at h;cases h;rename_i g k c;have a:=Zel c;split at h;split at h;cases h;rename_i e f d;have b:=Zel d;split at h;cases h;cases h;exact⟨a,b⟩;cases h;exact⟨a,a⟩
theorem Zjo{s} : ∀ {n i:Nat} {a l:List Span} {j:Nat},setS n s i a= .ok (l,j)->(∀x∈a,(0<=x.lo/\x.lo<256)/\(0<=x.hi/\x.hi<256))->
  (∀x∈l,(0<=x.lo/\x.lo<256)/\(0<=x.hi/\x.hi<256))/\l.length<=a.length+(j-i)
 |0,_,_,_,_,h,_=>by cases h
 |n+1,i,a,l,j,h,e=>by
  simp only[setS]at h;split at h;cases h;exact⟨e,om⟩
  .split at h;cases h
   .rename_i x k d;have f:=Zjj d;have c:=Zjo h (λy b=>by
     rcases qA.1 b with b|b;exact e y b
     .rw[vE]at b;subst b;exact Zvy d)
    have g:=Za2 h;refine⟨c.1,?_⟩;have:=c.2;simp only[qf,qh,qp]at this;omega
theorem Zvz{s:List UInt8}{i j:Nat}{d c:Int}(h:Xi s i= .ok (d,c,j)):j<=s.length:=by unfold Xi at h;split at h;cases h;rename_i e k f;split at h;split at h;rename_i a;have:=(qb.1 a).1;cases h;omega;split at h;cases h;split at h;rename_i b;have:=(qb.1 b).1;cases h;omega;cases h;split at h;rename_i a;have:=(qb.1 a).1;cases h;omega;cases h
theorem ZAn{s:List UInt8}{i j:Nat}{x:S4}(h:QN s i= .ok (x,j)):i<=j/\j<=s.length:=by
 refine⟨ZAm h,?_⟩;unfold QN at h;simp only[]at h;split at h;cases h;rename_i l k a;have:=Za2 a;cases h;omega
theorem XT(s:List UInt8): ∀n,
  (∀ {d i g r j a},altE n d s i g= .ok (r,j,a)->i<=s.length->g<=i->i<=j/\j<=s.length/\a<=j)/\
  (∀ {d i g l r j a},WJ n d s i g l= .ok (r,j,a)->i<=s.length->g<=i->i<=j/\j<=s.length/\a<=j)/\
  (∀ {d i g l r j a},rowE n d s i g l= .ok (r,j,a)->i<=s.length->g<=i->i<=j/\j<=s.length/\a<=j)/\
  (∀ {d i g r j a},Qh n d s i g= .ok (r,j,a)->i<=s.length->g<=i->i<j/\j<=s.length/\a<=j)/\
  (∀ {d i g r j a},JW n d s i g= .ok (r,j,a)->i<=s.length->g<=i->i<j/\j<=s.length/\a<=j)
 |0=>⟨λh=>by simp[altE]at h,λh=>by simp[WJ]at h,λh=>by simp[rowE]at h,λh=>by simp[Qh]at h,λh=>by simp[JW]at h⟩
 |n+1=>by
  obtain⟨C,y,u,D,E⟩:=XT s n;refine⟨λ{d i g r j a} h k f=> ?_,λ{d i g l r j a} h k f=> ?_,λ{d i g l r j a} h k f=> ?_,λ{d i g r j a} h k f=> ?_,λ{d i g r j a} h k f=> ?_⟩;rw[altE]at h;split at h;cases h;rename_i r1 p o e;have b:=u e k f;have v:=y h b.2.1 b.2.2;omega;rw[WJ]at h;split at h;rename_i z;have w:=(qb.1 z).1;split at h;cases h;rename_i r1 p o e;have b:=u e om om;have v:=y h b.2.1 b.2.2;omega;cases h;omega;rw[rowE]at h;split at h;cases h;omega;split at h;cases h;omega;split at h;cases h;rename_i r1 p o e;have b:=D e k f;have v:=u h b.2.1 b.2.2;omega;rw[Qh]at h;split at h;cases h;rename_i r1 p o e;have b:=E e k f;split at h;cases h;omega;rename_i c t;have w:=(qb.1 t).1;split at h;split at h;cases h;split at h;cases h;omega;split at h;cases h;omega;split at h;cases h;omega;split at h;cases h;rename_i K A B m;have F:=Zlv m;have G:=Zvz m;cases h;omega;cases h;omega;rw[JW]at h;split at h;cases h;rename_i c t;have w:=(qb.1 t).1;split at h;cases h;split at h;split at h;cases h;split at h;cases h;rename_i r1 p o e;have b:=C e om om;split at h;rename_i q;have:=(qb.1 q).1;cases h;omega;cases h;split at h;split at h;cases h;rename_i x B m;have:=ZAn m;cases h;omega;split at h;cases h;omega;split at h;cases h;omega;split at h;cases h;omega;split at h;split at h;cases h;rename_i H m;have:=(qb.1 m).1;cases h;omega;cases h;omega
end Go.Y
namespace Go.Y
open Gl
structure Au0 where
 sets:List S4
 fol:List (List Nat)
structure Part where
 first:List Nat
 last:List Nat
 empty:Bool
section
variable (bo:List Nat->List Nat->List Nat)
def JX(a:List (List Nat))(b c:List Nat):List (List Nat):=b.foldl (λa p=>a.set p (bo (a.getD p []) c)) a
def catP(A:Au0)(a b:Part):Au0×Part:=
 (⟨A.sets,JX bo A.fol a.last b.first⟩,⟨if a.empty then bo a.first b.first else a.first,if b.empty then bo a.last b.last else b.last,a.empty&&b.empty⟩)
def Xn(b a:Int):Nat:=(if 0<=a then a else max b 1).toNat
def Zd8(A:Au0)(x:Part):Au0:=⟨A.sets,JX bo A.fol x.last x.first⟩
def repP(g:Au0->Au0×Part)(d b:Int)(n:Nat):Nat->Nat->Au0->Part->Au0×Part
 |0,_,A,a=>(A,a)
 |k+1,i,A,a=>
  let r:=g A
  let e:=if b<0/\i+1=n then Zd8 bo r.1 r.2 else r.1
  let x:Part:=⟨r.2.first,r.2.last,r.2.empty||decide (d<=(i:Int))⟩
  let c:=catP bo e a x
  repP g d b n k (i+1) c.1 c.2
def partF:Re->Au0->Au0×Part
 | .mk b g d f e _=>λA=>
  if b=1 then(⟨A.sets++ [g],A.fol++ [[]]⟩,⟨[A.sets.length],[A.sets.length],false⟩)
  else if b=5 then altF d A ⟨[],[],false⟩
  else if b=4\/b=7 then catF d A ⟨[],[],true⟩
  else if b=6 then repF d f e A
  else(A,⟨[],[],true⟩)
where
 altF:List Re->Au0->Part->Au0×Part
  | [],A,a=>(A,a)
  |r::l,A,a=>let x:=partF r A;altF l x.1 ⟨bo a.first x.2.first,bo a.last x.2.last,a.empty||x.2.empty⟩
 catF:List Re->Au0->Part->Au0×Part
  | [],A,a=>(A,a)
  |r::l,A,a=>let x:=partF r A;let c:=catP bo x.1 a x.2;catF l c.1 c.2
 repF:List Re->Int->Int->Au0->Au0×Part
  | [],_,_,A=>(A,⟨[],[],true⟩)
  |r::_,f,e,A=>repP bo (partF r) f e (Xn f e) (Xn f e) 0 A ⟨[],[],true⟩
end
end Go.Y
namespace Go.Y
open Gl
variable {bo:List Nat->List Nat->List Nat} (hbo: ∀a b x,x∈bo a b↔x∈a∨x∈b) {has:S4->UInt8->Bool}
def hasA(has:S4->UInt8->Bool)(A:Au0)(x:Nat)(c:UInt8):Bool:=match A.sets[x]? with|some s=>has s c|none=>false
abbrev folA(A:Au0)(x y:Nat):Prop:=y∈A.fol.getD x []
abbrev accA(has:S4->UInt8->Bool)(A:Au0)(p:Part)(w:List UInt8):Prop:=Acc (hasA has A) (folA A) (· ∈p.first) (· ∈p.last) (p.empty=true) w
structure Frag(has:S4->UInt8->Bool)(A A':Au0)(p:Part)(L:List UInt8->Prop):Prop where
 wf:A'.fol.length=A'.sets.length
 le:A.sets.length<=A'.sets.length
 os: ∀x,x<A.sets.length->A'.sets[x]? =A.sets[x]?
 of: ∀x,x<A.sets.length-> ∀y,folA A' x y↔folA A x y
 fi: ∀x∈p.first,A.sets.length<=x∧x<A'.sets.length
 la: ∀x∈p.last,A.sets.length<=x∧x<A'.sets.length
 cl: ∀x,A.sets.length<=x->x<A'.sets.length-> ∀y,folA A' x y->A.sets.length<=y∧y<A'.sets.length
 ac: ∀w,accA has A' p w↔L w
include hbo in
theorem Zdc: ∀(d:List Nat) (c:List (List Nat)) (f:List Nat),(∀x∈d,x<c.length)->(JX bo c d f).length=c.length/\ ∀x y,y∈(JX bo c d f).getD x []↔y∈c.getD x []\/(x∈d/\y∈f)
 | [],c,f,_=>⟨rfl,λx y=>by simp[JX]⟩
 |p::d,c,f,h=>by
  have l:=h p sm;obtain⟨j,k⟩:=Zdc d (c.set p (bo (c.getD p []) f)) f (λx g=>by rw[vJ];exact h x (by simp[g]));refine⟨by simp only[JX,uR]at j ⊢;rw[j,vJ],λx y=> ?_⟩;have e:JX bo c (p::d) f=JX bo (c.set p (bo (c.getD p []) f)) d f:=rfl;rw[e,k];by_cases g:p=x
  .subst g;have:(c.set p (bo (c.getD p []) f)).getD p []=bo (c.getD p []) f:=by simp[List.getD_eq_getElem?_getD,l]
   rw[this,hbo];simp only[List.mem_cons,true_or,true_and];constructor;rintro((h3|h3)|h3);exact .inl h3;exact .inr h3;exact .inr h3.2;rintro(h3|h3);exact .inl (.inl h3);exact .inl (.inr h3)
  .have:(c.set p (bo (c.getD p []) f)).getD x []=c.getD x []:=by
    simp only[List.getD_eq_getElem?_getD,vK,uE g]
   rw[this];have i: ¬x=p:=λe=>g e.symm;simp[i]
theorem Frag.nil(A:Au0)(c:A.fol.length=A.sets.length)(e:Bool):Frag has A A ⟨[],[],e⟩ (λw=>w= []/\e=true):=
 ⟨c,Nat.le_refl _,λ_ _=>rfl,λ_ _ _=>Iff.rfl,λx h=>(by cases h),λx h=>(by cases h),λx d f=>om,λw=>by simp[accA,Gl.Acc]⟩
theorem Frag.congr{A c:Au0}{p:Part}{L L':List UInt8->Prop}(f:Frag has A c p L)(h: ∀w,L w↔L' w):Frag has A c p L':=
 ⟨f.wf,f.le,f.os,f.of,f.fi,f.la,f.cl,λw=>(f.ac w).trans (h w)⟩
def catW(L M:List UInt8->Prop)(w:List UInt8):Prop:= ∃c d,w=c++d/\L c/\M d
theorem ZAo{A e A2:Au0}{p:Part}{L:List UInt8->Prop}(f:Frag has A e p L)(j: ∀x,x<e.sets.length->A2.sets[x]? =e.sets[x]?)(i: ∀x,A.sets.length<=x->x<e.sets.length-> ∀y,folA A2 x y↔folA e x y)(w):accA has A2 p w↔L w:=by
 rw[<-f.ac w];have g: ∀x,(A.sets.length<=x/\x<e.sets.length)->(From (hasA has A2) (folA A2) (· ∈p.last) x w↔From (hasA has e) (folA e) (· ∈p.last) x w):=λx d=>
  From.congr (R:=λx=>A.sets.length<=x/\x<e.sets.length) (λx d=>by funext c;simp only[hasA];rw[j x d.2]) (λx d y=>i x d.1 d.2 y) (λ_ _=>Iff.rfl) (λx d y h=>f.cl x d.1 d.2 y ((i x d.1 d.2 y).1 h)) w x d
 constructor;rintro(h|⟨x,h1,h2⟩);exact .inl h;exact .inr ⟨x,h1,(g x (f.fi x h1)).1 h2⟩;rintro(h|⟨x,h1,h2⟩);exact .inl h;exact .inr ⟨x,h1,(g x (f.fi x h1)).2 h2⟩
include hbo in
theorem Frag.cat{A i A2:Au0}{a b:Part}{L M:List UInt8->Prop}(f:Frag has A i a L)(g:Frag has i A2 b M):Frag has A (catP bo A2 a b).1 (catP bo A2 a b).2 (catW L M):=by
 have G: ∀x∈a.last,x<A2.fol.length:=λx d=>by rw[g.wf];have:=(f.la x d).2;have:=g.le;omega
 obtain⟨X,Y⟩:=Zdc hbo a.last A2.fol b.first G;have Z:=f.le;have P:=g.le;have o: ∀x,x∈(catP bo A2 a b).2.first↔x∈a.first\/(a.empty=true/\x∈b.first):=λx=>by
  simp only[catP];cases a.empty<;>simp[hbo]
 have t: ∀x,x∈(catP bo A2 a b).2.last↔x∈b.last\/(b.empty=true/\x∈a.last):=λx=>by
  simp only[catP];cases b.empty<;>simp[hbo,or_comm]
 have E:(catP bo A2 a b).2.empty=true↔a.empty=true/\b.empty=true:=by simp[catP]
 have n: ∀x y,folA (catP bo A2 a b).1 x y↔folA A2 x y\/(x∈a.last/\y∈b.first):=Y;have O: ∀x,(A.sets.length<=x/\x<i.sets.length)-> ∀y,folA (catP bo A2 a b).1 x y↔folA i x y\/(x∈a.last/\y∈b.first):=λx d y=>by
  rw[n,g.of x d.2 y]
 have B: ∀x,(i.sets.length<=x/\x<A2.sets.length)-> ∀y,folA (catP bo A2 a b).1 x y↔folA A2 x y:=λx d y=>by
  rw[n];constructor;rintro(h|⟨h,_⟩);exact h;have:=(f.la x h).2;omega;exact .inl
 have F: ∀x,(A.sets.length<=x/\x<i.sets.length)->(x∈(catP bo A2 a b).2.last↔x∈a.last/\b.empty=true):=λx d=>by
  rw[t];constructor;rintro(h|⟨h,z⟩);have:=(g.la x h).1;omega;exact⟨z,h⟩;rintro⟨h,z⟩;exact .inr ⟨z,h⟩
 have r: ∀x,(i.sets.length<=x/\x<A2.sets.length)->(x∈(catP bo A2 a b).2.last↔x∈b.last):=λx d=>by
  rw[t];constructor;rintro(h|⟨_,z⟩);exact h;have:=(f.la x z).2;omega;exact .inl
 refine⟨by simp only[catP];rw[X,g.wf],by simp only[catP];omega,λx d=>by simp only[catP];rw[g.os x om,f.os x d],λx d y=> ?_,λx d=> ?_,λx d=> ?_,λx k j y W=> ?_,λw=> ?_⟩;rw[n,g.of x om y,f.of x d y];constructor;rintro(h|⟨h,_⟩);exact h;have:=(f.la x h).1;omega;exact .inl;simp only[catP]at d ⊢;rcases(o x).1 (by simpa only[catP]using d)with h|⟨_,h⟩;have:=f.fi x h;omega;have:=g.fi x h;omega;simp only[catP]at d ⊢;rcases(t x).1 (by simpa only[catP]using d)with h|⟨_,h⟩;have:=g.la x h;omega;have:=f.la x h;omega;have j:x<A2.sets.length:=j;show A.sets.length<=y/\y<A2.sets.length;by_cases d:x<i.sets.length;rcases(O x ⟨k,d⟩ y).1 W with h|⟨_,h⟩;have:=f.cl x k d y h;omega;have:=g.fi y h;omega;have:=g.cl x om j y ((B x ⟨om,j⟩ y).1 W);omega
 .have hM: ∀w,accA has (catP bo A2 a b).1 b w↔M w:=λw=>ZAo g (A2:=(catP bo A2 a b).1) (λ_ _=>rfl) (λx k j y=>B x ⟨k,j⟩ y) w;have D: ∀x w,(A.sets.length<=x/\x<i.sets.length)->(From (hasA has i) (folA i) (· ∈a.last) x w↔From (hasA has (catP bo A2 a b).1) (folA i) (· ∈a.last) x w):=λx w d=>
   From.congr (R:=λx=>A.sets.length<=x/\x<i.sets.length) (λx d=>by funext c;simp only[hasA,catP];rw[g.os x d.2]) (λ_ _ _=>Iff.rfl) (λ_ _=>Iff.rfl) (λx d y h=>f.cl x d.1 d.2 y h) w x d
  have C: ∀x w,(i.sets.length<=x/\x<A2.sets.length)->(From (hasA has (catP bo A2 a b).1) (folA (catP bo A2 a b).1) (· ∈(catP bo A2 a b).2.last) x w↔From (hasA has (catP bo A2 a b).1) (folA A2) (· ∈b.last) x w):=λx w d=>
   From.congr (R:=λx=>i.sets.length<=x/\x<A2.sets.length) (λ_ _=>rfl) B r (λx d y h=>g.cl x d.1 d.2 y ((B x d y).1 h)) w x d
  have q:=Zjm (has:=hasA has (catP bo A2 a b).1) (fa:=folA i) (fb:=folA A2) (f:=folA (catP bo A2 a b).1) (la:=(· ∈a.last)) (lb:=(· ∈b.last)) (l:=(· ∈(catP bo A2 a b).2.last)) (fst:=(· ∈b.first)) (RA:=λx=>A.sets.length<=x/\x<i.sets.length) (RB:=λx=>i.sets.length<=x/\x<A2.sets.length) (eb:=b.empty=true)
   (λx d y h=>f.cl x d.1 d.2 y h) (λy h=>g.fi y h) (λx d y h=>g.cl x d.1 d.2 y h) O B F r
  have s: ∀w,Acc (hasA has (catP bo A2 a b).1) (folA A2) (· ∈b.first) (· ∈b.last) (b.empty=true) w↔M w:=λw=>g.ac w;constructor;rintro(⟨k,j⟩|⟨x,k,j⟩);obtain⟨m,p⟩:=E.1 j;exact⟨[],[],by simp[k],(f.ac []).1 (.inl ⟨rfl,m⟩),(g.ac []).1 (.inl ⟨rfl,p⟩)⟩;rcases(o x).1 k with m|⟨m,p⟩;obtain⟨u,H,e,K,N⟩:=(q w x (f.fi x m)).1 j;exact⟨u,H,e,(f.ac u).1 (.inr ⟨x,m,(D x u (f.fi x m)).2 K⟩),(s H).1 N⟩;exact⟨[],w,rfl,(f.ac []).1 (.inl ⟨rfl,m⟩),(s w).1 (.inr ⟨x,p,(C x w (g.fi x p)).1 j⟩)⟩;rintro⟨u,H,e,K,N⟩;have v:=(s H).2 N;rcases(f.ac u).2 K with ⟨k,j⟩|⟨x,k,j⟩;subst k;rw[List.nil_append]at e;subst e;rcases v with ⟨m,p⟩|⟨y,m,p⟩;exact .inl ⟨m,E.2 ⟨j,p⟩⟩;exact .inr ⟨y,(o y).2 (.inr ⟨j,m⟩),(C y w (g.fi y m)).2 p⟩;exact .inr ⟨x,(o x).2 (.inl k),(q w x (f.fi x k)).2 ⟨u,H,e,(D x u (f.fi x k)).1 j,v⟩⟩
end Go.Y
namespace Go.Y
open Gl
variable {bo:List Nat->List Nat->List Nat} (hbo: ∀a b x,x∈bo a b↔x∈a∨x∈b) {has:S4->UInt8->Bool}
include hbo in
/-- One more, beside those that were. -/
theorem Frag.alt{A j A2:Au0}{a b:Part}{L M:List UInt8->Prop}(f:Frag has A j a L)(g:Frag has j A2 b M):Frag has A A2 ⟨bo a.first b.first,bo a.last b.last,a.empty||b.empty⟩ (λw=>L w\/M w):=by
 have r:=f.le;have o:=g.le;have k: ∀x,A.sets.length<=x/\x<j.sets.length-> ∀y,folA A2 x y↔folA j x y:=λx d y=>g.of x d.2 y;refine⟨g.wf,om,λx d=>by rw[g.os x om,f.os x d],λx d y=>by rw[g.of x om y,f.of x d y],λx d=> ?_,λx d=> ?_,λx l q y p=> ?_,λw=> ?_⟩;rcases(hbo _ _ _).1 d with h|h;have:=f.fi x h;omega;have:=g.fi x h;omega;rcases(hbo _ _ _).1 d with h|h;have:=f.la x h;omega;have:=g.la x h;omega;by_cases d:x<j.sets.length;have:=f.cl x l d y ((k x ⟨l,d⟩ y).1 p);omega;have:=g.cl x om q y p;omega
 .have m: ∀x,A.sets.length<=x/\x<j.sets.length->(From (hasA has A2) (folA A2) (· ∈bo a.last b.last) x w↔From (hasA has j) (folA j) (· ∈a.last) x w):=λx d=>
   From.congr (R:=λx=>A.sets.length<=x/\x<j.sets.length) (λx d=>by funext c;simp only[hasA];rw[g.os x d.2]) k (λx d=>by
    rw[hbo];exact⟨λh=>h.elim id λh=>by have:=(g.la x h).1;omega, .inl⟩) (λx d y h=>f.cl x d.1 d.2 y ((k x d y).1 h)) w x d
  have n: ∀x,j.sets.length<=x/\x<A2.sets.length->(From (hasA has A2) (folA A2) (· ∈bo a.last b.last) x w↔From (hasA has A2) (folA A2) (· ∈b.last) x w):=λx d=>
   From.congr (R:=λx=>j.sets.length<=x/\x<A2.sets.length) (λ_ _=>rfl) (λ_ _ _=>Iff.rfl) (λx d=>by
    rw[hbo];exact⟨λh=>h.elim (λh=>by have:=(f.la x h).2;omega) id, .inr⟩) (λx d y h=>g.cl x d.1 d.2 y h) w x d
  rw[<-f.ac w,<-g.ac w];constructor;rintro(⟨e,i⟩|⟨x,e,i⟩);simp only[uS]at i;exact i.elim (λh=> .inl (.inl ⟨e,h⟩)) (λh=> .inr (.inl ⟨e,h⟩));rcases(hbo _ _ _).1 e with h|h;exact .inl (.inr ⟨x,h,(m x (f.fi x h)).1 i⟩);exact .inr (.inr ⟨x,h,(n x (g.fi x h)).1 i⟩);rintro(h|h);rcases h with ⟨e,i⟩|⟨x,e,i⟩;exact .inl ⟨e,by simp[i]⟩;exact .inr ⟨x,(hbo _ _ _).2 (.inl e),(m x (f.fi x e)).2 i⟩;rcases h with ⟨e,i⟩|⟨x,e,i⟩;exact .inl ⟨e,by simp[i]⟩;exact .inr ⟨x,(hbo _ _ _).2 (.inr e),(n x (g.fi x e)).2 i⟩
def Zon(L:List UInt8->Prop)(w:List UInt8):Prop:= ∃m,Pow L (m+1) w
def optW(e:Prop)(L:List UInt8->Prop)(w:List UInt8):Prop:=L w\/(w= []/\e)
theorem Frag.opt{A c:Au0}{a:Part}{L:List UInt8->Prop}(f:Frag has A c a L)(e:Bool):Frag has A c ⟨a.first,a.last,a.empty||e⟩ (optW (e=true) L):=
 ⟨f.wf,f.le,f.os,f.of,f.fi,f.la,f.cl,λw=>by
  unfold optW;rw[<-f.ac w];constructor;rintro(⟨h1,h2⟩|h);simp only[uS]at h2;exact h2.elim (λh=> .inl (.inl ⟨h1,h⟩)) (λh=> .inr ⟨h1,h⟩);exact .inl (.inr h)
  .rintro((⟨h1,h2⟩|h)|⟨h1,h2⟩);exact .inl ⟨h1,by simp[h2]⟩;exact .inr h
   .exact .inl ⟨h1,by simp[h2]⟩⟩
theorem Zem{L M:List UInt8->Prop}(h: ∀w,L w->M w): ∀(m:Nat) (w:List UInt8),Pow L m w->Pow M m w
 |0,_,i=>i
 |m+1,w,⟨c,d,e,f,g⟩=>⟨c,d,e,h c f,Zem h m d g⟩
theorem Zv0{L M:List UInt8->Prop}(h: ∀w,L w↔M w)(m:Nat)(w:List UInt8):Pow L m w↔Pow M m w:=⟨Zem (λw=>(h w).1) m w,Zem (λw=>(h w).2) m w⟩
theorem Zqi{F:List UInt8->Prop}{e:Prop} : ∀(m:Nat) (w:List UInt8),Pow (λw=>(w= []/\e)\/F w) m w-> ∃k,k<=m/\Pow F k w/\(k=m\/e)
 |0,w,h=>⟨0,Nat.le_refl _,h, .inl rfl⟩
 |m+1,w,⟨o,i,d,j,l⟩=>by
  obtain⟨k,p,g,c⟩:=Zqi m i l;rcases j with ⟨f,n⟩|f;subst f;rw[List.nil_append]at d;subst d;exact⟨k,om,g, .inr n⟩;refine⟨k+1,om,⟨o,i,d,f,g⟩,?_⟩;rcases c with c|c;exact .inl om;exact .inr c
include hbo in
theorem Frag.loop{A c:Au0}{a:Part}{L:List UInt8->Prop}(f:Frag has A c a L):Frag has A (Zd8 bo c a) a (Zon L):=by
 have o: ∀x∈a.last,x<c.fol.length:=λx i=>by rw[f.wf];exact(f.la x i).2
 obtain⟨B,C⟩:=Zdc hbo a.last c.fol a.first o;have d: ∀x y,folA (Zd8 bo c a) x y↔folA c x y\/(x∈a.last/\y∈a.first):=C;refine⟨by simp only[Zd8];rw[B,f.wf],f.le,f.os,λx i y=> ?_,f.fi,f.la,λx j l y F=> ?_,λw=> ?_⟩;rw[d,f.of x i y];constructor;rintro(h|⟨h,_⟩);exact h;have:=(f.la x h).1;omega;exact .inl;rcases(d x y).1 F with h|⟨_,h⟩;exact f.cl x j l y h;exact f.fi y h
 .have u: ∀w x,(A.sets.length<=x/\x<c.sets.length)->_:=λw x i=>
   Vq (has:=hasA has c) (fa:=folA c) (f:=folA (Zd8 bo c a)) (la:=(· ∈a.last)) (fst:=(· ∈a.first)) (RA:=λx=>A.sets.length<=x/\x<c.sets.length) (λx i y h=>f.cl x i.1 i.2 y h) (λy h=>f.fi y h) (λx _ y=>d x y) w.length w x (Nat.le_refl _) i
  have g: ∀w,((w= []/\a.empty=true)\/ ∃y,y∈a.first/\From (hasA has c) (folA c) (· ∈a.last) y w)↔L w:=f.ac;unfold Zon;constructor;rintro(⟨j,l⟩|⟨x,j,l⟩);exact⟨0,w,[],sm,(g w).1 (.inl ⟨j,l⟩),rfl⟩;obtain⟨r,s,m,e,p,t⟩:=(u w x (f.fi x j)).1 l;exact⟨m,r,s,e,(g r).1 (.inr ⟨x,j,p⟩),Zem (λv E=>(g v).1 (.inr E)) m s t⟩
  .rintro⟨m,D⟩;obtain⟨k,G,n,q⟩:=Zqi (m+1) w ((Zv0 (λw=>(g w).symm) (m+1) w).1 D)
   cases k with
   |zero=>
    rcases q with q|q;omega;exact .inl ⟨n,q⟩
   |succ k=>
    obtain⟨r,s,e,⟨y,p,t⟩,z⟩:=n;exact .inr ⟨y,p,(u w y (f.fi y p)).2 ⟨r,s,k,e,t,z⟩⟩
end Go.Y
namespace Go.Y
open Gl
def okRe:Re->Prop
 | .mk c _ d f e _=>c≠2/\c≠3/\(c=6->0<=f/\(e<0\/f<=e)/\d≠ [])/\okRes d
where
 okRes:List Re->Prop
  | []=>True
  |r::l=>okRe r/\okRes l
theorem VV{L L' M j:List UInt8->Prop}(h: ∀w,L w↔L' w)(g: ∀w,M w↔j w)(w):catW L M w↔catW L' j w:=by unfold catW;constructor;rintro⟨c,d,e,f,i⟩;exact⟨c,d,e,(h c).1 f,(g d).1 i⟩;rintro⟨c,d,e,f,i⟩;exact⟨c,d,e,(h c).2 f,(g d).2 i⟩
theorem Zhp{L M N:List UInt8->Prop}(w):catW (catW L M) N w↔catW L (catW M N) w:=by constructor;rintro⟨g,h,rfl,⟨v1,c,rfl,d,e⟩,f⟩;exact⟨v1,c++h,sm,d,c,h,rfl,e,f⟩;rintro⟨g,h,rfl,d,v1,c,rfl,e,f⟩;exact⟨g++v1,c,sm,⟨g,v1,rfl,d,e⟩,f⟩
theorem Zjp{L:List UInt8->Prop}(w):catW L (λv=>v= []) w↔L w:=by constructor;rintro⟨d,f,e,c,rfl⟩;rw[List.append_nil]at e;rw[e];exact c;intro h;exact⟨w,[],sm,h,rfl⟩
theorem Zqj{L:List UInt8->Prop}(w):catW (λv=>v= []) L w↔L w:=by constructor;rintro⟨d,f,e,rfl,c⟩;rw[List.nil_append]at e;rw[e];exact c;intro h;exact⟨[],w,rfl,rfl,h⟩
theorem pow_succ{L:List UInt8->Prop}(m:Nat)(w):Pow L (m+1) w↔catW L (Pow L m) w:=Iff.rfl
variable {bo:List Nat->List Nat->List Nat} (hbo: ∀a b x,x∈bo a b↔x∈a∨x∈b) {has:S4->UInt8->Bool}
def Zfs(L:List UInt8->Prop)(lo hi:Int)(n:Nat):Nat->Nat->List UInt8->Prop
 |0,_=>λw=>w= []
 |k+1,i=>catW (optW (lo<=(i:Int)) (if hi<0/\i+1=n then Zon L else L)) (Zfs L lo hi n k (i+1))
include hbo in
theorem Zqk{L:List UInt8->Prop}{g:Au0->Au0×Part}(m: ∀A:Au0,A.fol.length=A.sets.length->Frag has A (g A).1 (g A).2 L)(h d:Int)(n:Nat): ∀(k i:Nat) (e A:Au0) (c:Part) (M:List UInt8->Prop),Frag has e A c M->
  Frag has e (repP bo g h d n k i A c).1 (repP bo g h d n k i A c).2 (catW M (Zfs L h d n k i))
 |0,i,e,A,c,M,f=>f.congr λw=>(Zjp w).symm
 |k+1,i,e,A,c,M,f=>by
  have l:=m A f.wf;have o:Frag has A (if d<0/\i+1=n then Zd8 bo (g A).1 (g A).2 else(g A).1) (g A).2 (if d<0/\i+1=n then Zon L else L):=by
   by_cases j:d<0/\i+1=n;rw[uF j,uF j];exact l.loop hbo;rw[uE j,uE j];exact l
  have p:=o.opt (decide (h<=(i:Int)));have q:=f.cat hbo p;have r:=Zqk m h d n k (i+1) e _ _ _ q;refine r.congr λw=> ?_;rw[Zhp];refine VV (λ_=>Iff.rfl) (λw=>VV (λw=> ?_) (λ_=>Iff.rfl) w) w;unfold optW;simp
theorem Zhq{L:List UInt8->Prop}{lo hi:Int}{n:Nat}(h:0<=hi): ∀(k i:Nat) (w:List UInt8),Zfs L lo hi n k i w↔ ∃m,m<=k/\min k (lo-i).toNat<=m/\Pow L m w
 |0,i,w=>by
  constructor;intro q;exact⟨0,Nat.le_refl _,sm,q⟩;rintro⟨m,c,_,d⟩;have:m=0:=om;rw[this]at d;exact d
 |k+1,i,w=>by
  have p: ¬(hi<0/\i+1=n):=λt=>om;have l:=Zhq (L:=L) (lo:=lo) (hi:=hi) (n:=n) h k (i+1);show catW (optW (lo<=(i:Int)) (if hi<0/\i+1=n then Zon L else L)) (Zfs L lo hi n k (i+1)) w↔_;rw[uE p];constructor;rintro⟨j,f,e,c,d⟩;obtain⟨m,r,s,g⟩:=(l f).1 d;rcases c with c|⟨rfl,c⟩;exact⟨m+1,om,om,j,f,e,c,g⟩;rw[List.nil_append]at e;subst e;exact⟨m,om,om,g⟩
  .rintro⟨m,r,s,g⟩;by_cases o:lo<=(i:Int)
   .cases m with
    |zero=>exact⟨[],w,rfl, .inr ⟨rfl,o⟩,(l w).2 ⟨0,om,om,g⟩⟩
    |succ m=>
     obtain⟨j,f,e,c,d⟩:=g;exact⟨j,f,e, .inl c,(l f).2 ⟨m,om,om,d⟩⟩
   .cases m with
    |zero=>omega
    |succ m=>
     obtain⟨j,f,e,c,d⟩:=g;exact⟨j,f,e, .inl c,(l f).2 ⟨m,om,om,d⟩⟩
theorem Zhr{L:List UInt8->Prop}{f g:Int}{n:Nat}(h:g<0)(o:0<=f)(v:n=(max f 1).toNat): ∀(k i:Nat) (w:List UInt8),k≠0->i+k=n->(Zfs L f g n k i w↔ ∃m:Nat,f-i<=m/\Pow L m w)
 |0,_,_,s,_=>absurd rfl s
 |1,i,w,_,l=>by
  show catW (optW (f<=(i:Int)) (if g<0/\i+1=n then Zon L else L)) (λw=>w= []) w↔_;rw[uF ⟨h,l⟩,Zjp];constructor;rintro(⟨m,c⟩|⟨c,d⟩);exact⟨m+1,om,c⟩;exact⟨0,om,c⟩
  .rintro⟨m,c,d⟩
   cases m with
   |zero=>exact .inr ⟨d,om⟩
   |succ m=>exact .inl ⟨m,d⟩
 |k+2,i,w,_,u=>by
  have t: ¬(g<0/\i+1=n):=λz=>om;have r:=Zhr (L:=L) h o v (k+1) (i+1);show catW (optW (f<=(i:Int)) (if g<0/\i+1=n then Zon L else L)) (Zfs L f g n (k+1) (i+1)) w↔_;rw[uE t];constructor;rintro⟨q,j,e,c,d⟩;obtain⟨m,y,p⟩:=(r j om om).1 d;rcases c with c|⟨_,c⟩;exact⟨m+1,om,q,j,e,c,p⟩;omega
  .rintro⟨m,y,p⟩
   cases m with
   |zero=>omega
   |succ m=>
    obtain⟨q,j,e,c,d⟩:=p;exact⟨q,j,e, .inl c,(r j om om).2 ⟨m,om,d⟩⟩
mutual
theorem Zb1(hbo: ∀a b x,x∈bo a b↔x∈a\/x∈b): ∀(r:Re),okRe r-> ∀A:Au0,A.fol.length=A.sets.length->Frag has A (partF bo r A).1 (partF bo r A).2 (ReL has r)
 | .mk d t e s k n,N,A,q=>by
  obtain⟨k2,k3,Z,G⟩:=N;unfold partF ReL;by_cases z:d=1
  .subst z;simp only[vG,show¬((1:Int)=0) from dc,vF];refine⟨by simp[q],sm,λx i=>by rw[vC i],λx i y=> ?_,λx i=>by simp at i;subst i;simp,λx i=>by simp at i;subst i;simp,λx j f y o=> ?_,λw=> ?_⟩;show y∈(A.fol++ [[]]).getD x []↔_;rw[List.getD_eq_getElem?_getD,vC om,<-List.getD_eq_getElem?_getD]
   .have i:x=A.sets.length:=by simp at f;omega
    subst i;have o:y∈(A.fol++ [[]]).getD A.sets.length []:=o;rw[List.getD_eq_getElem?_getD,<-q,vB (Nat.le_refl _)]at o;simp at o
   .have P: ∀c,hasA has ⟨A.sets++ [t],A.fol++ [[]]⟩ A.sets.length c=has t c:=λc=>by simp[hasA]
    have W: ∀y,¬folA ⟨A.sets++ [t],A.fol++ [[]]⟩ A.sets.length y:=λy o=>by
     have o:y∈(A.fol++ [[]]).getD A.sets.length []:=o;rw[List.getD_eq_getElem?_getD,<-q,vB (Nat.le_refl _)]at o;simp at o
    constructor
    .rintro(⟨_,h⟩|⟨x,j,f⟩);cases h
     .simp at j;subst j
      cases w with
      |nil=>exact f.elim
      |cons c w=>
       obtain⟨u,⟨E,_⟩|⟨y,E,_⟩⟩:=f;exact⟨c,by rw[E],by rw[<-P c];exact u⟩;exact absurd E (W y)
    .rintro⟨c,rfl,h⟩;exact .inr ⟨A.sets.length,sm,by rw[P];exact h, .inl ⟨rfl,sm⟩⟩
  .rw[uE z];by_cases C:d=5;subst C;simp only[vG,show¬((5:Int)=0) from dc,show¬((5:Int)=1) from dc,show¬((5:Int)=4\/(5:Int)=7) from dc,vF];exact(Zql hbo e G A A ⟨[],[],false⟩ _ (Frag.nil A q false)).congr λw=>sm
   .rw[uE C];by_cases B:d=4\/d=7
    .have F: ¬d=0:=om;simp only[uF B,uE F,uE z];exact(Zqm hbo e G A A ⟨[],[],true⟩ _ (Frag.nil A q true)).congr λw=>by
      rw[VV (L':=λv=>v= []) (λv=>sm) (λ_=>Iff.rfl)];exact Zqj w
    .rw[uE B];by_cases D:d=6
     .subst D;simp only[vG,show¬((6:Int)=0) from dc,show¬((6:Int)=1) from dc,show¬((6:Int)=4\/(6:Int)=7) from dc,show¬((6:Int)=5) from dc,vF];obtain⟨H,X,K⟩:=Z rfl
      cases e with
      |nil=>
       exact absurd rfl K
      |cons r l=>
       have Y:=Zb1 hbo r G.1;have j:=Zqk hbo (has:=has) (L:=ReL has r) (g:=partF bo r) Y s k (Xn s k) (Xn s k) 0 A A ⟨[],[],true⟩ _ (Frag.nil A q true);refine j.congr λw=> ?_;rw[VV (L':=λv=>v= []) (λv=>sm) (λ_=>Iff.rfl),Zqj];show _↔ ∃m:Nat,s<=(m:Int)/\(k<0\/(m:Int)<=k)/\Pow (ReL has r) m w;by_cases p:k<0
       .have O:Xn s k=(max s 1).toNat:=by unfold Xn;rw[uE om]
        rw[Zhr p H O _ 0 w om om];constructor;rintro⟨m,j,f⟩;exact⟨m,om, .inl p,f⟩;rintro⟨m,j,_,f⟩;exact⟨m,om,f⟩
       .have O:Xn s k=k.toNat:=by unfold Xn;rw[uF om]
        rw[Zhq om,O];constructor;rintro⟨m,j,f,u⟩;exact⟨m,om, .inr om,u⟩;rintro⟨m,j,f,u⟩;exact⟨m,om,om,u⟩
     .rw[uE D];refine(Frag.nil A q true).congr λw=> ?_;by_cases c0:d=0;simp[c0];simp[c0,z,B,C,D]
theorem Zql(hbo: ∀a b x,x∈bo a b↔x∈a\/x∈b): ∀(l:List Re),okRe.okRes l-> ∀(d A:Au0) (c:Part) (M:List UInt8->Prop),Frag has d A c M->Frag has d (partF.altF bo l A c).1 (partF.altF bo l A c).2 (λw=>M w\/ReL.altL has l w)
 | [],_,d,A,c,M,f=>f.congr λw=>by simp[ReL.altL]
 |r::l,e,d,A,c,M,f=>by
  have g:=Zb1 hbo r e.1 A f.wf;have h:=f.alt hbo g;exact(Zql hbo l e.2 d _ _ _ h).congr λw=>by simp only[ReL.altL];exact or_assoc
theorem Zqm(hbo: ∀a b x,x∈bo a b↔x∈a\/x∈b): ∀(l:List Re),okRe.okRes l-> ∀(d A:Au0) (c:Part) (M:List UInt8->Prop),Frag has d A c M->Frag has d (partF.catF bo l A c).1 (partF.catF bo l A c).2 (catW M (ReL.catL has l))
 | [],_,d,A,c,M,f=>f.congr λw=>(Zjp w).symm
 |r::l,e,d,A,c,M,f=>by
  have g:=Zb1 hbo r e.1 A f.wf;have h:=f.cat hbo g;exact(Zqm hbo l e.2 d _ _ _ h).congr λw=>Zhp w
end
end Go.Y
namespace Go.Y
open Gl
def wfRe(B:Nat):Re->Prop
 | .mk a _ b d c _=>(a=6->0<=d/\d<=8/\(c= -1\/(d<=c/\c<=8))/\b.length=1)/\(a≠4->a≠5->a≠6->a≠7->b= [])/\b.length<=B/\wfRes B b
where
 wfRes (B:Nat):List Re->Prop
  | []=>True
  |r::l=>wfRe B r/\wfRes B l
def anchB:Re->Bool
 | .mk a _ b _ _ _=>a==2||a==3||anchs b
where
 anchs:List Re->Bool
  | []=>false
  |r::l=>anchB r||anchs l
theorem Wn{B:Nat} : ∀ {l m:List Re},wfRe.wfRes B l->wfRe.wfRes B m->wfRe.wfRes B (l++m)
 | [],_,_,h=>h
 |r::l,m,h,g=>by
  rw[qs,wfRe.wfRes];rw[wfRe.wfRes]at h;exact⟨h.1,Wn h.2 g⟩
theorem Zqn{B:Nat}{k:Int}(f:k=4\/k=5): ∀ {l:List Re},l.length<=B->wfRe.wfRes B l->wfRe B (sevS k l)
 | [],_,_=>by rw[sevS,wfRe];exact⟨λh=>absurd h dc,λ_ _ _ _=>rfl,qx _,by rw[wfRe.wfRes];trivial⟩
 | [r],_,h=>by rw[wfRe.wfRes]at h;exact h.1
 |a::b::l,c,h=>by
  rw[sevS,wfRe];exact⟨λh=> om,λd e _ _=> om,c,h⟩
  all_goals simp
theorem Za3{B:Nat}{k:Int}{s}(a:k=1\/k=2\/k=3):wfRe B (.mk k s [] 0 0 0):=by rw[wfRe];exact⟨λh=> om,λ_ _ _ _=>rfl,qx _,by rw[wfRe.wfRes];trivial⟩
theorem Zft{B:Nat}{k:Int}{s}{r}{c b n:Int}(d:1<=B)(a:k=7\/(k=6/\0<=c/\c<=8/\(b= -1\/(c<=b/\b<=8))))(h:wfRe B r):wfRe B (.mk k s [r] c b n):=by
 rw[wfRe];refine⟨λe=> ?_,λf g i j=> om,su d,by rw[wfRe.wfRes,wfRe.wfRes];exact⟨h,trivial⟩⟩;rcases a with a|a;omega;exact⟨a.2.1,a.2.2.1,a.2.2.2,rfl⟩
theorem Zlw{s}{i j:Nat}{l x:Int}(h:XW s i l= .ok (x,j)):0<=x/\x<=8/\l<=x:=by unfold XW at h;split at h;rename_i c _;split at h;cases h;omega;cases h;cases h
theorem Zs1{s}{i j:Nat}{b a:Int}(h:Xi s i= .ok (b,a,j)):0<=b/\b<=8/\(a= -1\/(b<=a/\a<=8)):=by
 unfold Xi at h;split at h;cases h;rename_i f k c;have g:=Zlw c;split at h;split at h;cases h;omega;split at h;cases h;rename_i e m d;have l:=Zlw d;split at h;cases h;omega;cases h;split at h;cases h;omega;cases h
theorem ZC4(s:List UInt8)(B:Nat)(y:s.length+1<=B): ∀n,
  (∀ {d i g r j b},altE n d s i g= .ok (r,j,b)->i<=s.length->g<=i->wfRe B r)/\
  (∀ {d i g l r j b},WJ n d s i g l= .ok (r,j,b)->i<=s.length->g<=i->l.length<=i+1->wfRe.wfRes B l->wfRe B r)/\
  (∀ {d i g l r j b},rowE n d s i g l= .ok (r,j,b)->i<=s.length->g<=i->l.length<=i->wfRe.wfRes B l->wfRe B r)/\
  (∀ {d i g r j b},Qh n d s i g= .ok (r,j,b)->i<=s.length->g<=i->wfRe B r)/\
  (∀ {d i g r j b},JW n d s i g= .ok (r,j,b)->i<=s.length->g<=i->wfRe B r)
 |0=>⟨λh=>by simp[altE]at h,λh=>by simp[WJ]at h,λh=>by simp[rowE]at h,λh=>by simp[Qh]at h,λh=>by simp[JW]at h⟩
 |n+1=>by
  obtain⟨E,v,q,F,G⟩:=ZC4 s B y n;obtain⟨L,N,u,D,O⟩:=XT s n;refine⟨λ{d i g r j b} h k f=> ?_,λ{d i g l r j b} h k f t m=> ?_,λ{d i g l r j b} h k f t m=> ?_,λ{d i g r j b} h k f=> ?_,λ{d i g r j b} h k f=> ?_⟩;rw[altE]at h;split at h;cases h;rename_i r1 p o e;have a:=u e k f;exact v h a.2.1 a.2.2 sm (by rw[wfRe.wfRes,wfRe.wfRes];exact⟨q e k f (qx _) (by rw[wfRe.wfRes];trivial),trivial⟩);rw[WJ]at h;split at h;rename_i w;have C:=(qb.1 w).1;split at h;cases h;rename_i r1 p o e;have a:=u e om om;exact v h a.2.1 a.2.2 (by simp;omega) (Wn m (by rw[wfRe.wfRes,wfRe.wfRes];exact⟨q e om om (qx _) (by rw[wfRe.wfRes];trivial),trivial⟩));cases h;exact Zqn (.inr rfl) om m;rw[rowE]at h;split at h;cases h;exact Zqn (.inl rfl) om m;split at h;cases h;exact Zqn (.inl rfl) om m;split at h;cases h;rename_i r1 p o e;have a:=D e k f;exact q h a.2.1 a.2.2 (by simp;omega) (Wn m (by rw[wfRe.wfRes,wfRe.wfRes];exact⟨F e k f,trivial⟩));rw[Qh]at h;split at h;cases h;rename_i r1 p o e;have a:=G e k f;split at h;cases h;exact a;split at h;split at h;cases h;split at h;cases h;exact Zft om (.inr ⟨rfl,om⟩) a;split at h;cases h;exact Zft om (.inr ⟨rfl,om⟩) a;split at h;cases h;exact Zft om (.inr ⟨rfl,om⟩) a;split at h;cases h;rename_i K A H x;cases h;exact Zft om (.inr ⟨rfl,Zs1 x⟩) a;cases h;exact a;rw[JW]at h;split at h;cases h;rename_i c z;have t:=(qb.1 z).1;split at h;cases h;split at h;split at h;cases h;split at h;cases h;rename_i r1 p o e;split at h;cases h;exact Zft om (.inl rfl) (E e om om);cases h;split at h;split at h;cases h;cases h;exact Za3 (.inl rfl);split at h;cases h;exact Za3 (.inl rfl);split at h;cases h;exact Za3 (.inr (.inl rfl));split at h;cases h;exact Za3 (.inr (.inr rfl));split at h;split at h;cases h;cases h;exact Za3 (.inl rfl);cases h;exact Za3 (.inl rfl)
theorem ZAp{s:List UInt8}{r}(h:Qx s= .ok r):wfRe 201 r:=by
 unfold Qx at h;split at h;cases h;split at h;cases h;rename_i r1 c b a;split at h;cases h;cases h;exact(ZC4 s 201 om _).1 a (qx _) (qx _)
mutual
theorem Zjq{B:Nat} : ∀(r:Re),wfRe B r->anchB r=false->okRe r
 | .mk c k a p o n,h,g=>by
  rw[wfRe]at h;rw[anchB]at g;simp only[uk,beq_eq_false_iff_ne]at g;obtain⟨⟨d,f⟩,i⟩:=g;rw[okRe];refine⟨d,f,λe=> ?_,Zlx a h.2.2.2 i⟩;obtain⟨j,l,m,b⟩:=h.1 e;exact⟨j,om,λe=>by rw[e]at b;simp at b⟩
theorem Zlx{B:Nat} : ∀(l:List Re),wfRe.wfRes B l->anchB.anchs l=false->okRe.okRes l
 | [],_,_=>by rw[okRe.okRes];trivial
 |r::l,h,g=>by
  rw[wfRe.wfRes]at h;rw[anchB.anchs,uk]at g;rw[okRe.okRes];exact⟨Zjq r h.1 g.1,Zlx l h.2 g.2⟩
end
/-! ### Spots -/
def cntRe:Re->Nat
 | .mk b _ a d c _=>if b=1 then 1 else if b=6 then Xn d c*cnts a else cnts a
where
 cnts:List Re->Nat
  | []=>0
  |r::l=>cntRe r+cnts l
def spotN:Re->Nat
 | .mk a _ b d c _=>min (if a=6 then spots b (if a=1 then 1 else 0)*Xn d c else spots b (if a=1 then 1 else 0)) 301
where
 spots:List Re->Nat->Nat
  | [],n=>n
  |r::l,n=>spots l (min (n+spotN r) 301)
theorem Zjr{b a:Int}(h:b<=8)(g:a<=8):Xn b a<=8:=by unfold Xn;split<;>omega
mutual
theorem Zen{B:Nat} : ∀(r:Re),wfRe B r->(spotN r<=301/\(cntRe r<=300->spotN r=cntRe r)/\(300<cntRe r->spotN r=301))
 | .mk b w a o m n,h=>by
  rw[wfRe]at h;obtain⟨l,q,_,s⟩:=h;rw[spotN,cntRe];by_cases j:b=1;have:a= []:=q om om om om;subst this;rw[uE om,uF j,uF j,spotN.spots];omega
  .rw[uE j,uE j];obtain⟨p,c,g⟩:=Zfu a s 0 om;rw[uJ]at c g;by_cases d:b=6
   .rw[uF d,uF d];have v:Xn o m<=8:=Zjr (by have:=l d;omega) (by have:=l d;omega);generalize Xn o m=t at v;generalize spotN.spots a 0=x at p c g;generalize cntRe.cnts a=y at c g;refine⟨om,λf=> ?_,λf=> ?_⟩;by_cases i:t=0;subst i;simp;have u:y<=t*y:=Nat.le_mul_of_pos_left y om;have:=c om;subst this;rw[Nat.mul_comm];omega
    .by_cases k:y<=300;have:=c k;subst this;rw[Nat.mul_comm];omega
     .have:=g om;subst this;have i:t≠0:=λe=>by subst e;simp at f
      have:301<=301*t:=Nat.le_mul_of_pos_right 301 om;omega
   .rw[uE d,uE d];refine⟨om,λf=> ?_,λf=> ?_⟩;rw[c f];omega;rw[g f];rfl
theorem Zfu{B:Nat} : ∀(l:List Re),wfRe.wfRes B l-> ∀n≤301,(spotN.spots l n<=301/\(n+cntRe.cnts l<=300->spotN.spots l n=n+cntRe.cnts l)/\(300<n+cntRe.cnts l->spotN.spots l n=301))
 | [],_,n,g=>by rw[spotN.spots,cntRe.cnts];omega
 |r::l,h,n,g=>by
  rw[wfRe.wfRes]at h;rw[spotN.spots,cntRe.cnts];obtain⟨j,b,e⟩:=Zen r h.1;obtain⟨c,d,a⟩:=Zfu l h.2 (min (n+spotN r) 301) om;refine⟨c,λf=> ?_,λf=> ?_⟩;have:=b om;rw[d om];omega;by_cases i:cntRe r<=300;have:=b i;by_cases k:n+cntRe r<=301;rw[a om];rw[a om];have:=e om;rw[a om]
end
theorem Zv1{B:Nat}{r:Re}(h:wfRe B r)(c:spotN r<=300):cntRe r<=300:=by obtain⟨_,_,a⟩:=Zen r h;by_cases b:cntRe r<=300;exact b;rw[a om]at c;omega
end Go.Y
