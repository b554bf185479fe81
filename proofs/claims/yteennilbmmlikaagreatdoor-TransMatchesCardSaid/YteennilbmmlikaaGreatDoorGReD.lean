/- A part of the proof. -/
import Derived.Test.YteennilbmmlikaaGreatDoorYFrz
import Derived.Test.YteennilbmmlikaaGreatDoorYOm
namespace Go.Y
set_option maxRecDepth 1000000
set_option maxHeartbeats 0
mutual
def Zd:Re->List V
 | .mk k s l lo a n=> [.i .i64 k, .i .u64 s.1, .i .u64 s.2.1, .i .u64 s.2.2.1, .i .u64 s.2.2.2, .ts (Zuv l) l.length none, .i .i64 lo, .i .i64 a, .i .i64 n]
def Zuv:List Re->List V
 | []=> []
 |r::l=>Zd r++Zuv l
end
theorem Zpv: ∀l:List Re,Zuv l=row Zd l
 | []=>by rw[Zuv];rfl
 |r::l=>by rw[Zuv,Zpv l];rfl
theorem Zm(k:Int)(s:S4)(l)(a c n:Int):Zd (.mk k s l a c n)= [I k,U s.1,U s.2.1,U s.2.2.1,U s.2.2.2,lst Zd l,I a,I c,I n]:=by
 rw[Zd,Zpv]
theorem ZW(r):(Zd r).length=9:=by
 obtain⟨k,s,l,a,c,n⟩:=r;rw[Zm];rfl
theorem XJ(r):Xb (Zd r)=true:=by
 obtain⟨k,s,l,a,c,n⟩:=r;rw[Zm];rfl
theorem Zfd(r):Zp (Zd r)=true:=by
 obtain⟨k,s,l,a,c,n⟩:=r;rw[Zm];rfl
def Xs:Re:= .mk 0 (0,0,0,0) [] 0 0 0
/-! ### The words of a set -/
def Xf(p:Nat->Bool)(k m:Nat):Nat:=(List.range m).foldl (fun(n:Nat) b=>if p (64*k+b)then n+2 ^ b else n) 0
theorem XZ(p:Nat->Bool)(k m:Nat):Xf p k (m+1)=if p (64*k+m)then Xf p k m+2 ^ m else Xf p k m:=by
 simp only[Xf,List.range_succ,List.foldl_append,uR,List.foldl_nil]
theorem WH(p:Nat->Bool)(k:Nat): ∀m,Xf p k m<2 ^ m
 |0=>by simp[Xf]
 |m+1=>by
  rw[XZ,Nat.pow_succ];have:=WH p k m;split<;>omega
theorem Zbv(p:Nat->Bool)(k:Nat):Zr1 p k=(Xf p k 64:Nat):=rfl
theorem VS{p:Nat->Bool}{k:Nat} : ∀ {m:Nat},(∀b,b<m->p (64*k+b)=false)->Xf p k m=0
 |0,_=>rfl
 |m+1,h=>by rw[XZ,h m om,VS λb a=>h b om];rfl
theorem Zk8{p:Nat->Bool}{k b:Nat}(c:p (64*k+b)=true): ∀ {m:Nat},b<m->(∀x,x<m->x≠b->p (64*k+x)=false)->Xf p k m=2 ^ b
 |m+1,h,a=>by
  rw[XZ];by_cases e:m=b
  .subst e;rw[uF c,VS λx d=>a x om om];omega
  .rw[a m om e,Zk8 c om λx g f=>a x om f];rfl
theorem Zd7{n:Nat}(h:n<2 ^ 64):IntKind.u64.wrap (n:Int)=(n:Int):=by
 simp only[IntKind.wrap,IntKind.signed,IntKind.bits];have:((n:Int)) % 2 ^ 64=n:=om;simpa using this
theorem Znu{b:Nat}(a:b<64):IntKind.u64.wrap (1*2 ^ min b IntKind.u64.bits)=((2 ^ b:Nat):Int):=by
 have e:min b IntKind.u64.bits=b:=Nat.min_eq_left (by have:IntKind.u64.bits=64:=rfl;omega);rw[e,Int.one_mul,show((2:Int) ^ b)=((2 ^ b:Nat):Int) by norm_cast];exact Zd7 (Nat.pow_lt_pow_right dc a)
theorem ZId{n b:Nat}(h:n<2 ^ b)(a:b<64):IntKind.u64.wrap (((BitVec.ofInt IntKind.u64.bits (n:Int)|||BitVec.ofInt IntKind.u64.bits (IntKind.u64.wrap (1*2 ^ min b IntKind.u64.bits))).toNat:Nat):Int)=((n+2 ^ b:Nat):Int):=by
 have e:2 ^ b<2 ^ 64:=Nat.pow_lt_pow_right dc a;have f:2 ^ b*2<=2 ^ 64:=by rw[<-Nat.pow_succ];exact Nat.pow_le_pow_right dc a
 rw[Znu a];have c: ∀m:Nat,m<2 ^ 64->(BitVec.ofInt IntKind.u64.bits (m:Int)).toNat=m:=by
  intro m g;show(BitVec.ofInt 64 (m:Int)).toNat=m;rw[BitVec.toNat_ofInt];omega
 rw[BitVec.toNat_or,c n om,c _ e];have d:n|||2 ^ b=n+2 ^ b:=by
  have:=Nat.two_pow_add_eq_or_of_lt h 1;rw[uY]at this;rw[Nat.or_comm,<-this,Nat.add_comm]
 rw[d];exact Zd7 om
theorem Zuw(c:Nat):Int.tdiv (c:Int) 64=((c / 64:Nat):Int):=by rw[Int.tdiv_eq_ediv_of_nonneg om];omega
theorem Zhf(c:Nat):Int.tmod (c:Int) 64=((c % 64:Nat):Int):=by rw[Int.tmod_eq_emod_of_nonneg om];omega
def QD(p:Nat->Bool)(c:Nat):List V:= [.i .u64 (Xf p 0 (min 64 c):Nat), .i .u64 (Xf p 1 (min 64 (c-64)):Nat), .i .u64 (Xf p 2 (min 64 (c-128)):Nat), .i .u64 (Xf p 3 (min 64 (c-192)):Nat)]
theorem Zux(p:Nat->Bool){c:Nat}(h:c<256):Zr 1 ((QD p c).drop (0+c / 64*1))=some [U (Xf p (c / 64) (c % 64):Nat)]:=by
 have:c / 64=0\/c / 64=1\/c / 64=2\/c / 64=3:=om;rcases this with e|e|e|e
 .rw[e,show c % 64=min 64 c from om];rfl
 .rw[e,show c % 64=min 64 (c-64) from om];rfl
 .rw[e,show c % 64=min 64 (c-128) from om];rfl
 .rw[e,show c % 64=min 64 (c-192) from om];rfl
theorem Zze(p:Nat->Bool){c:Nat}(h:c<256)(hp:p c=false):QD p (c+1)=QD p c:=by
 have a: ∀k,k<4->Xf p k (min 64 (c+1-64*k))=Xf p k (min 64 (c-64*k)):=by
  intro k l;by_cases e:c / 64=k
  .rw[show min 64 (c+1-64*k)=c % 64+1 from om,show min 64 (c-64*k)=c % 64 from om,XZ,show 64*k+c % 64=c from om,hp];rfl
  .rw[show min 64 (c+1-64*k)=min 64 (c-64*k) from om]
 have f:=a 0 om;have d:=a 1 om;have j:=a 2 om;have g:=a 3 om;simp only[Nat.mul_zero,Nat.sub_zero,uY,show 64*2=128 by rfl,show 64*3=192 by rfl]at f d j g;simp only[QD,f,d,j,g]
theorem Zuy(p:Nat->Bool){c:Nat}(h:c<256)(hp:p c=true):splice (QD p c) (0+c / 64*1) [U ((Xf p (c / 64) (c % 64)+2 ^ (c % 64):Nat):Int)]=QD p (c+1):=by
 have g: ∀k,c / 64=k->Xf p k (min 64 (c+1-64*k))=Xf p (c / 64) (c % 64)+2 ^ (c % 64):=by
  intro k e;rw[show min 64 (c+1-64*k)=c % 64+1 from om,XZ,show 64*k+c % 64=c from om,uF hp,e]
 have f: ∀k,c / 64≠k->Xf p k (min 64 (c+1-64*k))=Xf p k (min 64 (c-64*k)):=by
  intro k e;rw[show min 64 (c+1-64*k)=min 64 (c-64*k) from om]
 have l:=g 0;have j:=g 1;have m:=g 2;have n:=g 3;have a:=f 0;have Zeu:=f 1;have Zgt:=f 2;have d:=f 3;simp only[Nat.mul_zero,Nat.sub_zero,uY,show 64*2=128 by rfl,show 64*3=192 by rfl]at l j m n a Zeu Zgt d;have:c / 64=0\/c / 64=1\/c / 64=2\/c / 64=3:=om;rcases this with e|e|e|e
 .simp only[QD,l e,Zeu om,Zgt om,d om];rw[e];rfl
 .simp only[QD,a om,j e,Zgt om,d om];rw[e];rfl
 .simp only[QD,a om,Zeu om,m e,d om];rw[e];rfl
 .simp only[QD,a om,Zeu om,Zgt om,n e];rw[e];rfl
theorem Zpw{a}{i j:Nat}{l x:Int}(h:XU a i l= .ok (x,j)):i<=j:=by
 unfold XU at h;split at h
 .split at h
  .injection h with h;injection h with e1 e2;omega
  .cases h
 .cases h
theorem Zk9{a}{i j:Nat}{e c:Int}(h:Xk a i= .ok (e,c,j)):i<=j:=by
 unfold Xk at h;split at h
 .cases h
 .next d=>
  have g:=Zpw d;split at h
  .split at h
   .injection h with h;injection h with e1 h;injection h with e2 e3;omega
   .split at h
    .cases h
    .next f=>
     have k:=Zpw f;split at h
     .injection h with h;injection h with e1 h;injection h with e2 e3;omega
     .cases h
  .split at h
   .injection h with h;injection h with e1 h;injection h with e2 e3;omega
   .cases h
theorem Zzf{a}{i j:Nat}{x:S4}(h:QN a i= .ok (x,j)):i<=j:=by
 unfold QN at h;simp only at h;split at h
 .cases h
 .next c=>
  have d:=(Zay c);injection h with h;injection h with e1 e2;split at d<;>omega
section
variable (a pre post:List UInt8)
end
theorem Zd8{s}{i j:Nat}{c:Int}(h:endS s i= .ok (c,j)):0<=c/\c<256:=by
 unfold endS at h;split at h
 .cases h
 .rename_i d _;split at h
  .cases h
  .split at h
   .split at h
    .cases h
    .rename_i e _;cases h;have:=e.toNat_lt;omega
   .cases h;have:=d.toNat_lt;omega
theorem Zuz{s}{i j:Nat}{x:Span}(h:XS s i= .ok (x,j)):(0<=x.lo/\x.lo<256)/\(0<=x.hi/\x.hi<256):=by
 unfold XS at h;split at h
 .cases h
 .rename_i l k c;have a:=Zd8 c;split at h
  .split at h
   .cases h
   .rename_i f g e;have d:=Zd8 e;split at h
    .cases h
    .cases h;exact⟨a,d⟩
  .cases h;exact⟨a,a⟩
theorem Zi9{s} : ∀ {n i:Nat} {a l:List Span} {j:Nat},setS n s i a= .ok (l,j)->(∀x∈a,(0<=x.lo/\x.lo<256)/\(0<=x.hi/\x.hi<256))->
  (∀x∈l,(0<=x.lo/\x.lo<256)/\(0<=x.hi/\x.hi<256))/\l.length<=a.length+(j-i)
 |0,_,_,_,_,h,_=>by cases h
 |n+1,i,a,l,j,h,f=>by
  simp only[setS]at h;split at h
  .cases h;exact⟨f,om⟩
  .split at h
   .cases h
   .rename_i x k e;have g:=Zi5 e;have d:=Zi9 h (λy c=>by
     rcases qA.1 c with c|c
     .exact f y c
     .rw[vE]at c;subst c;exact Zuz e)
    have m:=Zay h;refine⟨d.1,?_⟩;have:=d.2;simp only[qf,qh,qp]at this;omega
theorem Zu0{s:List UInt8}{i j:Nat}{f c:Int}(h:Xk s i= .ok (f,c,j)):j<=s.length:=by
 unfold Xk at h;split at h
 .cases h
 .rename_i d k g;split at h
  .split at h
   .rename_i a;have:=(qb.1 a).1;cases h;omega
   .split at h
    .cases h
    .split at h
     .rename_i e;have:=(qb.1 e).1;cases h;omega
     .cases h
  .split at h
   .rename_i a;have:=(qb.1 a).1;cases h;omega
   .cases h
theorem Zzg{s:List UInt8}{i j:Nat}{x:S4}(h:QN s i= .ok (x,j)):i<=j/\j<=s.length:=by
 refine⟨Zzf h,?_⟩;unfold QN at h;simp only[]at h;split at h
 .cases h
 .rename_i l k a;have:=Zay a;cases h;omega
theorem XR(s:List UInt8): ∀n,
  (∀ {d i g r j a},altE n d s i g= .ok (r,j,a)->i<=s.length->g<=i->i<=j/\j<=s.length/\a<=j)/\
  (∀ {d i g l r j a},WF n d s i g l= .ok (r,j,a)->i<=s.length->g<=i->i<=j/\j<=s.length/\a<=j)/\
  (∀ {d i g l r j a},rowE n d s i g l= .ok (r,j,a)->i<=s.length->g<=i->i<=j/\j<=s.length/\a<=j)/\
  (∀ {d i g r j a},Qg n d s i g= .ok (r,j,a)->i<=s.length->g<=i->i<j/\j<=s.length/\a<=j)/\
  (∀ {d i g r j a},JV n d s i g= .ok (r,j,a)->i<=s.length->g<=i->i<j/\j<=s.length/\a<=j)
 |0=>⟨λh=>by simp[altE]at h,λh=>by simp[WF]at h,λh=>by simp[rowE]at h,λh=>by simp[Qg]at h,λh=>by simp[JV]at h⟩
 |n+1=>by
  obtain⟨F,B,w,C,E⟩:=XR s n;refine⟨λ{d i g r j a} h k m=> ?_,λ{d i g l r j a} h k m=> ?_,λ{d i g l r j a} h k m=> ?_,λ{d i g r j a} h k m=> ?_,λ{d i g r j a} h k m=> ?_⟩
  .rw[altE]at h;split at h
   .cases h
   .rename_i r1 t u f;have e:=w f k m;have z:=B h e.2.1 e.2.2;omega
  .rw[WF]at h;split at h
   .rename_i D;have A:=(qb.1 D).1;split at h
    .cases h
    .rename_i r1 t u f;have e:=w f om om;have z:=B h e.2.1 e.2.2;omega
   .cases h;omega
  .rw[rowE]at h;split at h
   .cases h;omega
   .split at h
    .cases h;omega
    .split at h
     .cases h
     .rename_i r1 t u f;have e:=C f k m;have z:=w h e.2.1 e.2.2;omega
  .rw[Qg]at h;split at h
   .cases h
   .rename_i r1 t u f;have e:=E f k m;split at h
    .cases h;omega
    .rename_i c v;have A:=(qb.1 v).1;split at h
     .split at h
      .cases h
      .split at h
       .cases h;omega
       .split at h
        .cases h;omega
        .split at h
         .cases h;omega
         .split at h
          .cases h
          .rename_i O G H o;have N:=Zk9 o;have L:=Zu0 o;cases h;omega
     .cases h;omega
  .rw[JV]at h;split at h
   .cases h
   .rename_i c v;have A:=(qb.1 v).1;split at h
    .cases h
    .split at h
     .split at h
      .cases h
      .split at h
       .cases h
       .rename_i r1 t u f;have e:=F f om om;split at h
        .rename_i y;have:=(qb.1 y).1;cases h;omega
        .cases h
     .split at h
      .split at h
       .cases h
       .rename_i x H o;have:=Zzg o;cases h;omega
      .split at h
       .cases h;omega
       .split at h
        .cases h;omega
        .split at h
         .cases h;omega
         .split at h
          .split at h
           .cases h
           .rename_i K o;have:=(qb.1 o).1;cases h;omega
          .cases h;omega
end Go.Y
namespace Go.Y
open Gl
structure Au0 where
 sets:List S4
 fol:List (List Nat)
structure Part where
 first:List Nat
 last:List Nat
 empty:Bool
section
variable (bo:List Nat->List Nat->List Nat)
def Zaz(a:List (List Nat))(c d:List Nat):List (List Nat):=c.foldl (λa p=>a.set p (bo (a.getD p []) d)) a
def catP(A:Au0)(a b:Part):Au0×Part:=
 (⟨A.sets,Zaz bo A.fol a.last b.first⟩,⟨if a.empty then bo a.first b.first else a.first,if b.empty then bo a.last b.last else b.last,a.empty&&b.empty⟩)
def XF(c a:Int):Nat:=(if 0<=a then a else max c 1).toNat
def Znv(A:Au0)(x:Part):Au0:=⟨A.sets,Zaz bo A.fol x.last x.first⟩
def repP(g:Au0->Au0×Part)(e d:Int)(n:Nat):Nat->Nat->Au0->Part->Au0×Part
 |0,_,A,a=>(A,a)
 |k+1,i,A,a=>
  let r:=g A
  let f:=if d<0/\i+1=n then Znv bo r.1 r.2 else r.1
  let x:Part:=⟨r.2.first,r.2.last,r.2.empty||decide (e<=(i:Int))⟩
  let c:=catP bo f a x
  repP g e d n k (i+1) c.1 c.2
def partF:Re->Au0->Au0×Part
 | .mk kind set d f e _=>λA=>
  if kind=1 then(⟨A.sets++ [set],A.fol++ [[]]⟩,⟨[A.sets.length],[A.sets.length],false⟩)
  else if kind=5 then altF d A ⟨[],[],false⟩
  else if kind=4\/kind=7 then catF d A ⟨[],[],true⟩
  else if kind=6 then repF d f e A
  else(A,⟨[],[],true⟩)
where
 altF:List Re->Au0->Part->Au0×Part
  | [],A,a=>(A,a)
  |r::l,A,a=>let x:=partF r A;altF l x.1 ⟨bo a.first x.2.first,bo a.last x.2.last,a.empty||x.2.empty⟩
 catF:List Re->Au0->Part->Au0×Part
  | [],A,a=>(A,a)
  |r::l,A,a=>let x:=partF r A;let c:=catP bo x.1 a x.2;catF l c.1 c.2
 repF:List Re->Int->Int->Au0->Au0×Part
  | [],_,_,A=>(A,⟨[],[],true⟩)
  |r::_,f,e,A=>repP bo (partF r) f e (XF f e) (XF f e) 0 A ⟨[],[],true⟩
end
end Go.Y
namespace Go.Y
open Gl
variable {bo:List Nat->List Nat->List Nat} (hbo: ∀a b x,x∈bo a b↔x∈a∨x∈b) {has:S4->UInt8->Bool}
def catW(L M:List UInt8->Prop)(w:List UInt8):Prop:= ∃w1 c,w=w1++c/\L w1/\M c
end Go.Y
namespace Go.Y
open Gl
theorem pow_succ{L:List UInt8->Prop}(m:Nat)(w):Pow L (m+1) w↔catW L (Pow L m) w:=Iff.rfl
variable {bo:List Nat->List Nat->List Nat} (hbo: ∀a b x,x∈bo a b↔x∈a∨x∈b) {has:S4->UInt8->Bool}
end Go.Y
namespace Go.Y
open Gl
def wfRe(B:Nat):Re->Prop
 | .mk kind _ a c d _=>(kind=6->0<=c/\c<=8/\(d= -1\/(c<=d/\d<=8))/\a.length=1)/\(kind≠4->kind≠5->kind≠6->kind≠7->a= [])/\a.length<=B/\wfRes B a
where
 wfRes (B:Nat):List Re->Prop
  | []=>True
  |r::l=>wfRe B r/\wfRes B l
def anchB:Re->Bool
 | .mk kind _ a _ _ _=>kind==2||kind==3||anchs a
where
 anchs:List Re->Bool
  | []=>false
  |r::l=>anchB r||anchs l
theorem Wm{B:Nat} : ∀ {l m:List Re},wfRe.wfRes B l->wfRe.wfRes B m->wfRe.wfRes B (l++m)
 | [],_,_,h=>h
 |r::l,m,h,g=>by
  rw[qs,wfRe.wfRes];rw[wfRe.wfRes]at h;exact⟨h.1,Wm h.2 g⟩
theorem Zpx{B:Nat}{k:Int}(d:k=4\/k=5): ∀ {l:List Re},l.length<=B->wfRe.wfRes B l->wfRe B (sevS k l)
 | [],_,_=>by rw[sevS,wfRe];exact⟨λh=>absurd h dc,λ_ _ _ _=>rfl,qx _,by rw[wfRe.wfRes];trivial⟩
 | [r],_,h=>by rw[wfRe.wfRes]at h;exact h.1
 |a::b::l,c,h=>by
  rw[sevS,wfRe]
  .exact⟨λh=> om,λe f _ _=> om,c,h⟩
  all_goals simp
theorem Za0{B:Nat}{k:Int}{s}(a:k=1\/k=2\/k=3):wfRe B (.mk k s [] 0 0 0):=by
 rw[wfRe];exact⟨λh=> om,λ_ _ _ _=>rfl,qx _,by rw[wfRe.wfRes];trivial⟩
theorem Zfe{B:Nat}{k:Int}{s}{r}{d c n:Int}(f:1<=B)(a:k=7\/(k=6/\0<=d/\d<=8/\(c= -1\/(d<=c/\c<=8))))(h:wfRe B r):wfRe B (.mk k s [r] d c n):=by
 rw[wfRe];refine⟨λe=> ?_,λj m g l=> om,by simpa using f,by rw[wfRe.wfRes,wfRe.wfRes];exact⟨h,trivial⟩⟩;rcases a with a|a
 .omega
 .exact⟨a.2.1,a.2.2.1,a.2.2.2,rfl⟩
theorem Zla{s}{i j:Nat}{l x:Int}(h:XU s i l= .ok (x,j)):0<=x/\x<=8/\l<=x:=by
 unfold XU at h;split at h
 .rename_i c _;split at h
  .cases h;omega
  .cases h
 .cases h
theorem Zr2{s}{i j:Nat}{c a:Int}(h:Xk s i= .ok (c,a,j)):0<=c/\c<=8/\(a= -1\/(c<=a/\a<=8)):=by
 unfold Xk at h;split at h
 .cases h
 .rename_i d k e;have l:=Zla e;split at h
  .split at h
   .cases h;omega
   .split at h
    .cases h
    .rename_i f m g;have n:=Zla g;split at h
     .cases h;omega
     .cases h
  .split at h
   .cases h;omega
   .cases h
theorem ZBx(s:List UInt8)(B:Nat)(F:s.length+1<=B): ∀n,
  (∀ {d i g r j e},altE n d s i g= .ok (r,j,e)->i<=s.length->g<=i->wfRe B r)/\
  (∀ {d i g l r j e},WF n d s i g l= .ok (r,j,e)->i<=s.length->g<=i->l.length<=i+1->wfRe.wfRes B l->wfRe B r)/\
  (∀ {d i g l r j e},rowE n d s i g l= .ok (r,j,e)->i<=s.length->g<=i->l.length<=i->wfRe.wfRes B l->wfRe B r)/\
  (∀ {d i g r j e},Qg n d s i g= .ok (r,j,e)->i<=s.length->g<=i->wfRe B r)/\
  (∀ {d i g r j e},JV n d s i g= .ok (r,j,e)->i<=s.length->g<=i->wfRe B r)
 |0=>⟨λh=>by simp[altE]at h,λh=>by simp[WF]at h,λh=>by simp[rowE]at h,λh=>by simp[Qg]at h,λh=>by simp[JV]at h⟩
 |n+1=>by
  obtain⟨w1,y,v,G,z⟩:=ZBx s B F n;obtain⟨O,L,x,C,N⟩:=XR s n;refine⟨λ{d i g r j e} h k m=> ?_,λ{d i g l r j e} h k m w o=> ?_,λ{d i g l r j e} h k m w o=> ?_,λ{d i g r j e} h k m=> ?_,λ{d i g r j e} h k m=> ?_⟩
  .rw[altE]at h;split at h
   .cases h
   .rename_i r1 t u f;have a:=x f k m;exact y h a.2.1 a.2.2 sm (by rw[wfRe.wfRes,wfRe.wfRes];exact⟨v f k m (qx _) (by rw[wfRe.wfRes];trivial),trivial⟩)
  .rw[WF]at h;split at h
   .rename_i D;have H:=(qb.1 D).1;split at h
    .cases h
    .rename_i r1 t u f;have a:=x f om om;exact y h a.2.1 a.2.2 (by simp;omega) (Wm o (by rw[wfRe.wfRes,wfRe.wfRes];exact⟨v f om om (qx _) (by rw[wfRe.wfRes];trivial),trivial⟩))
   .cases h;exact Zpx (.inr rfl) om o
  .rw[rowE]at h;split at h
   .cases h;exact Zpx (.inl rfl) om o
   .split at h
    .cases h;exact Zpx (.inl rfl) om o
    .split at h
     .cases h
     .rename_i r1 t u f;have a:=C f k m;exact v h a.2.1 a.2.2 (by simp;omega) (Wm o (by rw[wfRe.wfRes,wfRe.wfRes];exact⟨G f k m,trivial⟩))
  .rw[Qg]at h;split at h
   .cases h
   .rename_i r1 t u f;have a:=z f k m;split at h
    .cases h;exact a
    .split at h
     .split at h
      .cases h
      .split at h
       .cases h;exact Zfe om (.inr ⟨rfl,om⟩) a
       .split at h
        .cases h;exact Zfe om (.inr ⟨rfl,om⟩) a
        .split at h
         .cases h;exact Zfe om (.inr ⟨rfl,om⟩) a
         .split at h
          .cases h
          .rename_i W E P K;cases h;exact Zfe om (.inr ⟨rfl,Zr2 K⟩) a
     .cases h;exact a
  .rw[JV]at h;split at h
   .cases h
   .rename_i c A;have w:=(qb.1 A).1;split at h
    .cases h
    .split at h
     .split at h
      .cases h
      .split at h
       .cases h
       .rename_i r1 t u f;split at h
        .cases h;exact Zfe om (.inl rfl) (w1 f om om)
        .cases h
     .split at h
      .split at h
       .cases h
       .cases h;exact Za0 (.inl rfl)
      .split at h
       .cases h;exact Za0 (.inl rfl)
       .split at h
        .cases h;exact Za0 (.inr (.inl rfl))
        .split at h
         .cases h;exact Za0 (.inr (.inr rfl))
         .split at h
          .split at h
           .cases h
           .cases h;exact Za0 (.inl rfl)
          .cases h;exact Za0 (.inl rfl)
theorem Zzh{s:List UInt8}{r}(h:Qz s= .ok r):wfRe 201 r:=by
 unfold Qz at h;split at h
 .cases h
 .split at h
  .cases h
  .rename_i r1 d c a;split at h
   .cases h
   .cases h;exact(ZBx s 201 om _).1 a (qx _) (qx _)
/-! ### Spots -/
def cntRe:Re->Nat
 | .mk kind _ a c d _=>if kind=1 then 1 else if kind=6 then XF c d*cnts a else cnts a
where
 cnts:List Re->Nat
  | []=>0
  |r::l=>cntRe r+cnts l
def spotN:Re->Nat
 | .mk kind _ a c d _=>min (if kind=6 then spots a (if kind=1 then 1 else 0)*XF c d else spots a (if kind=1 then 1 else 0)) 301
where
 spots:List Re->Nat->Nat
  | [],n=>n
  |r::l,n=>spots l (min (n+spotN r) 301)
theorem Zja{c a:Int}(h:c<=8)(g:a<=8):XF c a<=8:=by
 unfold XF;split<;>omega
mutual
theorem Zd9{B:Nat} : ∀(r:Re),wfRe B r->(spotN r<=301/\(cntRe r<=300->spotN r=cntRe r)/\(300<cntRe r->spotN r=301))
 | .mk kind set a u m n,h=>by
  rw[wfRe]at h;obtain⟨o,C,_,A⟩:=h;rw[spotN,cntRe];by_cases k:kind=1
  .have:a= []:=C om om om om;subst this;rw[uE om,uF k,uF k,spotN.spots];omega
  .rw[uE k,uE k];obtain⟨w,c,j⟩:=Zff a A 0 om;rw[uJ]at c j;by_cases d:kind=6
   .rw[uF d,uF d];have v:XF u m<=8:=Zja (by have:=o d;omega) (by have:=o d;omega);generalize XF u m=t at v;generalize spotN.spots a 0=x at w c j;generalize cntRe.cnts a=y at c j;refine⟨om,λf=> ?_,λf=> ?_⟩
    .by_cases g:t=0
     .subst g;simp
     .have z:y<=t*y:=Nat.le_mul_of_pos_left y om;have:=c om;subst this;rw[Nat.mul_comm];omega
    .by_cases l:y<=300
     .have:=c l;subst this;rw[Nat.mul_comm];omega
     .have:=j om;subst this;have g:t≠0:=λe=>by subst e;simp at f
      have:301<=301*t:=Nat.le_mul_of_pos_right 301 om;omega
   .rw[uE d,uE d];refine⟨om,λf=> ?_,λf=> ?_⟩
    .rw[c f];omega
    .rw[j f];rfl
theorem Zff{B:Nat} : ∀(l:List Re),wfRe.wfRes B l-> ∀n≤301,(spotN.spots l n<=301/\(n+cntRe.cnts l<=300->spotN.spots l n=n+cntRe.cnts l)/\(300<n+cntRe.cnts l->spotN.spots l n=301))
 | [],_,n,e=>by rw[spotN.spots,cntRe.cnts];omega
 |r::l,h,n,e=>by
  rw[wfRe.wfRes]at h;rw[spotN.spots,cntRe.cnts];obtain⟨m,c,j⟩:=Zd9 r h.1;obtain⟨g,d,a⟩:=Zff l h.2 (min (n+spotN r) 301) om;refine⟨g,λf=> ?_,λf=> ?_⟩
  .have:=c om;rw[d om];omega
  .by_cases hr:cntRe r<=300
   .have:=c hr;by_cases k:n+cntRe r<=301
    .rw[a om]
    .rw[a om]
   .have:=j om;rw[a om]
end
theorem Zu1{B:Nat}{r:Re}(h:wfRe B r)(a:spotN r<=300):cntRe r<=300:=by
 obtain⟨_,_,d⟩:=Zd9 r h;by_cases c:cntRe r<=300
 .exact c
 .rw[d om]at a;omega
end Go.Y
namespace Go.Y
set_option maxRecDepth 1000000
set_option maxHeartbeats 0
def Ja(l:List Int):Prop:=l.Pairwise (· < ·)
def putS:List Int->Int->List Int
 | [],n=> [n]
 |a::l,n=>if a<n then a::putS l n else if a=n then a::l else n::a::l
def allS(l more:List Int):List Int:=more.foldl putS l
theorem Zjb{x n:Int} : ∀ {l:List Int},x∈putS l n↔x=n\/x∈l
 | []=>by simp[putS]
 |a::l=>by
  unfold putS;split
  .rw[List.mem_cons,Zjb,List.mem_cons];grind
  .split
   .rename_i h;subst h;simp
   .simp
theorem Zfg{n:Int} : ∀ {l:List Int},Ja l->Ja (putS l n)
 | [],_=>by simp[putS,Ja]
 |a::l,h=>by
  obtain⟨e,f⟩:=List.pairwise_cons.1 h;unfold putS;split
  .rename_i d;refine List.pairwise_cons.2 ⟨λx c=> ?_,Zfg f⟩;rcases Zjb.1 c with rfl|c
   .exact d
   .exact e x c
  .split
   .exact h
   .rename_i g j;refine List.pairwise_cons.2 ⟨λx c=> ?_,h⟩;rcases List.mem_cons.1 c with rfl|c
    .omega
    .have:=e x c;omega
theorem Zbw{x:Int} : ∀ {more l:List Int},x∈allS l more↔x∈l\/x∈more
 | [],l=>by simp[allS]
 |n::r,l=>by
  have h:allS l (n::r)=allS (putS l n) r:=rfl;rw[h,Zbw,Zjb,List.mem_cons];grind
theorem WI: ∀ {more l:List Int},Ja l->Ja (allS l more)
 | [],l,h=>h
 |n::r,l,h=>by
  have e:allS l (n::r)=allS (putS l n) r:=rfl;rw[e];exact WI (Zfg h)
theorem Zhg: ∀ {a b:List Int},Ja a->Ja b->(∀x,x∈a↔x∈b)->a=b
 | [],[],_,_,_=>rfl
 | [],y::b,_,_,h=>by have:=(h y).2 sm;cases this
 |x::a,[],_,_,h=>by have:=(h x).1 sm;cases this
 |x::a,y::b,n,m,h=>by
  obtain⟨g,k⟩:=List.pairwise_cons.1 n;obtain⟨j,l⟩:=List.pairwise_cons.1 m;have f:x=y:=by
   have c:x∈y::b:=(h x).1 sm;have d:y∈x::a:=(h y).2 sm;rcases List.mem_cons.1 c with c|c
   .exact c
   .rcases List.mem_cons.1 d with d|d
    .exact d.symm
    .have:=j x c;have:=g y d;omega
  subst f;rw[Zhg k l λz=> ?_];constructor
  .intro hz;rcases List.mem_cons.1 ((h z).1 (uv _ hz))with e|e
   .subst e;have:=g z hz;omega
   .exact e
  .intro hz;rcases List.mem_cons.1 ((h z).2 (uv _ hz))with e|e
   .subst e;have:=j z hz;omega
   .exact e
def Xl:List Int->List Int
 | []=> []
 | [a]=> [a]
 |a::b::l=>if a=b then Xl (b::l)else a::Xl (b::l)
theorem VT{x:Int} : ∀ {l:List Int},x∈Xl l↔x∈l
 | []=>by simp[Xl]
 | [a]=>by simp[Xl]
 |a::b::l=>by
  unfold Xl;split
  .rename_i h;subst h;rw[VT];simp
  .rw[List.mem_cons,VT,List.mem_cons (a:=x) (b:=a)]
theorem WJ: ∀ {l:List Int},l.Pairwise (· <= ·)->Ja (Xl l)
 | [],_=>by simp[Xl,Ja]
 | [a],_=>by simp[Xl,Ja]
 |a::b::l,h=>by
  obtain⟨f,d⟩:=List.pairwise_cons.1 h;unfold Xl;split
  .exact WJ d
  .rename_i e;refine List.pairwise_cons.2 ⟨λx c=> ?_,WJ d⟩;have c:=VT.1 c;have g:=f b sm;rcases List.mem_cons.1 c with rfl|c
   .omega
   .have:=(List.pairwise_cons.1 d).1 x c;omega
theorem Zr3{a s:List Int}(c:s.Pairwise (· <= ·))(d: ∀x,x∈s↔x∈a):Xl s=allS [] a:=
 Zhg (WJ c) (WI (by simp[Ja])) λx=>by rw[VT,d,Zbw];simp
abbrev Set4:=Int×Int×Int×Int
structure Au where
 sets:List Set4
 first:List Int
 last:List Int
 follow:List (List Int)
 empty:Bool
def okAt(l:List Int)(n:Int)(i:Nat):Bool:= !decide (l.getD i 0<0)&& !decide (n<=l.getD i 0)&& !(decide (0<i)&&decide (l.getD i 0<=l.getD (i-1) 0))
def ZOw(e a d c:Int):Nat->Int
 |0=>e
 |1=>a
 |2=>d
 |_=>c
abbrev Zgu(x:Set4)(k:Nat):Int:=ZOw x.1 x.2.1 x.2.2.1 x.2.2.2 k
def hasN(x:Set4)(c:Nat):Bool:=((Zgu x (c / 64)).fdiv ((2:Int) ^ (c % 64))) % 2==1
abbrev set0:Set4:=(0,0,0,0)
def havL(a:List Set4)(l:List Int)(c:Nat):List Int:=l.filter λp=>hasN (a.getD p.toNat set0) c
def inR(a:Au)(p:Int):Bool:=decide (0<=p)&&decide (p<a.sets.length)
def Zfh(a:Au)(c:Nat)(p:Int):List Int:=if inR a p then havL a.sets (a.follow.getD p.toNat []) c else []
def catL(a:Au)(ps:List Int)(c:Nat):List Int:=ps.flatMap (Zfh a c)
def Zgv(a:Au)(ps:List Int)(c:Nat):List Int:=allS [] (catL a ps c)
def hasI(l:List Int)(x:Int):Bool:=l.any λy=>x==y
def Zfi(a:Au)(ps:List Int):Bool:=ps.any λp=>hasI a.last p
end Go.Y
namespace Go.Y
open Gl
abbrev ints(l:List Nat):List Int:=l.map fun(n:Nat)=>(n:Int)
def auF(A:Au0)(p:Part):Au:=⟨A.sets,ints p.first,ints p.last,A.fol.map ints,p.empty⟩
theorem Zpy{l:List Nat}{x:Int}(h:x∈ints l): ∃n:Nat,x=n/\n∈l:=by
 obtain⟨n,a,e⟩:=uW.1 h;exact⟨n,e.symm,a⟩
def Zr4(bo:List Nat->List Nat->List Nat)(r:Re):Au:=auF (partF bo r ⟨[],[]⟩).1 (partF bo r ⟨[],[]⟩).2
end Go.Y
namespace Go.Y
open Gl
def boS(a b:List Nat):List Nat:=(allS [] (ints a++ints b)).map Int.toNat
theorem ZD5(a b:List Nat)(x:Nat):x∈boS a b↔x∈a\/x∈b:=by
 unfold boS;simp only[uW,Zbw,List.not_mem_nil,false_or,qA];constructor
 .rintro⟨y,h|h,rfl⟩
  .obtain⟨n,c,rfl⟩:=h;exact .inl (by simpa using c)
  .obtain⟨n,c,rfl⟩:=h;exact .inr (by simpa using c)
 .rintro(h|h)
  .exact⟨(x:Int), .inl ⟨x,h,rfl⟩,sm⟩
  .exact⟨(x:Int), .inr ⟨x,h,rfl⟩,sm⟩
theorem Zhh: ∀ {l:List Int},(∀x∈l,0<=x)->ints (l.map Int.toNat)=l
 | [],_=>rfl
 |x::l,h=>by
  have d:=h x sm;have a:=Zhh (l:=l) λy c=>h y (by simp[c]);simp only[ints,qz,List.map_map]at a ⊢;rw[a]
  congr 1
  omega
theorem Zu2(a b:List Nat):ints (boS a b)=allS [] (ints a++ints b):=by
 refine Zhh λx c=> ?_;rw[Zbw]at c;rcases c with c|c
 .cases c
 .rcases qA.1 c with c|c
  .obtain⟨n,rfl,_⟩:=Zpy c;omega
  .obtain⟨n,rfl,_⟩:=Zpy c;omega
theorem Znw{l:List Nat} :Ja (ints l)↔l.Pairwise (· < ·):=by
 unfold Ja ints;rw[List.pairwise_map];exact⟨λh=>h.imp λh=>om,λh=>h.imp λh=>om⟩
def Rz(n:Nat)(l:List Nat):Prop:=l.Pairwise (· < ·)/\ ∀x∈l,x<n
theorem Rz.mono{n m:Nat}{l}(h:Rz n l)(a:n<=m):Rz m l:=⟨h.1,λx c=>qv (h.2 x c) a⟩
theorem Rz.nil(n:Nat):Rz n []:=⟨.nil,λx a=>by cases a⟩
theorem Rz.bo{n:Nat}{a b:List Nat}(c: ∀x∈a,x<n)(d: ∀x∈b,x<n):Rz n (boS a b):=
 ⟨Znw.1 (by rw[Zu2];exact WI .nil),λx e=>((ZD5 a b x).1 e).elim (c x) (d x)⟩
theorem ZBy: ∀ {l:List Nat} {k n:Nat},l.Pairwise (· < ·)->(∀x∈l,k<=x/\x<n)->l.length<=n-k
 | [],_,_,_,_=>qx _
 |x::l,k,n,h,g=>by
  obtain⟨c,d⟩:=List.pairwise_cons.1 h;have e:=g x sm;have:=ZBy (k:=x+1) (n:=n) d λy a=>⟨c y a,(g y (by simp[a])).2⟩;rw[qh];omega
theorem Rz.len{n:Nat}{l:List Nat}(h:Rz n l):l.length<=n:=by
 have:=ZBy (k:=0) h.1 λx a=>⟨qx _,h.2 x a⟩;omega
structure AuB(A:Au0):Prop where
 wf:A.fol.length=A.sets.length
 fo: ∀l∈A.fol,Rz A.sets.length l
structure PaB(n:Nat)(p:Part):Prop where
 fi:Rz n p.first
 la:Rz n p.last
theorem PaB.mono{n m:Nat}{p:Part}(h:PaB n p)(a:n<=m):PaB m p:=⟨h.fi.mono a,h.la.mono a⟩
theorem PaB.nil(n:Nat)(e:Bool):PaB n ⟨[],[],e⟩:=⟨.nil n, .nil n⟩
theorem Zlb{n:Nat}{e:List Nat}(j: ∀x∈e,x<n): ∀(c:List Nat) (a:List (List Nat)),(∀l∈a,Rz n l)->(Zaz boS a c e).length=a.length/\ ∀l∈Zaz boS a c e,Rz n l
 | [],a,h=>⟨rfl,h⟩
 |p::c,a,h=>by
  have k: ∀l∈a.set p (boS (a.getD p []) e),Rz n l:=λl g=>by
   rcases List.mem_or_eq_of_mem_set g with g|rfl
   .exact h l g
   .refine Rz.bo (λx d=> ?_) j;rw[qw]at d
    cases f:a[p]? with
    |none=>rw[f]at d;cases d
    |some m=>rw[f]at d;exact(h m (List.mem_of_getElem? f)).2 x d
  obtain⟨o,r⟩:=Zlb j c _ k;exact⟨by show(Zaz boS (a.set p _) c e).length=_;rw[o,vI],r⟩
theorem AuB.link{A:Au0}(h:AuB A){a c:List Nat}(d: ∀x∈c,x<A.sets.length):AuB ⟨A.sets,Zaz boS A.fol a c⟩:=by
 obtain⟨e,f⟩:=Zlb d a A.fol h.fo;exact⟨e.trans h.wf,f⟩
theorem ZIe{A:Au0}{a b:Part}(h:AuB A)(d:PaB A.sets.length a)(c:PaB A.sets.length b):AuB (catP boS A a b).1/\PaB A.sets.length (catP boS A a b).2:=by
 refine⟨h.link c.fi.2,?_,?_⟩
 .show Rz _ (if a.empty then boS a.first b.first else a.first);split
  .exact Rz.bo d.fi.2 c.fi.2
  .exact d.fi
 .show Rz _ (if b.empty then boS a.last b.last else b.last);split
  .exact Rz.bo d.la.2 c.la.2
  .exact c.la
theorem ZD6{g:Au0->Au0×Part}{c:Nat}(o: ∀A,AuB A->AuB (g A).1/\PaB (g A).1.sets.length (g A).2/\(g A).1.sets.length=A.sets.length+c)(e d:Int)(n:Nat):
  ∀(k i:Nat) (A:Au0) (a:Part),AuB A->PaB A.sets.length a->AuB (repP boS g e d n k i A a).1/\PaB (repP boS g e d n k i A a).1.sets.length (repP boS g e d n k i A a).2/\(repP boS g e d n k i A a).1.sets.length=A.sets.length+k*c
 |0,i,A,a,l,m=>⟨l,m,by simp[repP]⟩
 |k+1,i,A,a,l,m=>by
  obtain⟨r,j,z⟩:=o A l;rw[repP]
  try simp only[]
  have f:AuB (if d<0/\i+1=n then Znv boS (g A).1 (g A).2 else(g A).1)/\(if d<0/\i+1=n then Znv boS (g A).1 (g A).2 else(g A).1).sets.length=(g A).1.sets.length:=by
   split
   .exact⟨r.link j.fi.2,rfl⟩
   .exact⟨r,rfl⟩
  generalize (if d<0/\i+1=n then Znv boS (g A).1 (g A).2 else(g A).1)=h at f;obtain⟨v,u⟩:=f;have w:PaB h.sets.length ⟨(g A).2.first,(g A).2.last,(g A).2.empty||decide (e<=(i:Int))⟩:=by rw[u];exact⟨j.fi,j.la⟩
  obtain⟨c1,c2⟩:=ZIe v (m.mono om) w;have t:(catP boS h a ⟨(g A).2.first,(g A).2.last,(g A).2.empty||decide (e<=(i:Int))⟩).1.sets.length=h.sets.length:=rfl
  obtain⟨r1,y,x⟩:=ZD6 o e d n k (i+1) _ _ c1 (by rw[t];exact c2);exact⟨r1,y,by rw[x,t,u,z,ur];omega⟩
mutual
theorem Zak{B:Nat} : ∀(r:Re),wfRe B r-> ∀A,AuB A->AuB (partF boS r A).1/\PaB (partF boS r A).1.sets.length (partF boS r A).2/\(partF boS r A).1.sets.length=A.sets.length+cntRe r
 | .mk kind set a o t n,h,A,c=>by
  rw[wfRe]at h;obtain⟨v,w,_,e⟩:=h;rw[partF,cntRe]
  dsimp only
  by_cases j:kind=1
  .rw[uF j,uF j];refine⟨⟨by simp[c.wf],λl d=> ?_⟩,⟨⟨sm,λx g=> ?_⟩,⟨sm,λx g=> ?_⟩⟩,sm⟩
   .rcases qA.1 d with d|d
    .exact(c.fo l d).mono sm
    .rw[vE]at d;subst d;exact Rz.nil _
   .simp at g;simp[g]
   .simp at g;simp[g]
  rw[uE j,uE j];by_cases m:kind=5
  .rw[uF m,uE om];exact Zzi a e A c _ (PaB.nil _ _)
  rw[uE m];by_cases k:kind=4\/kind=7
  .rw[uF k,uE om];exact Zpz a e A c _ (PaB.nil _ _)
  rw[uE k];by_cases f:kind=6
  .rw[uF f,uF f];have u:=(v f).2.2.2
   match a,u,e with
   | [r],_,e=>
    rw[wfRe.wfRes]at e;rw[partF.repF,cntRe.cnts,cntRe.cnts,Nat.add_zero];exact ZD6 (λA c=>Zak r e.1 A c) o t _ _ 0 A _ c (PaB.nil _ _)
  .rw[uE f,uE f];have:a= []:=w om om om om;subst this;rw[cntRe.cnts];exact⟨c,PaB.nil _ _,rfl⟩
theorem Zzi{B:Nat} : ∀(l:List Re),wfRe.wfRes B l-> ∀A,AuB A-> ∀a,PaB A.sets.length a->AuB (partF.altF boS l A a).1/\PaB (partF.altF boS l A a).1.sets.length (partF.altF boS l A a).2/\(partF.altF boS l A a).1.sets.length=A.sets.length+cntRe.cnts l
 | [],_,A,d,a,e=>by rw[partF.altF,cntRe.cnts];exact⟨d,e,rfl⟩
 |r::l,h,A,d,a,e=>by
  rw[wfRe.wfRes]at h;rw[partF.altF,cntRe.cnts];obtain⟨k,f,g⟩:=Zak r h.1 A d;have c:=e.mono (show A.sets.length<=(partF boS r A).1.sets.length from om);obtain⟨m,j,n⟩:=Zzi l h.2 _ k ⟨boS a.first (partF boS r A).2.first,boS a.last (partF boS r A).2.last,a.empty||(partF boS r A).2.empty⟩ ⟨Rz.bo c.fi.2 f.fi.2,Rz.bo c.la.2 f.la.2⟩;exact⟨m,j,by rw[n,g];omega⟩
theorem Zpz{B:Nat} : ∀(l:List Re),wfRe.wfRes B l-> ∀A,AuB A-> ∀a,PaB A.sets.length a->AuB (partF.catF boS l A a).1/\PaB (partF.catF boS l A a).1.sets.length (partF.catF boS l A a).2/\(partF.catF boS l A a).1.sets.length=A.sets.length+cntRe.cnts l
 | [],_,A,c,a,e=>by rw[partF.catF,cntRe.cnts];exact⟨c,e,rfl⟩
 |r::l,h,A,c,a,e=>by
  rw[wfRe.wfRes]at h;rw[partF.catF,cntRe.cnts];obtain⟨k,o,g⟩:=Zak r h.1 A c;have d:=e.mono (show A.sets.length<=(partF boS r A).1.sets.length from om);obtain⟨c1,c2⟩:=ZIe k d o;have f:(catP boS (partF boS r A).1 a (partF boS r A).2).1.sets.length=(partF boS r A).1.sets.length:=rfl;obtain⟨m,j,n⟩:=Zpz l h.2 _ c1 _ (by rw[f];exact c2);exact⟨m,j,by rw[n,f,g];omega⟩
end
end Go.Y
namespace Go.Y
set_option maxRecDepth 1000000
set_option maxHeartbeats 0
theorem Zlc{g:Type}{f:g->List V}(c: ∀x,(f x).length=1): ∀(l:List g) (i:Nat) (x:g),i<l.length->splice (row f l) i (f x)=row f (l.set i x)
 |y::l,0,x,_=>by
  have d:row f (y::l)=f y++row f l:=rfl;have j:row f ((y::l).set 0 x)=f x++row f l:=rfl;rw[d,j];obtain⟨a,e⟩:=List.length_eq_one_iff.1 (c y);rw[e];simp only[qs,qy,splice,c,List.drop_succ_cons,ql]
 |y::l,i+1,x,h=>by
  have d:row f (y::l)=f y++row f l:=rfl;have j:row f ((y::l).set (i+1) x)=f y++row f (l.set i x):=rfl;rw[d,j];obtain⟨a,e⟩:=List.length_eq_one_iff.1 (c y);rw[e];simp only[qs,qy,splice];rw[Zlc c l i x (by simpa using h)]
end Go.Y
