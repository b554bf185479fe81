/- A part of the proof. -/
import Derived.Test.YteennilbmmlikaaGreatDoorGTrF
import Derived.Test.YteennilbmmlikaaGreatDoorYAny3
import Derived.Test.YteennilbmmlikaaGreatDoorYTryhP
import Derived.Test.YteennilbmmlikaaGreatDoorYLoop
namespace Go.Y
set_option maxRecDepth 1000000
set_option maxHeartbeats 0
def lvM(lv:Int):Int:=if lv=3 then 4 else lv
def FR(o:Option Int)(p:Bool×Int):Prop:=(∀g,o=some g->p=(true,g))/\(o=none->p.1=false)
theorem FR.none{g:Int} :FR Option.none (false,g):=⟨(λ_ h=>by cases h),λ_=>rfl⟩
theorem FR.some{g:Int} :FR (Option.some g) (true,g):=⟨(λ_ h=>by cases h;rfl),λh=>by cases h⟩
theorem FR.ite{c:Prop} [Decidable c] {d:Prop} [Decidable d] {o:Option Int} {p:Bool×Int} {g:Int} (h:FR o p) (a:c↔ ¬d):FR (if c then o else Option.none) (if d then(false,g)else p):=by
 by_cases e:d
 .rw[uF e,uE (λf=>(a.1 f) e)];exact FR.none
 .rw[uE e,uF (a.2 e)];exact h
mutual
theorem Zhw: ∀(r:Re) (lv j g:Int),(lv=0\/lv=1\/lv=2\/lv=3)->FR (rightF r lv j g) (formF r (lvM lv) j g)
 | .mk k s e o m n,lv,j,g,a=>by
  have t:=Zf5 e;rw[rightF,formF];by_cases l:Zfo k s o m n=false
  .rw[uF l,uF l];exact FR.none
  rw[uE l,uE l];by_cases F:k=0
  .subst F;rw[uF rfl,uE (show¬((0:Int)==7)=true from dc),uE (show¬((0:Int)==6)=true from dc),uE (show¬((0:Int)==4)=true from dc),uE (show¬((0:Int)==5)=true from dc)];refine FR.ite FR.some ?_;rcases a with rfl|rfl|rfl|rfl<;>cases e<;>simp[lvM,ltI,leI]<;>omega
  rw[uE F];by_cases E:k=1
  .subst E;rw[uF rfl,uE (show¬((1:Int)==7)=true from dc),uE (show¬((1:Int)==6)=true from dc),uE (show¬((1:Int)==4)=true from dc),uE (show¬((1:Int)==5)=true from dc)];refine FR.ite FR.some ?_;rcases a with rfl|rfl|rfl|rfl<;>cases e<;>simp[lvM,ltI,leI]<;>omega
  rw[uE E];by_cases d:k=2\/k=3
  .rw[uF d];have y: ¬(k==7)=true:=by rcases d with rfl|rfl<;>decide
   have x: ¬(k==6)=true:=by rcases d with rfl|rfl<;>decide
   have B: ¬(k==4)=true:=by rcases d with rfl|rfl<;>decide
   have C: ¬(k==5)=true:=by rcases d with rfl|rfl<;>decide
   rw[uE y,uE x,uE B,uE C];refine FR.ite FR.some ?_;rcases d with rfl|rfl<;>rcases a with rfl|rfl|rfl|rfl<;>cases e<;>simp[lvM,ltI,leI]<;>omega
  rw[uE d];by_cases z:k=4
  .subst z;rw[uF rfl,uE (show¬((4:Int)==7)=true from dc),uE (show¬((4:Int)==6)=true from dc),uF (show((4:Int)==4)=true from rfl)];have f:=t 2 j g sm;rw[show lvM 2=2 from rfl]at f;unfold endF;by_cases c:ltI 1 (lvM lv)=true
   .rw[uF c,uE]; · exact FR.none
    rcases a with rfl|rfl|rfl|rfl<;>simp_all [lvM,ltI,leI]
   .rw[uE c];refine FR.ite f ?_;rcases a with rfl|rfl|rfl|rfl<;>simp_all [lvM,ltI,leI]<;>omega
  rw[uE z];by_cases w:k=5
  .subst w;rw[uF rfl,uE (show¬((5:Int)==7)=true from dc),uE (show¬((5:Int)==6)=true from dc),uE (show¬((5:Int)==4)=true from dc),uF (show((5:Int)==5)=true from rfl)];have f:=t 1 j g sm;rw[show lvM 1=1 from rfl]at f;unfold endF;by_cases c:ltI 0 (lvM lv)=true
   .rw[uF c,uE]; · exact FR.none
    rcases a with rfl|rfl|rfl|rfl<;>simp_all [lvM,ltI,leI]
   .rw[uE c];refine FR.ite f ?_;rcases a with rfl|rfl|rfl|rfl<;>simp_all [lvM,ltI,leI]<;>omega
  rw[uE w];by_cases D:k=6
  .subst D;rw[uF rfl,uE (show¬((6:Int)==7)=true from dc),uF (show((6:Int)==6)=true from rfl)];have f:=t 3 j g sm;rw[show lvM 3=4 from rfl]at f;unfold endF;by_cases c:ltI 2 (lvM lv)=true\/ltI o 0=true\/ltI 8 o=true\/ltI 8 m=true\/((m != -1)=true/\ltI m o=true)
   .rw[uF c,uE]; · exact FR.none
    rcases a with rfl|rfl|rfl|rfl<;>simp[lvM,ltI,leI]at c ⊢<;>omega
   .rw[uE c];refine FR.ite f ?_;rcases a with rfl|rfl|rfl|rfl<;>simp[lvM,ltI,leI]at c ⊢<;>omega
  rw[uE D];by_cases A:k=7
  .subst A;rw[uF rfl,uF (show((7:Int)==7)=true from rfl)];have f:=t 0 (XV (j+1)) (XV (g+1)) sm;rw[show lvM 0=0 from rfl]at f;unfold endF;by_cases c:(n==if ltI 9 (XV (g+1))=true then 0 else XV (g+1))=true/\leI 64 j=false
   .rw[uF c];refine FR.ite f ?_;have u:j<64:=by have:=c.2;simp[leI]at this;exact this
    rw[c.1];simp[ltI,u]
   .rw[uE c,uE]; · exact FR.none
    intro v;simp only[qrq]at v;refine c ⟨v.1.1,?_⟩;have u:j<64:=by have:=v.1.2;simpa[ltI]using this
    simp[leI,u]
  rw[uE A];have y: ¬(k==7)=true:=by simpa using A
  have x: ¬(k==6)=true:=by simpa using D
  have B: ¬(k==4)=true:=by simpa using z
  have C: ¬(k==5)=true:=by simpa using w
  rw[uE y,uE x,uE B,uE C,uF]
  .exact FR.none
  .by_cases h:k<0
   .exact .inr (.inl (by simpa[ltI]using h))
   .refine .inr (.inr (.inl ?_));simp[ltI];omega
theorem Zf5: ∀(l:List Re) (lv a g:Int),(lv=0\/lv=1\/lv=2\/lv=3)->FR (rightF.kidsF l lv a g) (formF.kidsG l (lvM lv) a g)
 | [],lv,a,g,_=>by rw[rightF.kidsF,formF.kidsG];exact FR.some
 |r::l,lv,a,g,c=>by
  have e:=Zhw r lv a g c;rw[rightF.kidsF,formF.kidsG]
  cases hr:rightF r lv a g with
  |none=>
   have:=e.2 hr;rw[uE (by rw[this];decide)];exact FR.none
  |some d=>
   have:=e.1 d hr;rw[this,uF rfl];exact Zf5 l lv a d c
end
theorem ZFy(r):(formF r 0 0 0).1=(rightF r 0 0 0).isSome:=by
 have h:=Zhw r 0 0 0 (.inl rfl);rw[show lvM 0=0 from rfl]at h
 cases hr:rightF r 0 0 0 with
 |none=>exact h.2 hr
 |some g=>rw[h.1 g hr];rfl
def nnS(s:S4):Prop:= ∃p,s=ZC p
def nnRe:Re->Prop
 | .mk _ s a _ _ _=>nnS s/\nnRes a
where
 nnRes:List Re->Prop
  | []=>True
  |r::l=>nnRe r/\nnRes l
theorem QI(p:Nat->Bool):nnS (ZC p):=⟨p,rfl⟩
theorem Zww:nnS (0,0,0,0):=⟨_,setOf_no.symm⟩
theorem Ws: ∀ {l m:List Re},nnRe.nnRes l->nnRe.nnRes m->nnRe.nnRes (l++m)
 | [],m,_,h=>h
 |r::l,m,h,g=>by
  rw[qs,nnRe.nnRes];rw[nnRe.nnRes]at h;exact⟨h.1,Ws h.2 g⟩
theorem ZAi{k:Int}{a}{c d n:Int}(h:nnRe.nnRes a):nnRe (.mk k (0,0,0,0) a c d n):=by rw[nnRe];exact⟨Zww,h⟩
theorem Zl2{k:Int} : ∀ {l:List Re},nnRe.nnRes l->nnRe (sevS k l)
 | [],h=>ZAi h
 | [r],h=>by rw[nnRe.nnRes]at h;exact h.1
 |_::_::_,h=>ZAi h
theorem Zf6{k:Int}{r}{a c n:Int}(h:nnRe r):nnRe (.mk k (0,0,0,0) [r] a c n):=ZAi (by rw[nnRe.nnRes,nnRe.nnRes];exact⟨h,trivial⟩)
theorem Zam{x}(h:nnS x):nnRe (Qk x):=by unfold Qk;rw[nnRe,nnRe.nnRes];exact⟨h,trivial⟩
theorem VY{k:Int} :nnRe (.mk k (0,0,0,0) [] 0 0 0):=ZAi (by rw[nnRe.nnRes];trivial)
theorem ZAj{s}{i j:Nat}{x}(h:QN s i= .ok (x,j)):nnRe (Qk x):=by
 unfold QN at h;simp only[]at h;split at h
 .cases h
 .cases h;exact Zam (QI _)
theorem ZCr(s:List UInt8): ∀n,
  (∀ {d i g r j e},altE n d s i g= .ok (r,j,e)->i<=s.length->g<=i->nnRe r)/\
  (∀ {d i g l r j e},WF n d s i g l= .ok (r,j,e)->i<=s.length->g<=i->l.length<=i+1->nnRe.nnRes l->nnRe r)/\
  (∀ {d i g l r j e},rowE n d s i g l= .ok (r,j,e)->i<=s.length->g<=i->l.length<=i->nnRe.nnRes l->nnRe r)/\
  (∀ {d i g r j e},Qg n d s i g= .ok (r,j,e)->i<=s.length->g<=i->nnRe r)/\
  (∀ {d i g r j e},JV n d s i g= .ok (r,j,e)->i<=s.length->g<=i->nnRe r)
 |0=>⟨λh=>by simp[altE]at h,λh=>by simp[WF]at h,λh=>by simp[rowE]at h,λh=>by simp[Qg]at h,λh=>by simp[JV]at h⟩
 |n+1=>by
  obtain⟨w1,z,v,G,B⟩:=ZCr s n;obtain⟨O,L,y,D,N⟩:=XR s n;refine⟨λ{d i g r j e} h k m=> ?_,λ{d i g l r j e} h k m w o=> ?_,λ{d i g l r j e} h k m w o=> ?_,λ{d i g r j e} h k m=> ?_,λ{d i g r j e} h k m=> ?_⟩
  .rw[altE]at h;split at h
   .cases h
   .rename_i r1 t u f;have a:=y f k m;exact z h a.2.1 a.2.2 sm (by rw[nnRe.nnRes,nnRe.nnRes];exact⟨v f k m (qx _) (by rw[nnRe.nnRes];trivial),trivial⟩)
  .rw[WF]at h;split at h
   .rename_i E;have K:=(qb.1 E).1;split at h
    .cases h
    .rename_i r1 t u f;have a:=y f om om;exact z h a.2.1 a.2.2 (by simp;omega) (Ws o (by rw[nnRe.nnRes,nnRe.nnRes];exact⟨v f om om (qx _) (by rw[nnRe.nnRes];trivial),trivial⟩))
   .cases h;exact Zl2 o
  .rw[rowE]at h;split at h
   .cases h;exact Zl2 o
   .split at h
    .cases h;exact Zl2 o
    .split at h
     .cases h
     .rename_i r1 t u f;have a:=D f k m;exact v h a.2.1 a.2.2 (by simp;omega) (Ws o (by rw[nnRe.nnRes,nnRe.nnRes];exact⟨G f k m,trivial⟩))
  .rw[Qg]at h;split at h
   .cases h
   .rename_i r1 t u f;have a:=B f k m;split at h
    .cases h;exact a
    .split at h
     .split at h
      .cases h
      .split at h
       .cases h;exact Zf6 a
       .split at h
        .cases h;exact Zf6 a
        .split at h
         .cases h;exact Zf6 a
         .split at h
          .cases h
          .rename_i P F H A;cases h;exact Zf6 a
     .cases h;exact a
  .rw[JV]at h;split at h
   .cases h
   .rename_i c C;have w:=(qb.1 C).1;split at h
    .cases h
    .split at h
     .split at h
      .cases h
      .split at h
       .cases h
       .rename_i r1 t u f;split at h
        .cases h;exact Zf6 (w1 f om om)
        .cases h
     .split at h
      .split at h
       .cases h
       .rename_i x H A;cases h;exact ZAj A
      .split at h
       .cases h;first|exact VY|exact Zam (QI _)
       .split at h
        .cases h;first|exact VY|exact Zam (QI _)
        .split at h
         .cases h;first|exact VY|exact Zam (QI _)
         .split at h
          .split at h
           .cases h
           .cases h;first|exact VY|exact Zam (QI _)
          .cases h;first|exact VY|exact Zam (QI _)
theorem ZAk{s:List UInt8}{r}(h:Qz s= .ok r):nnRe r:=by
 unfold Qz at h;split at h
 .cases h
 .split at h
  .cases h
  .rename_i r1 d c a;split at h
   .cases h
   .cases h;exact(ZCr s _).1 a (qx _) (qx _)
theorem ZCs(s):nnRe (ereL s):=by
 unfold ereL
 cases hp:Qz s with
 |error e=>exact VY
 |ok x=>exact ZAk hp
mutual
theorem Zqq: ∀r:Re,nnRe r->nnRe (laterF r)
 | .mk k s a d c n,h=>by
  rw[nnRe]at h;rw[Zeh,nnRe];exact⟨h.1,Zl3 a h.2⟩
theorem Zl3: ∀l:List Re,nnRe.nnRes l->nnRe.nnRes (l.map laterF)
 | [],_=>by rw[List.map_nil,nnRe.nnRes];trivial
 |r::l,h=>by
  rw[nnRe.nnRes]at h;rw[qz,nnRe.nnRes];exact⟨Zqq r h.1,Zl3 l h.2⟩
end
theorem ZCt:nnRe Vq:=Zam (QI _)
theorem Zog:nnRe ZS:=Zf6 ZCt
theorem Vv: ∀s:List UInt8,nnRe.nnRes (ZK s)
 | []=>by simp only[ZK,List.map_nil];rw[nnRe.nnRes];trivial
 |c::s=>by
  have e:ZK (c::s)=Qh c::ZK s:=by simp[ZK]
  rw[e,nnRe.nnRes];exact⟨Zam (QI _),Vv s⟩
theorem Zwx(g:Glob):nnRe.nnRes (XW g):=by
 unfold XW;split
 .rw[nnRe.nnRes,nnRe.nnRes];exact⟨Zam (QI _),trivial⟩
 split
 .rw[nnRe.nnRes,nnRe.nnRes];exact⟨ZCt,trivial⟩
 split
 .rw[nnRe.nnRes,nnRe.nnRes];exact⟨Zog,trivial⟩
 split
 .rw[nnRe.nnRes,nnRe.nnRes];exact⟨Zam (QI _),trivial⟩
 .rw[nnRe.nnRes];trivial
theorem Zcd: ∀l:List Glob,nnRe.nnRes (ZP l)
 | []=>by simp only[ZP,List.flatMap_nil];rw[nnRe.nnRes];trivial
 |g::l=>by
  have e:ZP (g::l)=XW g++ZP l:=by simp[ZP]
  rw[e];exact Ws (Zwx g) (Zcd l)
theorem Zqr(k:Int)(t:List UInt8):nnRe.nnRes (ZS::(Jy k t++ [ZS])):=by
 rw[nnRe.nnRes];refine⟨Zog,Ws ?_ (by rw[nnRe.nnRes,nnRe.nnRes];exact⟨Zog,trivial⟩)⟩;unfold Jy;split
 .exact Vv t
 split
 .exact Zcd _
 split
 .rw[nnRe.nnRes,nnRe.nnRes];exact⟨Zf6 (Zqq _ (ZCs t)),trivial⟩
 .rw[nnRe.nnRes];trivial
/-! ### Runs, byte by byte -/
abbrev PR2:=UInt8×UInt8
def Zag(p:Nat->Bool)(c:Nat)(a:List PR2):List PR2:=
 if p c=true then(match a.getLast? with
  |some q=>if q.2.toNat+1=c then a.dropLast++ [(q.1,UInt8.ofNat c)]else a++ [(UInt8.ofNat c,UInt8.ofNat c)]
  |none=>a++ [(UInt8.ofNat c,UInt8.ofNat c)])else a
def Zdj(p:Nat->Bool):Nat->Nat->List PR2->List PR2
 |0,_,a=>a
 |n+1,c,a=>Zdj p n (c+1) (Zag p c a)
theorem Zqs(p:Nat->Bool)(a:List PR2)(f:UInt8): ∀(n c:Nat),n=256-c->0<c->c<=256->Zdj p n c (a++ [(f,UInt8.ofNat (c-1))])=Zdj p (256-runE p n c) (runE p n c) (a++ [(f,UInt8.ofNat (runE p n c-1))])/\c<=runE p n c/\runE p n c<=256/\(runE p n c<256->p (runE p n c)=false)
 |0,c,g,_,j=>by
  have:c=256:=om;subst this;exact⟨rfl,qnq _,qnq _,λh=>absurd h (by rw[runE];omega)⟩
 |n+1,c,g,k,j=>by
  by_cases hp:p c=true
  .rw[runE,uF hp];have d:=Zqs p a f n (c+1) om om om;refine⟨?_,om,d.2.2.1,d.2.2.2⟩;rw[<-d.1,Zdj]
   congr 1
   have e:((UInt8.ofNat (c-1)).toNat)+1=c:=by
    rw[UInt8.toNat_ofNat'];omega
   unfold Zag;rw[uF hp];simp only[List.getLast?_append,List.getLast?_singleton,Option.some_or,List.dropLast_concat];rw[uF e,show c+1-1=c from om]
  .rw[runE,uE hp];exact⟨by rw[g],qnq _,j,λ_=>by simpa using hp⟩
theorem Zoh(p:Nat->Bool): ∀(f c:Nat) (a:List PR2),257<=f+c->c<=257->(∀q,a.getLast? =some q->q.2.toNat+1<c)->goF p f c a=Zdj p (256-c) c a
 |0,c,a,v,x,_=>by
  rw[goF,show 256-c=0 from om,Zdj]
 |f+1,c,a,v,x,l=>by
  rw[goF];by_cases k:c<256
  .rw[uF k];obtain⟨n,h⟩: ∃n,256-c=n+1:=⟨255-c,om⟩;by_cases hp:p c=true
   .have hr:=Zqs p a (UInt8.ofNat c) n (c+1) om om om;have j:runE p (256-c) c=runE p n (c+1):=by rw[h,runE,uF hp]
    rw[j];generalize runE p n (c+1)=e at hr;obtain⟨r1,z,y,o⟩:=hr;rw[uF om];have d: ∀q,(a++ [(UInt8.ofNat c,UInt8.ofNat (e-1))]).getLast? =some q->q.2.toNat+1<e+1:=by
     intro q g;simp only[List.getLast?_append,List.getLast?_singleton,Option.some_or]at g;cases g;show(UInt8.ofNat (e-1)).toNat+1<e+1;rw[UInt8.toNat_ofNat'];omega
    rw[Zoh p f (e+1) _ om om d,h,Zdj];have t:Zag p c a=a++ [(UInt8.ofNat c,UInt8.ofNat (c+1-1))]:=by
     unfold Zag;rw[uF hp,show c+1-1=c from om]
     cases w:a.getLast? with
     |none=>rfl
     |some q=>
      have:=l q w;simp only[];rw[uE om]
    rw[t,r1];by_cases r:e<256
    .obtain⟨m,u⟩: ∃m,256-e=m+1:=⟨255-e,om⟩;rw[u,Zdj];have:Zag p e (a++ [(UInt8.ofNat c,UInt8.ofNat (e-1))])=a++ [(UInt8.ofNat c,UInt8.ofNat (e-1))]:=by
      unfold Zag;rw[uE (by rw[o r];decide)]
     rw[this,show 256-(e+1)=m from om]
    .rw[show 256-e=0 from om,show 256-(e+1)=0 from om];rfl
   .have j:runE p (256-c) c=c:=by rw[h,runE,uE hp]
    rw[j,uE om,Zoh p f (c+1) a om om (λq g=>by have:=l q g;omega),h,Zdj];have:Zag p c a=a:=by unfold Zag;rw[uE hp]
    rw[this,show 256-(c+1)=n from om]
  .rw[uE k,show 256-c=0 from om,Zdj]
theorem Zsp(p:Nat->Bool):Zdj p 256 0 []=Qv p:=(Zoh p 257 0 [] dc dc (λq h=>by cases h)).symm
end Go.Y
namespace Go.Y
open Go.Proofs
set_option maxRecDepth 1000000
set_option maxHeartbeats 0
theorem ZFz{a c d e x1 h}(K):CP Tryh.Y 124 (flat (Za Tryz.f124)) (.agg [U a,U c,U d,U e]::.i .u8 x1::Rp 12) h [4] K=(((64:Int)=(0:Int)->False)/\((0:Int)<=IntKind.u8.wrap (x1.tdiv (64:Int))/\IntKind.u8.wrap (x1.tdiv (64:Int))<(↑(4:Nat):Int))/\ ∃f,Zb (h.push (YObj.arr [U a,U c,U d,U e] true)) h.nx ((0:Nat)+(IntKind.u8.wrap (x1.tdiv (64:Int))).toNat*1) 1=some [U f]/\((64:Int)=(0:Int)->False)/\(0:Int)<=x1.tmod (64:Int)/\((2:Int)=(0:Int)->False)/\K .ret 14 [.b ((f.fdiv ((2:Int) ^ min (x1.tmod (64:Int)).toNat IntKind.u64.bits)).tmod (2:Int)==(1:Int))] (h.push (YObj.arr [U a,U c,U d,U e] true))):=kr
theorem ZRj{a b c d h}(K):CP UY 80 (pre (flat (Za Tryz.f80))) (.agg [U a,U b,U c,U d]::Rp 167) h [1,3,4,10] K=(K .normal 168 [.lb [U a,U b,U c,U d],S0,I 0,Ud] h):=kr
theorem ZRk{e f g j a3 k c3 k3 d h}(K):CP UY 80 (flat (Zx (post (flat (Za Tryz.f80))))) (MZ 168 [1,3,4,10] [.lb [U e,U f,U g,U j],S a3 k c3 k3,I d,V.undef]) h [1,3,4,10,11] K=(If (ltI d 256) (∃a,(PCon UY 124 [.agg [U e,U f,U g,U j],.i .u8 (IntKind.u8.wrap d)] λv=>v=.b a)/\If (!a) (K .normal 168 [.lb [U e,U f,U g,U j],S a3 k c3 k3,I (wW (d+(1:Int))),Ud,I d] h) ((λr=>If (ltI 0 k) (SlO a3 False fun(o off:Nat)=>((0:Int)<=wW ((↑k:Int)-(1:Int))/\wW ((↑k:Int)-(1:Int))<(k:Int))/\k3=2/\ ∃b,Zb h o (off+(wW ((↑k:Int)-(1:Int))).toNat*2+(1:Nat)) 1=some [.i .u8 b]/\If (wW b==wW (d-(1:Int))) (SlO a3 False fun(o off:Nat)=>((0:Int)<=wW ((↑k:Int)-(1:Int))/\wW ((↑k:Int)-(1:Int))<(k:Int))/\k3=2/\ ∃c,Zi h o (off+(wW ((↑k:Int)-(1:Int))).toNat*2+(1:Nat)) [.i .u8 (IntKind.u8.wrap d)]=some c/\K .normal 168 [.lb [U e,U f,U g,U j],S a3 k c3 k3,I (wW (d+(1:Int))),Ud,I d] c) r) r) (∃b c l m n,Zk UY h 57 57 (S a3 k c3 k3) (J [.i .u8 (IntKind.u8.wrap d),.i .u8 (IntKind.u8.wrap d)] 1 (some 1))=some (S b c l m,n)/\K .normal 168 [.lb [U e,U f,U g,U j],S b c l m,I (wW (d+(1:Int))),Ud,I d] n))) (K (.exit 0) 168 [.lb [U e,U f,U g,U j],S a3 k c3 k3,I d,Ud,I d] h)):=kr
theorem ZRl{a3 g c3 k3 a h}(K):CP UY 80 (pre ((post (flat (Za Tryz.f80))).drop 1)) (MZ 168 [3,10,11] [S a3 g c3 k3,V.undef,I a]) h [2,3,11,85] K=(If ((↑g:Int)==(0:Int)) (K .ret 168 [.s [(91:UInt8),94,0,45,255,93],S a3 g c3 k3,I a,Ud] h) (If ((↑g:Int)==(1:Int)) (SlO a3 False fun(j off:Nat)=>((0:Int)<=(0:Int)/\(0:Int)<(g:Int))/\k3=2/\ ∃c,Zb h j (off+Int.toNat (0:Int)*(2:Nat)+(0:Nat)) 1=some [.i .u8 c]/\If (c==(0:Int)) (SlO a3 False fun(j off:Nat)=>((0:Int)<=(0:Int)/\(0:Int)<(g:Int))/\k3=2/\ ∃d,Zb h j (off+Int.toNat (0:Int)*(2:Nat)+(1:Nat)) 1=some [.i .u8 d]/\If (d==(255:Int)) (K .ret 168 [.s [(46:UInt8)],S a3 g c3 k3,I a,Ud] h) (If ((↑g:Int)==(1:Int)) (SlO a3 False fun(j off:Nat)=>((0:Int)<=(0:Int)/\(0:Int)<(g:Int))/\k3=2/\ ∃e,Zb h j (off+Int.toNat (0:Int)*(2:Nat)+(0:Nat)) 1=some [.i .u8 e]/\SlO a3 False fun(j off:Nat)=>((0:Int)<=(0:Int)/\(0:Int)<(g:Int))/\k3=2/\ ∃f,Zb h j (off+Int.toNat (0:Int)*(2:Nat)+(1:Nat)) 1=some [.i .u8 f]/\K .normal 168 [Ud,S a3 g c3 k3,I a, .b (e==f)] h) (K .normal 168 [Ud,S a3 g c3 k3,I a, .b false] h))) (If ((↑g:Int)==(1:Int)) (SlO a3 False fun(j off:Nat)=>((0:Int)<=(0:Int)/\(0:Int)<(g:Int))/\k3=2/\ ∃d,Zb h j (off+Int.toNat (0:Int)*(2:Nat)+(0:Nat)) 1=some [.i .u8 d]/\SlO a3 False fun(j off:Nat)=>((0:Int)<=(0:Int)/\(0:Int)<(g:Int))/\k3=2/\ ∃e,Zb h j (off+Int.toNat (0:Int)*(2:Nat)+(1:Nat)) 1=some [.i .u8 e]/\K .normal 168 [Ud,S a3 g c3 k3,I a, .b (d==e)] h) (K .normal 168 [Ud,S a3 g c3 k3,I a, .b false] h))) (If ((↑g:Int)==(1:Int)) (SlO a3 False fun(j off:Nat)=>((0:Int)<=(0:Int)/\(0:Int)<(g:Int))/\k3=2/\ ∃c,Zb h j (off+Int.toNat (0:Int)*(2:Nat)+(0:Nat)) 1=some [.i .u8 c]/\SlO a3 False fun(j off:Nat)=>((0:Int)<=(0:Int)/\(0:Int)<(g:Int))/\k3=2/\ ∃d,Zb h j (off+Int.toNat (0:Int)*(2:Nat)+(1:Nat)) 1=some [.i .u8 d]/\K .normal 168 [Ud,S a3 g c3 k3,I a, .b (c==d)] h) (K .normal 168 [Ud,S a3 g c3 k3,I a, .b false] h)))):=kr
theorem ZRm{a3 d c3 k3 a h}(K):CP UY 80 (pre (flat (QU (post ((post (flat (Za Tryz.f80))).drop 1))))) (MZ 168 [3,11,85] [S a3 d c3 k3,I a,.b true]) h [5,6,7] K=(SlO a3 False fun(e off:Nat)=>((0:Int)<=(0:Int)/\(0:Int)<(d:Int))/\k3=2/\ ∃c,Zb h e (off+Int.toNat (0:Int)*(2:Nat)+(0:Nat)) 1=some [.i .u8 c]/\K .normal 168 [.i .u8 c, .s [(92:UInt8),124,40,41,42,43,63,123,46,91,94,36],I 0] h):=kr
theorem ZRn{x5 x7 h}(K):CP UY 80 (flat (Zx (post (flat (QU (post ((post (flat (Za Tryz.f80))).drop 1))))))) (MZ 168 [5,6,7] [.i .u8 x5,.s [(92:UInt8),124,40,41,42,43,63,123,46,91,94,36],I x7]) h [2,5,6,7] K=(If (ltI x7 (↑[(92:UInt8),124,40,41,42,43,63,123,46,91,94,36].length:Int)) (∃a,((0:Int)<=x7/\ [(92:UInt8),124,40,41,42,43,63,123,46,91,94,36][x7.toNat]? =some a)/\If ((↑a.toNat:Int)==x5) (∃b,some (Q.val (.s ((fun(x:List UInt8)=>UInt8.ofNat x5.toNat::x) [])))=some (Q.val (.s b))/\ [(92:UInt8)].length+b.length<=1152921504606846976/\K .ret 168 [.s ([(92:UInt8)]++b), .i .u8 x5, .s [(92:UInt8),124,40,41,42,43,63,123,46,91,94,36],I x7] h) (K .normal 168 [Ud, .i .u8 x5, .s [(92:UInt8),124,40,41,42,43,63,123,46,91,94,36],I (wW (x7+(1:Int)))] h)) (K (.exit 2) 168 [Ud, .i .u8 x5, .s [(92:UInt8),124,40,41,42,43,63,123,46,91,94,36],I x7] h)):=kr
theorem ZRo{x5 h}(K):CP UY 80 ((post (flat (QU (post ((post (flat (Za Tryz.f80))).drop 1))))).drop 1) (MZ 168 [5] [.i .u8 x5]) h [2,3,11] K=(∃a,some (Q.val (.s ((fun(x:List UInt8)=>UInt8.ofNat x5.toNat::x) [])))=some (Q.val (.s a))/\K .ret 168 [.s a,Ud,Ud] h):=kr
theorem ZRp{a3 l3 c3 k3 a h}(K):CP UY 80 (flat (ZT (post ((post (flat (Za Tryz.f80))).drop 1)))) (MZ 168 [3,11,85] [S a3 l3 c3 k3,I a,.b false]) h [3,11] K=(K .normal 168 [S a3 l3 c3 k3,I a] h):=kr
theorem ZRq{a3 l3 c3 k3 a h}(K):CP UY 80 (pre ((post ((post (flat (Za Tryz.f80))).drop 1)).drop 1)) (MZ 168 [3,11] [S a3 l3 c3 k3,I a]) h [3,8,9,11] K=(K .normal 168 [S a3 l3 c3 k3, .s [(91:UInt8)],I 0,I a] h):=kr
theorem ZRr{a3 l3 c3 k3 c b a h}(K):CP UY 80 (flat (Zx (post ((post ((post (flat (Za Tryz.f80))).drop 1)).drop 1)))) (MZ 168 [3,8,9,11] [S a3 l3 c3 k3,.s b,I a,I c]) h [3,8,9,11] K=(If (ltI a l3) (SlO a3 False fun(k off:Nat)=>(0<=a/\a<l3)/\k3=2/\ ∃d,Zb h k (off+a.toNat*2+(0:Nat)) 1=some [.i .u8 d]/\If (d==(94:Int)) (b.length+ [(92:UInt8)].length<=1152921504606846976/\SlO a3 False fun(k off:Nat)=>(0<=a/\a<l3)/\k3=2/\ ∃e,Zb h k (off+a.toNat*2+(0:Nat)) 1=some [.i .u8 e]/\SlO a3 False fun(k off:Nat)=>(0<=a/\a<l3)/\k3=2/\ ∃f,Zb h k (off+a.toNat*2+(1:Nat)) 1=some [.i .u8 f]/\If (e !=f) (SlO a3 False fun(k off:Nat)=>(0<=a/\a<l3)/\k3=2/\ ∃g,Zb h k (off+a.toNat*2+(1:Nat)) 1=some [.i .u8 g]/\If (g==(94:Int)) (SlO a3 False fun(k off:Nat)=>(0<=a/\a<l3)/\k3=2/\ ∃j,Zb h k (off+a.toNat*2+(0:Nat)) 1=some [.i .u8 j]/\SlO a3 False fun(k off:Nat)=>(0<=a/\a<l3)/\k3=2/\ ∃l,Zb h k (off+a.toNat*2+(0:Nat)) 1=some [.i .u8 l]/\ ∃m,(PCon UY 125 [J [.i .u8 j,.i .u8 l] 1 (some 1)] λv=>v=.s m)/\(b++ [(92:UInt8)]).length+m.length<=1152921504606846976/\(b++ [(92:UInt8)]++m).length+ [(45:UInt8),92,94].length<=1152921504606846976/\K .normal 168 [S a3 l3 c3 k3, .s (b++ [(92:UInt8)]++m++ [(45:UInt8),92,94]),I (wW (a+(1:Int))),I c] h) (SlO a3 False fun(k off:Nat)=>(0<=a/\a<l3)/\k3=2/\ ∃j l,Zb h k (off+a.toNat*2) 2=some [.i .u8 j,.i .u8 l]/\ ∃m,(PCon UY 125 [J [.i .u8 j,.i .u8 l] 1 (some 1)] λv=>v=.s m)/\(b++ [(92:UInt8)]).length+m.length<=1152921504606846976/\K .normal 168 [S a3 l3 c3 k3, .s (b++ [(92:UInt8)]++m),I (wW (a+(1:Int))),I c] h)) (SlO a3 False fun(k off:Nat)=>(0<=a/\a<l3)/\k3=2/\ ∃g j,Zb h k (off+a.toNat*2) 2=some [.i .u8 g,.i .u8 j]/\ ∃l,(PCon UY 125 [J [.i .u8 g,.i .u8 j] 1 (some 1)] λv=>v=.s l)/\(b++ [(92:UInt8)]).length+l.length<=1152921504606846976/\K .normal 168 [S a3 l3 c3 k3, .s (b++ [(92:UInt8)]++l),I (wW (a+(1:Int))),I c] h)) (SlO a3 False fun(k off:Nat)=>(0<=a/\a<l3)/\k3=2/\ ∃e,Zb h k (off+a.toNat*2+(0:Nat)) 1=some [.i .u8 e]/\SlO a3 False fun(k off:Nat)=>(0<=a/\a<l3)/\k3=2/\ ∃f,Zb h k (off+a.toNat*2+(1:Nat)) 1=some [.i .u8 f]/\If (e !=f) (SlO a3 False fun(k off:Nat)=>(0<=a/\a<l3)/\k3=2/\ ∃g,Zb h k (off+a.toNat*2+(1:Nat)) 1=some [.i .u8 g]/\If (g==(94:Int)) (SlO a3 False fun(k off:Nat)=>(0<=a/\a<l3)/\k3=2/\ ∃j,Zb h k (off+a.toNat*2+(0:Nat)) 1=some [.i .u8 j]/\SlO a3 False fun(k off:Nat)=>(0<=a/\a<l3)/\k3=2/\ ∃l,Zb h k (off+a.toNat*2+(0:Nat)) 1=some [.i .u8 l]/\ ∃m,(PCon UY 125 [J [.i .u8 j,.i .u8 l] 1 (some 1)] λv=>v=.s m)/\b.length+m.length<=1152921504606846976/\(b++m).length+ [(45:UInt8),92,94].length<=1152921504606846976/\K .normal 168 [S a3 l3 c3 k3, .s (b++m++ [(45:UInt8),92,94]),I (wW (a+(1:Int))),I c] h) (SlO a3 False fun(k off:Nat)=>(0<=a/\a<l3)/\k3=2/\ ∃j l,Zb h k (off+a.toNat*2) 2=some [.i .u8 j,.i .u8 l]/\ ∃m,(PCon UY 125 [J [.i .u8 j,.i .u8 l] 1 (some 1)] λv=>v=.s m)/\b.length+m.length<=1152921504606846976/\K .normal 168 [S a3 l3 c3 k3, .s (b++m),I (wW (a+(1:Int))),I c] h)) (SlO a3 False fun(k off:Nat)=>(0<=a/\a<l3)/\k3=2/\ ∃g j,Zb h k (off+a.toNat*2) 2=some [.i .u8 g,.i .u8 j]/\ ∃l,(PCon UY 125 [J [.i .u8 g,.i .u8 j] 1 (some 1)] λv=>v=.s l)/\b.length+l.length<=1152921504606846976/\K .normal 168 [S a3 l3 c3 k3, .s (b++l),I (wW (a+(1:Int))),I c] h))) (K (.exit 4) 168 [S a3 l3 c3 k3, .s b,I a,I c] h)):=kr
theorem ZRs{a h}(K):CP UY 80 ((post ((post ((post (flat (Za Tryz.f80))).drop 1)).drop 1)).drop 1) (MZ 168 [8] [.s a]) h [2] K=(a.length+ [(93:UInt8)].length<=1152921504606846976/\K .ret 168 [.s (a++ [(93:UInt8)])] h):=kr
theorem ZRt{c x1 h}(K):CP UY 81 (flat (Za Tryz.f81)) (I c::I x1::Rp 44) h [4] K=((λd=>If (c==(0:Int)) (If (x1==(-1:Int)) (K .ret 46 [.s [(42:UInt8)]] h) (If (c==(1:Int)) (If (x1==(-1:Int)) (K .ret 46 [.s [(43:UInt8)]] h) (If (c==(0:Int)) (If (x1==(1:Int)) (K .ret 46 [.s [(63:UInt8)]] h) d) d)) (If (c==(0:Int)) (If (x1==(1:Int)) (K .ret 46 [.s [(63:UInt8)]] h) d) d))) (If (c==(1:Int)) (If (x1==(-1:Int)) (K .ret 46 [.s [(43:UInt8)]] h) (If (c==(0:Int)) (If (x1==(1:Int)) (K .ret 46 [.s [(63:UInt8)]] h) d) d)) (If (c==(0:Int)) (If (x1==(1:Int)) (K .ret 46 [.s [(63:UInt8)]] h) d) d))) (∃a,some (Q.val (.s ((fun(x:List UInt8)=>UInt8.ofNat (IntKind.u8.wrap (wW ((48:Int)+c))).toNat::x) [])))=some (Q.val (.s a))/\ [(123:UInt8)].length+a.length<=1152921504606846976/\If (x1 !=c) (([(123:UInt8)]++a).length+ [(44:UInt8)].length<=1152921504606846976/\If (leI 0 x1) (∃b,some (Q.val (.s ((fun(x:List UInt8)=>UInt8.ofNat (IntKind.u8.wrap (wW ((48:Int)+x1))).toNat::x) [])))=some (Q.val (.s b))/\([(123:UInt8)]++a++ [(44:UInt8)]).length+b.length<=1152921504606846976/\([(123:UInt8)]++a++ [(44:UInt8)]++b).length+ [(125:UInt8)].length<=1152921504606846976/\K .ret 46 [.s ([(123:UInt8)]++a++ [(44:UInt8)]++b++ [(125:UInt8)])] h) (([(123:UInt8)]++a++ [(44:UInt8)]).length+ [(125:UInt8)].length<=1152921504606846976/\K .ret 46 [.s ([(123:UInt8)]++a++ [(44:UInt8)]++ [(125:UInt8)])] h)) (([(123:UInt8)]++a).length+ [(125:UInt8)].length<=1152921504606846976/\K .ret 46 [.s ([(123:UInt8)]++a++ [(125:UInt8)])] h))):=kr
theorem ZLx{a c h}(K):CP UY 125 (pre (flat (Za Tryz.f125))) (J a c none::Rp 39) h [0,3,4] K=(K .normal 40 [J a c none, .s [],I 0] h):=kr
theorem ZCu{b n0 c a h}(K):CP UY 125 (flat (Zx (post (flat (Za Tryz.f125))))) (MZ 40 [0,3,4] [J b n0 none,.s c,I a]) h [0,3,4] K=(If (ltI a n0) ((0<=a/\a<n0)/\ ∃d,Zr 1 (List.drop 0 (List.drop (a.toNat*2) b))=some [.i .u8 d]/\ ∃e,(PCon UY 161 [.i .u8 d] λv=>v=.s e)/\c.length+e.length<=1152921504606846976/\(0<=a/\a<n0)/\ ∃f,Zr 1 (List.drop 1 (List.drop (a.toNat*2) b))=some [.i .u8 f]/\(0<=a/\a<n0)/\ ∃g,Zr 1 (List.drop 0 (List.drop (a.toNat*2) b))=some [.i .u8 g]/\If (f !=g) ((c++e).length+ [(45:UInt8)].length<=1152921504606846976/\(0<=a/\a<n0)/\ ∃j,Zr 1 (List.drop 1 (List.drop (a.toNat*2) b))=some [.i .u8 j]/\ ∃l,(PCon UY 161 [.i .u8 j] λv=>v=.s l)/\(c++e++ [(45:UInt8)]).length+l.length<=1152921504606846976/\K .normal 40 [J b n0 none, .s (c++e++ [(45:UInt8)]++l),I (wW (a+(1:Int)))] h) (K .normal 40 [J b n0 none, .s (c++e),I (wW (a+(1:Int)))] h)) (K (.exit 0) 40 [J b n0 none, .s c,I a] h)):=kr
theorem ZLy{a h}(K):CP UY 125 ((post (flat (Za Tryz.f125))).drop 1) (MZ 40 [3] [.s a]) h [2] K=(K .ret 40 [.s a] h):=kr
theorem ZLz{x0 h}(K):CP UY 161 (flat (Za Tryz.f161)) (.i .u8 x0::Rp 19) h [2] K=((λc=>If (x0==(93:Int)) c (If (x0==(45:Int)) c (If (x0==(92:Int)) c (∃a,some (Q.val (.s ((fun(x:List UInt8)=>UInt8.ofNat x0.toNat::x) [])))=some (Q.val (.s a))/\K .ret 20 [.s a] h)))) (∃a,some (Q.val (.s ((fun(x:List UInt8)=>UInt8.ofNat x0.toNat::x) [])))=some (Q.val (.s a))/\ [(92:UInt8)].length+a.length<=1152921504606846976/\K .ret 20 [.s ([(92:UInt8)]++a)] h)):=kr
theorem ZRu{k s0 s1 s2 s3 a nk lo hi gn h}(K):CP UY 37 (pre (flat (Za Tryz.f37))) (.agg (R9 k s0 s1 s2 s3 a nk none lo hi gn)::Rp 57) h [1,2,3,4] K=(If (k==(1:Int)) (∃b,(PCon UY 80 [.agg [U s0,U s1,U s2,U s3]] λv=>v=.s b)/\K .ret 58 [.lb (R9 k s0 s1 s2 s3 a nk none lo hi gn), .s b,Ud,Ud] h) (If (k==(2:Int)) (K .ret 58 [.lb (R9 k s0 s1 s2 s3 a nk none lo hi gn), .s [(94:UInt8)],Ud,Ud] h) (If (k==(3:Int)) (K .ret 58 [.lb (R9 k s0 s1 s2 s3 a nk none lo hi gn), .s [(36:UInt8)],Ud,Ud] h) (K .normal 58 [.lb (R9 k s0 s1 s2 s3 a nk none lo hi gn), .s [], .s [],I 0] h)))):=kr
theorem ZRv{k s0 s1 s2 s3 b nk lo hi gn d a x4 h}(K):CP UY 37 (flat (Zx (post (flat (Za Tryz.f37))))) (MZ 58 [1,2,3,4] [.lb (R9 k s0 s1 s2 s3 b nk none lo hi gn),.s d,.s a,I x4]) h [1,2,3,4] K=(If (ltI x4 nk) (If (ltI 0 x4) (If (k==(5:Int)) (a.length+ [(124:UInt8)].length<=1152921504606846976/\(0<=x4/\x4<nk)/\ ∃c e f g i j l m n o p,Zr 9 (List.drop (x4.toNat*9) b)=some (R9 c e f g i j l m n o p)/\ ∃q,(PCon UY 37 [.agg (R9 c e f g i j l m n o p)] λv=>v=.s q)/\(a++ [(124:UInt8)]).length+q.length<=1152921504606846976/\K .normal 58 [.lb (R9 k s0 s1 s2 s3 b nk none lo hi gn), .s d, .s (a++ [(124:UInt8)]++q),I (wW (x4+(1:Int)))] h) ((0<=x4/\x4<nk)/\ ∃c e f g i j l m n o p,Zr 9 (List.drop (x4.toNat*9) b)=some (R9 c e f g i j l m n o p)/\ ∃q,(PCon UY 37 [.agg (R9 c e f g i j l m n o p)] λv=>v=.s q)/\a.length+q.length<=1152921504606846976/\K .normal 58 [.lb (R9 k s0 s1 s2 s3 b nk none lo hi gn), .s d, .s (a++q),I (wW (x4+(1:Int)))] h)) ((0<=x4/\x4<nk)/\ ∃c e f g i j l m n o p,Zr 9 (List.drop (x4.toNat*9) b)=some (R9 c e f g i j l m n o p)/\ ∃q,(PCon UY 37 [.agg (R9 c e f g i j l m n o p)] λv=>v=.s q)/\a.length+q.length<=1152921504606846976/\K .normal 58 [.lb (R9 k s0 s1 s2 s3 b nk none lo hi gn), .s d, .s (a++q),I (wW (x4+(1:Int)))] h)) (K (.exit 0) 58 [.lb (R9 k s0 s1 s2 s3 b nk none lo hi gn), .s d, .s a,I x4] h)):=kr
theorem ZRw{k s0 s1 s2 s3 b nk lo hi gn a h}(K):CP UY 37 ((post (flat (Za Tryz.f37))).drop 1) (MZ 58 [1,3] [.lb (R9 k s0 s1 s2 s3 b nk none lo hi gn),.s a]) h [2] K=(If (k==(7:Int)) ([(40:UInt8)].length+a.length<=1152921504606846976/\([(40:UInt8)]++a).length+ [(41:UInt8)].length<=1152921504606846976/\K .ret 58 [.s ([(40:UInt8)]++a++ [(41:UInt8)])] h) (If (k==(6:Int)) (∃c,(PCon UY 81 [I lo,I hi] λv=>v=.s c)/\a.length+c.length<=1152921504606846976/\K .ret 58 [.s (a++c)] h) (K .ret 58 [.s a] h))):=kr
theorem ZRx{k s0 s1 s2 s3 a nk lo hi gn h}(K):CP UY 42 (flat (Za Tryz.f42)) (.agg (R9 k s0 s1 s2 s3 a nk none lo hi gn)::Rp 11) h [2] K=(∃c d,(PCon UY 93 [.agg (R9 k s0 s1 s2 s3 a nk none lo hi gn)] λv=>v=.tup [.s c,I d])/\K .ret 12 [.b (d==(0:Int))] h):=kr
theorem ZRy{k s0 s1 s2 s3 a nk lo hi gn h}(K):CP UY 93 (flat (Za Tryz.f93)) (.agg (R9 k s0 s1 s2 s3 a nk none lo hi gn)::Rp 19) h [2,3] K=(∃b c,(PCon UY 95 [.agg (R9 k s0 s1 s2 s3 a nk none lo hi gn),I 0,I 0,I 0] λv=>v=.tup [.b b,I c])/\If (!b) (K .ret 20 [.s [],I 5] h) (∃d,(PCon UY 37 [.agg (R9 k s0 s1 s2 s3 a nk none lo hi gn)] λv=>v=.s d)/\If (ltI 200 (↑d.length:Int)) (K .ret 20 [.s [],I 2] h) (K .ret 20 [.s d,I 0] h))):=kr
end Go.Y
