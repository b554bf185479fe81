/- A part of the proof. -/
import Derived.Test.YteennilbmmlikaaGreatDoorGTrF
import Derived.Test.YteennilbmmlikaaGreatDoorYLoop
import Derived.Test.YteennilbmmlikaaGreatDoorYAny3
import Derived.Test.YteennilbmmlikaaGreatDoorYTryhP
namespace Go.Y
set_option maxRecDepth 1000000
set_option maxHeartbeats 0
def lvM(lv:Int):Int:=if lv=3 then 4 else lv
def FR(o:Option Int)(p:Bool×Int):Prop:=(∀g,o=some g->p=(true,g))/\(o=none->p.1=false)
theorem FR.none{g:Int} :FR Option.none (false,g):=⟨(λ_ h=>by cases h),λ_=>rfl⟩
theorem FR.some{g:Int} :FR (Option.some g) (true,g):=⟨(λ_ h=>by cases h;rfl),λh=>by cases h⟩
theorem FR.ite{c:Prop} [Decidable c] {d:Prop} [Decidable d] {o:Option Int} {p:Bool×Int} {g:Int} (h:FR o p) (a:c↔ ¬d):FR (if c then o else Option.none) (if d then(false,g)else p):=by
 by_cases b:d;rw[uF b,uE (λe=>(a.1 e) b)];exact FR.none;rw[uE b,uF (a.2 b)];exact h
mutual
theorem Zib: ∀(r:Re) (lv f g:Int),(lv=0\/lv=1\/lv=2\/lv=3)->FR (rightF r lv f g) (formF r (lvM lv) f g)
 | .mk k s d m j n,lv,f,g,a=>by
  have l:=Zgi d;rw[rightF,formF];by_cases i:Zea k s m j n=false;rw[uF i,uF i];exact FR.none;rw[uE i,uE i];by_cases A:k=0
  .subst A;rw[uF rfl,uE (show¬((0:Int)==7)=true from dc),uE (show¬((0:Int)==6)=true from dc),uE (show¬((0:Int)==4)=true from dc),uE (show¬((0:Int)==5)=true from dc)];refine FR.ite FR.some ?_;rcases a with rfl|rfl|rfl|rfl<;>cases d<;>simp[lvM,ltI,leI]<;>omega
  rw[uE A];by_cases B:k=1
  .subst B;rw[uF rfl,uE (show¬((1:Int)==7)=true from dc),uE (show¬((1:Int)==6)=true from dc),uE (show¬((1:Int)==4)=true from dc),uE (show¬((1:Int)==5)=true from dc)];refine FR.ite FR.some ?_;rcases a with rfl|rfl|rfl|rfl<;>cases d<;>simp[lvM,ltI,leI]<;>omega
  rw[uE B];by_cases c:k=2\/k=3
  .rw[uF c];have t: ¬(k==7)=true:=by rcases c with rfl|rfl<;>decide
   have q: ¬(k==6)=true:=by rcases c with rfl|rfl<;>decide
   have o: ¬(k==4)=true:=by rcases c with rfl|rfl<;>decide
   have p: ¬(k==5)=true:=by rcases c with rfl|rfl<;>decide
   rw[uE t,uE q,uE o,uE p];refine FR.ite FR.some ?_;rcases c with rfl|rfl<;>rcases a with rfl|rfl|rfl|rfl<;>cases d<;>simp[lvM,ltI,leI]<;>omega
  rw[uE c];by_cases w:k=4
  .subst w;rw[uF rfl,uE (show¬((4:Int)==7)=true from dc),uE (show¬((4:Int)==6)=true from dc),uF (show((4:Int)==4)=true from rfl)];have e:=l 2 f g sm;rw[show lvM 2=2 from rfl]at e;unfold endF;by_cases b:ltI 1 (lvM lv)=true
   .rw[uF b,uE]; · exact FR.none
    rcases a with rfl|rfl|rfl|rfl<;>simp_all [lvM,ltI,leI]
   .rw[uE b];refine FR.ite e ?_;rcases a with rfl|rfl|rfl|rfl<;>simp_all [lvM,ltI,leI]<;>omega
  rw[uE w];by_cases x:k=5
  .subst x;rw[uF rfl,uE (show¬((5:Int)==7)=true from dc),uE (show¬((5:Int)==6)=true from dc),uE (show¬((5:Int)==4)=true from dc),uF (show((5:Int)==5)=true from rfl)];have e:=l 1 f g sm;rw[show lvM 1=1 from rfl]at e;unfold endF;by_cases b:ltI 0 (lvM lv)=true
   .rw[uF b,uE]; · exact FR.none
    rcases a with rfl|rfl|rfl|rfl<;>simp_all [lvM,ltI,leI]
   .rw[uE b];refine FR.ite e ?_;rcases a with rfl|rfl|rfl|rfl<;>simp_all [lvM,ltI,leI]<;>omega
  rw[uE x];by_cases y:k=6
  .subst y;rw[uF rfl,uE (show¬((6:Int)==7)=true from dc),uF (show((6:Int)==6)=true from rfl)];have e:=l 3 f g sm;rw[show lvM 3=4 from rfl]at e;unfold endF;by_cases b:ltI 2 (lvM lv)=true\/ltI m 0=true\/ltI 8 m=true\/ltI 8 j=true\/((j != -1)=true/\ltI j m=true)
   .rw[uF b,uE]; · exact FR.none
    rcases a with rfl|rfl|rfl|rfl<;>simp[lvM,ltI,leI]at b ⊢<;>omega
   .rw[uE b];refine FR.ite e ?_;rcases a with rfl|rfl|rfl|rfl<;>simp[lvM,ltI,leI]at b ⊢<;>omega
  rw[uE y];by_cases z:k=7
  .subst z;rw[uF rfl,uF (show((7:Int)==7)=true from rfl)];have e:=l 0 (XR (f+1)) (XR (g+1)) sm;rw[show lvM 0=0 from rfl]at e;unfold endF;by_cases b:(n==if ltI 9 (XR (g+1))=true then 0 else XR (g+1))=true/\leI 64 f=false
   .rw[uF b];refine FR.ite e ?_;have v:f<64:=by have:=b.2;simp[leI]at this;exact this
    rw[b.1];simp[ltI,v]
   .rw[uE b,uE]; · exact FR.none
    intro u;simp only[qrq]at u;refine b ⟨u.1.1,?_⟩;have v:f<64:=by have:=u.1.2;simpa[ltI]using this
    simp[leI,v]
  rw[uE z];have t: ¬(k==7)=true:=su z;have q: ¬(k==6)=true:=su y;have o: ¬(k==4)=true:=su w;have p: ¬(k==5)=true:=su x;rw[uE t,uE q,uE o,uE p,uF];exact FR.none;by_cases h:k<0;exact .inr (.inl (by simpa[ltI]using h));refine .inr (.inr (.inl ?_));simp[ltI];omega
theorem Zgi: ∀(l:List Re) (lv a g:Int),(lv=0\/lv=1\/lv=2\/lv=3)->FR (rightF.kidsF l lv a g) (formF.kidsG l (lvM lv) a g)
 | [],lv,a,g,_=>by rw[rightF.kidsF,formF.kidsG];exact FR.some
 |r::l,lv,a,g,b=>by
  have d:=Zib r lv a g b;rw[rightF.kidsF,formF.kidsG]
  cases e:rightF r lv a g with
  |none=>
   have:=d.2 e;rw[uE (by rw[this];decide)];exact FR.none
  |some c=>
   have:=d.1 c e;rw[this,uF rfl];exact Zgi l lv a c b
end
theorem ZGy(r):(formF r 0 0 0).1=(rightF r 0 0 0).isSome:=by
 have h:=Zib r 0 0 0 (.inl rfl);rw[show lvM 0=0 from rfl]at h
 cases a:rightF r 0 0 0 with
 |none=>exact h.2 a
 |some g=>rw[h.1 g a];rfl
def nnS(s:S4):Prop:= ∃p,s=ZD p
def nnRe:Re->Prop
 | .mk _ s a _ _ _=>nnS s/\nnRes a
where
 nnRes:List Re->Prop
  | []=>True
  |r::l=>nnRe r/\nnRes l
theorem QI(p):nnS (ZD p):=⟨p,rfl⟩
theorem Zxy:nnS (0,0,0,0):=⟨_,setOf_no.symm⟩
theorem Wv: ∀ {l m:List Re},nnRe.nnRes l->nnRe.nnRes m->nnRe.nnRes (l++m)
 | [],m,_,h=>h
 |r::l,m,h,g=>by
  rw[qs,nnRe.nnRes];rw[nnRe.nnRes]at h;exact⟨h.1,Wv h.2 g⟩
theorem ZBl{k:Int}{a}{c b n:Int}(h:nnRe.nnRes a):nnRe (.mk k (0,0,0,0) a c b n):=by rw[nnRe];exact⟨Zxy,h⟩
theorem Zmr{k:Int} : ∀ {l:List Re},nnRe.nnRes l->nnRe (sevS k l)
 | [],h=>ZBl h
 | [r],h=>by rw[nnRe.nnRes]at h;exact h.1
 |_::_::_,h=>ZBl h
theorem Zgj{k:Int}{r}{b a n:Int}(h:nnRe r):nnRe (.mk k (0,0,0,0) [r] b a n):=ZBl (by rw[nnRe.nnRes,nnRe.nnRes];exact⟨h,trivial⟩)
theorem Zar{x}(h:nnS x):nnRe (Qw x):=by unfold Qw;rw[nnRe,nnRe.nnRes];exact⟨h,trivial⟩
theorem Zab{k:Int} :nnRe (.mk k (0,0,0,0) [] 0 0 0):=ZBl (by rw[nnRe.nnRes];trivial)
theorem ZBm{s}{i j:Nat}{x}(h:QN s i= .ok (x,j)):nnRe (Qw x):=by
 unfold QN at h;simp only[]at h;split at h;cases h;cases h;exact Zar (QI _)
theorem ZDw(s:List UInt8): ∀n,
  (∀ {d i g r j b},altE n d s i g= .ok (r,j,b)->i<=s.length->g<=i->nnRe r)/\
  (∀ {d i g l r j b},WJ n d s i g l= .ok (r,j,b)->i<=s.length->g<=i->l.length<=i+1->nnRe.nnRes l->nnRe r)/\
  (∀ {d i g l r j b},rowE n d s i g l= .ok (r,j,b)->i<=s.length->g<=i->l.length<=i->nnRe.nnRes l->nnRe r)/\
  (∀ {d i g r j b},Qh n d s i g= .ok (r,j,b)->i<=s.length->g<=i->nnRe r)/\
  (∀ {d i g r j b},JW n d s i g= .ok (r,j,b)->i<=s.length->g<=i->nnRe r)
 |0=>⟨λh=>by simp[altE]at h,λh=>by simp[WJ]at h,λh=>by simp[rowE]at h,λh=>by simp[Qh]at h,λh=>by simp[JW]at h⟩
 |n+1=>by
  obtain⟨E,w,q,F,G⟩:=ZDw s n;obtain⟨K,L,v,D,N⟩:=XT s n;refine⟨λ{d i g r j b} h k f=> ?_,λ{d i g l r j b} h k f u m=> ?_,λ{d i g l r j b} h k f u m=> ?_,λ{d i g r j b} h k f=> ?_,λ{d i g r j b} h k f=> ?_⟩;rw[altE]at h;split at h;cases h;rename_i r1 p o e;have a:=v e k f;exact w h a.2.1 a.2.2 sm (by rw[nnRe.nnRes,nnRe.nnRes];exact⟨q e k f (qx _) (by rw[nnRe.nnRes];trivial),trivial⟩);rw[WJ]at h;split at h;rename_i y;have B:=(qb.1 y).1;split at h;cases h;rename_i r1 p o e;have a:=v e om om;exact w h a.2.1 a.2.2 (by simp;omega) (Wv m (by rw[nnRe.nnRes,nnRe.nnRes];exact⟨q e om om (qx _) (by rw[nnRe.nnRes];trivial),trivial⟩));cases h;exact Zmr m;rw[rowE]at h;split at h;cases h;exact Zmr m;split at h;cases h;exact Zmr m;split at h;cases h;rename_i r1 p o e;have a:=D e k f;exact q h a.2.1 a.2.2 (by simp;omega) (Wv m (by rw[nnRe.nnRes,nnRe.nnRes];exact⟨F e k f,trivial⟩));rw[Qh]at h;split at h;cases h;rename_i r1 p o e;have a:=G e k f;split at h;cases h;exact a;split at h;split at h;cases h;split at h;cases h;exact Zgj a;split at h;cases h;exact Zgj a;split at h;cases h;exact Zgj a;split at h;cases h;rename_i H A C t;cases h;exact Zgj a;cases h;exact a
  .rw[JW]at h;split at h;cases h
   .rename_i c z;have u:=(qb.1 z).1;split at h;cases h
    .split at h;split at h;cases h;split at h;cases h;rename_i r1 p o e;split at h;cases h;exact Zgj (E e om om);cases h
     .split at h;split at h;cases h;rename_i x C t;cases h;exact ZBm t
      .split at h
       .cases h;first|exact Zab|exact Zar (QI _)
       .split at h
        .cases h;first|exact Zab|exact Zar (QI _)
        .split at h
         .cases h;first|exact Zab|exact Zar (QI _)
         .split at h
          .split at h;cases h
           .cases h;first|exact Zab|exact Zar (QI _)
          .cases h;first|exact Zab|exact Zar (QI _)
theorem ZBn{s:List UInt8}{r}(h:Qx s= .ok r):nnRe r:=by unfold Qx at h;split at h;cases h;split at h;cases h;rename_i r1 c b a;split at h;cases h;cases h;exact(ZDw s _).1 a (qx _) (qx _)
theorem ZDx(s):nnRe (ereL s):=by
 unfold ereL
 cases a:Qx s with
 |error e=>exact Zab
 |ok x=>exact ZBn a
mutual
theorem Zrh: ∀r:Re,nnRe r->nnRe (laterF r)
 | .mk k s a c b n,h=>by
  rw[nnRe]at h;rw[Zex,nnRe];exact⟨h.1,Zms a h.2⟩
theorem Zms: ∀l:List Re,nnRe.nnRes l->nnRe.nnRes (l.map laterF)
 | [],_=>by rw[List.map_nil,nnRe.nnRes];trivial
 |r::l,h=>by
  rw[nnRe.nnRes]at h;rw[qz,nnRe.nnRes];exact⟨Zrh r h.1,Zms l h.2⟩
end
theorem ZDy:nnRe Vx:=Zar (QI _)
theorem Zo6:nnRe ZU:=Zgj ZDy
theorem Zgk: ∀s:List UInt8,nnRe.nnRes (Xl s)
 | []=>by simp only[Xl,List.map_nil];rw[nnRe.nnRes];trivial
 |c::s=>by
  have e:Xl (c::s)=Ws c::Xl s:=by simp[Xl]
  rw[e,nnRe.nnRes];exact⟨Zar (QI _),Zgk s⟩
theorem Zxz(g:Glob):nnRe.nnRes (XX g):=by unfold XX;split;rw[nnRe.nnRes,nnRe.nnRes];exact⟨Zar (QI _),trivial⟩;split;rw[nnRe.nnRes,nnRe.nnRes];exact⟨ZDy,trivial⟩;split;rw[nnRe.nnRes,nnRe.nnRes];exact⟨Zo6,trivial⟩;split;rw[nnRe.nnRes,nnRe.nnRes];exact⟨Zar (QI _),trivial⟩;rw[nnRe.nnRes];trivial
theorem Zmt: ∀l:List Glob,nnRe.nnRes (ZX l)
 | []=>by simp only[ZX,List.flatMap_nil];rw[nnRe.nnRes];trivial
 |g::l=>by
  have e:ZX (g::l)=XX g++ZX l:=by simp[ZX]
  rw[e];exact Wv (Zxz g) (Zmt l)
theorem Zri(k:Int)(t:List UInt8):nnRe.nnRes (ZU::(JO k t++ [ZU])):=by
 rw[nnRe.nnRes];refine⟨Zo6,Wv ?_ (by rw[nnRe.nnRes,nnRe.nnRes];exact⟨Zo6,trivial⟩)⟩;unfold JO;split;exact Zgk t;split;exact Zmt _;split;rw[nnRe.nnRes,nnRe.nnRes];exact⟨Zgj (Zrh _ (ZDx t)),trivial⟩;rw[nnRe.nnRes];trivial
/-! ### Runs, byte by byte -/
abbrev PR2:=UInt8×UInt8
def Zak(p:Nat->Bool)(c:Nat)(a:List PR2):List PR2:=
 if p c=true then(match a.getLast? with
  |some q=>if q.2.toNat+1=c then a.dropLast++ [(q.1,UInt8.ofNat c)]else a++ [(UInt8.ofNat c,UInt8.ofNat c)]
  |none=>a++ [(UInt8.ofNat c,UInt8.ofNat c)])else a
def Zdr(p:Nat->Bool):Nat->Nat->List PR2->List PR2
 |0,_,a=>a
 |n+1,c,a=>Zdr p n (c+1) (Zak p c a)
theorem Zrj(p:Nat->Bool)(a:List PR2)(f:UInt8): ∀(n c:Nat),n=256-c->0<c->c<=256->Zdr p n c (a++ [(f,UInt8.ofNat (c-1))])=Zdr p (256-runE p n c) (runE p n c) (a++ [(f,UInt8.ofNat (runE p n c-1))])/\c<=runE p n c/\runE p n c<=256/\(runE p n c<256->p (runE p n c)=false)
 |0,c,i,_,g=>by
  have:c=256:=om;subst this;exact⟨rfl,qnq _,qnq _,λh=>absurd h (by rw[runE];omega)⟩
 |n+1,c,i,j,g=>by
  by_cases b:p c=true
  .rw[runE,uF b];have d:=Zrj p a f n (c+1) om om om;refine⟨?_,om,d.2.2.1,d.2.2.2⟩;rw[<-d.1,Zdr]
   congr 1
   have e:((UInt8.ofNat (c-1)).toNat)+1=c:=by
    rw[UInt8.toNat_ofNat'];omega
   unfold Zak;rw[uF b];simp only[List.getLast?_append,List.getLast?_singleton,Option.some_or,List.dropLast_concat];rw[uF e,show c+1-1=c from om]
  .rw[runE,uE b];exact⟨by rw[i],qnq _,g,λ_=>su b⟩
theorem Zo7(p): ∀(f c:Nat) (a:List PR2),257<=f+c->c<=257->(∀q,a.getLast? =some q->q.2.toNat+1<c)->goF p f c a=Zdr p (256-c) c a
 |0,c,a,r,s,_=>by
  rw[goF,show 256-c=0 from om,Zdr]
 |f+1,c,a,r,s,k=>by
  rw[goF];by_cases j:c<256
  .rw[uF j];obtain⟨n,d⟩: ∃n,256-c=n+1:=⟨255-c,om⟩;by_cases g:p c=true
   .have l:=Zrj p a (UInt8.ofNat c) n (c+1) om om om;have i:runE p (256-c) c=runE p n (c+1):=by rw[d,runE,uF g]
    rw[i];generalize runE p n (c+1)=e at l;obtain⟨r1,x,y,w⟩:=l;rw[uF om];have b: ∀q,(a++ [(UInt8.ofNat c,UInt8.ofNat (e-1))]).getLast? =some q->q.2.toNat+1<e+1:=by
     intro q h;simp only[List.getLast?_append,List.getLast?_singleton,Option.some_or]at h;cases h;show(UInt8.ofNat (e-1)).toNat+1<e+1;rw[UInt8.toNat_ofNat'];omega
    rw[Zo7 p f (e+1) _ om om b,d,Zdr];have o:Zak p c a=a++ [(UInt8.ofNat c,UInt8.ofNat (c+1-1))]:=by
     unfold Zak;rw[uF g,show c+1-1=c from om]
     cases u:a.getLast? with
     |none=>rfl
     |some q=>
      have:=k q u;simp only[];rw[uE om]
    rw[o,r1];by_cases t:e<256
    .obtain⟨m,v⟩: ∃m,256-e=m+1:=⟨255-e,om⟩;rw[v,Zdr];have:Zak p e (a++ [(UInt8.ofNat c,UInt8.ofNat (e-1))])=a++ [(UInt8.ofNat c,UInt8.ofNat (e-1))]:=by
      unfold Zak;rw[uE (by rw[w t];decide)]
     rw[this,show 256-(e+1)=m from om]
    .rw[show 256-e=0 from om,show 256-(e+1)=0 from om];rfl
   .have i:runE p (256-c) c=c:=by rw[d,runE,uE g]
    rw[i,uE om,Zo7 p f (c+1) a om om (λq h=>by have:=k q h;omega),d,Zdr];have:Zak p c a=a:=by unfold Zak;rw[uE g]
    rw[this,show 256-(c+1)=n from om]
  .rw[uE j,show 256-c=0 from om,Zdr]
theorem Ztp(p):Zdr p 256 0 []=Wr p:=(Zo7 p 257 0 [] dc dc (λq h=>by cases h)).symm
end Go.Y
namespace Go.Y
open Go.Proofs
set_option maxRecDepth 1000000
set_option maxHeartbeats 0
theorem ZGz{a c d e x1 h}(K):CP hY_ 124 (flat (Za Tryz.f124)) (.agg [U a,U c,U d,U e]::.i .u8 x1::Rp 12) h [4] K=(((64:Int)=(0:Int)->False)/\((0:Int)<=IntKind.u8.wrap (x1.tdiv (64:Int))/\IntKind.u8.wrap (x1.tdiv (64:Int))<(↑(4:Nat):Int))/\ ∃f,Zb (h.push (YObj.arr [U a,U c,U d,U e] true)) h.nx ((0:Nat)+(IntKind.u8.wrap (x1.tdiv (64:Int))).toNat*1) 1=some [U f]/\((64:Int)=(0:Int)->False)/\(0:Int)<=x1.tmod (64:Int)/\((2:Int)=(0:Int)->False)/\K .ret 14 [.b ((f.fdiv ((2:Int) ^ min (x1.tmod (64:Int)).toNat IntKind.u64.bits)).tmod (2:Int)==(1:Int))] (h.push (YObj.arr [U a,U c,U d,U e] true))):=kr
theorem ZSl{a b c d h}(K):CP UY 80 (pre B_80) (.agg [U a,U b,U c,U d]::Rp 167) h [1,3,4,10] K=(K .normal 168 [.lb [U a,U b,U c,U d],S0,I 0,Ud] h):=kr
theorem ZSm{e f g j a3 k c3 k3 d h}(K):CP UY 80 (lp_ B_80) (MZ 168 [1,3,4,10] [.lb [U e,U f,U g,U j],S a3 k c3 k3,I d,V.undef]) h [1,3,4,10,11] K=(If (ltI d 256) (∃a,(PCon UY 124 [.agg [U e,U f,U g,U j],.i .u8 (IntKind.u8.wrap d)] λv=>v=.b a)/\If (!a) (K .normal 168 [.lb [U e,U f,U g,U j],S a3 k c3 k3,I (wW (d+(1:Int))),Ud,I d] h) ((λq=>If (ltI 0 k) (SlO a3 False fun(p o:Nat)=>((0:Int)<=wW ((↑k:Int)-(1:Int))/\wW ((↑k:Int)-(1:Int))<(k:Int))/\k3=2/\ ∃b,Zb h p (o+(wW ((↑k:Int)-(1:Int))).toNat*2+(1:Nat)) 1=some [.i .u8 b]/\If (wW b==wW (d-(1:Int))) (SlO a3 False fun(p o:Nat)=>((0:Int)<=wW ((↑k:Int)-(1:Int))/\wW ((↑k:Int)-(1:Int))<(k:Int))/\k3=2/\ ∃c,Zi h p (o+(wW ((↑k:Int)-(1:Int))).toNat*2+(1:Nat)) [.i .u8 (IntKind.u8.wrap d)]=some c/\K .normal 168 [.lb [U e,U f,U g,U j],S a3 k c3 k3,I (wW (d+(1:Int))),Ud,I d] c) q) q) (∃b c l m n,Zk UY h 57 57 (S a3 k c3 k3) (J [.i .u8 (IntKind.u8.wrap d),.i .u8 (IntKind.u8.wrap d)] 1 (some 1))=some (S b c l m,n)/\K .normal 168 [.lb [U e,U f,U g,U j],S b c l m,I (wW (d+(1:Int))),Ud,I d] n))) (K (.exit 0) 168 [.lb [U e,U f,U g,U j],S a3 k c3 k3,I d,Ud,I d] h)):=kr
theorem ZSn{a3 j c3 k3 a h}(K):CP UY 80 (pre ((post B_80).drop 1)) (MZ 168 [3,10,11] [S a3 j c3 k3,V.undef,I a]) h [2,3,11,85] K=(If ((↑j:Int)==(0:Int)) (K .ret 168 [.s [(91:UInt8),94,0,45,255,93],S a3 j c3 k3,I a,Ud] h) (If ((↑j:Int)==(1:Int)) (SlO a3 False fun(k g:Nat)=>((0:Int)<=(0:Int)/\(0:Int)<(j:Int))/\k3=2/\ ∃c,Zb h k (g+Int.toNat (0:Int)*(2:Nat)+(0:Nat)) 1=some [.i .u8 c]/\If (c==(0:Int)) (SlO a3 False fun(k g:Nat)=>((0:Int)<=(0:Int)/\(0:Int)<(j:Int))/\k3=2/\ ∃d,Zb h k (g+Int.toNat (0:Int)*(2:Nat)+(1:Nat)) 1=some [.i .u8 d]/\If (d==(255:Int)) (K .ret 168 [.s [(46:UInt8)],S a3 j c3 k3,I a,Ud] h) (If ((↑j:Int)==(1:Int)) (SlO a3 False fun(k g:Nat)=>((0:Int)<=(0:Int)/\(0:Int)<(j:Int))/\k3=2/\ ∃e,Zb h k (g+Int.toNat (0:Int)*(2:Nat)+(0:Nat)) 1=some [.i .u8 e]/\SlO a3 False fun(k g:Nat)=>((0:Int)<=(0:Int)/\(0:Int)<(j:Int))/\k3=2/\ ∃f,Zb h k (g+Int.toNat (0:Int)*(2:Nat)+(1:Nat)) 1=some [.i .u8 f]/\K .normal 168 [Ud,S a3 j c3 k3,I a, .b (e==f)] h) (K .normal 168 [Ud,S a3 j c3 k3,I a, .b false] h))) (If ((↑j:Int)==(1:Int)) (SlO a3 False fun(k g:Nat)=>((0:Int)<=(0:Int)/\(0:Int)<(j:Int))/\k3=2/\ ∃d,Zb h k (g+Int.toNat (0:Int)*(2:Nat)+(0:Nat)) 1=some [.i .u8 d]/\SlO a3 False fun(k g:Nat)=>((0:Int)<=(0:Int)/\(0:Int)<(j:Int))/\k3=2/\ ∃e,Zb h k (g+Int.toNat (0:Int)*(2:Nat)+(1:Nat)) 1=some [.i .u8 e]/\K .normal 168 [Ud,S a3 j c3 k3,I a, .b (d==e)] h) (K .normal 168 [Ud,S a3 j c3 k3,I a, .b false] h))) (If ((↑j:Int)==(1:Int)) (SlO a3 False fun(k g:Nat)=>((0:Int)<=(0:Int)/\(0:Int)<(j:Int))/\k3=2/\ ∃c,Zb h k (g+Int.toNat (0:Int)*(2:Nat)+(0:Nat)) 1=some [.i .u8 c]/\SlO a3 False fun(k g:Nat)=>((0:Int)<=(0:Int)/\(0:Int)<(j:Int))/\k3=2/\ ∃d,Zb h k (g+Int.toNat (0:Int)*(2:Nat)+(1:Nat)) 1=some [.i .u8 d]/\K .normal 168 [Ud,S a3 j c3 k3,I a, .b (c==d)] h) (K .normal 168 [Ud,S a3 j c3 k3,I a, .b false] h)))):=kr
theorem ZSo{a3 e c3 k3 a h}(K):CP UY 80 (pre (flat (QT (post ((post B_80).drop 1))))) (MZ 168 [3,11,85] [S a3 e c3 k3,I a,.b true]) h [5,6,7] K=(SlO a3 False fun(f d:Nat)=>((0:Int)<=(0:Int)/\(0:Int)<(e:Int))/\k3=2/\ ∃c,Zb h f (d+Int.toNat (0:Int)*(2:Nat)+(0:Nat)) 1=some [.i .u8 c]/\K .normal 168 [.i .u8 c, .s [(92:UInt8),124,40,41,42,43,63,123,46,91,94,36],I 0] h):=kr
theorem ZSp{x5 x7 h}(K):CP UY 80 (lp_ (flat (QT (post ((post B_80).drop 1))))) (MZ 168 [5,6,7] [.i .u8 x5,.s [(92:UInt8),124,40,41,42,43,63,123,46,91,94,36],I x7]) h [2,5,6,7] K=(If (ltI x7 (↑[(92:UInt8),124,40,41,42,43,63,123,46,91,94,36].length:Int)) (∃a,((0:Int)<=x7/\ [(92:UInt8),124,40,41,42,43,63,123,46,91,94,36][x7.toNat]? =some a)/\If ((↑a.toNat:Int)==x5) (∃b,some (Q.val (.s ((fun(x:List UInt8)=>UInt8.ofNat x5.toNat::x) [])))=some (Q.val (.s b))/\ [(92:UInt8)].length+b.length<=1152921504606846976/\K .ret 168 [.s ([(92:UInt8)]++b), .i .u8 x5, .s [(92:UInt8),124,40,41,42,43,63,123,46,91,94,36],I x7] h) (K .normal 168 [Ud, .i .u8 x5, .s [(92:UInt8),124,40,41,42,43,63,123,46,91,94,36],I (wW (x7+(1:Int)))] h)) (K (.exit 2) 168 [Ud, .i .u8 x5, .s [(92:UInt8),124,40,41,42,43,63,123,46,91,94,36],I x7] h)):=kr
theorem ZSq{x5 h}(K):CP UY 80 ((post (flat (QT (post ((post B_80).drop 1))))).drop 1) (MZ 168 [5] [.i .u8 x5]) h [2,3,11] K=(∃a,some (Q.val (.s ((fun(x:List UInt8)=>UInt8.ofNat x5.toNat::x) [])))=some (Q.val (.s a))/\K .ret 168 [.s a,Ud,Ud] h):=kr
theorem ZSr{a3 l3 c3 k3 a h}(K):CP UY 80 (flat (ZP (post ((post B_80).drop 1)))) (MZ 168 [3,11,85] [S a3 l3 c3 k3,I a,.b false]) h [3,11] K=(K .normal 168 [S a3 l3 c3 k3,I a] h):=kr
theorem ZSs{a3 l3 c3 k3 a h}(K):CP UY 80 (pre ((post ((post B_80).drop 1)).drop 1)) (MZ 168 [3,11] [S a3 l3 c3 k3,I a]) h [3,8,9,11] K=(K .normal 168 [S a3 l3 c3 k3, .s [(91:UInt8)],I 0,I a] h):=kr
theorem ZSt{a3 l3 c3 k3 c b a h}(K):CP UY 80 (lp_ ((post ((post B_80).drop 1)).drop 1)) (MZ 168 [3,8,9,11] [S a3 l3 c3 k3,.s b,I a,I c]) h [3,8,9,11] K=(If (ltI a l3) (SlO a3 False fun(n k:Nat)=>(0<=a/\a<l3)/\k3=2/\ ∃d,Zb h n (k+a.toNat*2+(0:Nat)) 1=some [.i .u8 d]/\If (d==(94:Int)) (b.length+ [(92:UInt8)].length<=1152921504606846976/\SlO a3 False fun(n k:Nat)=>(0<=a/\a<l3)/\k3=2/\ ∃e,Zb h n (k+a.toNat*2+(0:Nat)) 1=some [.i .u8 e]/\SlO a3 False fun(n k:Nat)=>(0<=a/\a<l3)/\k3=2/\ ∃f,Zb h n (k+a.toNat*2+(1:Nat)) 1=some [.i .u8 f]/\If (e !=f) (SlO a3 False fun(n k:Nat)=>(0<=a/\a<l3)/\k3=2/\ ∃g,Zb h n (k+a.toNat*2+(1:Nat)) 1=some [.i .u8 g]/\If (g==(94:Int)) (SlO a3 False fun(n k:Nat)=>(0<=a/\a<l3)/\k3=2/\ ∃j,Zb h n (k+a.toNat*2+(0:Nat)) 1=some [.i .u8 j]/\SlO a3 False fun(n k:Nat)=>(0<=a/\a<l3)/\k3=2/\ ∃l,Zb h n (k+a.toNat*2+(0:Nat)) 1=some [.i .u8 l]/\ ∃m,(PCon UY 125 [J [.i .u8 j,.i .u8 l] 1 (some 1)] λv=>v=.s m)/\(b++ [(92:UInt8)]).length+m.length<=1152921504606846976/\(b++ [(92:UInt8)]++m).length+ [(45:UInt8),92,94].length<=1152921504606846976/\K .normal 168 [S a3 l3 c3 k3, .s (b++ [(92:UInt8)]++m++ [(45:UInt8),92,94]),I (wW (a+(1:Int))),I c] h) (SlO a3 False fun(n k:Nat)=>(0<=a/\a<l3)/\k3=2/\ ∃j l,Zb h n (k+a.toNat*2) 2=some [.i .u8 j,.i .u8 l]/\ ∃m,(PCon UY 125 [J [.i .u8 j,.i .u8 l] 1 (some 1)] λv=>v=.s m)/\(b++ [(92:UInt8)]).length+m.length<=1152921504606846976/\K .normal 168 [S a3 l3 c3 k3, .s (b++ [(92:UInt8)]++m),I (wW (a+(1:Int))),I c] h)) (SlO a3 False fun(n k:Nat)=>(0<=a/\a<l3)/\k3=2/\ ∃g j,Zb h n (k+a.toNat*2) 2=some [.i .u8 g,.i .u8 j]/\ ∃l,(PCon UY 125 [J [.i .u8 g,.i .u8 j] 1 (some 1)] λv=>v=.s l)/\(b++ [(92:UInt8)]).length+l.length<=1152921504606846976/\K .normal 168 [S a3 l3 c3 k3, .s (b++ [(92:UInt8)]++l),I (wW (a+(1:Int))),I c] h)) (SlO a3 False fun(n k:Nat)=>(0<=a/\a<l3)/\k3=2/\ ∃e,Zb h n (k+a.toNat*2+(0:Nat)) 1=some [.i .u8 e]/\SlO a3 False fun(n k:Nat)=>(0<=a/\a<l3)/\k3=2/\ ∃f,Zb h n (k+a.toNat*2+(1:Nat)) 1=some [.i .u8 f]/\If (e !=f) (SlO a3 False fun(n k:Nat)=>(0<=a/\a<l3)/\k3=2/\ ∃g,Zb h n (k+a.toNat*2+(1:Nat)) 1=some [.i .u8 g]/\If (g==(94:Int)) (SlO a3 False fun(n k:Nat)=>(0<=a/\a<l3)/\k3=2/\ ∃j,Zb h n (k+a.toNat*2+(0:Nat)) 1=some [.i .u8 j]/\SlO a3 False fun(n k:Nat)=>(0<=a/\a<l3)/\k3=2/\ ∃l,Zb h n (k+a.toNat*2+(0:Nat)) 1=some [.i .u8 l]/\ ∃m,(PCon UY 125 [J [.i .u8 j,.i .u8 l] 1 (some 1)] λv=>v=.s m)/\b.length+m.length<=1152921504606846976/\(b++m).length+ [(45:UInt8),92,94].length<=1152921504606846976/\K .normal 168 [S a3 l3 c3 k3, .s (b++m++ [(45:UInt8),92,94]),I (wW (a+(1:Int))),I c] h) (SlO a3 False fun(n k:Nat)=>(0<=a/\a<l3)/\k3=2/\ ∃j l,Zb h n (k+a.toNat*2) 2=some [.i .u8 j,.i .u8 l]/\ ∃m,(PCon UY 125 [J [.i .u8 j,.i .u8 l] 1 (some 1)] λv=>v=.s m)/\b.length+m.length<=1152921504606846976/\K .normal 168 [S a3 l3 c3 k3, .s (b++m),I (wW (a+(1:Int))),I c] h)) (SlO a3 False fun(n k:Nat)=>(0<=a/\a<l3)/\k3=2/\ ∃g j,Zb h n (k+a.toNat*2) 2=some [.i .u8 g,.i .u8 j]/\ ∃l,(PCon UY 125 [J [.i .u8 g,.i .u8 j] 1 (some 1)] λv=>v=.s l)/\b.length+l.length<=1152921504606846976/\K .normal 168 [S a3 l3 c3 k3, .s (b++l),I (wW (a+(1:Int))),I c] h))) (K (.exit 4) 168 [S a3 l3 c3 k3, .s b,I a,I c] h)):=kr
theorem ZSu{a h}(K):CP UY 80 ((post ((post ((post B_80).drop 1)).drop 1)).drop 1) (MZ 168 [8] [.s a]) h [2] K=(a.length+ [(93:UInt8)].length<=1152921504606846976/\K .ret 168 [.s (a++ [(93:UInt8)])] h):=kr
theorem ZSv{c x1 h}(K):CP UY 81 (flat (Za Tryz.f81)) (I c::I x1::Rp 44) h [4] K=((λd=>If (c==(0:Int)) (If (x1==(-1:Int)) (K .ret 46 [.s [(42:UInt8)]] h) (If (c==(1:Int)) (If (x1==(-1:Int)) (K .ret 46 [.s [(43:UInt8)]] h) (If (c==(0:Int)) (If (x1==(1:Int)) (K .ret 46 [.s [(63:UInt8)]] h) d) d)) (If (c==(0:Int)) (If (x1==(1:Int)) (K .ret 46 [.s [(63:UInt8)]] h) d) d))) (If (c==(1:Int)) (If (x1==(-1:Int)) (K .ret 46 [.s [(43:UInt8)]] h) (If (c==(0:Int)) (If (x1==(1:Int)) (K .ret 46 [.s [(63:UInt8)]] h) d) d)) (If (c==(0:Int)) (If (x1==(1:Int)) (K .ret 46 [.s [(63:UInt8)]] h) d) d))) (∃a,some (Q.val (.s ((fun(x:List UInt8)=>UInt8.ofNat (IntKind.u8.wrap (wW ((48:Int)+c))).toNat::x) [])))=some (Q.val (.s a))/\ [(123:UInt8)].length+a.length<=1152921504606846976/\If (x1 !=c) (([(123:UInt8)]++a).length+ [(44:UInt8)].length<=1152921504606846976/\If (leI 0 x1) (∃b,some (Q.val (.s ((fun(x:List UInt8)=>UInt8.ofNat (IntKind.u8.wrap (wW ((48:Int)+x1))).toNat::x) [])))=some (Q.val (.s b))/\([(123:UInt8)]++a++ [(44:UInt8)]).length+b.length<=1152921504606846976/\([(123:UInt8)]++a++ [(44:UInt8)]++b).length+ [(125:UInt8)].length<=1152921504606846976/\K .ret 46 [.s ([(123:UInt8)]++a++ [(44:UInt8)]++b++ [(125:UInt8)])] h) (([(123:UInt8)]++a++ [(44:UInt8)]).length+ [(125:UInt8)].length<=1152921504606846976/\K .ret 46 [.s ([(123:UInt8)]++a++ [(44:UInt8)]++ [(125:UInt8)])] h)) (([(123:UInt8)]++a).length+ [(125:UInt8)].length<=1152921504606846976/\K .ret 46 [.s ([(123:UInt8)]++a++ [(125:UInt8)])] h))):=kr
theorem ZM4{a b h}(K):CP UY 125 (pre (flat (Za Tryz.f125))) (J a b none::Rp 39) h [0,3,4] K=(K .normal 40 [J a b none, .s [],I 0] h):=kr
theorem ZDz{b n0 c a h}(K):CP UY 125 (lp_ (flat (Za Tryz.f125))) (MZ 40 [0,3,4] [J b n0 none,.s c,I a]) h [0,3,4] K=(If (ltI a n0) ((0<=a/\a<n0)/\ ∃d,Zs 1 (List.drop 0 (List.drop (a.toNat*2) b))=some [.i .u8 d]/\ ∃e,(PCon UY 161 [.i .u8 d] λv=>v=.s e)/\c.length+e.length<=1152921504606846976/\(0<=a/\a<n0)/\ ∃f,Zs 1 (List.drop 1 (List.drop (a.toNat*2) b))=some [.i .u8 f]/\(0<=a/\a<n0)/\ ∃g,Zs 1 (List.drop 0 (List.drop (a.toNat*2) b))=some [.i .u8 g]/\If (f !=g) ((c++e).length+ [(45:UInt8)].length<=1152921504606846976/\(0<=a/\a<n0)/\ ∃j,Zs 1 (List.drop 1 (List.drop (a.toNat*2) b))=some [.i .u8 j]/\ ∃l,(PCon UY 161 [.i .u8 j] λv=>v=.s l)/\(c++e++ [(45:UInt8)]).length+l.length<=1152921504606846976/\K .normal 40 [J b n0 none, .s (c++e++ [(45:UInt8)]++l),I (wW (a+(1:Int)))] h) (K .normal 40 [J b n0 none, .s (c++e),I (wW (a+(1:Int)))] h)) (K (.exit 0) 40 [J b n0 none, .s c,I a] h)):=kr
theorem ZM5{a h}(K):CP UY 125 ((post (flat (Za Tryz.f125))).drop 1) (MZ 40 [3] [.s a]) h [2] K=(K .ret 40 [.s a] h):=kr
theorem ZM6{x0 h}(K):CP UY 161 (flat (Za Tryz.f161)) (.i .u8 x0::Rp 19) h [2] K=((λb=>If (x0==(93:Int)) b (If (x0==(45:Int)) b (If (x0==(92:Int)) b (∃a,some (Q.val (.s ((fun(x:List UInt8)=>UInt8.ofNat x0.toNat::x) [])))=some (Q.val (.s a))/\K .ret 20 [.s a] h)))) (∃a,some (Q.val (.s ((fun(x:List UInt8)=>UInt8.ofNat x0.toNat::x) [])))=some (Q.val (.s a))/\ [(92:UInt8)].length+a.length<=1152921504606846976/\K .ret 20 [.s ([(92:UInt8)]++a)] h)):=kr
theorem ZSw{k s0 s1 s2 s3 a nk lo hi gn h}(K):CP UY 37 (pre (flat (Za Tryz.f37))) (.agg (R9 k s0 s1 s2 s3 a nk none lo hi gn)::Rp 57) h [1,2,3,4] K=(If (k==(1:Int)) (∃b,(PCon UY 80 [.agg [U s0,U s1,U s2,U s3]] λv=>v=.s b)/\K .ret 58 [.lb (R9 k s0 s1 s2 s3 a nk none lo hi gn), .s b,Ud,Ud] h) (If (k==(2:Int)) (K .ret 58 [.lb (R9 k s0 s1 s2 s3 a nk none lo hi gn), .s [(94:UInt8)],Ud,Ud] h) (If (k==(3:Int)) (K .ret 58 [.lb (R9 k s0 s1 s2 s3 a nk none lo hi gn), .s [(36:UInt8)],Ud,Ud] h) (K .normal 58 [.lb (R9 k s0 s1 s2 s3 a nk none lo hi gn), .s [], .s [],I 0] h)))):=kr
theorem ZSx{k s0 s1 s2 s3 b nk lo hi gn d a x4 h}(K):CP UY 37 (lp_ (flat (Za Tryz.f37))) (MZ 58 [1,2,3,4] [.lb (R9 k s0 s1 s2 s3 b nk none lo hi gn),.s d,.s a,I x4]) h [1,2,3,4] K=(If (ltI x4 nk) (If (ltI 0 x4) (If (k==(5:Int)) (a.length+ [(124:UInt8)].length<=1152921504606846976/\(0<=x4/\x4<nk)/\ ∃c e f g i j l m n o p,Zs 9 (List.drop (x4.toNat*9) b)=some (R9 c e f g i j l m n o p)/\ ∃q,(PCon UY 37 [.agg (R9 c e f g i j l m n o p)] λv=>v=.s q)/\(a++ [(124:UInt8)]).length+q.length<=1152921504606846976/\K .normal 58 [.lb (R9 k s0 s1 s2 s3 b nk none lo hi gn), .s d, .s (a++ [(124:UInt8)]++q),I (wW (x4+(1:Int)))] h) ((0<=x4/\x4<nk)/\ ∃c e f g i j l m n o p,Zs 9 (List.drop (x4.toNat*9) b)=some (R9 c e f g i j l m n o p)/\ ∃q,(PCon UY 37 [.agg (R9 c e f g i j l m n o p)] λv=>v=.s q)/\a.length+q.length<=1152921504606846976/\K .normal 58 [.lb (R9 k s0 s1 s2 s3 b nk none lo hi gn), .s d, .s (a++q),I (wW (x4+(1:Int)))] h)) ((0<=x4/\x4<nk)/\ ∃c e f g i j l m n o p,Zs 9 (List.drop (x4.toNat*9) b)=some (R9 c e f g i j l m n o p)/\ ∃q,(PCon UY 37 [.agg (R9 c e f g i j l m n o p)] λv=>v=.s q)/\a.length+q.length<=1152921504606846976/\K .normal 58 [.lb (R9 k s0 s1 s2 s3 b nk none lo hi gn), .s d, .s (a++q),I (wW (x4+(1:Int)))] h)) (K (.exit 0) 58 [.lb (R9 k s0 s1 s2 s3 b nk none lo hi gn), .s d, .s a,I x4] h)):=kr
theorem ZSy{k s0 s1 s2 s3 b nk lo hi gn a h}(K):CP UY 37 ((post (flat (Za Tryz.f37))).drop 1) (MZ 58 [1,3] [.lb (R9 k s0 s1 s2 s3 b nk none lo hi gn),.s a]) h [2] K=(If (k==(7:Int)) ([(40:UInt8)].length+a.length<=1152921504606846976/\([(40:UInt8)]++a).length+ [(41:UInt8)].length<=1152921504606846976/\K .ret 58 [.s ([(40:UInt8)]++a++ [(41:UInt8)])] h) (If (k==(6:Int)) (∃c,(PCon UY 81 [I lo,I hi] λv=>v=.s c)/\a.length+c.length<=1152921504606846976/\K .ret 58 [.s (a++c)] h) (K .ret 58 [.s a] h))):=kr
theorem ZSz{k s0 s1 s2 s3 a nk lo hi gn h}(K):CP UY 42 (flat (Za Tryz.f42)) (.agg (R9 k s0 s1 s2 s3 a nk none lo hi gn)::Rp 11) h [2] K=(∃c d,(PCon UY 93 [.agg (R9 k s0 s1 s2 s3 a nk none lo hi gn)] λv=>v=.tup [.s c,I d])/\K .ret 12 [.b (d==(0:Int))] h):=kr
theorem ZS0{k s0 s1 s2 s3 a nk lo hi gn h}(K):CP UY 93 (flat (Za Tryz.f93)) (.agg (R9 k s0 s1 s2 s3 a nk none lo hi gn)::Rp 19) h [2,3] K=(∃b c,(PCon UY 95 [.agg (R9 k s0 s1 s2 s3 a nk none lo hi gn),I 0,I 0,I 0] λv=>v=.tup [.b b,I c])/\If (!b) (K .ret 20 [.s [],I 5] h) (∃d,(PCon UY 37 [.agg (R9 k s0 s1 s2 s3 a nk none lo hi gn)] λv=>v=.s d)/\If (ltI 200 (↑d.length:Int)) (K .ret 20 [.s [],I 2] h) (K .ret 20 [.s d,I 0] h))):=kr
end Go.Y
