/- A part of the proof. -/
import Derived.Test.YteennilbmmlikaaGreatDoorYFrz
namespace Go.Y
set_option maxRecDepth 1000000
set_option maxHeartbeats 0
structure LX{α:Type}(f:α->List V)(k:Nat)(h:Heap)(a:Option (Nat×Nat))(l:Nat)(c:Option Nat)(kk:Nat)(out:List α):Prop where
 nil:out= []->a=none
 cells:out≠ []-> ∃j,a=some (j,0)∧kk=k∧j<h.nx∧h.get j=some (.arr (row f out) true)∧(c=none∨c=some l)
 len:l=out.length

section
variable {α:Type} {f:α->List V} {k:Nat} {h h':Heap} {a:Option (Nat×Nat)} {l:Nat} {c:Option Nat} {kk:Nat} {out:List α}

theorem LX.start(f:α->List V)(k:Nat)(h:Heap)(c:Option Nat)(kk:Nat):LX f k h none 0 c kk ([]:List α):=⟨fun _=>rfl,fun h=>absurd rfl h,rfl⟩
theorem LX.one(f:α->List V)(k:Nat)(h:Heap)(x:α):LX f k (h.push (.arr (f x) true)) (some (h.nx,0)) 1 (some 1) k [x]:=⟨fun e=>(by cases e),fun _=>⟨h.nx,rfl,rfl,by simp,by simp[row,qk], .inr rfl⟩,rfl⟩
theorem LX.fr(hl:LX f k h a l c kk out)(hn:h.nx<=h'.nx)(hs: ∀j,a=some (j,0)->j<h.nx->h'.get j=h.get j):LX f k h' a l c kk out:=
 ⟨hl.nil,fun hne=>by obtain⟨j,h1,h2,h3,h4,h5⟩:=hl.cells hne;exact⟨j,h1,h2,by omega,by rw[hs j h1 h3,h4],h5⟩,hl.len⟩

theorem LX.app{Y:YP}{st e:TypeId}{te:TI}{new}(x:α)(hnew:f x=new)(hfl: ∀x,(f x).length=k)(hk:Y.kd st=some (.slice e))(hte:Y.ty e=some te)(hs:te.size=k)(hk0:k≠0)(hc:Zk new=true)
  (hby:te.bytes<=1024) (hl:LX f k h a l c kk out) (hb:out.length<2 ^ 29):
  ∃a' l' c' k' h',Zf Y h st st (.sl a l c kk) (.ts new 1 (some 1))=some (.sl a' l' c' k',h')∧LX f k h' a' l' c' k' (out++ [x])∧Fr h a h'∧ ∃j,a'=some (j,0)∧h.nx<=j:=by
 have hm:most=1099511627776:=by decide
 have h1:(out.length+1)*te.bytes<=2 ^ 29*1024:=Nat.mul_le_mul (by omega) hby
 have hnl:new.length=1*k:=by rw[<-hnew,hfl,Nat.one_mul]
 have hrow:row f (out++ [x])=row f out++new:=by rw[Xo,<-hnew];simp[row]
 have fin: ∀ {a l c kk},IsL h k a l c kk (row f out)->l=out.length-> ∃a' l' c' k' h',Zf Y h st st (.sl a l c kk) (.ts new 1 (some 1))=some (.sl a' l' c' k',h')∧LX f k h' a' l' c' k' (out++ [x])∧Fr h a h'∧ ∃j,a'=some (j,0)∧h.nx<=j:=by
  intro a l c kk hI hlen
  obtain⟨a',l',c',k',h',q1,q2,q3,q4,j,q5,q6⟩:=Zaf (Y:=Y) (new:=new) (m:=1) (cap:=some 1) hk hte hs hk0 hI (by decide) (ZA hnl.symm) hc (by rw[hlen];omega) (by omega)
  refine⟨a',l',c',k',h',q1,⟨fun hn=>by simp at hn,fun _=> ?_,by rw[q4,hlen];simp⟩,q3,j,q5,q6⟩
  obtain⟨_,(⟨e,_⟩|⟨id,e1,e2,e3,e4,e5⟩)⟩:=q2
  ·rw[q5]at e;cases e
  ·exact⟨id,e1,e3,e4,by rw[e5,hrow], .inl e2⟩
 by_cases hne:out= []
 ·have ha:=hl.nil hne
  have hl0:=hl.len
  subst hne ha hl0
  exact fin (IsL.nil h k c kk) rfl
 ·obtain⟨id,rfl,rfl,hid,hg,hcap⟩:=hl.cells hne
  have hlen:=hl.len
  have hrl:l*kk=(row f out).length:=by rw[Xf hfl,hlen]
  rcases hcap with rfl|rfl
  ·exact fin ⟨hrl, .inr ⟨id,rfl,rfl,rfl,hid,hg⟩⟩ hlen
  ·refine⟨some (h.nx,0),l+1,none,kk,h.push (.arr (row f out++new) true),?_,⟨fun hn=>by simp at hn,fun _=>⟨h.nx,rfl,rfl,by simp,by rw[qk,if_pos rfl,hrow], .inl rfl⟩,by simp[hlen]⟩,⟨by simp,fun j hj _=>by rw[qk,if_neg (by omega)]⟩,h.nx,rfl,qnq _⟩
   have hsrc:Xz Y ⟨[],[],h⟩ te st (.ts new 1 (some 1))=some (1,new):=by
    have hn:Zo (1*kk) new=some new:=ZA hnl.symm
    simp only[Xz,hk,QL,XE,hs,hn];rfl
   have hb1: ¬((l+1)*te.bytes>most∨l+1>most):=by rw[hlen];omega
   have hne2: ¬(l+1<=l):=by omega
   have htk:Zo (l*kk) ((row f out).drop 0)=some (row f out):=by rw[ql];exact ZA hrl
   have h10: ¬((1:Nat)=0):=by decide
   simp only[Zf,ZR,hk,hte,hsrc,if_false,hs,ne_eq,not_true_eq_false,h10,hb1,hne2,Xg,hg,htk]
   rw[if_neg (by simp[hc,hk0])]

theorem Jj(hcold: ∀x,ZQ (f x)=true): ∀l:List α,ZQ (row f l)=true
 | []=>rfl
 |x::l=>by
  have:row f (x::l)=f x++row f l:=rfl
  rw[this];exact QE (hcold x) (Jj hcold l)

theorem LX.afterZ(hk:k≠0)(hfl: ∀x,(f x).length=k)(hcold: ∀x,ZQ (f x)=true)(hl:LX f k h a l c kk out):
  ∃D:List Nat,Frz (VW h D) (.sl a l c kk) (lst f out)∧(∀j,j∈D->a=some (j,0)):=by
 have hlen:=hl.len
 by_cases hne:out= []
 ·have ha:=hl.nil hne
  subst hne ha hlen
  exact⟨[], .sln _ _ _ (fun x hx=>by cases hx),by simp⟩
 ·obtain⟨id,rfl,rfl,hid,hg,_⟩:=hl.cells hne
  subst hlen
  exact⟨[id], .sl _ _ _ _ _ (row f out) true (row f out) _ _ (by rw[QW,if_pos (by simp),hg]) (by rw[ql];exact ZA (Xf hfl out).symm) (fun x hx=>by cases hx) hk (ZU _ (Jj hcold out)),by simp⟩
theorem FrO.kill{id:Nat}{D:List Nat}(f:FrO h id h')(hD: ∀j,j∈D->h.nx<=j):FrO h id (XT h' D):=
 ⟨by rw[WN];exact f.1,fun j hj hn=>by rw[Qr,if_neg (fun hm=>by have:=hD j hm;omega)];exact f.2 j hj hn⟩
theorem LX.keep{id:Nat}{h0:Heap}(hl:LX f k h a l c kk out)(hnew: ∀j,a=some (j,0)->h0.nx<=j)(hid:id<h0.nx)(q:FrO h id h'):LX f k h' a l c kk out:=
 hl.fr q.1 fun j hj hlt=>q.2 j hlt (by have:=hnew j hj;omega)
theorem LX.ne{id o:Nat}{h0:Heap}(hl:LX f k h a l c kk out)(hnew: ∀j,a=some (j,0)->h0.nx<=j)(hid:id<h0.nx):a≠some (id,o):=by
 intro ha
 by_cases hne:out= []
 ·rw[hl.nil hne]at ha;cases ha
 ·obtain⟨j,h1,_⟩:=hl.cells hne
  rw[h1]at ha;cases ha
  have:=hnew id h1;omega
theorem LX.frO{id:Nat}{h0:Heap}(hl:LX f k h a l c kk out)(hnew: ∀j,a=some (j,0)->h0.nx<=j)(g:FrO h0 id h)(q:Fr h a h'):FrO h0 id h':=
 ⟨Nat.le_trans g.1 q.1,fun j hj hn=>by
  rw[q.2 j (qv hj g.1) (fun o ho=>by
   by_cases hne:out= []
   ·rw[hl.nil hne]at ho;cases ho
   ·obtain⟨j',h1,_⟩:=hl.cells hne
    rw[h1]at ho;cases ho
    have:=hnew j h1;omega)]
  exact g.2 j hj hn⟩
end
mutual
def Zd:Re->List V
 | .mk k s l lo hi n=> [.i .i64 k, .i .u64 s.1, .i .u64 s.2.1, .i .u64 s.2.2.1, .i .u64 s.2.2.2, .ts (Zqt l) l.length none, .i .i64 lo, .i .i64 hi, .i .i64 n]
def Zqt:List Re->List V
 | []=> []
 |r::l=>Zd r++Zqt l
end
theorem Zmg: ∀l:List Re,Zqt l=row Zd l
 | []=>by rw[Zqt];rfl
 |r::l=>by rw[Zqt,Zmg l];rfl
theorem Zp(k:Int)(s:S4)(l:List Re)(lo hi n:Int):Zd (.mk k s l lo hi n)= [I k,U s.1,U s.2.1,U s.2.2.1,U s.2.2.2,lst Zd l,I lo,I hi,I n]:=by
 rw[Zd,Zmg]
theorem ZK(r:Re):(Zd r).length=9:=by
 obtain⟨k,s,l,lo,hi,n⟩:=r
 rw[Zp];rfl
theorem Xb(r:Re):ZQ (Zd r)=true:=by
 obtain⟨k,s,l,lo,hi,n⟩:=r
 rw[Zp];rfl
theorem VC(r:Re):Zk (Zd r)=true:=by
 obtain⟨k,s,l,lo,hi,n⟩:=r
 rw[Zp];rfl
def Xs:Re:= .mk 0 (0,0,0,0) [] 0 0 0

/-! ### The words of a set -/
def ZS(p:Nat->Bool)(k m:Nat):Nat:=(List.range m).foldl (fun(n:Nat) b=>if p (64*k+b)then n+2 ^ b else n) 0
theorem XK(p:Nat->Bool)(k m:Nat):ZS p k (m+1)=if p (64*k+m)then ZS p k m+2 ^ m else ZS p k m:=by
 simp only[ZS,List.range_succ,List.foldl_append,List.foldl_cons,List.foldl_nil]
theorem JZ(p:Nat->Bool)(k:Nat): ∀m,ZS p k m<2 ^ m
 |0=>by simp[ZS]
 |m+1=>by
  rw[XK,Nat.pow_succ]
  have:=JZ p k m
  split<;>omega
theorem Zak(p:Nat->Bool)(k:Nat):Zob p k=(ZS p k 64:Nat):=rfl
theorem WV{p:Nat->Bool}{k:Nat} : ∀ {m:Nat},(∀b,b<m->p (64*k+b)=false)->ZS p k m=0
 |0,_=>rfl
 |m+1,h=>by rw[XK,h m (by omega),WV fun b hb=>h b (by omega)];rfl
theorem Zit{p:Nat->Bool}{k b:Nat}(hb:p (64*k+b)=true): ∀ {m:Nat},b<m->(∀x,x<m->x≠b->p (64*k+x)=false)->ZS p k m=2 ^ b
 |m+1,h,hx=>by
  rw[XK]
  by_cases e:m=b
  ·subst e
   rw[if_pos hb,WV fun x hx2=>hx x (by omega) (by omega)];omega
  ·rw[hx m (by omega) e,Zit hb (by omega) fun x h1 h2=>hx x (by omega) h2];rfl

theorem Zcj{n:Nat}(h:n<2 ^ 64):IntKind.u64.wrap (n:Int)=(n:Int):=by
 simp only[IntKind.wrap,IntKind.signed,IntKind.bits]
 have:((n:Int)) % 2 ^ 64=n:=by omega
 simpa using this
theorem Zkw{b:Nat}(hb:b<64):IntKind.u64.wrap (1*2 ^ min b IntKind.u64.bits)=((2 ^ b:Nat):Int):=by
 have e:min b IntKind.u64.bits=b:=Nat.min_eq_left (by have:IntKind.u64.bits=64:=rfl;omega)
 rw[e,Int.one_mul,show((2:Int) ^ b)=((2 ^ b:Nat):Int) by norm_cast]
 exact Zcj (Nat.pow_lt_pow_right (by decide) hb)
theorem ZCi{n b:Nat}(h:n<2 ^ b)(hb:b<64):IntKind.u64.wrap (((BitVec.ofInt IntKind.u64.bits (n:Int)|||BitVec.ofInt IntKind.u64.bits (IntKind.u64.wrap (1*2 ^ min b IntKind.u64.bits))).toNat:Nat):Int)=((n+2 ^ b:Nat):Int):=by
 have h2:2 ^ b<2 ^ 64:=Nat.pow_lt_pow_right (by decide) hb
 have h3:2 ^ b*2<=2 ^ 64:=by rw[<-Nat.pow_succ];exact Nat.pow_le_pow_right (by decide) hb
 rw[Zkw hb]
 have e1: ∀m:Nat,m<2 ^ 64->(BitVec.ofInt IntKind.u64.bits (m:Int)).toNat=m:=by
  intro m hm
  show(BitVec.ofInt 64 (m:Int)).toNat=m
  rw[BitVec.toNat_ofInt];omega
 rw[BitVec.toNat_or,e1 n (by omega),e1 _ h2]
 have e2:n|||2 ^ b=n+2 ^ b:=by
  have:=Nat.two_pow_add_eq_or_of_lt h 1
  rw[Nat.mul_one]at this
  rw[Nat.or_comm,<-this,Nat.add_comm]
 rw[e2]
 exact Zcj (by omega)
theorem Zqu(c:Nat):Int.tdiv (c:Int) 64=((c / 64:Nat):Int):=by rw[Int.tdiv_eq_ediv_of_nonneg (by omega)];omega
theorem Ze9(c:Nat):Int.tmod (c:Int) 64=((c % 64:Nat):Int):=by rw[Int.tmod_eq_emod_of_nonneg (by omega)];omega

def Qk(p:Nat->Bool)(c:Nat):List V:= [.i .u64 (ZS p 0 (min 64 c):Nat), .i .u64 (ZS p 1 (min 64 (c-64)):Nat), .i .u64 (ZS p 2 (min 64 (c-128)):Nat), .i .u64 (ZS p 3 (min 64 (c-192)):Nat)]
theorem Zqv(p:Nat->Bool){c:Nat}(h:c<256):Zo 1 ((Qk p c).drop (0+c / 64*1))=some [U (ZS p (c / 64) (c % 64):Nat)]:=by
 have:c / 64=0∨c / 64=1∨c / 64=2∨c / 64=3:=by omega
 rcases this with e|e|e|e
 ·rw[e,show c % 64=min 64 c by omega];rfl
 ·rw[e,show c % 64=min 64 (c-64) by omega];rfl
 ·rw[e,show c % 64=min 64 (c-128) by omega];rfl
 ·rw[e,show c % 64=min 64 (c-192) by omega];rfl
theorem Zui(p:Nat->Bool){c:Nat}(h:c<256)(hp:p c=false):Qk p (c+1)=Qk p c:=by
 have key: ∀k,k<4->ZS p k (min 64 (c+1-64*k))=ZS p k (min 64 (c-64*k)):=by
  intro k hk
  by_cases e:c / 64=k
  ·rw[show min 64 (c+1-64*k)=c % 64+1 by omega,show min 64 (c-64*k)=c % 64 by omega,XK,show 64*k+c % 64=c by omega,hp];rfl
  ·rw[show min 64 (c+1-64*k)=min 64 (c-64*k) by omega]
 have k0:=key 0 (by omega);have k1:=key 1 (by omega);have k2:=key 2 (by omega);have k3:=key 3 (by omega)
 simp only[Nat.mul_zero,Nat.sub_zero,Nat.mul_one,show 64*2=128 by rfl,show 64*3=192 by rfl]at k0 k1 k2 k3
 simp only[Qk,k0,k1,k2,k3]
theorem Zqw(p:Nat->Bool){c:Nat}(h:c<256)(hp:p c=true):splice (Qk p c) (0+c / 64*1) [U ((ZS p (c / 64) (c % 64)+2 ^ (c % 64):Nat):Int)]=Qk p (c+1):=by
 have hot: ∀k,c / 64=k->ZS p k (min 64 (c+1-64*k))=ZS p (c / 64) (c % 64)+2 ^ (c % 64):=by
  intro k e
  rw[show min 64 (c+1-64*k)=c % 64+1 by omega,XK,show 64*k+c % 64=c by omega,if_pos hp,e]
 have cold: ∀k,c / 64≠k->ZS p k (min 64 (c+1-64*k))=ZS p k (min 64 (c-64*k)):=by
  intro k e
  rw[show min 64 (c+1-64*k)=min 64 (c-64*k) by omega]
 have hot0:=hot 0;have hot1:=hot 1;have hot2:=hot 2;have hot3:=hot 3
 have cold0:=cold 0;have Zc1:=cold 1;have Zen:=cold 2;have cold3:=cold 3
 simp only[Nat.mul_zero,Nat.sub_zero,Nat.mul_one,show 64*2=128 by rfl,show 64*3=192 by rfl]at hot0 hot1 hot2 hot3 cold0 Zc1 Zen cold3
 have:c / 64=0∨c / 64=1∨c / 64=2∨c / 64=3:=by omega
 rcases this with e|e|e|e
 ·simp only[Qk,hot0 e,Zc1 (by omega),Zen (by omega),cold3 (by omega)];rw[e];rfl
 ·simp only[Qk,cold0 (by omega),hot1 e,Zen (by omega),cold3 (by omega)];rw[e];rfl
 ·simp only[Qk,cold0 (by omega),Zc1 (by omega),hot2 e,cold3 (by omega)];rw[e];rfl
 ·simp only[Qk,cold0 (by omega),Zc1 (by omega),Zen (by omega),hot3 e];rw[e];rfl
theorem Zmh{a:List UInt8}{i j:Nat}{l x:Int}(h:XI a i l= .ok (x,j)):i<=j:=by
 unfold XI at h
 split at h
 ·split at h
  ·injection h with h;injection h with e1 e2;omega
  ·cases h
 ·cases h
theorem Ziu{a:List UInt8}{i j:Nat}{lo hi:Int}(h:ZW a i= .ok (lo,hi,j)):i<=j:=by
 unfold ZW at h
 split at h
 ·cases h
 ·next h1=>
  have l1:=Zmh h1
  split at h
  ·split at h
   ·injection h with h;injection h with e1 h;injection h with e2 e3;omega
   ·split at h
    ·cases h
    ·next h2=>
     have l2:=Zmh h2
     split at h
     ·injection h with h;injection h with e1 h;injection h with e2 e3;omega
     ·cases h
  ·split at h
   ·injection h with h;injection h with e1 h;injection h with e2 e3;omega
   ·cases h
theorem Zuj{a:List UInt8}{i j:Nat}{x:S4}(h:Qv a i= .ok (x,j)):i<=j:=by
 unfold Qv at h
 simp only at h
 split at h
 ·cases h
 ·next h1=>
  have l1:=(VB h1)
  injection h with h;injection h with e1 e2
  split at l1<;>omega

section
variable (a pre post:List UInt8)
end
theorem Zck{s:List UInt8}{i j:Nat}{c:Int}(h:endS s i= .ok (c,j)):0<=c∧c<256:=by
 unfold endS at h
 split at h
 ·cases h
 ·rename_i d _
  split at h
  ·cases h
  ·split at h
   ·split at h
    ·cases h
    ·rename_i e _
     cases h
     have:=e.toNat_lt
     omega
   ·cases h
    have:=d.toNat_lt
    omega
theorem Zqx{s:List UInt8}{i j:Nat}{x:Span}(h:XJ s i= .ok (x,j)):(0<=x.lo∧x.lo<256)∧(0<=x.hi∧x.hi<256):=by
 unfold XJ at h
 split at h
 ·cases h
 ·rename_i lo k h1
  have g1:=Zck h1
  split at h
  ·split at h
   ·cases h
   ·rename_i hi k2 h2
    have g2:=Zck h2
    split at h
    ·cases h
    ·cases h;exact⟨g1,g2⟩
  ·cases h;exact⟨g1,g1⟩
theorem Zgw{s:List UInt8} : ∀ {n i:Nat} {out l:List Span} {j:Nat},setS n s i out= .ok (l,j)->(∀x∈out,(0<=x.lo∧x.lo<256)∧(0<=x.hi∧x.hi<256))->
  (∀x∈l,(0<=x.lo∧x.lo<256)∧(0<=x.hi∧x.hi<256))∧l.length<=out.length+(j-i)
 |0,_,_,_,_,h,_=>by cases h
 |n+1,i,out,l,j,h,ho=>by
  simp only[setS]at h
  split at h
  ·cases h;exact⟨ho,by omega⟩
  ·split at h
   ·cases h
   ·rename_i x k h1
    have g1:=Zgt h1
    have g2:=Zgw h (fun y hy=>by
     rcases qA.1 hy with hy|hy
     ·exact ho y hy
     ·rw[List.mem_singleton]at hy;subst hy;exact Zqx h1)
    have g3:=VB h
    refine⟨g2.1,?_⟩
    have:=g2.2
    simp only[qf,qh,qp]at this
    omega

theorem Zqy{s:List UInt8}{i j:Nat}{lo hi:Int}(h:ZW s i= .ok (lo,hi,j)):j<=s.length:=by
 unfold ZW at h
 split at h
 ·cases h
 ·rename_i lo2 k h1
  split at h
  ·split at h
   ·rename_i h2
    have:=(qb.1 h2).1
    cases h;omega
   ·split at h
    ·cases h
    ·split at h
     ·rename_i h3
      have:=(qb.1 h3).1
      cases h;omega
     ·cases h
  ·split at h
   ·rename_i h2
    have:=(qb.1 h2).1
    cases h;omega
   ·cases h
theorem Zuk{s:List UInt8}{i j:Nat}{x:S4}(h:Qv s i= .ok (x,j)):i<=j∧j<=s.length:=by
 refine⟨Zuj h,?_⟩
 unfold Qv at h
 simp only[]at h
 split at h
 ·cases h
 ·rename_i l k h1
  have:=VB h1
  cases h;omega

theorem XD(s:List UInt8): ∀n,
  (∀ {d i g r j g'},altE n d s i g= .ok (r,j,g')->i<=s.length->g<=i->i<=j∧j<=s.length∧g'<=j)∧
  (∀ {d i g l r j g'},JY n d s i g l= .ok (r,j,g')->i<=s.length->g<=i->i<=j∧j<=s.length∧g'<=j)∧
  (∀ {d i g l r j g'},rowE n d s i g l= .ok (r,j,g')->i<=s.length->g<=i->i<=j∧j<=s.length∧g'<=j)∧
  (∀ {d i g r j g'},XR n d s i g= .ok (r,j,g')->i<=s.length->g<=i->i<j∧j<=s.length∧g'<=j)∧
  (∀ {d i g r j g'},Jo n d s i g= .ok (r,j,g')->i<=s.length->g<=i->i<j∧j<=s.length∧g'<=j)
 |0=>⟨fun h=>by simp[altE]at h,fun h=>by simp[JY]at h,fun h=>by simp[rowE]at h,fun h=>by simp[XR]at h,fun h=>by simp[Jo]at h⟩
 |n+1=>by
  obtain⟨p1,p2,p3,p4,p5⟩:=XD s n
  refine⟨fun {d i g r j g'} h hi hg=> ?_,fun {d i g l r j g'} h hi hg=> ?_,fun {d i g l r j g'} h hi hg=> ?_,fun {d i g r j g'} h hi hg=> ?_,fun {d i g r j g'} h hi hg=> ?_⟩
  ·rw[altE]at h
   split at h
   ·cases h
   ·rename_i r1 i1 g1 h1
    have a1:=p3 h1 hi hg
    have a2:=p2 h a1.2.1 a1.2.2
    omega
  ·rw[JY]at h
   split at h
   ·rename_i h0
    have hl:=(qb.1 h0).1
    split at h
    ·cases h
    ·rename_i r1 i1 g1 h1
     have a1:=p3 h1 (by omega) (by omega)
     have a2:=p2 h a1.2.1 a1.2.2
     omega
   ·cases h;omega
  ·rw[rowE]at h
   split at h
   ·cases h;omega
   ·split at h
    ·cases h;omega
    ·split at h
     ·cases h
     ·rename_i r1 i1 g1 h1
      have a1:=p4 h1 hi hg
      have a2:=p3 h a1.2.1 a1.2.2
      omega
  ·rw[XR]at h
   split at h
   ·cases h
   ·rename_i r1 i1 g1 h1
    have a1:=p5 h1 hi hg
    split at h
    ·cases h;omega
    ·rename_i c hc
     have hl:=(qb.1 hc).1
     split at h
     ·split at h
      ·cases h
      ·split at h
       ·cases h;omega
       ·split at h
        ·cases h;omega
        ·split at h
         ·cases h;omega
         ·split at h
          ·cases h
          ·rename_i lo hi2 j2 h2
           have b1:=Ziu h2
           have b2:=Zqy h2
           cases h;omega
     ·cases h;omega
  ·rw[Jo]at h
   split at h
   ·cases h
   ·rename_i c hc
    have hl:=(qb.1 hc).1
    split at h
    ·cases h
    ·split at h
     ·split at h
      ·cases h
      ·split at h
       ·cases h
       ·rename_i r1 i1 g1 h1
        have a1:=p1 h1 (by omega) (by omega)
        split at h
        ·rename_i h41
         have:=(qb.1 h41).1
         cases h;omega
        ·cases h
     ·split at h
      ·split at h
       ·cases h
       ·rename_i x j2 h2
        have:=Zuk h2
        cases h;omega
      ·split at h
       ·cases h;omega
       ·split at h
        ·cases h;omega
        ·split at h
         ·cases h;omega
         ·split at h
          ·split at h
           ·cases h
           ·rename_i d2 h2
            have:=(qb.1 h2).1
            cases h;omega
          ·cases h;omega
end Go.Y
namespace Go.Y
open Gl

structure Au0 where
 sets:List S4
 fol:List (List Nat)
structure Part where
 first:List Nat
 last:List Nat
 empty:Bool

section
variable (bo:List Nat->List Nat->List Nat)
def VD(fol:List (List Nat))(src to:List Nat):List (List Nat):=src.foldl (fun fol p=>fol.set p (bo (fol.getD p []) to)) fol
def catP(A:Au0)(a b:Part):Au0×Part:=
 (⟨A.sets,VD bo A.fol a.last b.first⟩,⟨if a.empty then bo a.first b.first else a.first,if b.empty then bo a.last b.last else b.last,a.empty&&b.empty⟩)
def Xw(lo hi:Int):Nat:=(if 0<=hi then hi else max lo 1).toNat
def Zkx(A:Au0)(x:Part):Au0:=⟨A.sets,VD bo A.fol x.last x.first⟩
def repP(g:Au0->Au0×Part)(lo hi:Int)(n:Nat):Nat->Nat->Au0->Part->Au0×Part
 |0,_,A,out=>(A,out)
 |k+1,i,A,out=>
  let r:=g A
  let A1:=if hi<0∧i+1=n then Zkx bo r.1 r.2 else r.1
  let x:Part:=⟨r.2.first,r.2.last,r.2.empty||decide (lo<=(i:Int))⟩
  let c:=catP bo A1 out x
  repP g lo hi n k (i+1) c.1 c.2

def partF:Re->Au0->Au0×Part
 | .mk kind set kids lo hi _=>fun A=>
  if kind=1 then(⟨A.sets++ [set],A.fol++ [[]]⟩,⟨[A.sets.length],[A.sets.length],false⟩)
  else if kind=5 then altF kids A ⟨[],[],false⟩
  else if kind=4∨kind=7 then catF kids A ⟨[],[],true⟩
  else if kind=6 then repF kids lo hi A
  else(A,⟨[],[],true⟩)
where
 altF:List Re->Au0->Part->Au0×Part
  | [],A,out=>(A,out)
  |r::l,A,out=>let x:=partF r A;altF l x.1 ⟨bo out.first x.2.first,bo out.last x.2.last,out.empty||x.2.empty⟩
 catF:List Re->Au0->Part->Au0×Part
  | [],A,out=>(A,out)
  |r::l,A,out=>let x:=partF r A;let c:=catP bo x.1 out x.2;catF l c.1 c.2
 repF:List Re->Int->Int->Au0->Au0×Part
  | [],_,_,A=>(A,⟨[],[],true⟩)
  |r::_,lo,hi,A=>repP bo (partF r) lo hi (Xw lo hi) (Xw lo hi) 0 A ⟨[],[],true⟩
end
end Go.Y
namespace Go.Y
open Gl

variable {bo:List Nat->List Nat->List Nat} (hbo: ∀a b x,x∈bo a b↔x∈a∨x∈b) {has:S4->UInt8->Bool}

def catW(L M:List UInt8->Prop)(w:List UInt8):Prop:= ∃w1 w2,w=w1++w2∧L w1∧M w2

end Go.Y
namespace Go.Y
open Gl

theorem pow_succ{L:List UInt8->Prop}(m:Nat)(w:List UInt8):Pow L (m+1) w↔catW L (Pow L m) w:=Iff.rfl
variable {bo:List Nat->List Nat->List Nat} (hbo: ∀a b x,x∈bo a b↔x∈a∨x∈b) {has:S4->UInt8->Bool}

end Go.Y
namespace Go.Y
open Gl

def wfRe(B:Nat):Re->Prop
 | .mk kind _ kids lo hi _=>(kind=6->0<=lo∧lo<=8∧(hi= -1∨(lo<=hi∧hi<=8))∧kids.length=1)∧(kind≠4->kind≠5->kind≠6->kind≠7->kids= [])∧kids.length<=B∧wfRes B kids
where
 wfRes (B:Nat):List Re->Prop
  | []=>True
  |r::l=>wfRe B r∧wfRes B l
def anchB:Re->Bool
 | .mk kind _ kids _ _ _=>kind==2||kind==3||anchs kids
where
 anchs:List Re->Bool
  | []=>false
  |r::l=>anchB r||anchs l

theorem JF{B:Nat} : ∀ {l m:List Re},wfRe.wfRes B l->wfRe.wfRes B m->wfRe.wfRes B (l++m)
 | [],_,_,h=>h
 |r::l,m,h,g=>by
  rw[qs,wfRe.wfRes]
  rw[wfRe.wfRes]at h
  exact⟨h.1,JF h.2 g⟩
theorem Zmi{B:Nat}{k:Int}(hk:k=4∨k=5): ∀ {l:List Re},l.length<=B->wfRe.wfRes B l->wfRe B (sevS k l)
 | [],_,_=>by rw[sevS,wfRe];exact⟨fun h=>absurd h (by decide),fun _ _ _ _=>rfl,qx _,by rw[wfRe.wfRes];trivial⟩
 | [r],_,h=>by rw[wfRe.wfRes]at h;exact h.1
 |a::b::l,hl,h=>by
  rw[sevS,wfRe]
  ·exact⟨fun h=>(by omega),fun h1 h2 _ _=>(by omega),hl,h⟩
  all_goals simp
theorem VE{B:Nat}{k:Int}{s:S4}(hk:k=1∨k=2∨k=3):wfRe B (.mk k s [] 0 0 0):=by
 rw[wfRe];exact⟨fun h=>(by omega),fun _ _ _ _=>rfl,qx _,by rw[wfRe.wfRes];trivial⟩
theorem Zdl{B:Nat}{k:Int}{s:S4}{r:Re}{lo hi n:Int}(hB:1<=B)(hk:k=7∨(k=6∧0<=lo∧lo<=8∧(hi= -1∨(lo<=hi∧hi<=8))))(h:wfRe B r):wfRe B (.mk k s [r] lo hi n):=by
 rw[wfRe]
 refine⟨fun e=> ?_,fun h1 h2 h3 h4=>(by omega),by simpa using hB,by rw[wfRe.wfRes,wfRe.wfRes];exact⟨h,trivial⟩⟩
 rcases hk with hk|hk
 ·omega
 ·exact⟨hk.2.1,hk.2.2.1,hk.2.2.2,rfl⟩

theorem Ziv{s:List UInt8}{i j:Nat}{l x:Int}(h:XI s i l= .ok (x,j)):0<=x∧x<=8∧l<=x:=by
 unfold XI at h
 split at h
 ·rename_i c _
  split at h
  ·cases h;omega
  ·cases h
 ·cases h
theorem Zoc{s:List UInt8}{i j:Nat}{lo hi:Int}(h:ZW s i= .ok (lo,hi,j)):0<=lo∧lo<=8∧(hi= -1∨(lo<=hi∧hi<=8)):=by
 unfold ZW at h
 split at h
 ·cases h
 ·rename_i lo2 k h1
  have g1:=Ziv h1
  split at h
  ·split at h
   ·cases h;omega
   ·split at h
    ·cases h
    ·rename_i hi2 k2 h2
     have g2:=Ziv h2
     split at h
     ·cases h;omega
     ·cases h
  ·split at h
   ·cases h;omega
   ·cases h

theorem Zwo(s:List UInt8)(B:Nat)(hB:s.length+1<=B): ∀n,
  (∀ {d i g r j g'},altE n d s i g= .ok (r,j,g')->i<=s.length->g<=i->wfRe B r)∧
  (∀ {d i g l r j g'},JY n d s i g l= .ok (r,j,g')->i<=s.length->g<=i->l.length<=i+1->wfRe.wfRes B l->wfRe B r)∧
  (∀ {d i g l r j g'},rowE n d s i g l= .ok (r,j,g')->i<=s.length->g<=i->l.length<=i->wfRe.wfRes B l->wfRe B r)∧
  (∀ {d i g r j g'},XR n d s i g= .ok (r,j,g')->i<=s.length->g<=i->wfRe B r)∧
  (∀ {d i g r j g'},Jo n d s i g= .ok (r,j,g')->i<=s.length->g<=i->wfRe B r)
 |0=>⟨fun h=>by simp[altE]at h,fun h=>by simp[JY]at h,fun h=>by simp[rowE]at h,fun h=>by simp[XR]at h,fun h=>by simp[Jo]at h⟩
 |n+1=>by
  obtain⟨w1,w2,w3,w4,w5⟩:=Zwo s B hB n
  obtain⟨p1,p2,p3,p4,p5⟩:=XD s n
  refine⟨fun {d i g r j g'} h hi hg=> ?_,fun {d i g l r j g'} h hi hg hl hw=> ?_,fun {d i g l r j g'} h hi hg hl hw=> ?_,fun {d i g r j g'} h hi hg=> ?_,fun {d i g r j g'} h hi hg=> ?_⟩
  ·rw[altE]at h
   split at h
   ·cases h
   ·rename_i r1 i1 g1 h1
    have a1:=p3 h1 hi hg
    exact w2 h a1.2.1 a1.2.2 (by simp) (by rw[wfRe.wfRes,wfRe.wfRes];exact⟨w3 h1 hi hg (qx _) (by rw[wfRe.wfRes];trivial),trivial⟩)
  ·rw[JY]at h
   split at h
   ·rename_i h0
    have hlt:=(qb.1 h0).1
    split at h
    ·cases h
    ·rename_i r1 i1 g1 h1
     have a1:=p3 h1 (by omega) (by omega)
     exact w2 h a1.2.1 a1.2.2 (by simp;omega) (JF hw (by rw[wfRe.wfRes,wfRe.wfRes];exact⟨w3 h1 (by omega) (by omega) (qx _) (by rw[wfRe.wfRes];trivial),trivial⟩))
   ·cases h;exact Zmi (.inr rfl) (by omega) hw
  ·rw[rowE]at h
   split at h
   ·cases h;exact Zmi (.inl rfl) (by omega) hw
   ·split at h
    ·cases h;exact Zmi (.inl rfl) (by omega) hw
    ·split at h
     ·cases h
     ·rename_i r1 i1 g1 h1
      have a1:=p4 h1 hi hg
      exact w3 h a1.2.1 a1.2.2 (by simp;omega) (JF hw (by rw[wfRe.wfRes,wfRe.wfRes];exact⟨w4 h1 hi hg,trivial⟩))
  ·rw[XR]at h
   split at h
   ·cases h
   ·rename_i r1 i1 g1 h1
    have a1:=w5 h1 hi hg
    split at h
    ·cases h;exact a1
    ·split at h
     ·split at h
      ·cases h
      ·split at h
       ·cases h;exact Zdl (by omega) (.inr ⟨rfl,by omega⟩) a1
       ·split at h
        ·cases h;exact Zdl (by omega) (.inr ⟨rfl,by omega⟩) a1
        ·split at h
         ·cases h;exact Zdl (by omega) (.inr ⟨rfl,by omega⟩) a1
         ·split at h
          ·cases h
          ·rename_i lo hi2 j2 h2
           cases h;exact Zdl (by omega) (.inr ⟨rfl,Zoc h2⟩) a1
     ·cases h;exact a1
  ·rw[Jo]at h
   split at h
   ·cases h
   ·rename_i c hc
    have hl:=(qb.1 hc).1
    split at h
    ·cases h
    ·split at h
     ·split at h
      ·cases h
      ·split at h
       ·cases h
       ·rename_i r1 i1 g1 h1
        split at h
        ·cases h;exact Zdl (by omega) (.inl rfl) (w1 h1 (by omega) (by omega))
        ·cases h
     ·split at h
      ·split at h
       ·cases h
       ·cases h;exact VE (.inl rfl)
      ·split at h
       ·cases h;exact VE (.inl rfl)
       ·split at h
        ·cases h;exact VE (.inr (.inl rfl))
        ·split at h
         ·cases h;exact VE (.inr (.inr rfl))
         ·split at h
          ·split at h
           ·cases h
           ·cases h;exact VE (.inl rfl)
          ·cases h;exact VE (.inl rfl)
theorem Zul{s:List UInt8}{r:Re}(h:Qg s= .ok r):wfRe 201 r:=by
 unfold Qg at h
 split at h
 ·cases h
 ·split at h
  ·cases h
  ·rename_i r1 i1 g1 h1
   split at h
   ·cases h
   ·cases h
    exact(Zwo s 201 (by omega) _).1 h1 (qx _) (qx _)

/-! ### Spots -/
def cntRe:Re->Nat
 | .mk kind _ kids lo hi _=>if kind=1 then 1 else if kind=6 then Xw lo hi*cnts kids else cnts kids
where
 cnts:List Re->Nat
  | []=>0
  |r::l=>cntRe r+cnts l
def spotN:Re->Nat
 | .mk kind _ kids lo hi _=>min (if kind=6 then spots kids (if kind=1 then 1 else 0)*Xw lo hi else spots kids (if kind=1 then 1 else 0)) 301
where
 spots:List Re->Nat->Nat
  | [],n=>n
  |r::l,n=>spots l (min (n+spotN r) 301)
theorem Zgx{lo hi:Int}(h:lo<=8)(g:hi<=8):Xw lo hi<=8:=by
 unfold Xw;split<;>omega
mutual
theorem Zcl{B:Nat} : ∀(r:Re),wfRe B r->(spotN r<=301∧(cntRe r<=300->spotN r=cntRe r)∧(300<cntRe r->spotN r=301))
 | .mk kind set kids lo hi n,h=>by
  rw[wfRe]at h
  obtain⟨h1,h2,_,h4⟩:=h
  rw[spotN,cntRe]
  by_cases e1:kind=1
  ·have:kids= []:=h2 (by omega) (by omega) (by omega) (by omega)
   subst this
   rw[if_neg (by omega),if_pos e1,if_pos e1,spotN.spots]
   omega
  ·rw[if_neg e1,if_neg e1]
   obtain⟨a1,a2,a3⟩:=Zdm kids h4 0 (by omega)
   rw[Nat.zero_add]at a2 a3
   by_cases e6:kind=6
   ·rw[if_pos e6,if_pos e6]
    have ht:Xw lo hi<=8:=Zgx (by have:=h1 e6;omega) (by have:=h1 e6;omega)
    generalize Xw lo hi=t at ht
    generalize spotN.spots kids 0=x at a1 a2 a3
    generalize cntRe.cnts kids=y at a2 a3
    refine⟨by omega,fun hy=> ?_,fun hy=> ?_⟩
    ·by_cases ht0:t=0
     ·subst ht0;simp
     ·have hle:y<=t*y:=Nat.le_mul_of_pos_left y (by omega)
      have:=a2 (by omega)
      subst this
      rw[Nat.mul_comm];omega
    ·by_cases hy3:y<=300
     ·have:=a2 hy3
      subst this
      rw[Nat.mul_comm];omega
     ·have:=a3 (by omega)
      subst this
      have ht0:t≠0:=fun e=>by subst e;simp at hy
      have:301<=301*t:=Nat.le_mul_of_pos_right 301 (by omega)
      omega
   ·rw[if_neg e6,if_neg e6]
    refine⟨by omega,fun hy=> ?_,fun hy=> ?_⟩
    ·rw[a2 hy];omega
    ·rw[a3 hy];rfl
theorem Zdm{B:Nat} : ∀(l:List Re),wfRe.wfRes B l-> ∀n≤301,(spotN.spots l n<=301∧(n+cntRe.cnts l<=300->spotN.spots l n=n+cntRe.cnts l)∧(300<n+cntRe.cnts l->spotN.spots l n=301))
 | [],_,n,hn=>by rw[spotN.spots,cntRe.cnts];omega
 |r::l,h,n,hn=>by
  rw[wfRe.wfRes]at h
  rw[spotN.spots,cntRe.cnts]
  obtain⟨b1,b2,b3⟩:=Zcl r h.1
  obtain⟨a1,a2,a3⟩:=Zdm l h.2 (min (n+spotN r) 301) (by omega)
  refine⟨a1,fun hc=> ?_,fun hc=> ?_⟩
  ·have:=b2 (by omega)
   rw[a2 (by omega)];omega
  ·by_cases hr:cntRe r<=300
   ·have:=b2 hr
    by_cases h3:n+cntRe r<=301
    ·rw[a3 (by omega)]
    ·rw[a3 (by omega)]
   ·have:=b3 (by omega)
    rw[a3 (by omega)]
end
theorem Zqz{B:Nat}{r:Re}(h:wfRe B r)(hs:spotN r<=300):cntRe r<=300:=by
 obtain⟨_,_,h3⟩:=Zcl r h
 by_cases hc:cntRe r<=300
 ·exact hc
 ·rw[h3 (by omega)]at hs;omega
end Go.Y
namespace Go.Y
set_option maxRecDepth 1000000
set_option maxHeartbeats 0
def QA(l:List Int):Prop:=l.Pairwise (· < ·)

def putS:List Int->Int->List Int
 | [],n=> [n]
 |a::l,n=>if a<n then a::putS l n else if a=n then a::l else n::a::l
def allS(l more:List Int):List Int:=more.foldl putS l

theorem Zgy{x n:Int} : ∀ {l:List Int},x∈putS l n↔x=n∨x∈l
 | []=>by simp[putS]
 |a::l=>by
  unfold putS
  split
  ·rw[List.mem_cons,Zgy,List.mem_cons];grind
  ·split
   ·rename_i h;subst h;simp
   ·simp
theorem Zdn{n:Int} : ∀ {l:List Int},QA l->QA (putS l n)
 | [],_=>by simp[putS,QA]
 |a::l,h=>by
  obtain⟨h1,h2⟩:=List.pairwise_cons.1 h
  unfold putS
  split
  ·rename_i hlt
   refine List.pairwise_cons.2 ⟨fun x hx=> ?_,Zdn h2⟩
   rcases Zgy.1 hx with rfl|hx
   ·exact hlt
   ·exact h1 x hx
  ·split
   ·exact h
   ·rename_i h3 h4
    refine List.pairwise_cons.2 ⟨fun x hx=> ?_,h⟩
    rcases List.mem_cons.1 hx with rfl|hx
    ·omega
    ·have:=h1 x hx;omega
theorem Zal{x:Int} : ∀ {more l:List Int},x∈allS l more↔x∈l∨x∈more
 | [],l=>by simp[allS]
 |n::r,l=>by
  have h:allS l (n::r)=allS (putS l n) r:=rfl
  rw[h,Zal,Zgy,List.mem_cons];grind
theorem Wa: ∀ {more l:List Int},QA l->QA (allS l more)
 | [],l,h=>h
 |n::r,l,h=>by
  have e:allS l (n::r)=allS (putS l n) r:=rfl
  rw[e];exact Wa (Zdn h)

theorem Zfa: ∀ {a b:List Int},QA a->QA b->(∀x,x∈a↔x∈b)->a=b
 | [],[],_,_,_=>rfl
 | [],y::b,_,_,h=>by have:=(h y).2 (by simp);cases this
 |x::a,[],_,_,h=>by have:=(h x).1 (by simp);cases this
 |x::a,y::b,ha,hb,h=>by
  obtain⟨a1,a2⟩:=List.pairwise_cons.1 ha
  obtain⟨b1,b2⟩:=List.pairwise_cons.1 hb
  have hxy:x=y:=by
   have h1:x∈y::b:=(h x).1 (by simp)
   have h2:y∈x::a:=(h y).2 (by simp)
   rcases List.mem_cons.1 h1 with h1|h1
   ·exact h1
   ·rcases List.mem_cons.1 h2 with h2|h2
    ·exact h2.symm
    ·have:=b1 x h1;have:=a1 y h2;omega
  subst hxy
  rw[Zfa a2 b2 fun z=> ?_]
  constructor
  ·intro hz
   rcases List.mem_cons.1 ((h z).1 (List.mem_cons_of_mem _ hz))with e|e
   ·subst e;have:=a1 z hz;omega
   ·exact e
  ·intro hz
   rcases List.mem_cons.1 ((h z).2 (List.mem_cons_of_mem _ hz))with e|e
   ·subst e;have:=b1 z hz;omega
   ·exact e

def ZX:List Int->List Int
 | []=> []
 | [a]=> [a]
 |a::b::l=>if a=b then ZX (b::l)else a::ZX (b::l)
theorem WW{x:Int} : ∀ {l:List Int},x∈ZX l↔x∈l
 | []=>by simp[ZX]
 | [a]=>by simp[ZX]
 |a::b::l=>by
  unfold ZX
  split
  ·rename_i h;subst h;rw[WW];simp
  ·rw[List.mem_cons,WW,List.mem_cons (a:=x) (b:=a)]
theorem Wb: ∀ {l:List Int},l.Pairwise (· <= ·)->QA (ZX l)
 | [],_=>by simp[ZX,QA]
 | [a],_=>by simp[ZX,QA]
 |a::b::l,h=>by
  obtain⟨h1,h2⟩:=List.pairwise_cons.1 h
  unfold ZX
  split
  ·exact Wb h2
  ·rename_i hne
   refine List.pairwise_cons.2 ⟨fun x hx=> ?_,Wb h2⟩
   have hx:=WW.1 hx
   have ha:=h1 b (by simp)
   rcases List.mem_cons.1 hx with rfl|hx
   ·omega
   ·have:=(List.pairwise_cons.1 h2).1 x hx
    omega
theorem Zod{zs s:List Int}(hs:s.Pairwise (· <= ·))(hm: ∀x,x∈s↔x∈zs):ZX s=allS [] zs:=
 Zfa (Wb hs) (Wa (by simp[QA])) fun x=>by rw[WW,hm,Zal];simp
abbrev Set4:=Int×Int×Int×Int
structure Au where
 sets:List Set4
 first:List Int
 last:List Int
 follow:List (List Int)
 empty:Bool
def okAt(l:List Int)(n:Int)(i:Nat):Bool:= !decide (l.getD i 0<0)&& !decide (n<=l.getD i 0)&& !(decide (0<i)&&decide (l.getD i 0<=l.getD (i-1) 0))
def ZH3(x0 x1 x2 x3:Int):Nat->Int
 |0=>x0
 |1=>x1
 |2=>x2
 |_=>x3
abbrev Zeo(x:Set4)(k:Nat):Int:=ZH3 x.1 x.2.1 x.2.2.1 x.2.2.2 k
def hasN(x:Set4)(c:Nat):Bool:=((Zeo x (c / 64)).fdiv ((2:Int) ^ (c % 64))) % 2==1
abbrev set0:Set4:=(0,0,0,0)
def havL(sets:List Set4)(l:List Int)(c:Nat):List Int:=l.filter fun p=>hasN (sets.getD p.toNat set0) c
def inR(a:Au)(p:Int):Bool:=decide (0<=p)&&decide (p<a.sets.length)
def Zdo(a:Au)(c:Nat)(p:Int):List Int:=if inR a p then havL a.sets (a.follow.getD p.toNat []) c else []
def catL(a:Au)(ps:List Int)(c:Nat):List Int:=ps.flatMap (Zdo a c)
def Zep(a:Au)(ps:List Int)(c:Nat):List Int:=allS [] (catL a ps c)
def hasI(l:List Int)(x:Int):Bool:=l.any fun y=>x==y
def Zdp(a:Au)(ps:List Int):Bool:=ps.any fun p=>hasI a.last p
end Go.Y
namespace Go.Y
open Gl

abbrev ints(l:List Nat):List Int:=l.map fun(n:Nat)=>(n:Int)
def auF(A:Au0)(p:Part):Au:=⟨A.sets,ints p.first,ints p.last,A.fol.map ints,p.empty⟩
theorem Zmj{l:List Nat}{x:Int}(h:x∈ints l): ∃n:Nat,x=n∧n∈l:=by
 obtain⟨n,h1,e⟩:=List.mem_map.1 h
 exact⟨n,e.symm,h1⟩

def Zoe(bo:List Nat->List Nat->List Nat)(r:Re):Au:=auF (partF bo r ⟨[],[]⟩).1 (partF bo r ⟨[],[]⟩).2

end Go.Y
namespace Go.Y
open Gl

def boS(a b:List Nat):List Nat:=(allS [] (ints a++ints b)).map Int.toNat
theorem Zyp(a b:List Nat)(x:Nat):x∈boS a b↔x∈a∨x∈b:=by
 unfold boS
 simp only[List.mem_map,Zal,List.not_mem_nil,false_or,qA]
 constructor
 ·rintro⟨y,h|h,rfl⟩
  ·obtain⟨n,hn,rfl⟩:=h;exact .inl (by simpa using hn)
  ·obtain⟨n,hn,rfl⟩:=h;exact .inr (by simpa using hn)
 ·rintro(h|h)
  ·exact⟨(x:Int), .inl ⟨x,h,rfl⟩,by simp⟩
  ·exact⟨(x:Int), .inr ⟨x,h,rfl⟩,by simp⟩
theorem Zfb: ∀ {l:List Int},(∀x∈l,0<=x)->ints (l.map Int.toNat)=l
 | [],_=>rfl
 |x::l,h=>by
  have h1:=h x (by simp)
  have h2:=Zfb (l:=l) fun y hy=>h y (by simp[hy])
  simp only[ints,qz,List.map_map]at h2 ⊢
  rw[h2]
  congr 1
  omega
theorem Zq0(a b:List Nat):ints (boS a b)=allS [] (ints a++ints b):=by
 refine Zfb fun x hx=> ?_
 rw[Zal]at hx
 rcases hx with hx|hx
 ·cases hx
 ·rcases qA.1 hx with hx|hx
  ·obtain⟨n,rfl,_⟩:=Zmj hx;omega
  ·obtain⟨n,rfl,_⟩:=Zmj hx;omega
theorem Zky{l:List Nat} :QA (ints l)↔l.Pairwise (· < ·):=by
 unfold QA ints
 rw[List.pairwise_map]
 exact⟨fun h=>h.imp fun h=>by omega,fun h=>h.imp fun h=>by omega⟩

def Rz(n:Nat)(l:List Nat):Prop:=l.Pairwise (· < ·)∧ ∀x∈l,x<n
theorem Rz.mono{n m:Nat}{l:List Nat}(h:Rz n l)(hm:n<=m):Rz m l:=⟨h.1,fun x hx=>qv (h.2 x hx) hm⟩
theorem Rz.nil(n:Nat):Rz n []:=⟨.nil,fun x hx=>by cases hx⟩
theorem Rz.bo{n:Nat}{a b:List Nat}(ha: ∀x∈a,x<n)(hb: ∀x∈b,x<n):Rz n (boS a b):=
 ⟨Zky.1 (by rw[Zq0];exact Wa .nil),fun x hx=>((Zyp a b x).1 hx).elim (ha x) (hb x)⟩
theorem Zwp: ∀ {l:List Nat} {k n:Nat},l.Pairwise (· < ·)->(∀x∈l,k<=x∧x<n)->l.length<=n-k
 | [],_,_,_,_=>qx _
 |x::l,k,n,h,g=>by
  obtain⟨h1,h2⟩:=List.pairwise_cons.1 h
  have gx:=g x (by simp)
  have:=Zwp (k:=x+1) (n:=n) h2 fun y hy=>⟨h1 y hy,(g y (by simp[hy])).2⟩
  rw[qh];omega
theorem Rz.len{n:Nat}{l:List Nat}(h:Rz n l):l.length<=n:=by
 have:=Zwp (k:=0) h.1 fun x hx=>⟨qx _,h.2 x hx⟩
 omega

structure AuB(A:Au0):Prop where
 wf:A.fol.length=A.sets.length
 fo: ∀l∈A.fol,Rz A.sets.length l
structure PaB(n:Nat)(p:Part):Prop where
 fi:Rz n p.first
 la:Rz n p.last
theorem PaB.mono{n m:Nat}{p:Part}(h:PaB n p)(hm:n<=m):PaB m p:=⟨h.fi.mono hm,h.la.mono hm⟩
theorem PaB.nil(n:Nat)(e:Bool):PaB n ⟨[],[],e⟩:=⟨.nil n, .nil n⟩

theorem Ziw{n:Nat}{to:List Nat}(ht: ∀x∈to,x<n): ∀(src:List Nat) (fol:List (List Nat)),(∀l∈fol,Rz n l)->(VD boS fol src to).length=fol.length∧ ∀l∈VD boS fol src to,Rz n l
 | [],fol,h=>⟨rfl,h⟩
 |p::src,fol,h=>by
  have hs: ∀l∈fol.set p (boS (fol.getD p []) to),Rz n l:=fun l hl=>by
   rcases List.mem_or_eq_of_mem_set hl with hl|rfl
   ·exact h l hl
   ·refine Rz.bo (fun x hx=> ?_) ht
    rw[qw]at hx
    cases hg:fol[p]? with
    |none=>rw[hg]at hx;cases hx
    |some m=>rw[hg]at hx;exact(h m (List.mem_of_getElem? hg)).2 x hx
  obtain⟨h1,h2⟩:=Ziw ht src _ hs
  exact⟨by show(VD boS (fol.set p _) src to).length=_;rw[h1,List.length_set],h2⟩
theorem AuB.link{A:Au0}(h:AuB A){src to:List Nat}(ht: ∀x∈to,x<A.sets.length):AuB ⟨A.sets,VD boS A.fol src to⟩:=by
 obtain⟨h1,h2⟩:=Ziw ht src A.fol h.fo
 exact⟨h1.trans h.wf,h2⟩
theorem ZCj{A:Au0}{a b:Part}(h:AuB A)(ha:PaB A.sets.length a)(hb:PaB A.sets.length b):AuB (catP boS A a b).1∧PaB A.sets.length (catP boS A a b).2:=by
 refine⟨h.link hb.fi.2,?_,?_⟩
 ·show Rz _ (if a.empty then boS a.first b.first else a.first)
  split
  ·exact Rz.bo ha.fi.2 hb.fi.2
  ·exact ha.fi
 ·show Rz _ (if b.empty then boS a.last b.last else b.last)
  split
  ·exact Rz.bo ha.la.2 hb.la.2
  ·exact hb.la
theorem Zyq{g:Au0->Au0×Part}{c:Nat}(hg: ∀A,AuB A->AuB (g A).1∧PaB (g A).1.sets.length (g A).2∧(g A).1.sets.length=A.sets.length+c)(lo hi:Int)(n:Nat):
  ∀(k i:Nat) (A:Au0) (out:Part),AuB A->PaB A.sets.length out->AuB (repP boS g lo hi n k i A out).1∧PaB (repP boS g lo hi n k i A out).1.sets.length (repP boS g lo hi n k i A out).2∧(repP boS g lo hi n k i A out).1.sets.length=A.sets.length+k*c
 |0,i,A,out,hA,ho=>⟨hA,ho,by simp[repP]⟩
 |k+1,i,A,out,hA,ho=>by
  obtain⟨g1,g2,g3⟩:=hg A hA
  rw[repP]
  try simp only[]
  have hA1:AuB (if hi<0∧i+1=n then Zkx boS (g A).1 (g A).2 else(g A).1)∧(if hi<0∧i+1=n then Zkx boS (g A).1 (g A).2 else(g A).1).sets.length=(g A).1.sets.length:=by
   split
   ·exact⟨g1.link g2.fi.2,rfl⟩
   ·exact⟨g1,rfl⟩
  generalize (if hi<0∧i+1=n then Zkx boS (g A).1 (g A).2 else(g A).1)=A1 at hA1
  obtain⟨k1,k2⟩:=hA1
  have hx:PaB A1.sets.length ⟨(g A).2.first,(g A).2.last,(g A).2.empty||decide (lo<=(i:Int))⟩:=by rw[k2];exact⟨g2.fi,g2.la⟩
  obtain⟨c1,c2⟩:=ZCj k1 (ho.mono (by omega)) hx
  have hl:(catP boS A1 out ⟨(g A).2.first,(g A).2.last,(g A).2.empty||decide (lo<=(i:Int))⟩).1.sets.length=A1.sets.length:=rfl
  obtain⟨r1,r2,r3⟩:=Zyq hg lo hi n k (i+1) _ _ c1 (by rw[hl];exact c2)
  exact⟨r1,r2,by rw[r3,hl,k2,g3,Nat.add_mul];omega⟩

mutual
theorem Vl{B:Nat} : ∀(r:Re),wfRe B r-> ∀A,AuB A->AuB (partF boS r A).1∧PaB (partF boS r A).1.sets.length (partF boS r A).2∧(partF boS r A).1.sets.length=A.sets.length+cntRe r
 | .mk kind set kids lo hi n,h,A,hA=>by
  rw[wfRe]at h
  obtain⟨h1,h2,_,h4⟩:=h
  rw[partF,cntRe]
  dsimp only
  by_cases e1:kind=1
  ·rw[if_pos e1,if_pos e1]
   refine⟨⟨by simp[hA.wf],fun l hl=> ?_⟩,⟨⟨by simp,fun x hx=> ?_⟩,⟨by simp,fun x hx=> ?_⟩⟩,by simp⟩
   ·rcases qA.1 hl with hl|hl
    ·exact(hA.fo l hl).mono (by simp)
    ·rw[List.mem_singleton]at hl;subst hl;exact Rz.nil _
   ·simp at hx;simp[hx]
   ·simp at hx;simp[hx]
  rw[if_neg e1,if_neg e1]
  by_cases e5:kind=5
  ·rw[if_pos e5,if_neg (by omega)]
   exact Zum kids h4 A hA _ (PaB.nil _ _)
  rw[if_neg e5]
  by_cases e4:kind=4∨kind=7
  ·rw[if_pos e4,if_neg (by omega)]
   exact Zmk kids h4 A hA _ (PaB.nil _ _)
  rw[if_neg e4]
  by_cases e6:kind=6
  ·rw[if_pos e6,if_pos e6]
   have hk:=(h1 e6).2.2.2
   match kids,hk,h4 with
   | [r],_,h4=>
    rw[wfRe.wfRes]at h4
    rw[partF.repF,cntRe.cnts,cntRe.cnts,Nat.add_zero]
    exact Zyq (fun A hA=>Vl r h4.1 A hA) lo hi _ _ 0 A _ hA (PaB.nil _ _)
  ·rw[if_neg e6,if_neg e6]
   have:kids= []:=h2 (by omega) (by omega) (by omega) (by omega)
   subst this
   rw[cntRe.cnts]
   exact⟨hA,PaB.nil _ _,rfl⟩
theorem Zum{B:Nat} : ∀(l:List Re),wfRe.wfRes B l-> ∀A,AuB A-> ∀out,PaB A.sets.length out->AuB (partF.altF boS l A out).1∧PaB (partF.altF boS l A out).1.sets.length (partF.altF boS l A out).2∧(partF.altF boS l A out).1.sets.length=A.sets.length+cntRe.cnts l
 | [],_,A,hA,out,ho=>by rw[partF.altF,cntRe.cnts];exact⟨hA,ho,rfl⟩
 |r::l,h,A,hA,out,ho=>by
  rw[wfRe.wfRes]at h
  rw[partF.altF,cntRe.cnts]
  obtain⟨p1,p2,p3⟩:=Vl r h.1 A hA
  have ho':=ho.mono (show A.sets.length<=(partF boS r A).1.sets.length by omega)
  obtain⟨q1,q2,q3⟩:=Zum l h.2 _ p1 ⟨boS out.first (partF boS r A).2.first,boS out.last (partF boS r A).2.last,out.empty||(partF boS r A).2.empty⟩ ⟨Rz.bo ho'.fi.2 p2.fi.2,Rz.bo ho'.la.2 p2.la.2⟩
  exact⟨q1,q2,by rw[q3,p3];omega⟩
theorem Zmk{B:Nat} : ∀(l:List Re),wfRe.wfRes B l-> ∀A,AuB A-> ∀out,PaB A.sets.length out->AuB (partF.catF boS l A out).1∧PaB (partF.catF boS l A out).1.sets.length (partF.catF boS l A out).2∧(partF.catF boS l A out).1.sets.length=A.sets.length+cntRe.cnts l
 | [],_,A,hA,out,ho=>by rw[partF.catF,cntRe.cnts];exact⟨hA,ho,rfl⟩
 |r::l,h,A,hA,out,ho=>by
  rw[wfRe.wfRes]at h
  rw[partF.catF,cntRe.cnts]
  obtain⟨p1,p2,p3⟩:=Vl r h.1 A hA
  have ho':=ho.mono (show A.sets.length<=(partF boS r A).1.sets.length by omega)
  obtain⟨c1,c2⟩:=ZCj p1 ho' p2
  have hl:(catP boS (partF boS r A).1 out (partF boS r A).2).1.sets.length=(partF boS r A).1.sets.length:=rfl
  obtain⟨q1,q2,q3⟩:=Zmk l h.2 _ c1 _ (by rw[hl];exact c2)
  exact⟨q1,q2,by rw[q3,hl,p3];omega⟩
end
end Go.Y
namespace Go.Y
set_option maxRecDepth 1000000
set_option maxHeartbeats 0
theorem Zix{α:Type}{f:α->List V}(hf: ∀x,(f x).length=1): ∀(l:List α) (i:Nat) (x:α),i<l.length->splice (row f l) i (f x)=row f (l.set i x)
 |y::l,0,x,_=>by
  have h1:row f (y::l)=f y++row f l:=rfl
  have h2:row f ((y::l).set 0 x)=f x++row f l:=rfl
  rw[h1,h2]
  obtain⟨a,ha⟩:=List.length_eq_one_iff.1 (hf y)
  rw[ha]
  simp only[qs,qy,splice,hf,List.drop_succ_cons,ql]
 |y::l,i+1,x,h=>by
  have h1:row f (y::l)=f y++row f l:=rfl
  have h2:row f ((y::l).set (i+1) x)=f y++row f (l.set i x):=rfl
  rw[h1,h2]
  obtain⟨a,ha⟩:=List.length_eq_one_iff.1 (hf y)
  rw[ha]
  simp only[qs,qy,splice]
  rw[Zix hf l i x (by simpa using h)]
end Go.Y
