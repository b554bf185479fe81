/- A part of the proof. -/
import Derived.Test.YteennilbmmlikaaGreatDoorGTextE
import Derived.Test.YteennilbmmlikaaGreatDoorEE2
import Derived.Test.YteennilbmmlikaaGreatDoorYTryhP
import Derived.Test.YteennilbmmlikaaGreatDoorGA2
import Derived.Test.YteennilbmmlikaaGreatDoorYLoop
import Derived.Test.YteennilbmmlikaaGreatDoorED2
import Derived.Test.YteennilbmmlikaaGreatDoorYAny3
namespace Go.Y
open Go.Proofs
set_option maxRecDepth 1000000
set_option maxHeartbeats 0
theorem PCon.hz{f}{args}{Q:V->Prop}(c:PCon hY_ f args Q):PCon UY f args Q:=⟨c.body,c.tr⟩
abbrev reW(S:S4):List V:= [I 1,U S.1,U S.2.1,U S.2.2.1,U S.2.2.2, .sl none 0 (some 0) 0,I 0,I 0,I 0]
theorem ZGk(p){c:Nat}(h:c<256):Zs 1 ((reW (ZD p)).drop (0+1+c / 64*1))=some [U (Xe p (c / 64) 64:Nat)]:=by have:c / 64=0\/c / 64=1\/c / 64=2\/c / 64=3:=om;rcases this with e|e|e|e<;>rw[e]<;>rfl
theorem ZMh(p:Nat->Bool){c:Nat}(h:c<256):splice (reW (ZD p)) (0+1+c / 64*1) [U ((Xe p (c / 64) 64|||2 ^ (c % 64):Nat):Int)]=reW (ZD λx=>p x||x==c):=by
 have e:reW (ZD λx=>p x||x==c)= [I 1,U (Xe (λx=>p x||x==c) 0 64:Nat),U (Xe (λx=>p x||x==c) 1 64:Nat),U (Xe (λx=>p x||x==c) 2 64:Nat),U (Xe (λx=>p x||x==c) 3 64:Nat), .sl none 0 (some 0) 0,I 0,I 0,I 0]:=rfl
 rw[e,JN,JN,JN,JN];have:c / 64=0\/c / 64=1\/c / 64=2\/c / 64=3:=om;rcases this with e|e|e|e<;>rw[e]<;>rfl
theorem ZGl{h:Heap}{b:Nat}{p}{c:Nat}(d:c<256)(k:h.get b=some (.arr (reW (ZD p)) true)){K:Heap->Prop}
  (l: ∀j,j=h.set b (some (.arr (reW (ZD λx=>p x||x==c)) true))->K j):
  (0:Int)<=6/\((0:Int)<=(c:Int).fdiv ((2:Int) ^ min (Int.toNat (6:Int)) IntKind.i64.bits)/\(c:Int).fdiv ((2:Int) ^ min (Int.toNat (6:Int)) IntKind.i64.bits)<4)/\ ∃n:Int,
   Zb h b (0+1+((c:Int).fdiv ((2:Int) ^ min (Int.toNat (6:Int)) IntKind.i64.bits)).toNat*1) 1=some [V.i IntKind.u64 n]/\
   (0:Int)<=wW (((BitVec.ofInt IntKind.i64.bits (c:Int)&&&BitVec.ofInt IntKind.i64.bits (63:Int)).toNat:Nat):Int)/\
   ((0:Int)<=(c:Int).fdiv ((2:Int) ^ min (Int.toNat (6:Int)) IntKind.i64.bits)/\(c:Int).fdiv ((2:Int) ^ min (Int.toNat (6:Int)) IntKind.i64.bits)<4)/\ ∃a:Heap,
   Zi h b (0+1+((c:Int).fdiv ((2:Int) ^ min (Int.toNat (6:Int)) IntKind.i64.bits)).toNat*1) [V.i IntKind.u64 (IntKind.u64.wrap (((BitVec.ofInt IntKind.u64.bits n|||BitVec.ofInt IntKind.u64.bits (IntKind.u64.wrap (1*2 ^ min (wW (((BitVec.ofInt IntKind.i64.bits (c:Int)&&&BitVec.ofInt IntKind.i64.bits (63:Int)).toNat:Nat):Int)).toNat IntKind.u64.bits))).toNat:Nat):Int))]=some a/\K a:=by
 rw[ZA2,ZA3 d];have f:=WK p (c / 64) 64;refine⟨om,⟨om,om⟩,_,(Zr k _ _).trans (ZGk _ d),om,⟨om,om⟩,?_⟩;have g:=Zw8 f (show c % 64<64 from om);rw[qdq,qdq,g];refine⟨_,?_,l _ rfl⟩;have e:reW (ZD λx=>p x||x==c)=splice (reW (ZD p)) (0+1+c / 64*1) [U ((Xe p (c / 64) 64|||2 ^ (c % 64):Nat):Int)]:=(ZMh p d).symm
 rw[e];simp only[Zi,k];rw[uF (by simp;omega)]
theorem Zmm(l:List Span){i:Nat}(a:i<l.length):ZO (l.take (i+1))=Zmh (ZO (l.take i)) l[i].lo l[i].hi:=by
 rw[qa a];have:l[i]=⟨l[i].lo,l[i].hi⟩:=rfl;rw[this,Vu]
abbrev Ztk:V:= .lb [I 0,U 0,U 0,U 0,U 0, .sl none 0 (some 0) 0,I 0,I 0,I 0]
theorem ZDq(l:List Span)(G:l.length<2 ^ 40)(v: ∀x∈l,(0<=x.lo/\x.lo<256)/\(0<=x.hi/\x.hi<256)):PCon UY 94 [lst encS l] (· = .agg (Zd (Vv l))):=by
 refine PCon.hz (ZF hK_ (fn:=Tryz.f94) rfl ?_);refine Zh hK_ 37 ZLy rfl ?_;refine⟨_,rfl,rfl,ZM [2,3,8,9,10] [2,3,8,9,10] (λm q h=> ∃i:Nat,q= [Ztk, p_P Heap.empty.nx,lst encS l,I (l.length:Nat),I (i:Nat)]/\i<=l.length/\m=l.length-i/\h.get Heap.empty.nx=some (.arr (reW (ZD (ZO (l.take i)))) true)) l.length ZA ⟨0,rfl,om,om,?_⟩ ?_⟩;have:ZD (ZO (l.take 0))=(0,0,0,0):=setOf_no;rw[this];rfl;rintro m q h ⟨i,rfl,F,rfl,t⟩;refine Zh hK_ 37 ZLz rfl ?_;refine Zq (λb=>⟨rfl,QX (n:=37) [2,3,8,9,10] kr ?_⟩) (λw=> ?_)
 .refine Zh hK_ 37 ZL0 rfl ?_;have r:=v l[i] (qe b);obtain⟨d,p⟩:=Int.eq_ofNat_of_zero_le r.1.1;obtain⟨a,o⟩:=Int.eq_ofNat_of_zero_le r.2.1;have j:Zs 2 (List.drop (((i:Nat):Int).toNat*2) (row encS l))=some [.i .u8 (d:Nat), .i .u8 (a:Nat)]:=by
   rw[qdq,Xw (f:=encS) (k:=2) VS b];show some [V.i .u8 l[i].lo,V.i .u8 l[i].hi]=_;rw[p,o]
  have A:wW (d:Int)=(d:Nat):=ZI om om;have B:wW (a:Int)=(a:Nat):=ZI om om;refine⟨Zu b,_,_,j,rfl,Zfo [2,3,5,6,8,9,10] [2,3,5,6,8,9,10] (λm q h=> ∃c:Nat,q= [Ztk, p_P Heap.empty.nx, .lb [.i .u8 (d:Nat), .i .u8 (a:Nat)],I (c:Nat),lst encS l,I (l.length:Nat),I (i:Nat)]/\d<=c/\c<=max (a+1) d/\257-c<=m/\h.get Heap.empty.nx=some (.arr (reW (ZD (Zcf (ZO (l.take i)) d c))) true)) 257 ZA ⟨d,by rw[A];rfl,om,om,om,by rw[Zgb];exact t⟩ ?_⟩;rintro K q D ⟨c,rfl,u,E,H,g⟩;refine Zm hK_ ZL1 rfl ?_;rw[B];refine JU (λz=> ?_) (λy=> ?_);refine ZGl om g λC e=>⟨rfl,257-(c+1),om,c+1,by rw[Ze om];rfl,om,om,qnq _,?_⟩;rw[e,qc,uF rfl,Zga _ u];have s:c=max (a+1) d:=om;subst s;simp only[Zhn];rw[uF kr];refine ZR rfl ⟨rfl,[2,3,8,9,10],rfl,?_⟩;refine Zm hK_ ZL2 rfl ?_;refine⟨rfl,l.length-(i+1),om,i+1,by rw[Ze om];rfl,om,rfl,?_⟩;rw[Zh3]at g;rw[Zmm l b,p,o];exact g
 .have s:i=l.length:=om;subst s;rw[qm]at t;refine ZR rfl (Zj [2,3] ?_);refine Zo hK_ ZL3 rfl ?_;refine⟨_,_,_,_,_,_,_,_,_,_,_,_,(Zr t 0 9).trans rfl,ZB rr rfl (.agg _ _ (.cons _ _ _ _ (.i _ _) (.cons _ _ _ _ (.i _ _) (.cons _ _ _ _ (.i _ _) (.cons _ _ _ _ (.i _ _) (.cons _ _ _ _ (.i _ _) (.cons _ _ _ _ (.sln _ _ none (λx r=>by cases r)) (.cons _ _ _ _ (.i _ _) (.cons _ _ _ _ (.i _ _) (.cons _ _ _ _ (.i _ _) .nil)))))))))) (by unfold Vv Qw;rw[Zn];rfl)⟩
def clQ(R:Except Nat (S4×Nat))(h:Heap)(b:Nat)(s:List UInt8)(g:Nat)(v:V)(a:Heap):Prop:=
 ∃(x:S4) (j:Nat) (e:Int),v= .agg (Zd (Qw x))/\RdE a b s j g e/\FrO h b a/\((e=0/\R= .ok (x,j))\/(e=1/\R= .error j))
abbrev zLb:V:= .lb [I 0,U 0,U 0,U 0,U 0, .sl none 0 (some 0) 0,I 0,I 0,I 0]
def ClI(f:Heap)(d:Nat)(s:List UInt8)(g:Nat)(a:Bool)(R:Except Nat (List Span×Nat))(m:Nat)(k:List V)(h:Heap):Prop:=
 ∃(i:Nat) (e:Int) (p:Nat->Bool) (first:Bool) (j:V),k= [p_P d,zLb, .b a, .lb (setC (ZD p)), .b first,j]/\RdE h d s i g e/\FrO f d h/\
  ((e=0/\ ∃c,first=c.isEmpty/\p=ZO c/\i<=s.length/\s.length-i<m/\setS m s i c=R)\/(e=1/\R= .error i))
theorem ZMi{h}{A:Nat}{s:List UInt8}{i g:Nat}(r:RdE h A s i g 0)(hs:s.length<2 ^ 27)(hi:i<=s.length):
  Con UY 194 [p_P A] h (clQ (QN s i) h A s g):=by
 refine Zx UK (fn:=Tryz.f194) (Zh UK 65 ZLo rfl ?_);generalize W:QN s i=H;have go: ∀(h1:Heap) (i0:Nat) (f:Bool),RdE h1 A s i0 g 0->FrO h A h1->i0<=s.length->
   (H=match setS (s.length+1) s i0 []with| .error e=> .error e| .ok (l,j)=> .ok (ZD (λc=>ZO l c !=f),j))->
   PreV UY 65 [0,2,3,4,5,7] (post B_194) (FinS UY Tryz.f194 (AfterZ (clQ H h A s g))) .normal 65
    [p_P A,zLb, .b f, .lb [U 0,U 0,U 0,U 0], .b true, .undef] h1:=by
  intro h1 i0 f q1 q2 a2 X;generalize t:setS (s.length+1) s i0 []=R at X;refine⟨rfl,ZM [0,2,3,4,5,7] [0,2,3,4,5,7] (ClI h A s g f R) (s.length+1) ZA ⟨i0,0,ZO [],true, .undef,?_,q1,q2, .inl ⟨rfl,[],rfl,rfl,a2,om,t⟩⟩ ?_⟩;have:ZD (ZO [])=(0,0,0,0):=setOf_no;rw[this];rfl;clear q1 q2 a2 t r hi W;rintro m vs h2 ⟨i,e,p,first,v7,rfl,hr,D,L⟩;refine Zm UK ZLp rfl ?_;have stop:((e=0/\s[i]? =some 93/\ ∃d,p=ZO d/\R= .ok (d,i+1))\/(e=1/\R= .error i))->XF UY 65 [0,2,3,4,5,7] [0,2,3,4,5,7] (ClI h A s g f R) m (Xb (post B_194)) ((post B_194).drop 1) (FinS UY Tryz.f194 (AfterZ (clQ (H) h A s g))) (.exit 0) 65
    [p_P A,zLb, .b f, .lb (setC (ZD p)), .b first,v7] h2:=by
   intro hf;refine Zj [0,2,3,4] ?_;refine Zo UK ZLq rfl ?_;refine(Zjy hr [93] om).mono λv h3 G=> ?_;have a0: ∀(i':Nat) (e':Int) (n:V),RdE h3 A s i' g e'->FrO h2 A h3->((e'=0/\H= .ok (ZD (λc=>p c !=f),i'))\/(e'=1/\H= .error i'))-> ∀K:KT,K=Go.Y.Fin UY Tryz.f194 [2] (AfterZ (clQ (H) h A s g))->
     If f (∃n a3 a4 a5:Int,(PCon UY 176 [.agg [U (ZD p).1,U (ZD p).2.1,U (ZD p).2.2.1,U (ZD p).2.2.2]] λv=>v= .agg [U n,U a3,U a4,U a5])/\K .ret 65 [.lb [I 1,U n,U a3,U a4,U a5, .sl none 0 (some 0) 0,I 0,I 0,I 0]] h3)
      (K .ret 65 [.lb [I 1,U (ZD p).1,U (ZD p).2.1,U (ZD p).2.2.1,U (ZD p).2.2.2, .sl none 0 (some 0) 0,I 0,I 0,I 0]] h3):=by
    rintro i' e' n N F hd K rfl;have hx: ∀x,((e'=0/\H= .ok (x,i'))\/(e'=1/\H= .error i'))->clQ (H) h A s g (.agg (Zd (Qw x))) h3:=λx hd=>⟨x,i',e',rfl,N,D.trans F,hd⟩;refine Zf (λho=> ?_) (λho=> ?_)
    .subst ho;have:(λc=>p c !=true)=λc=> !p c:=by funext c;cases p c<;>rfl
     rw[this]at hd;exact⟨_,_,_,_,Zra p,finC rr rfl (Za5 (ZD λc=> !p c) (hx _ hd))⟩
    .subst ho;have:(λc=>p c !=false)=p:=by funext c;cases p c<;>rfl
     rw[this]at hd;exact finC rr rfl (Za5 (ZD p) (hx _ hd))
   rcases hf with ⟨rfl,a6,d,rfl,t⟩|⟨rfl,t⟩;rcases G with ⟨c,_,hc,_,z,N,F⟩|⟨_,O,_⟩|⟨w,_⟩;refine⟨_,z,a0 (i+1) 0 v N F (.inl ⟨rfl,?_⟩) _ rfl⟩;rw[X,t];rw[Qu,a6]at O;simp at O;exact absurd rfl w;rcases G with ⟨c,w,_⟩|⟨w,_⟩|⟨_,z,N,F⟩;cases w;cases w;refine⟨_,z,a0 i 1 v N F (.inr ⟨rfl,?_⟩) _ rfl⟩;rw[X,t]
  refine⟨_,hr.c3,Zf (λP=> ?_) (λP=>stop ?_)⟩
  rotate_left
  .have P:e≠0:=su P;rcases L with ⟨w,_⟩|L;exact absurd w P;exact .inr L
  have P:e=0:=su P;subst P;rcases L with ⟨_,d,rfl,rfl,hi,hm,t⟩|⟨w,_⟩
  rotate_left
  .cases w
  obtain⟨m,rfl⟩: ∃m',m=m'+1:=⟨m-1,om⟩;by_cases q:d≠ []/\s[i]? =some 93
  .have Z:d.isEmpty=false:=by
    cases d with
    |nil=>exact absurd rfl q.1
    |cons=>rfl
   rw[setS,uF q]at t;refine Zf (λo=>by rw[Z]at o;cases o) (λ_=>⟨_,Za9 hr [93],Zf (λo=> ?_) (λo=>stop (.inl ⟨rfl,q.2,d,rfl,t.symm⟩))⟩);rw[Qu,q.2]at o;simp at o
  rw[setS,uE q]at t;clear stop;refine Zf (λh5=> ?_) (λh5=>⟨_,Za9 hr [93],Zf (λ_=> ?_) (λo=> ?_)⟩)
  rotate_left 2
  .exfalso;have o:pk s i [93]=true:=su o;rw[Qu]at o;exact q ⟨(λe=>by rw[e]at h5;cases h5),(su o)⟩
  all_goals
   clear q h5;refine(endR hr om).mono λv h3 G=> ?_;rcases G with ⟨c1,j,_,y,z,u1,u2⟩|⟨j,_,y,z,u1,u2⟩|⟨w,_⟩
   rotate_left 2
   .exact absurd rfl w
   rotate_left
   ·-- no byte
    refine⟨_,z,_,Za9 u1 [45],Zf (λo=>by simp at o) (λ_=>⟨_,_,_,_,Zaa (ZO d) (lo:=0) (hi:=0) dc dc,?_⟩)⟩;have hit:XU s i= .error j:=by unfold XU;rw[y]
    rw[hit]at t;exact⟨rfl,m,om,j,1,_,_,_,rfl,u1,D.trans u2, .inr ⟨rfl,t.symm⟩⟩
   have k1:=Zel y;have j1:=Vp y;obtain⟨a,rfl⟩:=Int.eq_ofNat_of_zero_le k1.1;have ha:a<256:=om;have Z:(d++ [(⟨(a:Int),(a:Int)⟩:Span)]).isEmpty=false:=by cases d<;>rfl
   refine⟨_,z,_,Za9 u1 [45],Zf (λo=> ?_) (λo=> ?_)⟩
   rotate_left
   ·-- one byte alone
    have o:pk s j [45]=false:=su o;have B: ¬s[j]? =some 45:=by rw[Qu]at o;simpa using o
    have hit:XU s i= .ok (⟨(a:Nat),(a:Nat)⟩,j):=by unfold XU;rw[y];simp only[];rw[uE B]
    rw[hit]at t;exact⟨_,_,_,_,Zaa (ZO d) ha ha,rfl,m,om,j,0,_,false,_,rfl,u1,D.trans u2, .inl ⟨rfl,d++ [⟨(a:Nat),(a:Nat)⟩],Z.symm,(Vu _ _ _).symm,j1.2.1,om,t⟩⟩
   have o:pk s j [45]=true:=su o;have B:s[j]? =some 45:=by rw[Qu]at o;simpa using o
   refine(Zg5 u1 om).mono λv h4 G=> ?_;rcases G with ⟨c,_,hc,z,N,F⟩|⟨_,O,_⟩|⟨w,_⟩
   rotate_left
   .rw[B]at O;cases O
   .exact absurd rfl w
   refine⟨_,z,?_⟩;refine(endR N om).mono λv h5 G=> ?_;rcases G with ⟨c2,k,_,C,z,x1,x2⟩|⟨k,_,C,z,x1,x2⟩|⟨w,_⟩
   rotate_left 2
   .exact absurd rfl w
   rotate_left
   .refine⟨_,z,_,x1.c3,Zf (λo=>by simp at o) (λ_=>⟨_,_,_,_,Zaa (ZO d) (hi:=0) ha dc,?_⟩)⟩;have hit:XU s i= .error k:=by unfold XU;rw[y];simp only[];rw[uF B,C]
    rw[hit]at t;exact⟨rfl,m,om,k,1,_,_,_,rfl,x1,((D.trans u2).trans F).trans x2, .inr ⟨rfl,t.symm⟩⟩
   have k2:=Zel C;have j2:=Vp C;obtain⟨b,rfl⟩:=Int.eq_ofNat_of_zero_le k2.1;have u:b<256:=om;have a1:(d++ [(⟨(a:Int),(b:Int)⟩:Span)]).isEmpty=false:=by cases d<;>rfl
   refine⟨_,z,_,x1.c3,Zf (λ_=>Xr (λa7=> ?_) (λa8=> ?_)) (λo=>by simp at o)⟩
   .obtain⟨h6,y1,y2,y3⟩:=x1.s1 (k-1);refine⟨_,x1.c1,h6,by rw[ZI om om,show((k:Int)-1)=((k-1:Nat):Int) from om];exact y1,?_⟩;refine(Zo1 y2 1).mono λv h7 ⟨z,z1,z2⟩=>⟨z,_,_,_,_,Zaa (ZO d) ha u,?_⟩;have hit:XU s i= .error (k-1):=by unfold XU;rw[y];simp only[];rw[uF B,C];simp only[];rw[uF a7]
    rw[hit]at t;exact⟨rfl,m,om,k-1,1,_,_,_,rfl,su z1,((((D.trans u2).trans F).trans x2).trans y3).trans z2, .inr ⟨rfl,t.symm⟩⟩
   .have hit:XU s i= .ok (⟨(a:Nat),(b:Nat)⟩,k):=by unfold XU;rw[y];simp only[];rw[uF B,C];simp only[];rw[uE om]
    rw[hit]at t;exact⟨_,_,_,_,Zaa (ZO d) ha u,rfl,m,om,k,0,_,false,_,rfl,x1,((D.trans u2).trans F).trans x2, .inl ⟨rfl,d++ [⟨(a:Nat),(b:Nat)⟩],a1.symm,(Vu _ _ _).symm,j2.2.1,om,t⟩⟩
 refine⟨_,Za9 r [94],Zf (λo=> ?_) (λo=> ?_)⟩
 .have u:pk s i [94]=true:=su o;have E:s[i]? =some 94:=by rw[Qu]at u;simpa using u
  rw[o];refine(Zg5 r om).mono λv h1 G=> ?_;rcases G with ⟨c,_,hc,z,N,F⟩|⟨_,O,_⟩|⟨w,_⟩
  .refine⟨_,z,go h1 (i+1) true N F (qb.1 E).1 ?_⟩;rw[<-W];unfold QN;simp only[E,vG,decide_true];cases setS (s.length+1) s (i+1) []<;>rfl
  .rw[E]at O;cases O
  .exact absurd rfl w
 .have u:pk s i [94]=false:=su o;have E:s[i]? ≠some 94:=by rw[Qu]at u;simpa using u
  rw[o];refine go h i false r (.refl _ _) hi ?_;rw[<-W];unfold QN;simp only[E,vF,decide_false];cases setS (s.length+1) s i []<;>rfl
theorem ZMj{k d h}(K):CP UY 106 (pre B_106) (p_P k::I d::Rp 20) h [0,1,4,5] K=(Con UY 135 [p_P k,I d] h fun(v:V) (o:Heap)=> ∃a b c e f g i j l m n,v=.agg (R9 a b c e f g i j l m n)/\K .normal 22 [p_P k,I d, .lb R0,S (some (o.nx,0)) 1 (some 1) 9] (o.push (YObj.arr (R9 a b c e f g i j l m n) true))):=kr
theorem ZMk{id d a5 e f k5 h}(K):CP UY 106 (lp_ B_106) (MZ 22 [0,1,4,5] [p_P id,I d,.lb R0,S a5 e f k5]) h [0,1,4,5] K=(∃a,RCon UY (136:Nat) [p_P id,.s [(124:UInt8)]] h (.b a)/\If a (Con UY 137 [p_P id] h fun(v:V) (k:Heap)=> ∃b,v=.i .u8 b/\Con UY 135 [p_P id,I d] k fun(v:V) (k:Heap)=> ∃c g j l m n o q r t u,v=.agg (R9 c g j l m n o q r t u)/\ ∃w x y z p,Zk UY k 26 26 (S a5 e f k5) (J (R9 c g j l m n o q r t u) 1 (some 1))=some (S w x y z,p)/\K .normal 22 [p_P id,I d, .lb R0,S w x y z] p) (K (.exit 0) 22 [p_P id,I d, .lb R0,S a5 e f k5] h)):=kr
theorem ZMl{a5 a b k5 h}(K):CP UY 106 ((post B_106).drop 1) (MZ 22 [4,5] [.lb R0,S a5 a b k5]) h [4] K=(Con UY 138 [I 5,S a5 a b k5] h fun(v:V) (k:Heap)=> ∃c d e f g i j l m n o,v=.agg (R9 c d e f g i j l m n o)/\K .ret 22 [.lb (R9 c d e f g i j l m n o)] k):=kr
theorem ZMm{a d h}(K):CP UY 135 (pre B_135) (p_P a::I d::Rp 19) h [0,1,2,4,5] K=(K .normal 21 [p_P a,I d,Ud, .lb R0,S0] h):=kr
theorem ZMn{id d a5 l5 c5 k5 h}(K):CP UY 135 (lp_ B_135) (MZ 21 [0,1,2,4,5] [p_P id,I d,V.undef,.lb R0,S a5 l5 c5 k5]) h [0,1,2,4,5] K=(∃a,RCon UY (107:Nat) [p_P id] h (.b a)/\If a (∃b,RCon UY (136:Nat) [p_P id,.s [(124:UInt8),41]] h (.b b)/\If (!b) (Con UY 170 [p_P id,I d] h fun(v:V) (k:Heap)=> ∃c e f g i j l m n o q,v=.agg (R9 c e f g i j l m n o q)/\ ∃r t u w x,Zk UY k 26 26 (S a5 l5 c5 k5) (J (R9 c e f g i j l m n o q) 1 (some 1))=some (S r t u w,x)/\K .normal 21 [p_P id,I d,Ud, .lb R0,S r t u w] x) (K (.exit 0) 21 [p_P id,I d,Ud, .lb R0,S a5 l5 c5 k5] h)) (K (.exit 0) 21 [p_P id,I d,Ud, .lb R0,S a5 l5 c5 k5] h)):=kr
theorem ZMo{a5 l5 c5 k5 h}(K):CP UY 135 ((post B_135).drop 1) (MZ 21 [4,5] [.lb R0,S a5 l5 c5 k5]) h [4] K=(Con UY 138 [I 4,S a5 l5 c5 k5] h fun(v:V) (k:Heap)=> ∃a b c d e f g i j l m,v=.agg (R9 a b c d e f g i j l m)/\K .ret 21 [.lb (R9 a b c d e f g i j l m)] k):=kr
theorem ZR7{s0 h}(K):CP UY 55 (flat (Za Tryz.f55)) (.s s0::Rp 34) h [2,3,4] K=(If (ltI 200 (↑s0.length:Int)) (K .ret 35 [.lb R0,I 200,I 2] h) (Con UY 106 [p_P h.nx,I 0] (h.push (YObj.arr [.s s0,I 0,I 0,I 0] true)) fun(v:V) (k:Heap)=> ∃a b c d e f g i j l m,v=.agg (R9 a b c d e f g i j l m)/\ ∃n,RCon UY (107:Nat) [p_P h.nx] k (.b n)/\If n (Con UY 108 [p_P h.nx,I 1] k fun(v:V) (k:Heap)=>v=.tup []/\ ∃o,Zb k h.nx 3 1=some [I o]/\If (o !=(0:Int)) (∃q,Zb k h.nx 1 1=some [I q]/\ ∃r,Zb k h.nx 3 1=some [I r]/\K .ret 35 [.lb R0,I q,I r] k) (K .ret 35 [.lb (R9 a b c d e f g i j l m),I 0,I 0] k)) (∃o,Zb k h.nx 3 1=some [I o]/\If (o !=(0:Int)) (∃q,Zb k h.nx 1 1=some [I q]/\ ∃r,Zb k h.nx 3 1=some [I r]/\K .ret 35 [.lb R0,I q,I r] k) (K .ret 35 [.lb (R9 a b c d e f g i j l m),I 0,I 0] k)))):=kr
/-! ### times -/
def tmQ(R:Except Nat (Int×Int×Nat))(h:Heap)(b:Nat)(s:List UInt8)(g:Nat)(v:V)(a:Heap):Prop:=
 ∃(x y:Int) (j:Nat) (e:Int),v= .tup [.i .i64 x, .i .i64 y]/\RdE a b s j g e/\FrO h b a/\((e=0/\R= .ok (x,y,j))\/(e=1/\R= .error j))
abbrev digs:List UInt8:= [48,49,50,51,52,53,54,55,56]
theorem ZGm: ∀(a:_root_.Fin 9) (c:_root_.Fin 256),(List.take (9-a.val) (List.drop a.val digs)).contains (UInt8.ofNat c.val)=(decide (48+a.val<=c.val)&&decide (c.val<=56)):=by decide+kernel
theorem ZDr{a:Nat}(b:a<=8)(c:UInt8):(List.take (9-a) (List.drop a digs)).contains c=(decide (48+a<=c.toNat)&&decide (c.toNat<=56)):=by have:=ZGm ⟨a,om⟩ ⟨c.toNat,c.toNat_lt⟩;simpa using this
theorem ZMp{a:Nat}(b:a<=8):(fun(x y:Int)=>if y<x then y else x) ((fun(x y:Int)=>if y>x then y else x) (a:Int) 0) 9=(a:Int):=by show(if(9:Int)<(if(0:Int)>(a:Int)then(0:Int)else(a:Int))then(9:Int)else(if(0:Int)>(a:Int)then(0:Int)else(a:Int)))=(a:Int);rw[uE (show¬((0:Int)>(a:Int)) from om),uE om]
theorem Zrc{s:List UInt8}{i a:Nat}(d:a<=8):XW s i (a:Nat)=if pk s i (List.take (9-a) (List.drop a digs))=true then .ok ((((s[i]?).getD 0).toNat:Int)-48,i+1)else .error i:=by
 unfold XW pk
 cases s[i]? with
 |none=>rfl
 |some c=>
  simp only[ZDr d,uq];by_cases h:48+a<=c.toNat/\c.toNat<=56;rw[uF ⟨om,om,om⟩,uF (by rw[uN h.1,uN h.2];rfl)];rw[uE om,uE];intro b;simp only[qrq,vL]at b;exact h b
theorem ZMq{h}{C:Nat}{s:List UInt8}{i g:Nat}(r:RdE h C s i g 0)(hs:s.length<2 ^ 27):
  Con UY 188 [p_P C] h (tmQ (Xi s i) h C s g):=by
 refine Zx UK (fn:=Tryz.f188) (Zo UK ZLk rfl ?_);generalize f:Xi s i=R;unfold Xi at f;have d0:=Zrc (s:=s) (i:=i) (a:=0) om;rw[show XW s i ((0:Nat):Int)=XW s i 0 from rfl]at d0;have n: ∀(x y:Int) (j:Nat) (e:Int) (q:Heap),RdE q C s j g e->FrO h C q->((e=0/\R= .ok (x,y,j))\/(e=1/\R= .error j))->
   Go.Y.Fin UY Tryz.f188 [2,3] (AfterZ (tmQ R h C s g)) .ret 30 [I x,I y] q:=λx y j e q N O W=>finC rr rfl (.now ⟨x,y,j,e,rfl,N,O,W⟩)
 refine(Zjy r digs om).mono λv h1 o=> ?_;rcases o with ⟨c,_,hc,X,k,D,u⟩|⟨_,t,k,D,u⟩|⟨l,_⟩
 rotate_left 2
 .exact absurd rfl l
 rotate_left
 ·-- no number
  have t:pk s i (List.take (9-0) (List.drop 0 digs))=false:=t;rw[d0,t]at f;refine⟨_,k,_,Za9 D [44],Zf (λm=>by simp at m) (λ_=> ?_)⟩;refine(Zjy D [125] om).mono λv q o=> ?_;rcases o with ⟨c,l,_⟩|⟨l,_⟩|⟨_,k,N,O⟩;cases l;cases l;exact⟨_,k,n _ _ i 1 q N (u.trans O) (.inr ⟨rfl,f.symm⟩)⟩
 have G:=ZDr (a:=0) om c;rw[show List.take (9-0) (List.drop 0 digs)=digs from rfl,X]at G;have a4:48<=c.toNat/\c.toNat<=56:=by
  have:=G.symm;simp only[qrq,vL]at this;omega
 obtain⟨a,ha,F⟩: ∃a:Nat,c.toNat=48+a/\a<=8:=⟨c.toNat-48,om,om⟩;have hp:pk s i (List.take (9-0) (List.drop 0 digs))=true:=by rw[Vy hc];exact X
 rw[d0,hp,hc]at f;have ev:((((some c:Option UInt8)).getD 0).toNat:Int)-48=((a:Nat):Int):=by simp only[uq];omega
 rw[uF rfl,ev]at f;simp only[]at f;have a5:=(qb.1 hc).1;have N:wW (c.toNat:Int)=c.toNat:=ZI om om;have O:wW ((c.toNat:Int)-48)=((a:Nat):Int):=by rw[ZI om om];omega
 refine⟨_,k,?_⟩;rw[N,O];refine⟨_,Za9 D [44],Zf (λm=> ?_) (λm=> ?_)⟩
 rotate_left
 .have m:s[i+1]? ≠some 44:=by
   have m:pk s (i+1) [44]=false:=su m;rw[Qu]at m;simpa using m
  rw[uE m]at f;refine(Zjy D [125] om).mono λv q o=> ?_;rcases o with ⟨d,_,W,X,k,z,w⟩|⟨_,t,k,z,w⟩|⟨l,_⟩;have:d=125:=su X;subst this;rw[uF W]at f;exact⟨_,k,n _ _ (i+2) 0 q z (u.trans w) (.inl ⟨rfl,f.symm⟩)⟩
  .have:s[i+1]? ≠some 125:=by rw[Qu]at t;simpa using t
   rw[uE this]at f;exact⟨_,k,n _ _ (i+1) 1 q z (u.trans w) (.inr ⟨rfl,f.symm⟩)⟩
  .exact absurd rfl l
 have m:s[i+1]? =some 44:=by
  have m:pk s (i+1) [44]=true:=su m;rw[Qu]at m;simpa using m
 rw[uF m]at f;have a6:=(qb.1 m).1;refine(Zg5 D om).mono λv q o=> ?_;rcases o with ⟨d,_,W,k,z,w⟩|⟨_,t,_⟩|⟨l,_⟩
 rotate_left
 .rw[m]at t;cases t
 .exact absurd rfl l
 refine⟨_,k,_,Za9 z [125],Zf (λb=> ?_) (λb=> ?_)⟩
 .have b:s[i+2]? ≠some 125:=by
   have b:pk s (i+2) [125]=false:=su b;rw[Qu]at b;simpa using b
  rw[uE b,Zrc F]at f;rw[ZMp F];refine⟨⟨om,by simp;omega⟩,?_⟩;rw[qdq];refine(Zjy z (List.take (9-a) (List.drop a digs)) om).mono λv h3 o=> ?_;rcases o with ⟨E,_,H,a0,k,y1,Z⟩|⟨_,a1,k,y1,Z⟩|⟨l,_⟩
  .have a2:pk s (i+1+1) (List.take (9-a) (List.drop a digs))=true:=by rw[Vy H];exact a0
   rw[a2,uF rfl,H]at f;simp only[uq]at f;have a3:=E.toNat_lt;refine⟨_,k,?_⟩;have v1:wW (E.toNat:Int)=E.toNat:=ZI om om;have v2:wW ((E.toNat:Int)-48)=(E.toNat:Int)-48:=ZI om om;rw[v1,v2];refine(Zjy y1 [125] om).mono λv P o=> ?_;rcases o with ⟨d3,_,K,L,k,A,B⟩|⟨_,p,k,A,B⟩|⟨l,_⟩;have:d3=125:=su L;subst this;rw[uF K]at f;exact⟨_,k,n _ _ (i+1+1+1+1) 0 P A (((u.trans w).trans Z).trans B) (.inl ⟨rfl,f.symm⟩)⟩
   .have:s[i+1+1+1]? ≠some 125:=by rw[Qu]at p;simpa using p
    rw[uE this]at f;exact⟨_,k,n _ _ (i+1+1+1) 1 P A (((u.trans w).trans Z).trans B) (.inr ⟨rfl,f.symm⟩)⟩
   .exact absurd rfl l
  .rw[a1,uE dc]at f;refine⟨_,k,?_⟩;refine(Zjy y1 [125] om).mono λv P o=> ?_;rcases o with ⟨c,l,_⟩|⟨l,_⟩|⟨_,k,A,B⟩;cases l;cases l;exact⟨_,k,n _ _ (i+1+1) 1 P A (((u.trans w).trans Z).trans B) (.inr ⟨rfl,f.symm⟩)⟩
  .exact absurd rfl l
 .have b:s[i+2]? =some 125:=by
   have b:pk s (i+2) [125]=true:=su b;rw[Qu]at b;simpa using b
  rw[uF b]at f;refine(Zjy z [125] om).mono λv h3 o=> ?_;rcases o with ⟨d3,_,K,L,k,A,B⟩|⟨_,p,_⟩|⟨l,_⟩;exact⟨_,k,n _ _ (i+1+1+1) 0 h3 A ((u.trans w).trans B) (.inl ⟨rfl,f.symm⟩)⟩;rw[Qu]at p;exact absurd b (su p);exact absurd rfl l
/-! ### several -/
theorem ZGn(k:Int){b}{h}{a}{l:Nat}{c}{p:Nat}(i:LX Zd 9 h a l c p b){Q:V->Heap->Prop}
  (m: ∀D:List Nat,(∀j,j∈D->a=some (j,0))->Q (.agg (Zd (sevS k b))) (XP h D)):Con UY 138 [I k, .sl a l c p] h Q:=by
 have f:=i.len;by_cases e:b= [];have s:=i.nil e;subst e s f;refine Zx UK (fn:=Tryz.f138) (Zo UK ZGg rfl ?_);exact finC rr rfl (Zb5 (m [] sm));obtain⟨q,rfl,rfl,t,n,u⟩:=i.cells e;refine Zx UK (fn:=Tryz.f138) (Zo UK ZLu rfl ?_);have o:b.length≠0:=λg=>e (qg g);refine Zf (λg=> ?_) (λg=>Zf (λd=> ?_) (λd=> ?_));have:(l:Int)=0:=su g;omega;have d:(l:Int)=1:=su d;obtain⟨x,rfl⟩:=List.length_eq_one_iff.1 (show b.length=1 from om);obtain⟨y,B,z,w,v,A⟩:=x;refine⟨⟨om,om⟩,rfl,_,_,_,_,_,_,_,_,_,_,_,(Zr n 0 9).trans (QO _ _ _ _ _ _),finC rr rfl (.now ?_)⟩;rw[<-ZJ];exact m [] sm;have d:(l:Int)≠1:=su d;obtain⟨D,hz,r⟩:=i.afterZ dc ZT XK;refine finC rr rfl (Wp (D:=D) k 0 0 0 (0,0,0,0) b (.frz _ _ hz) ?_);rw[<-Zeu k om];exact m D r
structure AllR(n:Nat):Prop where
 alt: ∀ {h:Heap} {id:Nat} {s:List UInt8} {i g d:Nat},RdE h id s i g 0->s.length<2 ^ 27->i<=s.length->g<=i->d<=64->6*(s.length-i)+6<=n->Con UY 106 [p_P id,I (d:Nat)] h (reQ (altE n d s i g) h id s)
 row: ∀ {h:Heap} {id:Nat} {s:List UInt8} {i g d:Nat},RdE h id s i g 0->s.length<2 ^ 27->i<=s.length->g<=i->d<=64->6*(s.length-i)+5<=n->Con UY 135 [p_P id,I (d:Nat)] h (reQ (rowE n d s i g []) h id s)
 piece: ∀ {h:Heap} {id:Nat} {s:List UInt8} {i g d:Nat},RdE h id s i g 0->s.length<2 ^ 27->i<s.length->g<=i->d<=64->6*(s.length-i)+4<=n->Con UY 170 [p_P id,I (d:Nat)] h (reQ (Qh n d s i g) h id s)
 atom: ∀ {h:Heap} {id:Nat} {s:List UInt8} {i g d:Nat},RdE h id s i g 0->s.length<2 ^ 27->i<s.length->g<=i->d<=64->6*(s.length-i)+3<=n->Con UY 187 [p_P id,I (d:Nat)] h (reQ (JW n d s i g) h id s)
theorem Zj0(c:UInt8):([42,43,63,123]:List UInt8).contains c=Zjn c:=by
 unfold Zjn;simp only[List.contains_cons,List.contains_nil,Bool.or_false,Bool.or_assoc]
def grE(n d:Nat)(s:List UInt8)(i g:Nat):PR Re:=match altE n (d+1) s i (g+1) with
 | .error e=> .error e
 | .ok (r,j,a)=>if s[j]? =some 41 then .ok (.mk 7 (0,0,0,0) [r] 0 0 (if g+1<=9 then((g+1:Nat):Int)else 0),j+1,a)else .error (1,j)
theorem ZMr{n:Nat}(ih:AllR n){h}{f:Nat}{s:List UInt8}{i g d:Nat}(r:RdE h f s i g 0)(hs:s.length<2 ^ 27)(hi:i<=s.length)(hg:g+1<=i)(hd:d<64)(P:6*(s.length-i)+6<=n):
  Con UY 193 [p_P f,I d] h (reQ (grE n d s i g) h f s):=by
 refine Zx UK (fn:=Tryz.f193) (Zo UK ZLn rfl ?_);generalize b:grE n d s i g=R;unfold grE at b;obtain⟨h2,k1,k2,k3⟩:=r.s2 (g+1);refine⟨_,r.c2,h2,by rw[Ze om];exact k1,_,k2.c2,?_⟩;rw[Ze om];have O:=ih.alt k2 hs hi (show g+1<=i from om) (show d+1<=64 from om) P;have go: ∀(N:Int),N=(if g+1<=9 then((g+1:Nat):Int)else 0)-> ∀(v:V) (a:Heap),reQ (altE n (d+1) s i (g+1)) h2 f s v a-> ∃(B C E F G:Int) (cs:List V) (l:Nat) (c:Option Nat) (H K L:Int),v= .agg [I B,U C,U E,U F,U G, .ts cs l c,I H,I K,I L]/\
   Con UY 196 [p_P f, .s [41]] a λv a=> ∃a0:Int,v= .i .u8 a0/\Go.Y.Fin UY Tryz.f193 [4] (AfterZ (reQ R h f s)) .ret 30 [.lb [I 7,U 0,U 0,U 0,U 0, .ts [I B,U C,U E,U F,U G, .ts cs l c,I H,I K,I L] 1 (some 1),I 0,I 0,I N]] a:=by
  rintro N hN v a ⟨x,j,W,e,rfl,u1,u2,u3⟩;obtain⟨xk,w,xl,t,q,xn⟩:=x;refine⟨_,_,_,_,_,_,_,_,_,_,_,ZJ _ _ _ _ _ _,?_⟩;refine(Zjy u1 [41] om).mono λv X u=> ?_;have k: ∀(A:Nat) (e':Int),RdE X f s A W e'->FrO a f X->((e'=0/\R= .ok (.mk 7 (0,0,0,0) [.mk xk w xl t q xn] 0 0 N,A,W))\/(e'≠0/\R= .error (e',A)))->
    Go.Y.Fin UY Tryz.f193 [4] (AfterZ (reQ R h f s)) .ret 30 [.lb [I 7,U 0,U 0,U 0,U 0, .ts [I xk,U w.1,U w.2.1,U w.2.2.1,U w.2.2.2,lst Zd xl,I t,I q,I xn] 1 (some 1),I 0,I 0,I N]] X:=λA e' o p hd=>
   finC rr rfl (Wp (D:= []) 7 0 0 N (0,0,0,0) [.mk xk w xl t q xn] (Zb4 _ _ (Zn _ _ _ _ _ _) _) ⟨_,A,W,e',rfl,o,((k3.trans u2).trans p),hd⟩)
  rcases u3 with ⟨rfl,Z⟩|⟨y,Z⟩
  .rw[Z]at b;simp only[]at b;rcases u with ⟨c,_,O,hm,z,o,p⟩|⟨_,P,z,o,p⟩|⟨y,_⟩;have:c=41:=su hm;subst this;rw[uF O]at b;exact⟨_,z,k (j+1) 0 o p (.inl ⟨rfl,by rw[<-b,hN]⟩)⟩
   .have:s[j]? ≠some 41:=by rw[Qu]at P;simpa using P
    rw[uE this]at b;exact⟨_,z,k j 1 o p (.inr ⟨dc,b.symm⟩)⟩
   .exact absurd rfl y
  .rw[Z]at b;simp only[]at b;rcases u with ⟨c,m,_⟩|⟨m,_⟩|⟨_,z,o,p⟩;exact absurd m y;exact absurd m y;exact⟨_,z,k j e o p (.inr ⟨y,b.symm⟩)⟩
 refine Xr (λh9=> ?_) (λh9=> ?_);exact O.mono λv a u=>go _ (by rw[uE om]) v a u;exact O.mono λv a u=>go _ (by rw[uF om]) v a u
theorem Zj1(S:S4):V.agg (Zd (Qw S))= .agg [I 1,U S.1,U S.2.1,U S.2.2.1,U S.2.2.2, .ts [] 0 none,I 0,I 0,I 0]:=by unfold Qw;rw[Zn];rfl
theorem Zxn(c:UInt8):PCon UY 195 [.i .u8 (c.toNat:Nat)] λv=>v= .agg [I 1,U (ZD λx=>x==c.toNat).1,U (ZD λx=>x==c.toNat).2.1,U (ZD λx=>x==c.toNat).2.2.1,U (ZD λx=>x==c.toNat).2.2.2, .ts [] 0 none,I 0,I 0,I 0]:=by
 have:=ZBb c
 rwa [Zj1]at this
theorem ZR8{n:Nat}(ih: ∀m,m<n->AllR m){h}{p:Nat}{s:List UInt8}{i g d:Nat}(r:RdE h p s i g 0)(Z:s.length<2 ^ 27)(hi:i<s.length)(hg:g<=i)(hd:d<=64)(L:6*(s.length-i)+3<=n):
  Con UY 187 [p_P p,I d] h (reQ (JW n d s i g) h p s):=by
 obtain⟨n,rfl⟩: ∃m,n=m+1:=⟨n-1,om⟩;refine Zx UK (fn:=Tryz.f187) (Zo UK ZLm rfl ?_);have f:s[i]? =some s[i]:=by simp[hi]
 generalize s[i]=c at f;generalize a:JW (n+1) d s i g=R;rw[JW,f]at a;simp only[]at a;have H: ∀(x:Int),x≠0->R= .error (x,i)->Con UY 108 [p_P p,I x] h λv q=>v= .tup []/\Go.Y.Fin UY Tryz.f187 [4] (AfterZ (reQ R h p s)) .ret 52 [zLb] q:=λx hx G=>
  (Zo1 r x).mono λv q ⟨o,l,k⟩=>⟨o,finC rr rfl (Zb5 ⟨XG,i,g,x,rfl,su l,k, .inr ⟨hx,G⟩⟩)⟩
 refine⟨_,Za9 r [42,43,63,123],Zf (λb=>H 1 dc ?_) (λb=> ?_)⟩;have b:pk s i [42,43,63,123]=true:=su b;rw[Vy f,Zj0]at b;rw[uF b]at a;exact a.symm;have b:pk s i [42,43,63,123]=false:=su b;rw[Vy f,Zj0]at b;rw[uE (by rw[b];decide)]at a;clear b;have nx: ∀ {P:V->Heap->Prop},(∀q,RdE q p s (i+1) g 0->FrO h p q->P (.i .u8 (c.toNat:Nat)) q)->Con UY 137 [p_P p] h P:=λhP=>
  (Zg5 r om).mono λv q X=>by
   rcases X with ⟨e,_,u,o,l,k⟩|⟨_,L,_⟩|⟨u,_⟩;rw[f]at u;cases u;rw[o];exact hP q l k;rw[f]at L;cases L;exact absurd rfl u
 refine⟨_,Za9 r [40],Zf (λb=> ?_) (λb=> ?_)⟩
 .have b:c=40:=by
   have b:pk s i [40]=true:=su b;rw[Qu,f]at b;simpa using b
  subst b;rw[uF rfl]at a;refine JU (λO=>H 8 dc ?_) (λO=> ?_);rw[uF om]at a;exact a.symm;rw[uE om]at a;refine nx λK l k=>⟨_,rfl,ifT rfl ?_⟩;have W:grE n d s (i+1) g=R:=a;refine(ZMr (ih n om) l Z om om om om).mono λv t ⟨x,j,gg,e,o,y,z,N⟩=> ?_;subst o;obtain⟨xk,xs,xl,a1,a0,xn⟩:=x;refine⟨_,_,_,_,_,_,_,_,_,_,_,ZJ _ _ _ _ _ _,finC rr rfl (.now ?_)⟩;rw[<-ZJ];rw[W]at N;exact⟨_,j,gg,e,rfl,y,k.trans z,N⟩
 have b:c≠40:=by
  have b:pk s i [40]=false:=su b;rw[Qu,f]at b;simpa using b
 rw[uE b]at a;have done: ∀(t:Heap) (x:Re) (j:Nat),RdE t p s j g 0->FrO h p t->R= .ok (x,j,g)->reQ R h p s (.agg (Zd x)) t:=λt x j q1 q2 G=>⟨x,j,g,0,rfl,q1,q2, .inl ⟨rfl,G⟩⟩;refine nx λK l k=>⟨_,rfl,Zf (λc5=>absurd (ZN (d:=40) c5) b) (λ_=>Zf (λA=> ?_) (λA=> ?_))⟩;have A:=ZN (d:=91) A;rw[uF A]at a;refine(ZMi l Z om).mono λv t ⟨x,j,e,o,y,z,N⟩=> ?_;subst o;refine⟨_,_,_,_,_,_,_,_,_,_,_,ZJ _ _ _ _ _ _,finC rr rfl (.now ?_)⟩;rw[<-ZJ];rcases N with ⟨rfl,G⟩|⟨rfl,G⟩;rw[G]at a;exact⟨_,j,g,0,rfl,y,k.trans z, .inl ⟨rfl,a.symm⟩⟩;rw[G]at a;exact⟨Qw x,j,g,1,rfl,y,k.trans z, .inr ⟨dc,a.symm⟩⟩;have A:=ZH (d:=91) A;rw[uE A]at a;refine Zf (λB=> ?_) (λB=> ?_);have B:=ZN (d:=46) B;rw[uF B]at a;have w:=Zra (λ_=>false);rw[setOf_no]at w;exact⟨_,_,_,_,w,finC rr rfl (Za5 (ZD λx=> !false) (done K _ (i+1) l k a.symm))⟩;have B:=ZH (d:=46) B;rw[uE B]at a;refine Zf (λC=> ?_) (λC=> ?_);have C:=ZN (d:=94) C;rw[uF C]at a;exact finC rr rfl (Wp (D:= []) 2 0 0 0 (0,0,0,0) [] (Wo _ _ _) (done K _ (i+1) l k a.symm));have C:=ZH (d:=94) C;rw[uE C]at a;refine Zf (λE=> ?_) (λE=> ?_);have E:=ZN (d:=36) E;rw[uF E]at a;exact finC rr rfl (Wp (D:= []) 3 0 0 0 (0,0,0,0) [] (Wo _ _ _) (done K _ (i+1) l k a.symm));have E:=ZH (d:=36) E;rw[uE E]at a;refine Zf (λF=> ?_) (λF=> ?_);have F:=ZN (d:=92) F;rw[uF F]at a;refine(Zg5 l om).mono λv t X=> ?_;rcases X with ⟨e,_,u,o,y,z⟩|⟨_,L,o,y,z⟩|⟨u,_⟩;rw[u]at a;refine⟨_,o,_,_,_,_,_,_,_,_,_,_,_,Zxn e,finC rr rfl (.now ?_)⟩;rw[<-Zj1];exact done t _ (i+2) y (k.trans z) a.symm;rw[L]at a;refine⟨_,o,_,_,_,_,_,_,_,_,_,_,_,Zxn 0,finC rr rfl (.now ?_)⟩;rw[<-Zj1];exact⟨_,i+1,g,1,rfl,y,k.trans z, .inr ⟨dc,a.symm⟩⟩;exact absurd rfl u;have F:=ZH (d:=92) F;rw[uE F]at a;refine⟨_,_,_,_,_,_,_,_,_,_,_,Zxn c,finC rr rfl (.now ?_)⟩;rw[<-Zj1];exact done K _ (i+1) l k a.symm
theorem ZMs{n:Nat}(ih: ∀m,m<n->AllR m){h}{t:Nat}{s:List UInt8}{i g d:Nat}(r:RdE h t s i g 0)(hs:s.length<2 ^ 27)(L:i<s.length)(hg:g<=i)(hd:d<=64)(hn:6*(s.length-i)+4<=n):
  Con UY 170 [p_P t,I d] h (reQ (Qh n d s i g) h t s):=by
 obtain⟨n,rfl⟩: ∃m,n=m+1:=⟨n-1,om⟩;refine Zx UK (fn:=Tryz.f170) (Zo UK ZLl rfl ?_);generalize a:Qh (n+1) d s i g=R;rw[Qh]at a;refine((ih n om).atom r hs L hg hd om).mono λv h1 ⟨x,j,K,e,F,u1,G,u3⟩=> ?_;subst F;obtain⟨p,k,z,f,b,A⟩:=x;have C: ∀(q:Heap) (o:Nat) (l:Int),RdE q t s o K l->FrO h t q->((l=0/\R= .ok (.mk p k z f b A,o,K))\/(l≠0/\R= .error (l,o)))->
   Go.Y.Fin UY Tryz.f170 [4] (AfterZ (reQ R h t s)) .ret 46 [.lb [I p,U k.1,U k.2.1,U k.2.2.1,U k.2.2.2,lst Zd z,I f,I b,I A]] q:=λq o l q1 q2 q3=>
  finC rr rfl (.now (by rw[<-ZJ];exact⟨_,o,K,l,rfl,q1,q2,q3⟩))
 refine⟨_,_,_,_,_,_,_,_,_,_,_,ZJ _ _ _ _ _ _,_,Za9 u1 [42,43,63,123],Zf (λw=>C h1 j e u1 G ?_) (λw=> ?_)⟩
 .rcases u3 with ⟨rfl,N⟩|⟨B,N⟩
  .have w:pk s j [42,43,63,123]=false:=su w;rw[N]at a;simp only[]at a;refine .inl ⟨rfl,?_⟩
   cases E:s[j]? with
   |none=>rw[E]at a;exact a.symm
   |some c=>
    rw[E]at a;simp only[]at a;rw[Vy E,Zj0]at w;rw[uE (by rw[w];decide)]at a;exact a.symm
  .rw[N]at a;exact .inr ⟨B,a.symm⟩
 have a0:e=0/\pk s j [42,43,63,123]=true:=su w;obtain⟨rfl,hp⟩:=a0;rcases u3 with ⟨_,N⟩|⟨B,N⟩
 rotate_left
 .exact absurd rfl B
 obtain⟨c,hc,hm,a1⟩:=Zxe hp;rw[N]at a;simp only[]at a;rw[hc]at a;simp only[]at a;rw[Zj0]at hm;rw[uF hm]at a;have P:(p=2\/p=3)->Con UY 108 [p_P t,I 1] h1 λv h'=>v= .tup []/\Go.Y.Fin UY Tryz.f170 [4] (AfterZ (reQ R h t s)) .ret 46 [.lb [I p,U k.1,U k.2.1,U k.2.2.1,U k.2.2.2,lst Zd z,I f,I b,I A]] h':=λhk=>
  (Zo1 u1 1).mono λv h' ⟨F,O,H⟩=>⟨F,C h' j 1 (su O) (G.trans H) (.inr ⟨dc,by rw[uF (show(Re.mk p k z f b A).kind=2\/(Re.mk p k z f b A).kind=3 from hk)]at a;exact a.symm⟩)⟩
 refine Zf (λk2=>P (.inl (su k2))) (λk2=>Zf (λk3=>P (.inr (su k3))) (λk3=> ?_));have k2:p≠2:=su k2;have k3:p≠3:=su k3;rw[uE (λhk:(Re.mk p k z f b A).kind=2\/(Re.mk p k z f b A).kind=3=>hk.elim k2 k3)]at a;have u: ∀(q:Heap) (lo L:Int) (o:Nat) (l:Int),RdE q t s o K l->FrO h t q->((l=0/\R= .ok (.mk 6 (0,0,0,0) [.mk p k z f b A] lo L 0,o,K))\/(l≠0/\R= .error (l,o)))->
   Go.Y.Fin UY Tryz.f170 [4] (AfterZ (reQ R h t s)) .ret 46 [.lb [I 6,U 0,U 0,U 0,U 0, .ts [I p,U k.1,U k.2.1,U k.2.2.1,U k.2.2.2,lst Zd z,I f,I b,I A] 1 (some 1),I lo,I L,I 0]] q:=λq lo L o l q1 q2 q3=>
  finC rr rfl (Wp (D:= []) 6 lo L 0 (0,0,0,0) [.mk p k z f b A] (Zb4 _ _ (Zn _ _ _ _ _ _) _) ⟨_,o,K,l,rfl,q1,q2,q3⟩)
 refine(Zg5 u1 om).mono λv q hq=> ?_;rcases hq with ⟨e,_,B,F,O,H⟩|⟨_,hn,_⟩|⟨B,_⟩
 rotate_left
 .rw[hc]at hn;cases hn
 .exact absurd rfl B
 rw[hc]at B;cases B;refine⟨_,F,Zf (λW=> ?_) (λW=>Zf (λX=> ?_) (λX=>Zf (λZ=> ?_) (λZ=> ?_)))⟩;have W:=ZN (d:=43) W;subst W;rw[uE dc,uF rfl]at a;exact u q 1 (-1) (j+1) 0 O (G.trans H) (.inl ⟨rfl,a.symm⟩);have X:=ZN (d:=63) X;subst X;rw[uE dc,uE dc,uF rfl]at a;exact u q 0 1 (j+1) 0 O (G.trans H) (.inl ⟨rfl,a.symm⟩);have Z:=ZN (d:=123) Z;subst Z;rw[uE dc,uE dc,uE dc]at a;refine(ZMq O hs).mono λv h3 ⟨x,y,o,l,F,z1,z2,z3⟩=>⟨_,_,F,?_⟩;rcases z3 with ⟨rfl,w⟩|⟨rfl,w⟩;rw[w]at a;exact u h3 x y o 0 z1 ((G.trans H).trans z2) (.inl ⟨rfl,a.symm⟩);rw[w]at a;exact u h3 x y o 1 z1 ((G.trans H).trans z2) (.inr ⟨dc,a.symm⟩)
 .have d1:=ZH (d:=43) W;have d2:=ZH (d:=63) X;have d3:=ZH (d:=123) Z;have:c=42:=by simpa[Zjn,d1,d2,d3]using hm
  subst this;rw[uF rfl]at a;exact u q 0 (-1) (j+1) 0 O (G.trans H) (.inl ⟨rfl,a.symm⟩)
end Go.Y
