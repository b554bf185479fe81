/- A part of the proof. -/
import Derived.Test.YteennilbmmlikaaGreatDoorGPart
import Derived.Test.YteennilbmmlikaaGreatDoorNTa
import Derived.Test.YteennilbmmlikaaGreatDoorYAny3
import Derived.Test.YteennilbmmlikaaGreatDoorYLoop
import Derived.Test.YteennilbmmlikaaGreatDoorYFrz
import Derived.Test.YteennilbmmlikaaGreatDoorGSortK
namespace Go.Y
set_option maxRecDepth 1000000
set_option maxHeartbeats 0
theorem ZEd{a:Type}(p:a->Bool)(k:List a):(k.any λx=> !p x)= !k.all p:=by
 induction k with
 |nil=>rfl
 |cons x k c=>rw[List.any_cons,List.all_cons,c];cases p x<;>simp
theorem Zvp(x:List Int):(Xm x).length=1:=rfl
theorem getI(l:List Int){i:Nat}(h:i<l.length):Zr 1 (List.drop ((i:Int).toNat*1) (row encI l))=some [I l[i]]:=by
 rw[qdq];exact Xp (f:=encI) (k:=1) Zi6 h
theorem getL(l:List (List Int)){i:Nat}(h:i<l.length):Zr 1 (List.drop ((i:Int).toNat*1) (row Xm l))=some [lst encI l[i]]:=by
 rw[qdq];exact Xp (f:=Xm) (k:=1) Zvp h
/-! ### rising -/
def risB(l:List Int)(n:Int):Bool:=(List.range l.length).all (okAt l n)
theorem ZEe{l:List Int}{n:Int}{i:Nat}(a:i<l.length)(h:okAt l n i=false):risB l n=false:=
 List.all_eq_false.2 ⟨i,List.mem_range.2 a,by simp[h]⟩
theorem JW{l:List Int}{i:Nat}(a:i<l.length):l.getD i 0=l[i]:=by simp[a]
def mayA(a:Au):Bool:=decide (a.sets.length<=300)&&decide (a.follow.length=a.sets.length)&&risB a.first a.sets.length&&risB a.last a.sets.length&&a.follow.all λl=>risB l a.sets.length
theorem Zqa{l:List Int}{n:Int}(h:risB l n=true){x:Int}(c:x∈l):0<=x/\x<n:=by
 obtain⟨i,a,rfl⟩:=List.getElem_of_mem c;have:=uP.1 h i (List.mem_range.2 a);simp only[okAt,JW a,qrq,Bool.not_eq_true',ltI,leI,decide_eq_false_iff_not]at this;omega
end Go.Y
namespace Go.Y
open Go.Proofs
set_option maxRecDepth 1000000
set_option maxHeartbeats 0
theorem Zc5(l:List Int)(n:Int)(i:Nat):okAt l n i=(!ltI (l.getD i 0) 0&& !leI n (l.getD i 0)&& !(decide (0<i)&&leI (l.getD i 0) (l.getD (i-1) 0))):=rfl
theorem ZEf(l:List Int)(n:Int)(w:l.length<2 ^ 30):PCon UY 64 [lst encI l,I n] (· = .b (risB l n)):=by
 refine ZG UK (fn:=Tryz.f64) rfl ?_;refine Xg UK (n:=35) (loc:=UY.loc 64) 100 [0,1,2,7,8,9] kr ?_;refine Eq.mpr (ZPp (row encI l) l.length n .empty _) ?_;refine⟨rfl,ZN [0,1,2,7,8,9] [0,1,2,4,7,8,9] (λm o _=> ∃i:Nat,o= [lst encI l,I n, .undef,lst encI l,I l.length,I (i:Nat)]/\i<=l.length/\m=l.length-i/\(List.range i).all (okAt l n)=true) l.length ZA ⟨0,rfl,om,om,sm⟩ ?_⟩;rintro m o h ⟨i,rfl,x,rfl,hp⟩;refine ZR UK (loc:=UY.loc 64) 100 [0,1,2,4,7,8,9] ?_;refine Eq.mpr (ZPq (row encI l) l.length n (i:Nat) h _) ?_;refine Zq (λa=> ?_) (λu=> ?_)
 .have j:okAt l n i=false-> ∃r,Frz h (.b false) r/\r= .b (risB l n):=λe=>⟨_, .b _,by rw[ZEe a e]⟩;have ok:okAt l n i=true-> ∃t,t<l.length-i/\ ∃g:Nat,[lst encI l,I n, .undef,lst encI l,I l.length,I (wW ((i:Nat)+1))]= [lst encI l,I n, .undef,lst encI l,I l.length,I (g:Nat)]/\g<=l.length/\t=l.length-g/\(List.range g).all (okAt l n)=true:=λe=>
   ⟨l.length-(i+1),om,i+1,by rw[Ze om],om,rfl,Zr0 hp e⟩
  refine⟨Zu a,_,getI l a,Zf (λd=>ZZ rr rfl (j (by simp only[Zc5,JW a,d];rfl))) (λd=>Zf (λf=>ZZ rr rfl (j (by simp only[Zc5,JW a,d,f];rfl))) (λf=>Zf (λc=> ?_) (λc=> ?_)))⟩
  .have c:0<i:=by simpa[ltI]using c
   have v:wW (((i:Nat):Int)-1)=((i-1:Nat):Int):=by rw[ZI om om];omega
   rw[v];refine⟨Zu om,_,getI l om,Zf (λk=>ZZ rr rfl (j ?_)) (λk=>⟨rfl,ok ?_⟩)⟩
   .simp only[Zc5,JW a,JW (show i-1<l.length from om),d,f,c,k];rfl
   .simp only[Zc5,JW a,JW (show i-1<l.length from om),d,f,c,k];rfl
  .have c: ¬0<i:=by simpa[ltI]using c
   exact⟨rfl,ok (by simp only[Zc5,JW a,d,f,c];rfl)⟩
 .refine Zj [] ?_;refine ZE UK (loc:=UY.loc 64) 100 [4] ?_;refine Eq.mpr (ZPr ..) ?_;have:i=l.length:=om;subst this;exact ZB rr rfl (.b _) (by rw[risB,hp])
/-! ### ref35.SameInts -/
/-! ### small -/
def Zln(a:Au):Bool:=decide (a.sets.length<=300)&&decide (a.first.length<=300)&&decide (a.last.length<=300)&&decide (a.follow.length<=300)&&a.follow.all λl=>decide (l.length<=300)
theorem Zb4{a:Au}(h:Zln a=true):a.sets.length<=300/\a.first.length<=300/\a.last.length<=300/\a.follow.length<=300/\ ∀l∈a.follow,l.length<=300:=by
 simp only[Zln,qrq,vJ,uP]at h;exact⟨h.1.1.1.1,h.1.1.1.2,h.1.1.2,h.1.2,λl c=>by simpa using h.2 l c⟩
/-! ### May, by the reference -/
theorem ZPx(a c d e f g j l m n k x2 h K):CP UY 34 (pre (flat (Za Tryz.f34))) (.agg [J a c none,J d e none,J f g none,J j l none,.b m]::J n k none::.i .u8 x2::Rp 32) h [2,3,7,10,11,12] K=(K .normal 35 [.i .u8 x2, .lb [J a c none,J d e none,J f g none,J j l none, .b m],S0,J n k none,I (k:Int),I 0] h):=kr
theorem ZPy(e f j m o p q r s g k x2 t u v w d h K):CP UY 34 (flat (Zx (post (flat (Za Tryz.f34))))) (MZ 35 [2,3,7,10,11,12] [.i .u8 x2,.lb [J e f none,J j m none,J o p none,J q r none,.b s],S t u v w,J g k none,I (k:Int),I d]) h [2,3,7,10,11,12] K=(If (ltI d k) ((0<=d/\d<k)/\ ∃a,Zr 1 (List.drop (d.toNat*1) g)=some [I a]/\(0:Int)<=(6:Int)/\(0<=a/\a<f)/\((0:Int)<=x2.fdiv ((2:Int) ^ min (Int.toNat (6:Int)) IntKind.u8.bits)/\x2.fdiv ((2:Int) ^ min (Int.toNat (6:Int)) IntKind.u8.bits)<(↑(4:Nat):Int))/\ ∃c,Zr 1 (List.drop ((x2.fdiv ((2:Int) ^ min (Int.toNat (6:Int)) IntKind.u8.bits)).toNat*1) (List.drop (a.toNat*4) e))=some [U c]/\(0:Int)<=IntKind.u8.wrap (↑(BitVec.ofInt IntKind.u8.bits x2&&&BitVec.ofInt IntKind.u8.bits (63:Int)).toNat:Int)/\If (IntKind.u64.wrap (↑(BitVec.ofInt IntKind.u64.bits (c.fdiv ((2:Int) ^ min (IntKind.u8.wrap (↑(BitVec.ofInt IntKind.u8.bits x2&&&BitVec.ofInt IntKind.u8.bits (63:Int)).toNat:Int)).toNat IntKind.u64.bits))&&&BitVec.ofInt IntKind.u64.bits (1:Int)).toNat:Int)==(1:Int)) (∃l n x y z,Zk UY h 32 32 (S t u v w) (J [I a] 1 (some 1))=some (S l n x y,z)/\K .normal 35 [.i .u8 x2, .lb [J e f none,J j m none,J o p none,J q r none, .b s],S l n x y,J g k none,I (k:Int),I (wW (d+(1:Int)))] z) (K .normal 35 [.i .u8 x2, .lb [J e f none,J j m none,J o p none,J q r none, .b s],S t u v w,J g k none,I (k:Int),I (wW (d+(1:Int)))] h)) (K (.exit 0) 35 [.i .u8 x2, .lb [J e f none,J j m none,J o p none,J q r none, .b s],S t u v w,J g k none,I (k:Int),I d] h)):=kr
theorem ZPz(a b c d h K):CP UY 34 ((post (flat (Za Tryz.f34))).drop 1) (MZ 35 [7] [S a b c d]) h [6] K=(K .ret 35 [S a b c d] h):=kr
theorem ZP0(a c d e f g j l m n k x2 h K):CP UY 35 (pre (flat (Za Tryz.f35))) (.agg [J a c none,J d e none,J f g none,J j l none,.b m]::J n k none::.i .u8 x2::Rp 37) h [2,3,7,10,11,12] K=(K .normal 40 [.i .u8 x2, .lb [J a c none,J d e none,J f g none,J j l none, .b m],S0,J n k none,I (k:Int),I 0] h):=kr
theorem ZP1(j e m o p q f g r s k x2 t u w x d h K):CP UY 35 (flat (Zx (post (flat (Za Tryz.f35))))) (MZ 40 [2,3,7,10,11,12] [.i .u8 x2,.lb [J j e none,J m o none,J p q none,J f g none,.b r],S t u w x,J s k none,I (k:Int),I d]) h [2,3,7,10,11,12] K=(If (ltI d k) ((0<=d/\d<k)/\ ∃a,(λE=>Zr 1 (List.drop (d.toNat*1) s)=some [I a]/\If (leI 0 a) (If (ltI a e) ((0<=a/\a<g)/\ ∃c l n,Zr 1 (List.drop (a.toNat*1) f)=some [J c l n]/\ ∃y z B,(PCon UY 34 [.agg [J j e none,J m o none,J p q none,J f g none,.b r],J c l n,.i .u8 x2] λv=>v=J y z B)/\ ∃C D G F A,Zk UY h 32 32 (S t u w x) (J y z B)=some (S C D G F,A)/\K .normal 40 [.i .u8 x2, .lb [J j e none,J m o none,J p q none,J f g none, .b r],S C D G F,J s k none,I (k:Int),I (wW (d+(1:Int)))] A) E) E) (K .normal 40 [.i .u8 x2, .lb [J j e none,J m o none,J p q none,J f g none, .b r],S t u w x,J s k none,I (k:Int),I (wW (d+(1:Int)))] h)) (K (.exit 0) 40 [.i .u8 x2, .lb [J j e none,J m o none,J p q none,J f g none, .b r],S t u w x,J s k none,I (k:Int),I d] h)):=kr
theorem ZP2(b d e f h K):CP UY 35 ((post (flat (Za Tryz.f35))).drop 1) (MZ 40 [7] [S b d e f]) h [6] K=(Con UY 75 [S b d e f] h fun(v:V) (j:Heap)=>v=.tup []/\Con UY 76 [S b d e f] j fun(v:V) (j:Heap)=> ∃a c g i,v=S a c g i/\K .ret 40 [S a c g i] j):=kr
theorem ZP3{a c d e f g i j l m n1 h}(K):CP UY 36 (flat (Za Tryz.f36)) (.agg [J a c none,J d e none,J f g none,J i j none,.b l]::J m n1 none::Rp 6) h [4] K=(Con UY 77 [J m n1 none,V.fn (Fn.func (78:Nat)) [] [.p (some (h.nx,0))]] (h.push (YObj.arr [J a c none,J d e none,J f g none,J i j none,.b l] true)) fun(v:V) (k:Heap)=> ∃n,v=.b n/\K .ret 8 [.b n] k):=kr
/-! ### bits -/
theorem ZI7{c:Nat} :(c:Int).fdiv ((2:Int) ^ min (Int.toNat (6:Int)) IntKind.u8.bits)=((c / 64:Nat):Int):=by
 have e:(2:Int) ^ min (Int.toNat (6:Int)) IntKind.u8.bits=64:=dc;rw[e,Int.fdiv_eq_ediv_of_nonneg _ dc];omega
theorem ZI8{c:Nat}(a:c<256):IntKind.u8.wrap (((BitVec.ofInt IntKind.u8.bits (c:Int)&&&BitVec.ofInt IntKind.u8.bits (63:Int)).toNat:Nat):Int)=((c % 64:Nat):Int):=by
 have h: ∀c:_root_.Fin 256,IntKind.u8.wrap (((BitVec.ofInt IntKind.u8.bits (c.val:Int)&&&BitVec.ofInt IntKind.u8.bits (63:Int)).toNat:Nat):Int)=((c.val % 64:Nat):Int):=by decide+kernel
 exact h ⟨c,a⟩
theorem ZEg(y:Int):IntKind.u64.wrap (((BitVec.ofInt IntKind.u64.bits y&&&BitVec.ofInt IntKind.u64.bits (1:Int)).toNat:Nat):Int)=y % 2:=by
 have e:IntKind.u64.bits=64:=rfl;have c:(BitVec.ofInt IntKind.u64.bits y&&&BitVec.ofInt IntKind.u64.bits (1:Int)).toNat=(y % 18446744073709551616).toNat % 2:=by
  rw[e,BitVec.toNat_and,BitVec.toNat_ofInt,BitVec.toNat_ofInt];have:((1:Int) % ((2 ^ 64:Nat):Int)).toNat=1:=dc;rw[this,Nat.and_one_is_mod]
  rfl
 rw[c];have a:(2:Int) ^ IntKind.u64.bits=18446744073709551616:=dc;unfold IntKind.wrap;simp only[a,IntKind.signed,Bool.false_and];simp only[uI,vF];omega
/-! ### having -/
theorem Zvq(a:List Set4)(l:List Int)(c:Nat){i:Nat}(e:i<l.length)(s:Set4)(d:a.getD l[i].toNat set0=s):havL a (l.take (i+1)) c=havL a (l.take i) c++if hasN s c then [l[i]]else []:=by
 rw[qa e];unfold havL;rw[List.filter_append,List.filter_cons,List.filter_nil,d]
theorem Zed(a:List Set4)(l:List Int)(c:Nat):(havL a l c).length<=l.length:=List.length_filter_le _ _
theorem getS(l:List Set4){i:Nat}(h:i<l.length):Zr 4 (List.drop (i*4) (row setC l))=some (setC l[i]):=Xp (f:=setC) (k:=4) Zea h
theorem ZP4(l:List Set4){i k:Nat}(h:i<l.length)(a:k<4):Zr 1 (List.drop ((k:Int).toNat*1) (List.drop (i*4) (row setC l)))=some [U (Zgu l[i] k)]:=by
 rw[VN Zea l h,qdq]
 match k,a with
 |0,_=>rfl
 |1,_=>rfl
 |2,_=>rfl
 |3,_=>rfl
theorem ZP5{h}{a}{l:Nat}{c}{k:Nat}{d:List Int}(x:Int)(r:Lst encI 1 h a l c k d)(t:d.length<2 ^ 29):
  ∃f m o n g,Zk UY h 32 32 (.sl a l c k) (.ts [I x] 1 (some 1))=some (.sl f m o n,g)/\Lst encI 1 g f m o n (d++ [x])/\Fr h a g/\ ∃j,f=some (j,0)/\h.nx<=j:=
 Lst.app1 (Y:=UY) (e:=3) (te:=⟨1,8, .int .i64,[I 0]⟩) x kr kr rfl dc r (.cons _ _ _ _ (.i _ _) .nil) rfl rfl rfl dc t
theorem Zqb(a:Au)(l:List Int)(c:Nat)(A:c<256)(hr: ∀p∈l,0<=p/\p<a.sets.length)(G:l.length<2 ^ 20):PCon UY 34 [.agg (auC a),lst encI l, .i .u8 (c:Nat)] (· =lst encI (havL a.sets l c)):=by
 refine ZG UK (fn:=Tryz.f34) rfl ?_;refine Xg UK (n:=35) (loc:=UY.loc 34) 100 [2,3,7,10,11,12] kr ?_;refine Eq.mpr (ZPx (row setC a.sets) a.sets.length (row encI a.first) a.first.length (row encI a.last) a.last.length (row Xm a.follow) a.follow.length a.empty (row encI l) l.length (c:Nat) .empty _) ?_;refine⟨rfl,ZN [2,3,7,10,11,12] [2,3,7,10,11,12] (λm w h=> ∃(i:Nat) (q:Option (Nat×Nat)) (n:Nat) (j:Option Nat) (f:Nat),w= [.i .u8 (c:Nat), .lb (auC a), .sl q n j f,lst encI l,I l.length,I (i:Nat)]/\i<=l.length/\m=l.length-i/\Lst encI 1 h q n j f (havL a.sets (l.take i) c)) l.length ZA ⟨0,none,0,some 0,0,rfl,om,om,Lst.nil _ _ _ _ _⟩ ?_⟩;rintro m w h ⟨i,q,n,j,f,rfl,K,rfl,o⟩;refine ZR UK (loc:=UY.loc 34) 100 [2,3,7,10,11,12] ?_;refine Eq.mpr (ZPy (row setC a.sets) a.sets.length (row encI a.first) a.first.length (row encI a.last) a.last.length (row Xm a.follow) a.follow.length a.empty (row encI l) l.length (c:Nat) q n j f (i:Nat) h _) ?_;refine Zq (λd=> ?_) (λr=> ?_)
 .obtain⟨y,D⟩:=hr l[i] (qe d);have hp:l[i].toNat<a.sets.length:=om;have E:a.sets.getD l[i].toNat set0=a.sets[l[i].toNat]:=by simp[hp]
  have k:=Zvq a.sets l c d _ E;have e:(havL a.sets (l.take i) c).length<2 ^ 29:=by
   have:=Zed a.sets (l.take i) c;rw[uO]at this;omega
  refine⟨Zu d,_,getI l d,dc,⟨y,D⟩,?_⟩;rw[ZI7,ZI8 A];refine⟨⟨om,om⟩,_,ZP4 a.sets hp om,om,?_⟩;have F:min (((c % 64:Nat):Int)).toNat IntKind.u64.bits=c % 64:=by
   have:IntKind.u64.bits=64:=rfl;rw[this,qdq];omega
  rw[F,ZEg];refine Zf (λg=> ?_) (λg=> ?_)
  .have g:hasN a.sets[l[i].toNat] c=true:=g;rw[g,uF rfl]at k;obtain⟨x,t,v,u,z,C,B,H,L⟩:=ZP5 l[i] o e;exact⟨x,t,v,u,z,C,rfl,l.length-(i+1),om,i+1,x,t,v,u,by rw[Ze om];rfl,om,rfl,by rw[k];exact B⟩
  .have g:hasN a.sets[l[i].toNat] c=false:=g;rw[g,uE dc,qi]at k;exact⟨rfl,l.length-(i+1),om,i+1,q,n,j,f,by rw[Ze om];rfl,om,rfl,by rw[k];exact o⟩
 .refine Zj [7] ?_;refine ZE UK (loc:=UY.loc 34) 100 [6] ?_;refine Eq.mpr (ZPz ..) ?_;rw[qt r]at o;exact ZB rr rfl (o.frz dc Zi6) rfl
theorem kd23:UY.kd 32=some (.slice 3):=kr
theorem frzI{h} : ∀ {l} {a:List Int},FrzL h l (Xj a)->l=Xj a
 |_,[],f=>by cases f;rfl
 |_,z::a,f=>by
  cases f with
  |cons _ _ _ _ c d=>
   cases c;rw[frzI d]
   rfl
theorem ZP6{h}{a}{l:Nat}{c}{k:Nat}{d:List Int}{cap:Option Nat}(v:Lst encI 1 h a l c k d):
  ∃e m r n,Zk UY h 32 32 (.sl a l c k) (.ts (row encI ([]:List Int)) 0 cap)=some (.sl e m r n,h)/\Lst encI 1 h e m r n d/\e=a:=by
 obtain⟨⟨cells,o,t,j⟩,w⟩:=v;have g:XI UY ⟨[],[],h⟩ ⟨1,8, .int .i64,[I 0]⟩ 32 (.ts (row encI ([]:List Int)) 0 cap)=some (0,[]):=by
  simp only[XI,kd23,QT,XQ,Zr,uw]
 rcases o.2 with ⟨rfl,y,f⟩|⟨u,rfl,rfl,rfl,f,x⟩
 .refine⟨none,0,some 0,1,?_,⟨⟨cells,⟨by subst f;rfl, .inl ⟨rfl,rfl,f⟩⟩,t,j⟩,om⟩,rfl⟩;simp only[Zk,Xe,kd23,ty3,g]
  rfl
 .refine⟨some (u,0),l,none,1,?_,⟨⟨cells,o,t,j⟩,w⟩,rfl⟩;simp only[Zk,Xe,kd23,ty3,g]
  rfl
theorem ZP7{h}{a}{l:Nat}{c}{v:Nat}{f:List Int}(d:List Int)(y:Lst encI 1 h a l c v f)(A:f.length+d.length<2 ^ 29):
  ∃g j m k n,Zk UY h 32 32 (.sl a l c v) (.ts (row encI d) d.length none)=some (.sl g j m k,n)/\Lst encI 1 n g j m k (f++d)/\(f++d= []->g=a):=by
 by_cases u:d= []
 .subst u;obtain⟨g,j,m,k,t,o,B⟩:=ZP6 (cap:=none) y;exact⟨g,j,m,k,h,t,by rw[qi];exact o,λ_=>B⟩
 .have w:most=1099511627776:=dc;obtain⟨g,j,m,k,n,t,o,_,_⟩:=Lst.app (Y:=UY) (st:=32) (e:=3) (te:=⟨1,8, .int .i64,[I 0]⟩) d (cap:=none) kd23 ty3 rfl dc y (Zd6 d _) (by
   rw[rowI]
   induction d with
   |nil=>rfl
   |cons x r z=>
    by_cases hr:r= []
    .subst hr;rfl
    .have:=z (by simp at A ⊢;omega) hr;simp only[qz,Xb,this,Bool.and_true]
     rfl) u (by rw[WE];exact(uY _).symm) (Zd5 d) (by show(f.length+d.length)*8<=most;rw[w];omega) (by rw[w];omega)
  exact⟨g,j,m,k,n,t,o,λe=>absurd (List.append_eq_nil_iff.1 e).2 u⟩
/-! ### Put -/
/-! ### what may come next -/
structure OkA(a:Au):Prop where
 may:mayA a=true
 small:Zln a=true
theorem OkA.fl{a:Au}(h:OkA a):a.follow.length=a.sets.length:=by
 have:=h.may;simp only[mayA,qrq,vJ]at this;exact this.1.1.1.2
theorem OkA.fr{a:Au}(h:OkA a){l:List Int}(c:l∈a.follow): ∀p∈l,0<=p/\p<a.sets.length:=by
 have:=h.may;simp only[mayA,qrq,uP]at this;exact λp hp=>Zqa (this.2 l c) hp
theorem OkA.first{a:Au}(h:OkA a): ∀p∈a.first,0<=p/\p<a.sets.length:=by
 have:=h.may;simp only[mayA,qrq]at this;exact λp hp=>Zqa this.1.1.2 hp
theorem OkA.len{a:Au}(h:OkA a){l:List Int}(c:l∈a.follow):l.length<=300:=(Zb4 h.small).2.2.2.2 l c
theorem OkA.nsets{a:Au}(h:OkA a):a.sets.length<=300:=(Zb4 h.small).1
theorem OkA.nfirst{a:Au}(h:OkA a):a.first.length<=300:=(Zb4 h.small).2.1
theorem OkA.nlast{a:Au}(h:OkA a):a.last.length<=300:=(Zb4 h.small).2.2.1
theorem Zvr(a:Au)(p:Int):inR a p=(leI 0 p&&ltI p a.sets.length):=rfl
theorem Zvs(a:Au)(ps:List Int)(c:Nat){i:Nat}(d:i<ps.length):catL a (ps.take (i+1)) c=catL a (ps.take i) c++Zfh a c ps[i]:=by
 rw[qa d];unfold catL;rw[ug];simp
theorem Zvt{a:Au}(h:OkA a)(c:Nat)(p:Int):(Zfh a c p).length<=300:=by
 unfold Zfh;split
 .have d:=Zed a.sets (a.follow.getD p.toNat []) c;by_cases hp:p.toNat<a.follow.length
  .have e:a.follow.getD p.toNat []=a.follow[p.toNat]:=by simp[hp]
   rw[e]at d ⊢;exact uu d (h.len (qe hp))
  .have e:a.follow.getD p.toNat []= []:=by simp[Nat.le_of_not_lt hp]
   rw[e];have:havL a.sets [] c= []:=rfl;rw[this];simp
 .simp
theorem Zjf{a:Au}(h:OkA a)(c:Nat): ∀ps:List Int,(catL a ps c).length<=300*ps.length
 | []=>by simp[catL]
 |p::ps=>by
  have:=Zjf h c ps;have d:=Zvt h c p;unfold catL at this ⊢;simp only[List.flatMap_cons,qf,qh];omega
theorem Zhn: ∀ {l:List Int} {k n:Int},Ja l->(∀x∈l,k<=x/\x<n)->k<=n->(l.length:Int)<=n-k
 | [],k,n,_,_,h=>by simp;omega
 |a::r,k,n,hr,d,_=>by
  obtain⟨e,f⟩:=List.pairwise_cons.1 hr;obtain⟨j,g⟩:=d a sm;have:=Zhn (k:=a+1) (n:=n) f (λx c=>⟨by have:=e x c;omega,(d x (uv _ c)).2⟩) om;simp only[qh];omega
theorem Zvu{a:Au}(h:OkA a){c:Nat}{p x:Int}(d:x∈Zfh a c p):0<=x/\x<a.sets.length:=by
 unfold Zfh at d;split at d
 .have d:=(List.mem_filter.1 d).1;by_cases hp:p.toNat<a.follow.length
  .have e:a.follow.getD p.toNat []=a.follow[p.toNat]:=by simp[hp]
   rw[e]at d;exact h.fr (qe hp) x d
  .have e:a.follow.getD p.toNat []= []:=by simp[Nat.le_of_not_lt hp]
   rw[e]at d;cases d
 .cases d
theorem Zvv{a:Au}(h:OkA a){c:Nat}{ps:List Int}{x:Int}(d:x∈Zgv a ps c):0<=x/\x<a.sets.length:=by
 unfold Zgv at d;rcases Zbw.1 d with d|d
 .cases d
 .unfold catL at d;obtain⟨p,_,hp⟩:=List.mem_flatMap.1 d;exact Zvu h hp
theorem Zvw{a:Au}(h:OkA a)(c:Nat)(ps:List Int):(Zgv a ps c).length<=300:=by
 have:=Zhn (l:=Zgv a ps c) (k:=0) (n:=a.sets.length) (WI (by simp[Ja])) (λx d=>Zvv h d) om;have:=h.nsets;omega
theorem ZI9(hs:ZY UY.P 75)(a0:ZF UY.P 76){a:Au}(B:OkA a)(ps:List Int)(c:Nat)(hc:c<256)(hl:ps.length<=2 ^ 10):PCon UY 35 [.agg (auC a),lst encI ps, .i .u8 (c:Nat)] (· =lst encI (Zgv a ps c)):=by
 refine ZG UK (fn:=Tryz.f35) rfl ?_;refine Xg UK (n:=40) (loc:=UY.loc 35) 100 [2,3,7,10,11,12] kr ?_;refine Eq.mpr (ZP0 (row setC a.sets) a.sets.length (row encI a.first) a.first.length (row encI a.last) a.last.length (row Xm a.follow) a.follow.length a.empty (row encI ps) ps.length (c:Nat) .empty _) ?_;refine⟨rfl,ZN [2,3,7,10,11,12] [2,3,7,10,11,12] (λm vs h=> ∃(i:Nat) (q:Option (Nat×Nat)) (n:Nat) (K:Option Nat) (H:Nat),vs= [.i .u8 (c:Nat), .lb (auC a), .sl q n K H,lst encI ps,I ps.length,I (i:Nat)]/\i<=ps.length/\m=ps.length-i/\Lst encI 1 h q n K H (catL a (ps.take i) c)/\(catL a (ps.take i) c= []->q=none)) ps.length ZA ⟨0,none,0,some 0,0,rfl,om,om,Lst.nil _ _ _ _ _,λ_=>rfl⟩ ?_⟩;rintro m vs h ⟨i,q,n,K,H,rfl,hi,rfl,W,f⟩;refine ZR UK (loc:=UY.loc 35) 100 [2,3,7,10,11,12] ?_;refine Eq.mpr (ZP1 (row setC a.sets) a.sets.length (row encI a.first) a.first.length (row encI a.last) a.last.length (row Xm a.follow) a.follow.length a.empty (row encI ps) ps.length (c:Nat) q n K H (i:Nat) h _) ?_;refine Zq (λF=> ?_) (λa2=> ?_)
 .have l:=Zvs a ps c F;have u:inR a ps[i]=false->Zfh a c ps[i]= []:=λe=>by unfold Zfh;rw[e];rfl
  have A:Zfh a c ps[i]= []-> ∃m',m'<ps.length-i/\ ∃(i':Nat) (q':Option (Nat×Nat)) (n':Nat) (a1:Option Nat) (Z:Nat),[V.i .u8 (c:Nat), .lb (auC a), .sl q n K H,lst encI ps,I ps.length,I (wW ((i:Nat)+1))]= [.i .u8 (c:Nat), .lb (auC a), .sl q' n' a1 Z,lst encI ps,I ps.length,I (i':Nat)]/\i'<=ps.length/\m'=ps.length-i'/\Lst encI 1 h q' n' a1 Z (catL a (ps.take i') c)/\(catL a (ps.take i') c= []->q'=none):=λe=>
   ⟨ps.length-(i+1),om,i+1,q,n,K,H,by rw[Ze om],om,rfl,by rw[l,e,qi];exact W,by rw[l,e,qi];exact f⟩
  refine⟨Zu F,_,getI ps F,Zf (λC=>Zf (λG=> ?_) (λG=>⟨rfl,A (u (by rw[Zvr];rw[C,G];rfl))⟩)) (λC=>⟨rfl,A (u (by rw[Zvr];rw[C];rfl))⟩)⟩;have a3:inR a ps[i]=true:=by rw[Zvr];rw[C,G];rfl
  have C:0<=ps[i]:=by simpa[leI]using C
  have G:ps[i]<a.sets.length:=by simpa[ltI]using G
  have hp:ps[i].toNat<a.follow.length:=by rw[B.fl];omega
  have hD:a.follow.getD ps[i].toNat []=a.follow[ps[i].toNat]:=by simp[hp]
  have hnx:Zfh a c ps[i]=havL a.sets a.follow[ps[i].toNat] c:=by unfold Zfh;rw[a3,uF rfl,hD]
  have g:=qe hp;have hF:=getL a.follow hp;rw[qdq]at hF;have j:(catL a (ps.take i) c).length+(havL a.sets a.follow[ps[i].toNat] c).length<2 ^ 29:=by
   have h1:=Zjf B c (ps.take i);have h2:=Zed a.sets a.follow[ps[i].toNat] c;have h3:=B.len g;rw[uO]at h1;omega
  obtain⟨a',l',c',k',L,q1,q2,q3⟩:=ZP7 (havL a.sets a.follow[ps[i].toNat] c) W j;refine⟨⟨C,by rw[B.fl];exact G⟩,_,_,_,hF,_,_,_,Zqb a a.follow[ps[i].toNat] c hc (B.fr g) (by have:=B.len g;omega),a',l',c',k',L,q1,rfl,ps.length-(i+1),om,i+1,a',l',c',k',by rw[Ze om];rfl,om,rfl,by rw[l,hnx];exact q2,?_⟩;rw[l,hnx];exact λe=>by rw[q3 e,f (List.append_eq_nil_iff.1 e).1]
 .refine Zj [7] ?_;refine ZE UK (loc:=UY.loc 35) 100 [6] ?_;refine Eq.mpr (ZP2 ..) ?_;rw[qt a2]at W f;have t:Jq UY 75:=⟨Tryz.f75,_,kr,rfl⟩;have w:Jq UY 76:=⟨Tryz.f76,_,kr,rfl⟩;generalize hz:catL a ps c=d at W f;have a7:d.length<=300*ps.length:=by rw[<-hz];exact Zjf B c ps
  have o:Zgv a ps c=Xl (Ql d):=by unfold Zgv;rw[hz,Zlg]
  obtain⟨⟨cells,hI,a5,hF⟩,j⟩:=W;rw[rowI]at hF;have a6:=frzI hF;subst a6;rcases hI.2 with ⟨rfl,h0,h5⟩|⟨id,rfl,rfl,rfl,h5,h6⟩
  .have a4:d= []:=by cases d with
    |nil=>rfl
    |cons z r=>simp at h5
   subst a4 h0;refine(Zle t hs).mono λv L ⟨D,O⟩=>⟨D,?_⟩;refine(Zdq w a0).mono λv L ⟨D,O⟩=>⟨_,_,_,_,D,?_⟩;refine ZB rr rfl (.sln _ _ none (λ_ h=>by cases h)) ?_;rw[o,show Ql ([]:List Int)= [] from List.mergeSort_nil]
   rfl
  .have N:d≠ []:=λe=>by have:=f e;cases this
   subst j;refine(Zp0 t hs h6 N om).mono λv L ⟨D,O⟩=>⟨D,?_⟩;subst O;have hg:(h.set id (some (.arr (Xj (Ql d)) true))).get id=some (.arr (Xj (Ql d)) true):=by rw[qc,uF rfl]
   have E:(Ql d).length=d.length:=List.length_mergeSort _;have X:=Zfj w a0 (c:=none) (k:=1) hg (λe=>by rw[e]at E;exact N (qg E.symm)) om;rw[E]at X;refine X.mono λv L ⟨D,O⟩=>⟨_,_,_,_,D,?_⟩;subst O;refine ZB rr rfl (.sl id 0 _ none 1 (Xj (Zu3 (Ql d))) true (Xj (Xl (Ql d))) (Xj (Xl (Ql d))) none (by rw[qc,uF rfl]) ?_ (λ_ h=>by cases h) dc ?_) ?_
   .rw[ql,uY];have: ∀(x y:List V),Zr x.length (x++y)=some x:=by
     intro x
     induction x with
     |nil=>intro y;rfl
     |cons v x ih=>intro y;simp[Zr,ih]
    have h2:=this (Xj (Xl (Ql d))) (Xj (List.replicate ((Ql d).length-(Xl (Ql d)).length) 0));rw[qC]at h2;rw[<-h2,Xj,uV]
   .have:=Zd6 (Xl (Ql d)) ((h.set id (some (.arr (Xj (Ql d)) true))).set id (some (.arr (Xj (Zu3 (Ql d))) true)))
    rwa [rowI]at this
   .rw[o];simp only[lst,rowI]
def Tryr.locs:List (List Nat):=(Tryz.locs.set 190 []).set 176 [2]
noncomputable def Tryr.Y:YP:=⟨Go.Proofs.Tryz.prog,Tryz.tys,Tryr.locs,Tryz.modes,[182,5],[(185,1),(197,2)],[26,27,28,31,32,33,34,35]⟩
theorem Tryr.Yok:YOK Tryr.Y:=Vg kr Tryz.extok
theorem ZP8(a e c h K):CP UY 65 (flat (Za Tryz.f65)) (J a e none::V.fn (Fn.func 66) [] [.p (some (c,0))]::Rp 7) h [4] K=(Con UY 85 [J a e none,V.fn (Fn.func 66) [] [.p (some (c,0))]] h fun(v:V) (f:Heap)=> ∃d,v=I d/\K .ret 9 [.b (leI 0 d)] f):=kr
theorem ZP9(a e c h K):CP UY 66 (flat (Za Tryz.f66)) (J a e none::.p (some (c,0))::Rp 6) h [3] K=(∃b,Zb h c 0 1=some [I b]/\ ∃d,(PCon UY 64 [J a e none,I b] λv=>v=.b d)/\K .ret 8 [.b !d] h):=kr
theorem ZQa(a c b h K):CP UY 85 (pre (flat (Za Tryz.f85))) (J a c none::V.fn (Fn.func 66) [] [.p (some (b,0))]::Rp 17) h [0,1,7,8] K=(K .normal 19 [J a c none, .fn (Fn.func 66) [] [.p (some (b,0))],I (c:Int),I 0] h):=kr
theorem ZQb(a g d x8 h K):CP UY 85 (flat (Zx (post (flat (Za Tryz.f85))))) (MZ 19 [0,1,7,8] [J a g none,V.fn (Fn.func 66) [] [.p (some (d,0))],I (g:Int),I x8]) h [0,1,4,7,8] K=(If (ltI x8 g) ((0<=x8/\x8<g)/\ ∃b c e,Zr 1 (List.drop (x8.toNat*1) a)=some [J b c e]/\ ∃f,RCon UY 66 [J b c e,.p (some (d,0))] h (.b f)/\If f (K .ret 19 [J a g none, .fn (Fn.func 66) [] [.p (some (d,0))],I x8,I (g:Int),I x8] h) (K .normal 19 [J a g none, .fn (Fn.func 66) [] [.p (some (d,0))],Ud,I (g:Int),I (wW (x8+(1:Int)))] h)) (K (.exit 0) 19 [J a g none, .fn (Fn.func 66) [] [.p (some (d,0))],Ud,I (g:Int),I x8] h)):=kr
theorem ZQc(h K):CP UY 85 ((post (flat (Za Tryz.f85))).drop 1) (MZ 19 [] []) h [4] K=(K .ret 19 [I (-1)] h):=kr
theorem ZQd(a e c h K):CP UY 77 (flat (Za Tryz.f77)) (J a e none::V.fn (Fn.func 78) [] [.p (some (c,0))]::Rp 7) h [4] K=(Con UY 122 [J a e none,V.fn (Fn.func 78) [] [.p (some (c,0))]] h fun(v:V) (f:Heap)=> ∃d,v=I d/\K .ret 9 [.b (leI 0 d)] f):=kr
theorem ZQe(f a h K):CP Tryr.Y 78 (flat (Za Tryz.f78)) (I f::.p (some (a,0))::Rp 6) h [3] K=(∃b c d,Zb h a 2 1=some [J b c d]/\ ∃e,(PCon Tryr.Y 79 [J b c d,I f] λv=>v=.b e)/\K .ret 8 [.b e] h):=kr
theorem ZQf{a d x1 h}(K):CP UY 79 (flat (Za Tryz.f79)) (J a d none::I x1::Rp 7) h [4] K=(∃c,(PCon UY 123 [J a d none,I x1] λv=>v=I c)/\K .ret 9 [.b (leI 0 c)] h):=kr
theorem ZJa(a c b h K):CP UY 122 (pre (flat (Za Tryz.f122))) (J a c none::V.fn (Fn.func 78) [] [.p (some (b,0))]::Rp 17) h [0,1,7,8] K=(K .normal 19 [J a c none, .fn (Fn.func 78) [] [.p (some (b,0))],I (c:Int),I 0] h):=kr
theorem ZJb(a e c x8 h K):CP UY 122 (flat (Zx (post (flat (Za Tryz.f122))))) (MZ 19 [0,1,7,8] [J a e none,V.fn (Fn.func 78) [] [.p (some (c,0))],I (e:Int),I x8]) h [0,1,4,7,8] K=(If (ltI x8 e) ((0<=x8/\x8<e)/\ ∃b,Zr 1 (List.drop (x8.toNat*1) a)=some [I b]/\ ∃d,RCon UY 78 [I b,.p (some (c,0))] h (.b d)/\If d (K .ret 19 [J a e none, .fn (Fn.func 78) [] [.p (some (c,0))],I x8,I (e:Int),I x8] h) (K .normal 19 [J a e none, .fn (Fn.func 78) [] [.p (some (c,0))],Ud,I (e:Int),I (wW (x8+(1:Int)))] h)) (K (.exit 0) 19 [J a e none, .fn (Fn.func 78) [] [.p (some (c,0))],Ud,I (e:Int),I x8] h)):=kr
theorem ZJc(h K):CP UY 122 ((post (flat (Za Tryz.f122))).drop 1) (MZ 19 [] []) h [4] K=(K .ret 19 [I (-1)] h):=kr
theorem ZJd(a c x1 h K):CP UY 123 (pre (flat (Za Tryz.f123))) (J a c none::I x1::Rp 17) h [0,1,7,8] K=(K .normal 19 [J a c none,I x1,I (c:Int),I 0] h):=kr
theorem ZJe(a c x1 x8 h K):CP UY 123 (flat (Zx (post (flat (Za Tryz.f123))))) (MZ 19 [0,1,7,8] [J a c none,I x1,I (c:Int),I x8]) h [0,1,4,7,8] K=(If (ltI x8 c) ((0<=x8/\x8<c)/\ ∃b,Zr 1 (List.drop (x8.toNat*1) a)=some [I b]/\If (x1==b) (K .ret 19 [J a c none,I x1,I x8,I (c:Int),I x8] h) (K .normal 19 [J a c none,I x1,Ud,I (c:Int),I (wW (x8+(1:Int)))] h)) (K (.exit 0) 19 [J a c none,I x1,Ud,I (c:Int),I x8] h)):=kr
theorem ZJf(h K):CP UY 123 ((post (flat (Za Tryz.f123))).drop 1) (MZ 19 [] []) h [4] K=(K .ret 19 [I (-1)] h):=kr
def idxI(l:List Int)(x:Int):Int:=if hasI l x then(l.findIdx (λy=>x==y):Nat)else -1
theorem ZEh(l:List Int)(x:Int):leI 0 (idxI l x)=hasI l x:=by
 unfold idxI;by_cases h:hasI l x=true
 .rw[uF h,h];simp[leI]
 .have h:hasI l x=false:=by simpa using h
  rw[h];rfl
theorem ZEi(l:List Int)(x:Int)(r:l.length<2 ^ 20):PCon UY 123 [lst encI l,I x] (· = I (idxI l x)):=by
 refine ZG UK (fn:=Tryz.f123) rfl ?_;refine Xg UK (n:=19) (loc:=UY.loc 123) 100 [0,1,7,8] kr ?_;refine Eq.mpr (ZJd (row encI l) l.length x .empty _) ?_;refine⟨rfl,ZN [0,1,7,8] [0,1,4,7,8] (λm f _=> ∃i:Nat,f= [lst encI l,I x,I l.length,I (i:Nat)]/\i<=l.length/\hasI (l.take i) x=false/\m=l.length-i) l.length ZA ⟨0,rfl,om,by simp[hasI],om⟩ ?_⟩;rintro m f h ⟨i,rfl,t,a,rfl⟩;refine ZR UK (loc:=UY.loc 123) 100 [0,1,4,7,8] ?_;refine Eq.mpr (ZJe (row encI l) l.length x (i:Nat) h _) ?_;refine Zq (λc=> ?_) (λe=> ?_)
 .refine⟨Zu c,_,getI l c,Zf (λd=> ?_) (λd=> ?_)⟩
  .refine ZZ rr rfl ⟨_, .i _ _,?_⟩;have g:hasI l x=true:=List.any_eq_true.2 ⟨l[i],qe c,d⟩;have k:l.findIdx (λy=>x==y)=i:=(List.findIdx_eq c).2 ⟨d,λj o=>by
    have:=List.any_eq_false.1 a l[j] (List.mem_take_iff_getElem.2 ⟨j,om,rfl⟩);simpa using this⟩
   unfold idxI;rw[uF g,k]
  .refine⟨rfl,l.length-(i+1),om,i+1,by rw[Ze om];rfl,om,?_,rfl⟩;unfold hasI at a ⊢;rw[qa c,uj,a];simp only[List.any_cons,List.any_nil,d,Bool.or_false]
 .refine Zj [] ?_;refine ZE UK (loc:=UY.loc 123) 100 [4] ?_;refine Eq.mpr (ZJf h _) ?_;rw[qt e]at a;exact ZB rr rfl (.i _ _) (by unfold idxI;rw[a];rfl)
theorem Zsc(l:List Int)(x:Int)(a:l.length<2 ^ 20):PCon UY 79 [lst encI l,I x] (· = .b (hasI l x)):=
 Zw UK (fn:=Tryz.f79) rfl ZQf rfl ⟨_,ZEi l x a,ZB rr rfl (.b _) (by rw[ZEh])⟩
/-! ### ends -/
theorem Con.zr{f:FuncId}{args}{h}{Q}(c:Con Tryr.Y f args h Q):Con UY f args h Q:=⟨c.body,c.tr⟩
theorem PCon.rz{f:FuncId}{args}{Q:V->Prop}(c:PCon UY f args Q):PCon Tryr.Y f args Q:=⟨c.body,c.tr⟩
theorem ZEj{a:Au}(f:a.last.length<=300)(x:Int){h:Heap}{c:Nat}(d:h.get c=some (.arr (auC a) true)):Con UY 78 [I x, .p (some (c,0))] h λv e=>v= .b (hasI a.last x)/\e=h:=by
 refine Con.zr ?_;refine Zv Tryr.Yok (fn:=Tryz.f78) (ZE Tryr.Yok (loc:=Tryr.Y.loc 78) 100 [3] ?_);refine Eq.mpr (ZQe x c h _) ?_;exact⟨_,_,_,by rw[Zs d];rfl,_,PCon.rz (Zsc a.last x om),finC rr rfl (.now ⟨rfl,rfl⟩)⟩
theorem ZJg{a:Au}(d:a.last.length<=300)(x:Int){h:Heap}{c:Nat}(e:h.get c=some (.arr (auC a) true)):RCon UY 78 [I x, .p (some (c,0))] h (.b (hasI a.last x)):=
 ⟨h,ZEj d x e,λ_ _=>rfl,λ_ hp=>hp⟩
theorem ZEk{a:Au}(r:a.last.length<=300)(l:List Int){h:Heap}{f:Nat}(o:h.get f=some (.arr (auC a) true))(t:l.length<=2 ^ 10):
  Con UY 122 [lst encI l, .fn (.func 78) [] [.p (some (f,0))]] h λv e=> ∃n:Int,v= I n/\leI 0 n=Zfi a l/\e=h:=by
 refine Zv UK (fn:=Tryz.f122) ?_;refine Xg UK (n:=19) (loc:=UY.loc 122) 100 [0,1,7,8] kr ?_;refine Eq.mpr (ZJa (row encI l) l.length f h _) ?_;refine⟨rfl,ZN [0,1,7,8] [0,1,4,7,8] (λm k e=> ∃i:Nat,k= [lst encI l, .fn (.func 78) [] [.p (some (f,0))],I l.length,I (i:Nat)]/\i<=l.length/\Zfi a (l.take i)=false/\m=l.length-i/\e=h) l.length ZA ⟨0,rfl,om,by simp[Zfi],om,rfl⟩ ?_⟩;rintro m k e ⟨i,rfl,u,c,rfl,rfl⟩;refine ZR UK (loc:=UY.loc 122) 100 [0,1,4,7,8] ?_;refine Eq.mpr (ZJb (row encI l) l.length f (i:Nat) e _) ?_;refine Zq (λd=> ?_) (λj=> ?_)
 .refine⟨Zu d,_,getI l d,_,ZJg r l[i] o,Zf (λg=> ?_) (λg=> ?_)⟩
  .refine ZZ rr rfl (.now ⟨(i:Nat),rfl,?_,rfl⟩);have:Zfi a l=true:=List.any_eq_true.2 ⟨l[i],qe d,g⟩;rw[this];simp[leI]
  .refine⟨rfl,l.length-(i+1),om,i+1,?_,om,?_,rfl,rfl⟩
   .rw[Ze om];rfl
   .unfold Zfi at c ⊢;rw[qa d,uj,c];simp only[List.any_cons,List.any_nil,g,Bool.or_false]
 .refine Zj [] ?_;refine ZE UK (loc:=UY.loc 122) 100 [4] ?_;refine Eq.mpr (ZJc e _) ?_;rw[qt j]at c;exact finC rr rfl (.now ⟨-1,rfl,by rw[c];rfl,rfl⟩)
theorem Zsd{a:Au}(g:a.last.length<=300)(l:List Int){h:Heap}{c:Nat}(j:h.get c=some (.arr (auC a) true))(k:l.length<=2 ^ 10):
  Con UY 77 [lst encI l, .fn (.func 78) [] [.p (some (c,0))]] h λv d=>v= .b (Zfi a l)/\d=h:=by
 refine Zv UK (fn:=Tryz.f77) (ZE UK (loc:=UY.loc 77) 100 [4] ?_);refine Eq.mpr (ZQd (row encI l) l.length c h _) ?_;refine(ZEk g l j k).mono λv d ⟨n,m,f,e⟩=>⟨n,m,?_⟩;subst e;rw[f];exact finC rr rfl (.now ⟨rfl,rfl⟩)
theorem ZJh{a:Au}(d:a.last.length<=300)(ps:List Int)(c:ps.length<=2 ^ 10):PCon UY 36 [.agg (auC a),lst encI ps] (· = .b (Zfi a ps)):=by
 refine Zw UK (fn:=Tryz.f36) rfl ZP3 rfl ?_;refine(Zsd d ps sm c).mono λv g ⟨e,f⟩=>⟨_,e,ZB rr rfl (.b _) rfl⟩
/-! ### May -/
abbrev nC(n:Int):List V:= [I n]
theorem ZEl(l:List Int)(e:l.length<=300)(n:Int){h:Heap}{a:Nat}(c:h.get a=some (.arr (nC n) true)):Con UY 66 [lst encI l, .p (some (a,0))] h λv d=>v= .b (!risB l n)/\d=h:=by
 refine Zv UK (fn:=Tryz.f66) (ZE UK (loc:=UY.loc 66) 100 [3] ?_);refine Eq.mpr (ZP9 (row encI l) l.length a h _) ?_;exact⟨n,by rw[Zs c];rfl,_,ZEf l n om,finC rr rfl (.now ⟨rfl,rfl⟩)⟩
theorem ZJi(l:List Int)(c:l.length<=300)(n:Int){h:Heap}{a:Nat}(d:h.get a=some (.arr (nC n) true)):RCon UY 66 [lst encI l, .p (some (a,0))] h (.b (!risB l n)):=
 ⟨h,ZEl l c n d,λ_ _=>rfl,λ_ hp=>hp⟩
theorem ZEm(a:List (List Int))(j: ∀l∈a,l.length<=300)(k:Int){h:Heap}{f:Nat}(t:h.get f=some (.arr (nC k) true))(u:a.length<=300):
  Con UY 85 [lst Xm a, .fn (.func 66) [] [.p (some (f,0))]] h λv e=> ∃n:Int,v= I n/\leI 0 n=(a.any λl=> !risB l k)/\e=h:=by
 refine Zv UK (fn:=Tryz.f85) ?_;refine Xg UK (n:=19) (loc:=UY.loc 85) 100 [0,1,7,8] kr ?_;refine Eq.mpr (ZQa (row Xm a) a.length f h _) ?_;refine⟨rfl,ZN [0,1,7,8] [0,1,4,7,8] (λm r e=> ∃i:Nat,r= [lst Xm a, .fn (.func 66) [] [.p (some (f,0))],I a.length,I (i:Nat)]/\i<=a.length/\((a.take i).any λl=> !risB l k)=false/\m=a.length-i/\e=h) a.length ZA ⟨0,rfl,om,sm,om,rfl⟩ ?_⟩;rintro m r e ⟨i,rfl,w,d,rfl,rfl⟩;refine ZR UK (loc:=UY.loc 85) 100 [0,1,4,7,8] ?_;refine Eq.mpr (ZQb (row Xm a) a.length f (i:Nat) e _) ?_;refine Zq (λc=> ?_) (λg=> ?_)
 .refine⟨Zu c,_,_,_,getL a c,_,ZJi a[i] (j _ (qe c)) k t,Zf (λo=> ?_) (λo=> ?_)⟩
  .refine ZZ rr rfl (.now ⟨(i:Nat),rfl,?_,rfl⟩);have:(a.any λl=> !risB l k)=true:=List.any_eq_true.2 ⟨a[i],qe c,o⟩;rw[this];simp[leI]
  .refine⟨rfl,a.length-(i+1),om,i+1,?_,om,?_,rfl,rfl⟩
   .rw[Ze om];rfl
   .rw[qa c,uj,d];simp only[List.any_cons,List.any_nil,o,Bool.or_false]
 .refine Zj [] ?_;refine ZE UK (loc:=UY.loc 85) 100 [4] ?_;refine Eq.mpr (ZQc e _) ?_;rw[qt g]at d;exact finC rr rfl (.now ⟨-1,rfl,by rw[d];rfl,rfl⟩)
theorem Zse(a:List (List Int))(c: ∀l∈a,l.length<=300)(k:Int){h:Heap}{d:Nat}(j:h.get d=some (.arr (nC k) true))(m:a.length<=300):
  Con UY 65 [lst Xm a, .fn (.func 66) [] [.p (some (d,0))]] h λv e=>v= .b (!a.all λl=>risB l k)/\e=h:=by
 refine Zv UK (fn:=Tryz.f65) (ZE UK (loc:=UY.loc 65) 100 [4] ?_);refine Eq.mpr (ZP8 (row Xm a) a.length d h _) ?_;refine(ZEm a c k j m).mono λv e ⟨n,o,g,f⟩=>⟨n,o,?_⟩;subst f;rw[g,ZEd];exact finC rr rfl (.now ⟨rfl,rfl⟩)
theorem may7(a:Au)(u:Zln a=true):PCon UY 26 [.agg (auC a)] (· = .b (mayA a)):=by
 obtain⟨s1,s2,s3,w,x⟩:=Zb4 u;refine Zw UK (fn:=Tryz.f26) rfl ZPo rfl ?_;have c:UY.tag 3=none:=kr;rw[c];have o: ∀j,((Heap.empty).pushT none (YObj.arr [I 0] true)).get j=if j=Heap.empty.nx then some (YObj.arr [I 0] true)else Heap.empty.get j:=λj=>qj _ _ _ _
 let d:Heap:=((Heap.empty).pushT none (YObj.arr [I 0] true)).set Heap.empty.nx (some (.arr (nC a.sets.length) true))
 have m:Zi ((Heap.empty).pushT none (YObj.arr [I 0] true)) Heap.empty.nx 0 [I (a.sets.length:Nat)]=some d:=by
  simp only[Zi,o,vG]
  rfl
 have t:d.get Heap.empty.nx=some (.arr (nC a.sets.length) true):=by rw[qc,uF rfl]
 have c1:Zb d Heap.empty.nx 0 1=some [I (a.sets.length:Nat)]:=by rw[Zs t];rfl
 have f:mayA a=false->Fin UY Tryz.f26 [2] (λv h=> ∃r,Frz h v r/\r= .b (mayA a)) .ret 35 [.b false] d:=λe=>ZB rr rfl (.b _) (by rw[e]);refine⟨d,m,_,c1,Xr (λg=>om) (λA=>⟨_,c1,Zf (λg=>f (by simp at g;simp[mayA,show¬a.follow.length=a.sets.length from om])) (λl=> ?_)⟩)⟩;have l:a.follow.length=a.sets.length:=by simp at l;omega
 refine⟨_,c1,_,ZEf a.first a.sets.length om,Zf (λg=>f (by simp[mayA,show risB a.first a.sets.length=false by simpa using g])) (λn=> ?_)⟩;have n:risB a.first a.sets.length=true:=by simpa using n
 refine⟨_,c1,_,ZEf a.last a.sets.length om,Zf (λg=>f (by simp[mayA,show risB a.last a.sets.length=false by simpa using g])) (λk=> ?_)⟩;have k:risB a.last a.sets.length=true:=by simpa using k
 refine(Zse a.follow x a.sets.length t w).mono λv z ⟨y,B⟩=>⟨_,y,ZB rr rfl (.b _) ?_⟩;simp only[mayA,l,n,k,show a.sets.length<=300 from om,decide_true,uT,Bool.not_not]
theorem ZJj{s0 s1 s2 s3 x h}(K):CP Tryr.Y 190 (flat (Za Tryz.f190)) (.agg [U s0,U s1,U s2,U s3]::I x::Rp 12) h [4] K=((0:Int)<=(6:Int)/\((0:Int)<=x.fdiv ((2:Int) ^ min (Int.toNat (6:Int)) IntKind.i64.bits)/\x.fdiv ((2:Int) ^ min (Int.toNat (6:Int)) IntKind.i64.bits)<(↑(4:Nat):Int))/\ ∃a,Zb (h.push (YObj.arr [U s0,U s1,U s2,U s3] true)) h.nx ((0:Nat)+(x.fdiv ((2:Int) ^ min (Int.toNat (6:Int)) IntKind.i64.bits)).toNat*1) 1=some [U a]/\(0:Int)<=wW (↑(BitVec.ofInt IntKind.i64.bits x&&&BitVec.ofInt IntKind.i64.bits (63:Int)).toNat:Int)/\K .ret 14 [.b (IntKind.u64.wrap (↑(BitVec.ofInt IntKind.u64.bits (a.fdiv ((2:Int) ^ min (wW (↑(BitVec.ofInt IntKind.i64.bits x&&&BitVec.ofInt IntKind.i64.bits (63:Int)).toNat:Int)).toNat IntKind.u64.bits))&&&BitVec.ofInt IntKind.u64.bits (1:Int)).toNat:Int)==(1:Int))] (h.push (YObj.arr [U s0,U s1,U s2,U s3] true))):=kr
theorem ZB7{s0 s1 s2 s3 h}(K):CP Tryr.Y 176 (pre (flat (Za Tryz.f176))) (.agg [U s0,U s1,U s2,U s3]::Rp 14) h [1,2,4] K=(K .normal 15 [.p (some (h.nx,0)), .lb [U 0,U 0,U 0,U 0],I 0] (h.push (YObj.arr [U s0,U s1,U s2,U s3] true))):=kr
theorem ZB8{a x4 h}(K):CP Tryr.Y 176 (flat (Zx (post (flat (Za Tryz.f176))))) (MZ 15 [1,2,4] [.p (some (a,0)),.lb [U 0,U 0,U 0,U 0],I x4]) h [1,2,4] K=(If (ltI x4 4) (((0:Int)<=x4/\x4<(↑(4:Nat):Int))/\ ∃b,Zb h a ((0:Nat)+x4.toNat*1) 1=some [U b]/\((0:Int)<=x4/\x4<(↑(4:Nat):Int))/\ ∃c,Zi h a ((0:Nat)+x4.toNat*1) [U (IntKind.u64.wrap (↑(BitVec.ofInt IntKind.u64.bits (if IntKind.u64.signed=true then(-1:Int)else IntKind.u64.max) ^^^ BitVec.ofInt IntKind.u64.bits b).toNat:Int))]=some c/\K .normal 15 [.p (some (a,0)), .lb [U 0,U 0,U 0,U 0],I (wW (x4+(1:Int)))] c) (K (.exit 0) 15 [.p (some (a,0)), .lb [U 0,U 0,U 0,U 0],I x4] h)):=kr
theorem ZB9{a h}(K):CP Tryr.Y 176 ((post (flat (Za Tryz.f176))).drop 1) (MZ 15 [1,2] [.p (some (a,0)),.lb [U 0,U 0,U 0,U 0]]) h [2] K=(∃b c d e,Zb h a 0 4=some [U b,U c,U d,U e]/\K .ret 15 [.lb [U b,U c,U d,U e]] h):=kr
theorem ZJk{x s h}(K):CP UY 177 (flat (Za Tryz.f177)) (.i .u8 x::.s s::Rp 13) h [4] K=(∃a,(PCon UY 171 [.s s,.i .u8 x] λv=>v=I a)/\If (leI 0 a) (∃b,some (Q.val (.s ((fun(x:List UInt8)=>UInt8.ofNat (Int.toNat (92:Int))::x) ((fun(c:List UInt8)=>UInt8.ofNat x.toNat::c) []))))=some (Q.val (.s b))/\K .ret 15 [.s b] h) (∃b,some (Q.val (.s ((fun(c:List UInt8)=>UInt8.ofNat x.toNat::c) [])))=some (Q.val (.s b))/\K .ret 15 [.s b] h)):=kr
theorem ZJl{s x h}(K):CP UY 171 (flat (Za Tryz.f171)) (.s s::.i .u8 x::Rp 6) h [4] K=(∃a,(PCon UY 189 [.s s,.i .u8 x] λv=>v=I a)/\K .ret 8 [I a] h):=kr
theorem ZCa(id h K):CP UY 116 (flat (Za Tryz.f116)) (.p (some (id,0))::Rp 13) h [2] K=(∃a b c d,Zb h id 1 1=some [S a b c d]/\(b=0->a=none)/\ ∃e f g i,Zb h id 1 1=some [S e f g i]/\ ∃j l,strH UY h 224 a (f:Int)=some (l,j)/\K .ret 14 [.s j] l):=kr
theorem ZCb(id h K):CP UY 162 (flat (Za Tryz.f162)) (.p (some (id,0))::Rp 19) h [] K=(∃a,Zb h id 0 1=some [.p a]/\(UY.ty 182).isSome=true/\If a.isNone ((λf=>f/\f/\ ∃b,Zi h id 0 [.p (some (id,0))]=some b/\K .normal 20 [] b) (∃b c d e,some (id,0)=some (b,0)/\h.get b=some (YObj.arr c d)/\h.tagOf b=some 182/\some (TI.mk (2:Nat) (32:Nat) (Kd.struct [((0:Nat),180),((1:Nat),138)]) [.p none,S none (0:Nat) (some (0:Nat)) (0:Nat)])=some e/\(e.size=0->False)/\e.size<=c.length)) (∃b,Zb h id 0 1=some [.p b]/\(UY.ty 182).isSome=true/\(∃c,b=some c/\some (id,0)=some c/\(h.get c.fst).isSome=true)/\K .normal 20 [] h)):=kr
theorem ZCc(id x h K):CP UY 126 (flat (Za Tryz.f126)) (.p (some (id,0))::.i .u8 x::Rp 15) h [4] K=(Con UY 162 [.p (some (id,0))] h fun(v:V) (k:Heap)=>v=.tup []/\ ∃a b c d,Zb k id 1 1=some [S a b c d]/\ ∃e f g j l,Zk UY k 138 138 (S a b c d) (J [.i .u8 x] 1 (some 1))=some (S e f g j,l)/\ ∃m,Zi l id 1 [S e f g j]=some m/\K .ret 17 [V.nilifc] m):=kr
theorem ZJm(id s h K):CP UY 146 (flat (Za Tryz.f146)) (.p (some (id,0))::.s s::Rp 17) h [4,5] K=(Con UY 162 [.p (some (id,0))] h fun(v:V) (k:Heap)=>v=.tup []/\ ∃a b c d,Zb k id 1 1=some [S a b c d]/\ ∃e f g i j,Zk UY k 138 9 (S a b c d) (.s s)=some (S e f g i,j)/\ ∃l,Zi j id 1 [S e f g i]=some l/\K .ret 19 [I (↑s.length:Int),V.nilifc] l):=kr
theorem ZJn{s x h}(K):CP UY 189 (flat (Za Tryz.f189)) (.s s::.i .u8 x::Rp 6) h [4] K=(K .ret 8 [I (Jl s x.toNat.toUInt8 (0:Nat))] h):=kr
theorem ZJo{id h}(K):CP UY 115 (flat (Za Tryz.f115)) (.p (some (id,0))::Rp 7) h [2] K=(∃a b c d,Zb h id 1 1=some [S a b c d]/\K .ret 8 [I (b:Int)] h):=kr
theorem PCon.zr{f:FuncId}{args}{Q:V->Prop}(c:PCon Tryr.Y f args Q):PCon UY f args Q:=⟨c.body,c.tr⟩
/-! ### told -/
theorem ZEn(c:UInt8):((c.toNat:Int)).toNat.toUInt8=c:=by
 rw[qdq];simp
theorem Zvx(s)(c:UInt8):PCon UY 171 [.s s, .i .u8 (c.toNat:Nat)] (· = I (Jl s c 0)):=by
 refine Zw UK (fn:=Tryz.f171) rfl ZJl rfl ⟨_,?_,ZB rr rfl (.i _ _) rfl⟩;refine Zw UK (fn:=Tryz.f189) rfl ZJn rfl ?_;rw[ZEn];exact ZB rr rfl (.i _ _) rfl
def Zb5(c:UInt8)(a:List UInt8):List UInt8:=if leI 0 (Jl a c 0)=true then [92,c]else [c]
theorem Wq(c:UInt8)(m):(Zb5 c m).length<=2:=by unfold Zb5;split<;>simp
theorem Zjg(c:UInt8)(m):PCon UY 177 [.i .u8 (c.toNat:Nat), .s m] (· = .s (Zb5 c m)):=by
 refine Zw UK (fn:=Tryz.f177) rfl ZJk rfl ⟨_,Zvx m c,?_⟩;unfold Zb5;refine Zf (λh=> ?_) (λh=> ?_)<;>rw[h]
 .exact⟨_,rfl,ZB rr rfl (.s _) sm⟩
 .exact⟨_,rfl,ZB rr rfl (.s _) sm⟩
/-! ### has -/
theorem Zzt{c:Nat} :(c:Int).fdiv ((2:Int) ^ min (Int.toNat (6:Int)) IntKind.i64.bits)=((c / 64:Nat):Int):=by
 have e:(2:Int) ^ min (Int.toNat (6:Int)) IntKind.i64.bits=64:=dc;rw[e,Int.fdiv_eq_ediv_of_nonneg _ dc];omega
theorem Zzu{c:Nat}(a:c<256):wW (((BitVec.ofInt IntKind.i64.bits (c:Int)&&&BitVec.ofInt IntKind.i64.bits (63:Int)).toNat:Nat):Int)=((c % 64:Nat):Int):=by
 have h: ∀c:_root_.Fin 256,wW (((BitVec.ofInt IntKind.i64.bits (c.val:Int)&&&BitVec.ofInt IntKind.i64.bits (63:Int)).toNat:Nat):Int)=((c.val % 64:Nat):Int):=by decide+kernel
 exact h ⟨c,a⟩
theorem ZEo(x)(c:Nat)(e:c<256):PCon UY 190 [.agg (setC x),I c] (· = .b (hasN x c)):=by
 refine PCon.zr (Zw Tryr.Yok (fn:=Tryz.f190) rfl ZJj rfl ?_);rw[Zzt,Zzu e];have a:c / 64<4:=om;refine⟨dc,⟨om,om⟩,Zgu x (c / 64),?_,om,?_⟩
 .rw[Zs (cs:= [U x.1,U x.2.1,U x.2.2.1,U x.2.2.2]) (wr:=true) sm,qdq];generalize c / 64=k at a
  match k,a with
  |0,_=>rfl
  |1,_=>rfl
  |2,_=>rfl
  |3,_=>rfl
 .have d:min (((c % 64:Nat):Int)).toNat IntKind.u64.bits=c % 64:=by
   have:IntKind.u64.bits=64:=rfl;rw[this,qdq];omega
  rw[d,ZEg];exact ZB rr rfl (.b _) rfl
/-! ### not, of nothing -/
def maxU:Int:=IntKind.u64.wrap (((BitVec.ofInt IntKind.u64.bits (if IntKind.u64.signed=true then -1 else IntKind.u64.max) ^^^ BitVec.ofInt IntKind.u64.bits 0).toNat:Nat):Int)
def notL(i:Nat):List Int:=List.replicate i maxU++List.replicate (4-i) 0
abbrev u64s(l:List Int):List V:=l.map λx=>U x
theorem ZEp:PCon UY 176 [.agg (setC (0,0,0,0))] (· = .agg (setC (maxU,maxU,maxU,maxU))):=by
 refine PCon.zr (ZG Tryr.Yok (fn:=Tryz.f176) rfl ?_);refine Zh Tryr.Yok 15 ZB7 rfl ?_;refine⟨rfl,ZN [1,2,4] [1,2,4] (λm d h=> ∃i:Nat,d= [.p (some (Heap.empty.nx,0)), .lb (setC (0,0,0,0)),I (i:Nat)]/\i<=4/\m=4-i/\h.get Heap.empty.nx=some (.arr (u64s (notL i)) true)) 4 ZA ⟨0,rfl,om,om,by simp[qk,notL,u64s]⟩ ?_⟩;rintro m d h ⟨i,rfl,g,rfl,c⟩;refine Zn Tryr.Yok ZB8 rfl ?_;refine Xr (λa=> ?_) (λf=> ?_)
 .have a:i<4:=om;refine⟨⟨om,om⟩,0,?_,⟨om,om⟩,?_⟩
  .rw[Zs c,qdq]
   match i,a with
   |0,_=>rfl
   |1,_=>rfl
   |2,_=>rfl
   |3,_=>rfl
  .refine⟨h.set Heap.empty.nx (some (.arr (u64s (notL (i+1))) true)),?_,rfl,4-(i+1),om,i+1,by rw[Ze om];rfl,om,rfl,by rw[qc,uF rfl]⟩;simp only[Zi,c,qdq]
   match i,a with
   |0,_=>rfl
   |1,_=>rfl
   |2,_=>rfl
   |3,_=>rfl
 .have e:i=4:=om;subst e;refine Zj [1,2] ?_;refine Zo Tryr.Yok ZB9 rfl ?_;refine⟨maxU,maxU,maxU,maxU,by rw[Zs c];rfl,ZB rr rfl ?_ rfl⟩;exact .agg _ _ (.cons _ _ _ _ (.i _ _) (.cons _ _ _ _ (.i _ _) (.cons _ _ _ _ (.i _ _) (.cons _ _ _ _ (.i _ _) .nil))))
theorem ZJp(x0 x1 x2 x3 h K):CP UY 175 (pre (flat (Za Tryz.f175))) (.agg [U x0,U x1,U x2,U x3]::Rp 32) h [1,2,3,4] K=(K .normal 33 [.lb [U x0,U x1,U x2,U x3],S0,S0,I 0] h):=kr
theorem ZJq(x0 x1 x2 x3 b c d e a h K):CP UY 175 (pre (flat (Zx (post (flat (Za Tryz.f175)))))) (MZ 33 [1,2,3,4] [.lb [U x0,U x1,U x2,U x3],S0,S b c d e,I a]) h [1,2,3,4] K=(If (ltI a 256) (K .normal 33 [.lb [U x0,U x1,U x2,U x3],S0,S b c d e,I a] h) (K (.exit 0) 33 [.lb [U x0,U x1,U x2,U x3],S0,S b c d e,I a] h)):=kr
theorem ZJr(x0 x1 x2 x3 b c d e a h K):CP UY 175 (pre (flat (ZL (post (flat (Zx (post (flat (Za Tryz.f175))))))))) (MZ 33 [1,2,3,4] [.lb [U x0,U x1,U x2,U x3],S0,S b c d e,I a]) h [1,2,3,4,5] K=(K .normal 33 [.lb [U x0,U x1,U x2,U x3],S0,S b c d e,I a,I a] h):=kr
theorem ZJs(x0 x1 x2 x3 c d e f a x5 h K):CP UY 175 (flat (Zx (post (flat (ZL (post (flat (Zx (post (flat (Za Tryz.f175))))))))))) (MZ 33 [1,2,3,4,5] [.lb [U x0,U x1,U x2,U x3],S0,S c d e f,I a,I x5]) h [1,2,3,4,5] K=(If (ltI a 256) (∃b,(PCon UY 190 [.agg [U x0,U x1,U x2,U x3],I a] λv=>v=.b b)/\If b (K .normal 33 [.lb [U x0,U x1,U x2,U x3],S0,S c d e f,I (wW (a+(1:Int))),I x5] h) (K (.exit 2) 33 [.lb [U x0,U x1,U x2,U x3],S0,S c d e f,I a,I x5] h)) (K (.exit 2) 33 [.lb [U x0,U x1,U x2,U x3],S0,S c d e f,I a,I x5] h)):=kr
theorem ZCd(x0 x1 x2 x3 d e f g b x5 h K):CP UY 175 ((post (flat (ZL (post (flat (Zx (post (flat (Za Tryz.f175))))))))).drop 1) (MZ 33 [1,2,3,4,5] [.lb [U x0,U x1,U x2,U x3],S0,S d e f g,I b,I x5]) h [1,2,3,4] K=(If (ltI x5 b) (∃a c j l m,Zk UY h 57 57 (S d e f g) (J [.i .u8 (IntKind.u8.wrap x5),.i .u8 (IntKind.u8.wrap (wW (b-(1:Int))))] 1 (some 1))=some (S a c j l,m)/\K .normal 33 [.lb [U x0,U x1,U x2,U x3],S0,S a c j l,I b] m) (K .normal 33 [.lb [U x0,U x1,U x2,U x3],S0,S d e f g,I b] h)):=kr
theorem Zqc(x0 x1 x2 x3 a b c d e h K):CP UY 175 ((post (flat (Zx (post (flat (Za Tryz.f175)))))).drop 1) (MZ 33 [1,2,3,4] [.lb [U x0,U x1,U x2,U x3],S0,S b c d e,I a]) h [1,2,3,4] K=(K .normal 33 [.lb [U x0,U x1,U x2,U x3],S0,S b c d e,I (wW (a+(1:Int)))] h):=kr
theorem ZJt(a b c d h K):CP UY 175 ((post (flat (Za Tryz.f175))).drop 1) (MZ 33 [3] [S a b c d]) h [2] K=(K .ret 33 [S a b c d] h):=kr
end Go.Y
