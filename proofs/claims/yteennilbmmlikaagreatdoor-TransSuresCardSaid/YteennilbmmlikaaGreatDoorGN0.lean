/- A part of the proof. -/
import Derived.Test.YteennilbmmlikaaGreatDoorGPart
import Derived.Test.YteennilbmmlikaaGreatDoorNTa
import Derived.Test.YteennilbmmlikaaGreatDoorYLoop
import Derived.Test.YteennilbmmlikaaGreatDoorYAny3
import Derived.Test.YteennilbmmlikaaGreatDoorGRule
import Derived.Test.YteennilbmmlikaaGreatDoorGRise
namespace Go.Y
set_option maxRecDepth 1000000
set_option maxHeartbeats 0
theorem ZFh{a:Type}(p:a->Bool)(k:List a):(k.any λx=> !p x)= !k.all p:=by
 induction k with
 |nil=>rfl
 |cons x k b=>rw[List.any_cons,List.all_cons,b];cases p x<;>simp
theorem Zwr(x):(Xk x).length=1:=rfl
theorem getI(l:List Int){i:Nat}(h:i<l.length):Zs 1 (List.drop ((i:Int).toNat*1) (row encI l))=some [I l[i]]:=by rw[qdq];exact Xw (f:=encI) (k:=1) Zjk h
theorem getL(l:List (List Int)){i:Nat}(h:i<l.length):Zs 1 (List.drop ((i:Int).toNat*1) (row Xk l))=some [lst encI l[i]]:=by
 rw[qdq];exact Xw (f:=Xk) (k:=1) Zwr h
/-! ### rising -/
def risB(l:List Int)(n:Int):Bool:=(List.range l.length).all (okAt l n)
theorem ZFi{l:List Int}{n:Int}{i:Nat}(a:i<l.length)(h:okAt l n i=false):risB l n=false:=
 List.all_eq_false.2 ⟨i,List.mem_range.2 a,by simp[h]⟩
theorem JY{l:List Int}{i:Nat}(a:i<l.length):l.getD i 0=l[i]:=by simp[a]
def mayA(a:Au):Bool:=decide (a.sets.length<=300)&&decide (a.follow.length=a.sets.length)&&risB a.first a.sets.length&&risB a.last a.sets.length&&a.follow.all λl=>risB l a.sets.length
theorem Zq0{l:List Int}{n:Int}(h:risB l n=true){x:Int}(b:x∈l):0<=x/\x<n:=by obtain⟨i,a,rfl⟩:=List.getElem_of_mem b;have:=uP.1 h i (List.mem_range.2 a);simp only[okAt,JY a,qrq,Bool.not_eq_true',ltI,leI,decide_eq_false_iff_not]at this;omega
end Go.Y
namespace Go.Y
open Go.Proofs
set_option maxRecDepth 1000000
set_option maxHeartbeats 0
theorem Zdf(l:List Int)(n:Int)(i:Nat):okAt l n i=(!ltI (l.getD i 0) 0&& !leI n (l.getD i 0)&& !(decide (0<i)&&leI (l.getD i 0) (l.getD (i-1) 0))):=rfl
theorem ZFj(l:List Int)(n:Int)(v:l.length<2 ^ 30):PCon UY 64 [lst encI l,I n] (· = .b (risB l n)):=by
 refine ZF UK (fn:=Tryz.f64) rfl ?_;refine Xm UK (n:=35) (loc:=UY.loc 64) 100 [0,1,2,7,8,9] kr ?_;refine Eq.mpr (ZQw (row encI l) l.length n .empty _) ?_;refine⟨rfl,ZM [0,1,2,7,8,9] [0,1,2,4,7,8,9] (λm q _=> ∃i:Nat,q= [lst encI l,I n, .undef,lst encI l,I l.length,I (i:Nat)]/\i<=l.length/\m=l.length-i/\(List.range i).all (okAt l n)=true) l.length ZA ⟨0,rfl,om,om,sm⟩ ?_⟩;rintro m q h ⟨i,rfl,u,rfl,o⟩;refine ZW UK (loc:=UY.loc 64) 100 [0,1,2,4,7,8,9] ?_;refine Eq.mpr (ZQx (row encI l) l.length n (i:Nat) h _) ?_;refine Zq (λa=> ?_) (λs=> ?_)
 .have k:okAt l n i=false-> ∃r,Frz h (.b false) r/\r= .b (risB l n):=λe=>⟨_, .b _,by rw[ZFi a e]⟩;have ok:okAt l n i=true-> ∃p,p<l.length-i/\ ∃g:Nat,[lst encI l,I n, .undef,lst encI l,I l.length,I (wW ((i:Nat)+1))]= [lst encI l,I n, .undef,lst encI l,I l.length,I (g:Nat)]/\g<=l.length/\p=l.length-g/\(List.range g).all (okAt l n)=true:=λe=>
   ⟨l.length-(i+1),om,i+1,by rw[Ze om],om,rfl,Zsz o e⟩
  refine⟨Zu a,_,getI l a,Zf (λd=>Xc rr rfl (k (by simp only[Zdf,JY a,d];rfl))) (λd=>Zf (λf=>Xc rr rfl (k (by simp only[Zdf,JY a,d,f];rfl))) (λf=>Zf (λc=> ?_) (λc=> ?_)))⟩
  .have c:0<i:=by simpa[ltI]using c
   have t:wW (((i:Nat):Int)-1)=((i-1:Nat):Int):=by rw[ZI om om];omega
   rw[t];refine⟨Zu om,_,getI l om,Zf (λj=>Xc rr rfl (k ?_)) (λj=>⟨rfl,ok ?_⟩)⟩;simp only[Zdf,JY a,JY (show i-1<l.length from om),d,f,c,j];rfl;simp only[Zdf,JY a,JY (show i-1<l.length from om),d,f,c,j];rfl
  .have c: ¬0<i:=by simpa[ltI]using c
   exact⟨rfl,ok (by simp only[Zdf,JY a,d,f,c];rfl)⟩
 .refine Zj [] ?_;refine ZG UK (loc:=UY.loc 64) 100 [4] ?_;refine Eq.mpr (ZQy ..) ?_;have:i=l.length:=om;subst this;exact ZB rr rfl (.b _) (by rw[risB,o])
/-! ### ref35.SameInts -/
/-! ### small -/
def Zmc(a:Au):Bool:=decide (a.sets.length<=300)&&decide (a.first.length<=300)&&decide (a.last.length<=300)&&decide (a.follow.length<=300)&&a.follow.all λl=>decide (l.length<=300)
theorem Zcb{a:Au}(h:Zmc a=true):a.sets.length<=300/\a.first.length<=300/\a.last.length<=300/\a.follow.length<=300/\ ∀l∈a.follow,l.length<=300:=by
 simp only[Zmc,qrq,vL,uP]at h;exact⟨h.1.1.1.1,h.1.1.1.2,h.1.1.2,h.1.2,λl b=>su (h.2 l b)⟩
/-! ### May, by the reference -/
theorem ZQ4(a c d e f g j l m n k x2 h K):CP UY 34 (pre (flat (Za Tryz.f34))) (.agg [J a c none,J d e none,J f g none,J j l none,.b m]::J n k none::.i .u8 x2::Rp 32) h [2,3,7,10,11,12] K=(K .normal 35 [.i .u8 x2, .lb [J a c none,J d e none,J f g none,J j l none, .b m],S0,J n k none,I (k:Int),I 0] h):=kr
theorem ZQ5(e f j m o p q r s g k x2 t u v w d h K):CP UY 34 (lp_ (flat (Za Tryz.f34))) (MZ 35 [2,3,7,10,11,12] [.i .u8 x2,.lb [J e f none,J j m none,J o p none,J q r none,.b s],S t u v w,J g k none,I (k:Int),I d]) h [2,3,7,10,11,12] K=(If (ltI d k) ((0<=d/\d<k)/\ ∃a,Zs 1 (List.drop (d.toNat*1) g)=some [I a]/\(0:Int)<=(6:Int)/\(0<=a/\a<f)/\((0:Int)<=x2.fdiv ((2:Int) ^ min (Int.toNat (6:Int)) IntKind.u8.bits)/\x2.fdiv ((2:Int) ^ min (Int.toNat (6:Int)) IntKind.u8.bits)<(↑(4:Nat):Int))/\ ∃c,Zs 1 (List.drop ((x2.fdiv ((2:Int) ^ min (Int.toNat (6:Int)) IntKind.u8.bits)).toNat*1) (List.drop (a.toNat*4) e))=some [U c]/\(0:Int)<=IntKind.u8.wrap (↑(BitVec.ofInt IntKind.u8.bits x2&&&BitVec.ofInt IntKind.u8.bits (63:Int)).toNat:Int)/\If (IntKind.u64.wrap (↑(BitVec.ofInt IntKind.u64.bits (c.fdiv ((2:Int) ^ min (IntKind.u8.wrap (↑(BitVec.ofInt IntKind.u8.bits x2&&&BitVec.ofInt IntKind.u8.bits (63:Int)).toNat:Int)).toNat IntKind.u64.bits))&&&BitVec.ofInt IntKind.u64.bits (1:Int)).toNat:Int)==(1:Int)) (∃l n x y z,Zk UY h 32 32 (S t u v w) (J [I a] 1 (some 1))=some (S l n x y,z)/\K .normal 35 [.i .u8 x2, .lb [J e f none,J j m none,J o p none,J q r none, .b s],S l n x y,J g k none,I (k:Int),I (wW (d+(1:Int)))] z) (K .normal 35 [.i .u8 x2, .lb [J e f none,J j m none,J o p none,J q r none, .b s],S t u v w,J g k none,I (k:Int),I (wW (d+(1:Int)))] h)) (K (.exit 0) 35 [.i .u8 x2, .lb [J e f none,J j m none,J o p none,J q r none, .b s],S t u v w,J g k none,I (k:Int),I d] h)):=kr
theorem ZQ6(a b c d h K):CP UY 34 ((post (flat (Za Tryz.f34))).drop 1) (MZ 35 [7] [S a b c d]) h [6] K=(K .ret 35 [S a b c d] h):=kr
theorem ZQ7(a c d e f g j l m n k x2 h K):CP UY 35 (pre (flat (Za Tryz.f35))) (.agg [J a c none,J d e none,J f g none,J j l none,.b m]::J n k none::.i .u8 x2::Rp 37) h [2,3,7,10,11,12] K=(K .normal 40 [.i .u8 x2, .lb [J a c none,J d e none,J f g none,J j l none, .b m],S0,J n k none,I (k:Int),I 0] h):=kr
theorem ZQ8(j e m o p q f g r s k x2 t u w x d h K):CP UY 35 (lp_ (flat (Za Tryz.f35))) (MZ 40 [2,3,7,10,11,12] [.i .u8 x2,.lb [J j e none,J m o none,J p q none,J f g none,.b r],S t u w x,J s k none,I (k:Int),I d]) h [2,3,7,10,11,12] K=(If (ltI d k) ((0<=d/\d<k)/\ ∃a,(λA=>Zs 1 (List.drop (d.toNat*1) s)=some [I a]/\If (leI 0 a) (If (ltI a e) ((0<=a/\a<g)/\ ∃c l n,Zs 1 (List.drop (a.toNat*1) f)=some [J c l n]/\ ∃y z B,(PCon UY 34 [.agg [J j e none,J m o none,J p q none,J f g none,.b r],J c l n,.i .u8 x2] λv=>v=J y z B)/\ ∃C D E F G,Zk UY h 32 32 (S t u w x) (J y z B)=some (S C D E F,G)/\K .normal 40 [.i .u8 x2, .lb [J j e none,J m o none,J p q none,J f g none, .b r],S C D E F,J s k none,I (k:Int),I (wW (d+(1:Int)))] G) A) A) (K .normal 40 [.i .u8 x2, .lb [J j e none,J m o none,J p q none,J f g none, .b r],S t u w x,J s k none,I (k:Int),I (wW (d+(1:Int)))] h)) (K (.exit 0) 40 [.i .u8 x2, .lb [J j e none,J m o none,J p q none,J f g none, .b r],S t u w x,J s k none,I (k:Int),I d] h)):=kr
theorem ZQ9(b d e f h K):CP UY 35 ((post (flat (Za Tryz.f35))).drop 1) (MZ 40 [7] [S b d e f]) h [6] K=(Con UY 75 [S b d e f] h fun(v:V) (j:Heap)=>v=.tup []/\Con UY 76 [S b d e f] j fun(v:V) (j:Heap)=> ∃a c g i,v=S a c g i/\K .ret 40 [S a c g i] j):=kr
theorem ZRa{a c d e f g i j l m n1 h}(K):CP UY 36 (flat (Za Tryz.f36)) (.agg [J a c none,J d e none,J f g none,J i j none,.b l]::J m n1 none::Rp 6) h [4] K=(Con UY 77 [J m n1 none,V.fn (Fn.func (78:Nat)) [] [p_P h.nx]] (h.push (YObj.arr [J a c none,J d e none,J f g none,J i j none,.b l] true)) fun(v:V) (k:Heap)=> ∃n,v=.b n/\K .ret 8 [.b n] k):=kr
/-! ### bits -/
theorem ZKf{c:Nat} :(c:Int).fdiv ((2:Int) ^ min (Int.toNat (6:Int)) IntKind.u8.bits)=((c / 64:Nat):Int):=by have e:(2:Int) ^ min (Int.toNat (6:Int)) IntKind.u8.bits=64:=dc;rw[e,Int.fdiv_eq_ediv_of_nonneg _ dc];omega
theorem ZKg{c:Nat}(a:c<256):IntKind.u8.wrap (((BitVec.ofInt IntKind.u8.bits (c:Int)&&&BitVec.ofInt IntKind.u8.bits (63:Int)).toNat:Nat):Int)=((c % 64:Nat):Int):=by
 have h: ∀c:_root_.Fin 256,IntKind.u8.wrap (((BitVec.ofInt IntKind.u8.bits (c.val:Int)&&&BitVec.ofInt IntKind.u8.bits (63:Int)).toNat:Nat):Int)=((c.val % 64:Nat):Int):=by decide+kernel
 exact h ⟨c,a⟩
theorem ZFk(y:Int):IntKind.u64.wrap (((BitVec.ofInt IntKind.u64.bits y&&&BitVec.ofInt IntKind.u64.bits (1:Int)).toNat:Nat):Int)=y % 2:=by
 have e:IntKind.u64.bits=64:=rfl;have a:(BitVec.ofInt IntKind.u64.bits y&&&BitVec.ofInt IntKind.u64.bits (1:Int)).toNat=(y % 18446744073709551616).toNat % 2:=by
  rw[e,BitVec.toNat_and,BitVec.toNat_ofInt,BitVec.toNat_ofInt];have:((1:Int) % ((2 ^ 64:Nat):Int)).toNat=1:=dc;rw[this,Nat.and_one_is_mod]
  rfl
 rw[a];have b:(2:Int) ^ IntKind.u64.bits=18446744073709551616:=dc;unfold IntKind.wrap;simp only[b,IntKind.signed,Bool.false_and];simp only[uI,vF];omega
/-! ### having -/
theorem Zws(a:List Set4)(l:List Int)(c:Nat){i:Nat}(b:i<l.length)(s:Set4)(d:a.getD l[i].toNat set0=s):havL a (l.take (i+1)) c=havL a (l.take i) c++if hasN s c then [l[i]]else []:=by rw[qa b];unfold havL;rw[List.filter_append,List.filter_cons,List.filter_nil,d]
theorem Zet(a:List Set4)(l:List Int)(c:Nat):(havL a l c).length<=l.length:=List.length_filter_le _ _
theorem getS(l:List Set4){i:Nat}(h:i<l.length):Zs 4 (List.drop (i*4) (row setC l))=some (setC l[i]):=Xw (f:=setC) (k:=4) Zeq h
theorem ZRb(l:List Set4){i k:Nat}(h:i<l.length)(a:k<4):Zs 1 (List.drop ((k:Int).toNat*1) (List.drop (i*4) (row setC l)))=some [U (Zd9 l[i] k)]:=by
 rw[VP Zeq l h,qdq]
 match k,a with
 |0,_=>rfl
 |1,_=>rfl
 |2,_=>rfl
 |3,_=>rfl
theorem ZRc{h}{a}{l:Nat}{c}{m:Nat}{b:List Int}(x:Int)(p:Lst encI 1 h a l c m b)(o:b.length<2 ^ 29):
  ∃d n g k f,Zk UY h 32 32 (.sl a l c m) (.ts [I x] 1 (some 1))=some (.sl d n g k,f)/\Lst encI 1 f d n g k (b++ [x])/\Fr h a f/\ ∃j,d=some (j,0)/\h.nx<=j:=
 Lst.app1 (Y:=UY) (e:=3) (te:=⟨1,8, .int .i64,[I 0]⟩) x kr kr rfl dc p (.cons _ _ _ _ (.i _ _) .nil) rfl rfl rfl dc o
theorem Zq1(a:Au)(l:List Int)(c:Nat)(A:c<256)(B: ∀p∈l,0<=p/\p<a.sets.length)(H:l.length<2 ^ 20):PCon UY 34 [.agg (auC a),lst encI l, .i .u8 (c:Nat)] (· =lst encI (havL a.sets l c)):=by
 refine ZF UK (fn:=Tryz.f34) rfl ?_;refine Xm UK (n:=35) (loc:=UY.loc 34) 100 [2,3,7,10,11,12] kr ?_;refine Eq.mpr (ZQ4 (row setC a.sets) a.sets.length (row encI a.first) a.first.length (row encI a.last) a.last.length (row Xk a.follow) a.follow.length a.empty (row encI l) l.length (c:Nat) .empty _) ?_;refine⟨rfl,ZM [2,3,7,10,11,12] [2,3,7,10,11,12] (λm w h=> ∃(i:Nat) (q:Option (Nat×Nat)) (n:Nat) (d:Option Nat) (f:Nat),w= [.i .u8 (c:Nat), .lb (auC a), .sl q n d f,lst encI l,I l.length,I (i:Nat)]/\i<=l.length/\m=l.length-i/\Lst encI 1 h q n d f (havL a.sets (l.take i) c)) l.length ZA ⟨0,none,0,some 0,0,rfl,om,om,Lst.nil _ _ _ _ _⟩ ?_⟩;rintro m w h ⟨i,q,n,d,f,rfl,G,rfl,j⟩;refine ZW UK (loc:=UY.loc 34) 100 [2,3,7,10,11,12] ?_;refine Eq.mpr (ZQ5 (row setC a.sets) a.sets.length (row encI a.first) a.first.length (row encI a.last) a.last.length (row Xk a.follow) a.follow.length a.empty (row encI l) l.length (c:Nat) q n d f (i:Nat) h _) ?_;refine Zq (λb=> ?_) (λo=> ?_)
 .obtain⟨C,D⟩:=B l[i] (qe b);have t:l[i].toNat<a.sets.length:=om;have z:a.sets.getD l[i].toNat set0=a.sets[l[i].toNat]:=by simp[t]
  have k:=Zws a.sets l c b _ z;have e:(havL a.sets (l.take i) c).length<2 ^ 29:=by
   have:=Zet a.sets (l.take i) c;rw[uO]at this;omega
  refine⟨Zu b,_,getI l b,dc,⟨C,D⟩,?_⟩;rw[ZKf,ZKg A];refine⟨⟨om,om⟩,_,ZRb a.sets t om,om,?_⟩;have x:min (((c % 64:Nat):Int)).toNat IntKind.u64.bits=c % 64:=by
   have:IntKind.u64.bits=64:=rfl;rw[this,qdq];omega
  rw[x,ZFk];refine Zf (λg=> ?_) (λg=> ?_);have g:hasN a.sets[l[i].toNat] c=true:=g;rw[g,uF rfl]at k;obtain⟨r,v,s,u,y,E,F,K,L⟩:=ZRc l[i] j e;exact⟨r,v,s,u,y,E,rfl,l.length-(i+1),om,i+1,r,v,s,u,by rw[Ze om];rfl,om,rfl,by rw[k];exact F⟩;have g:hasN a.sets[l[i].toNat] c=false:=g;rw[g,uE dc,qi]at k;exact⟨rfl,l.length-(i+1),om,i+1,q,n,d,f,by rw[Ze om];rfl,om,rfl,by rw[k];exact j⟩
 .refine Zj [7] ?_;refine ZG UK (loc:=UY.loc 34) 100 [6] ?_;refine Eq.mpr (ZQ6 ..) ?_;rw[qt o]at j;exact ZB rr rfl (j.frz dc Zjk) rfl
theorem kd23:UY.kd 32=some (.slice 3):=kr
theorem frzI{h} : ∀ {l} {a:List Int},FrzL h l (Xh a)->l=Xh a
 |_,[],f=>by cases f;rfl
 |_,z::a,f=>by
  cases f with
  |cons _ _ _ _ b c=>
   cases b;rw[frzI c]
   rfl
theorem ZRd{h}{a}{l:Nat}{c}{n:Nat}{b}{cap:Option Nat}(q:Lst encI 1 h a l c n b):
  ∃d o f m,Zk UY h 32 32 (.sl a l c n) (.ts (row encI ([]:List Int)) 0 cap)=some (.sl d o f m,h)/\Lst encI 1 h d o f m b/\d=a:=by
 obtain⟨⟨cells,g,i,j⟩,p⟩:=q;have k:XJ UY ⟨[],[],h⟩ ⟨1,8, .int .i64,[I 0]⟩ 32 (.ts (row encI ([]:List Int)) 0 cap)=some (0,[]):=by
  simp only[XJ,kd23,QS,XS,Zs,uw]
 rcases g.2 with ⟨rfl,s,e⟩|⟨r,rfl,rfl,rfl,e,t⟩
 .refine⟨none,0,some 0,1,?_,⟨⟨cells,⟨by subst e;rfl, .inl ⟨rfl,rfl,e⟩⟩,i,j⟩,om⟩,rfl⟩;simp only[Zk,Xd,kd23,ty3,k]
  rfl
 .refine⟨some (r,0),l,none,1,?_,⟨⟨cells,g,i,j⟩,p⟩,rfl⟩;simp only[Zk,Xd,kd23,ty3,k]
  rfl
theorem ZRe{h}{a}{l:Nat}{c}{t:Nat}{b:List Int}(d:List Int)(p:Lst encI 1 h a l c t b)(u:b.length+d.length<2 ^ 29):
  ∃f j g i k,Zk UY h 32 32 (.sl a l c t) (.ts (row encI d) d.length none)=some (.sl f j g i,k)/\Lst encI 1 k f j g i (b++d)/\(b++d= []->f=a):=by
 by_cases m:d= [];subst m;obtain⟨f,j,g,i,n,o,w⟩:=ZRd (cap:=none) p;exact⟨f,j,g,i,h,n,by rw[qi];exact o,λ_=>w⟩
 .have q:most=1099511627776:=dc;obtain⟨f,j,g,i,k,n,o,_,_⟩:=Lst.app (Y:=UY) (st:=32) (e:=3) (te:=⟨1,8, .int .i64,[I 0]⟩) d (cap:=none) kd23 ty3 rfl dc p (Zej d _) (by
   rw[rowI]
   induction d with
   |nil=>rfl
   |cons x r v=>
    by_cases s:r= [];subst s;rfl
    .have:=v (by simp at u ⊢;omega) s;simp only[qz,ZZ,this,Bool.and_true]
     rfl) m (by rw[WI];exact(uY _).symm) (Zei d) (by show(b.length+d.length)*8<=most;rw[q];omega) (by rw[q];omega)
  exact⟨f,j,g,i,k,n,o,λe=>absurd (List.append_eq_nil_iff.1 e).2 m⟩
/-! ### Put -/
/-! ### what may come next -/
structure OkA(a:Au):Prop where
 may:mayA a=true
 small:Zmc a=true
theorem OkA.fl{a:Au}(h:OkA a):a.follow.length=a.sets.length:=by have:=h.may;simp only[mayA,qrq,vL]at this;exact this.1.1.1.2
theorem OkA.fr{a:Au}(h:OkA a){l:List Int}(b:l∈a.follow): ∀p∈l,0<=p/\p<a.sets.length:=by have:=h.may;simp only[mayA,qrq,uP]at this;exact λp c=>Zq0 (this.2 l b) c
theorem OkA.first{a:Au}(h:OkA a): ∀p∈a.first,0<=p/\p<a.sets.length:=by have:=h.may;simp only[mayA,qrq]at this;exact λp b=>Zq0 this.1.1.2 b
theorem OkA.len{a:Au}(h:OkA a){l:List Int}(b:l∈a.follow):l.length<=300:=(Zcb h.small).2.2.2.2 l b
theorem OkA.nsets{a:Au}(h:OkA a):a.sets.length<=300:=(Zcb h.small).1
theorem OkA.nfirst{a:Au}(h:OkA a):a.first.length<=300:=(Zcb h.small).2.1
theorem OkA.nlast{a:Au}(h:OkA a):a.last.length<=300:=(Zcb h.small).2.2.1
theorem Zwt(a:Au)(p:Int):inR a p=(leI 0 p&&ltI p a.sets.length):=rfl
theorem Zwu(a)(b:List Int)(c:Nat){i:Nat}(d:i<b.length):catL a (b.take (i+1)) c=catL a (b.take i) c++Zb2 a c b[i]:=by rw[qa d];unfold catL;rw[ug];simp
theorem Zwv{a}(h:OkA a)(c:Nat)(p:Int):(Zb2 a c p).length<=300:=by
 unfold Zb2;split
 .have d:=Zet a.sets (a.follow.getD p.toNat []) c;by_cases b:p.toNat<a.follow.length
  .have e:a.follow.getD p.toNat []=a.follow[p.toNat]:=by simp[b]
   rw[e]at d ⊢;exact uu d (h.len (qe b))
  .have e:a.follow.getD p.toNat []= []:=by simp[Nat.le_of_not_lt b]
   rw[e];have:havL a.sets [] c= []:=rfl;rw[this];simp
 .simp
theorem Zjw{a}(h:OkA a)(c:Nat): ∀b:List Int,(catL a b c).length<=300*b.length
 | []=>by simp[catL]
 |p::b=>by
  have:=Zjw h c b;have d:=Zwv h c p;unfold catL at this ⊢;simp only[List.flatMap_cons,qf,qh];omega
theorem Zh0: ∀ {l:List Int} {k n:Int},QY l->(∀x∈l,k<=x/\x<n)->k<=n->(l.length:Int)<=n-k
 | [],k,n,_,_,h=>by simp;omega
 |a::r,k,n,f,b,_=>by
  obtain⟨d,e⟩:=List.pairwise_cons.1 f;obtain⟨g,i⟩:=b a sm;have:=Zh0 (k:=a+1) (n:=n) e (λx c=>⟨by have:=d x c;omega,(b x (uv _ c)).2⟩) om;simp only[qh];omega
theorem Zww{a:Au}(h:OkA a){c:Nat}{p x:Int}(b:x∈Zb2 a c p):0<=x/\x<a.sets.length:=by
 unfold Zb2 at b;split at b
 .have b:=(List.mem_filter.1 b).1;by_cases d:p.toNat<a.follow.length
  .have e:a.follow.getD p.toNat []=a.follow[p.toNat]:=by simp[d]
   rw[e]at b;exact h.fr (qe d) x b
  .have e:a.follow.getD p.toNat []= []:=by simp[Nat.le_of_not_lt d]
   rw[e]at b;cases b
 .cases b
theorem Zwx{a:Au}(h:OkA a){c:Nat}{e}{x:Int}(b:x∈WN a e c):0<=x/\x<a.sets.length:=by unfold WN at b;rcases VW.1 b with b|b;cases b;unfold catL at b;obtain⟨p,_,d⟩:=List.mem_flatMap.1 b;exact Zww h d
theorem Zwy{a}(h:OkA a)(c:Nat)(b):(WN a b c).length<=300:=by
 have:=Zh0 (l:=WN a b c) (k:=0) (n:=a.sets.length) (WL (by simp[QY])) (λx d=>Zwx h d) om;have:=h.nsets;omega
theorem ZKh(hs:ZQ UY.P 75)(X:ZE UY.P 76){a}(B:OkA a)(b:List Int)(c:Nat)(hc:c<256)(hl:b.length<=2 ^ 10):PCon UY 35 [.agg (auC a),lst encI b, .i .u8 (c:Nat)] (· =lst encI (WN a b c)):=by
 refine ZF UK (fn:=Tryz.f35) rfl ?_;refine Xm UK (n:=40) (loc:=UY.loc 35) 100 [2,3,7,10,11,12] kr ?_;refine Eq.mpr (ZQ7 (row setC a.sets) a.sets.length (row encI a.first) a.first.length (row encI a.last) a.last.length (row Xk a.follow) a.follow.length a.empty (row encI b) b.length (c:Nat) .empty _) ?_;refine⟨rfl,ZM [2,3,7,10,11,12] [2,3,7,10,11,12] (λm vs h=> ∃(i:Nat) (q:Option (Nat×Nat)) (n:Nat) (E:Option Nat) (G:Nat),vs= [.i .u8 (c:Nat), .lb (auC a), .sl q n E G,lst encI b,I b.length,I (i:Nat)]/\i<=b.length/\m=b.length-i/\Lst encI 1 h q n E G (catL a (b.take i) c)/\(catL a (b.take i) c= []->q=none)) b.length ZA ⟨0,none,0,some 0,0,rfl,om,om,Lst.nil _ _ _ _ _,λ_=>rfl⟩ ?_⟩;rintro m vs h ⟨i,q,n,E,G,rfl,hi,rfl,O,f⟩;refine ZW UK (loc:=UY.loc 35) 100 [2,3,7,10,11,12] ?_;refine Eq.mpr (ZQ8 (row setC a.sets) a.sets.length (row encI a.first) a.first.length (row encI a.last) a.last.length (row Xk a.follow) a.follow.length a.empty (row encI b) b.length (c:Nat) q n E G (i:Nat) h _) ?_;refine Zq (λC=> ?_) (λa3=> ?_)
 .have l:=Zwu a b c C;have s:inR a b[i]=false->Zb2 a c b[i]= []:=λe=>by unfold Zb2;rw[e];rfl
  have u:Zb2 a c b[i]= []-> ∃m',m'<b.length-i/\ ∃(Z:Nat) (q':Option (Nat×Nat)) (n':Nat) (H:Option Nat) (a0:Nat),[V.i .u8 (c:Nat), .lb (auC a), .sl q n E G,lst encI b,I b.length,I (wW ((i:Nat)+1))]= [.i .u8 (c:Nat), .lb (auC a), .sl q' n' H a0,lst encI b,I b.length,I (Z:Nat)]/\Z<=b.length/\m'=b.length-Z/\Lst encI 1 h q' n' H a0 (catL a (b.take Z) c)/\(catL a (b.take Z) c= []->q'=none):=λe=>
   ⟨b.length-(i+1),om,i+1,q,n,E,G,by rw[Ze om],om,rfl,by rw[l,e,qi];exact O,by rw[l,e,qi];exact f⟩
  refine⟨Zu C,_,getI b C,Zf (λA=>Zf (λF=> ?_) (λF=>⟨rfl,u (s (by rw[Zwt];rw[A,F];rfl))⟩)) (λA=>⟨rfl,u (s (by rw[Zwt];rw[A];rfl))⟩)⟩;have a4:inR a b[i]=true:=by rw[Zwt];rw[A,F];rfl
  have A:0<=b[i]:=by simpa[leI]using A
  have F:b[i]<a.sets.length:=by simpa[ltI]using F
  have hp:b[i].toNat<a.follow.length:=by rw[B.fl];omega
  have hD:a.follow.getD b[i].toNat []=a.follow[b[i].toNat]:=by simp[hp]
  have hnx:Zb2 a c b[i]=havL a.sets a.follow[b[i].toNat] c:=by unfold Zb2;rw[a4,uF rfl,hD]
  have j:=qe hp;have N:=getL a.follow hp;rw[qdq]at N;have g:(catL a (b.take i) c).length+(havL a.sets a.follow[b[i].toNat] c).length<2 ^ 29:=by
   have h1:=Zjw B c (b.take i);have h2:=Zet a.sets a.follow[b[i].toNat] c;have h3:=B.len j;rw[uO]at h1;omega
  obtain⟨a',l',c',k',L,q1,q2,q3⟩:=ZRe (havL a.sets a.follow[b[i].toNat] c) O g;refine⟨⟨A,by rw[B.fl];exact F⟩,_,_,_,N,_,_,_,Zq1 a a.follow[b[i].toNat] c hc (B.fr j) (by have:=B.len j;omega),a',l',c',k',L,q1,rfl,b.length-(i+1),om,i+1,a',l',c',k',by rw[Ze om];rfl,om,rfl,by rw[l,hnx];exact q2,?_⟩;rw[l,hnx];exact λe=>by rw[q3 e,f (List.append_eq_nil_iff.1 e).1]
 .refine Zj [7] ?_;refine ZG UK (loc:=UY.loc 35) 100 [6] ?_;refine Eq.mpr (ZQ9 ..) ?_;rw[qt a3]at O f;have o:Jo UY 75:=⟨Tryz.f75,_,kr,rfl⟩;have p:Jo UY 76:=⟨Tryz.f76,_,kr,rfl⟩;generalize hz:catL a b c=d at O f;have a6:d.length<=300*b.length:=by rw[<-hz];exact Zjw B c b
  have t:WN a b c=Xj (Qk d):=by unfold WN;rw[hz,Zl5]
  obtain⟨⟨cells,hI,a1,N⟩,g⟩:=O;rw[rowI]at N;have a2:=frzI N;subst a2;rcases hI.2 with ⟨rfl,h0,h5⟩|⟨id,rfl,rfl,rfl,h5,h6⟩
  .have a5:d= []:=by cases d with
    |nil=>rfl
    |cons z r=>simp at h5
   subst a5 h0;refine(Zl3 o hs).mono λv L ⟨w,K⟩=>⟨w,?_⟩;refine(Zd0 p X).mono λv L ⟨w,K⟩=>⟨_,_,_,_,w,?_⟩;refine ZB rr rfl (.sln _ _ none (λ_ h=>by cases h)) ?_;rw[t,show Qk ([]:List Int)= [] from List.mergeSort_nil]
   rfl
  .have Y:d≠ []:=λe=>by have:=f e;cases this
   subst g;refine(Zqq o hs h6 Y om).mono λv L ⟨w,K⟩=>⟨w,?_⟩;subst K;have hg:(h.set id (some (.arr (Xh (Qk d)) true))).get id=some (.arr (Xh (Qk d)) true):=by rw[qc,uF rfl]
   have D:(Qk d).length=d.length:=List.length_mergeSort _;have W:=Zfx p X (c:=none) (k:=1) hg (λe=>by rw[e]at D;exact Y (qg D.symm)) om;rw[D]at W;refine W.mono λv L ⟨w,K⟩=>⟨_,_,_,_,w,?_⟩;subst K;refine ZB rr rfl (.sl id 0 _ none 1 (Xh (Zv5 (Qk d))) true (Xh (Xj (Qk d))) (Xh (Xj (Qk d))) none (by rw[qc,uF rfl]) ?_ (λ_ h=>by cases h) dc ?_) ?_
   .rw[ql,uY];have: ∀(x y:List V),Zs x.length (x++y)=some x:=by
     intro x
     induction x with
     |nil=>intro y;rfl
     |cons v x ih=>intro y;simp[Zs,ih]
    have h2:=this (Xh (Xj (Qk d))) (Xh (List.replicate ((Qk d).length-(Xj (Qk d)).length) 0));rw[qC]at h2;rw[<-h2,Xh,uV]
   .have:=Zej (Xj (Qk d)) ((h.set id (some (.arr (Xh (Qk d)) true))).set id (some (.arr (Xh (Zv5 (Qk d))) true)))
    rwa [rowI]at this
   .rw[t];simp only[lst,rowI]
def Tryr.locs:List (List Nat):=(Tryz.locs.set 190 []).set 176 [2]
noncomputable def rY_:YP:=⟨Go.Proofs.Tryz.prog,Tryz.tys,Tryr.locs,Tryz.modes,[182,5],[(185,1),(197,2)],[26,27,28,31,32,33,34,35]⟩
theorem rK_:YOK rY_:=Vk kr Tryz.extok
theorem ZRf(a e c h K):CP UY 65 (flat (Za Tryz.f65)) (J a e none::V.fn (Fn.func 66) [] [p_P c]::Rp 7) h [4] K=(Con UY 85 [J a e none,V.fn (Fn.func 66) [] [p_P c]] h fun(v:V) (f:Heap)=> ∃d,v=I d/\K .ret 9 [.b (leI 0 d)] f):=kr
theorem ZRg(a e c h K):CP UY 66 (flat (Za Tryz.f66)) (J a e none::p_P c::Rp 6) h [3] K=(∃b,Zb h c 0 1=some [I b]/\ ∃d,(PCon UY 64 [J a e none,I b] λv=>v=.b d)/\K .ret 8 [.b !d] h):=kr
theorem ZRh(a c b h K):CP UY 85 (pre B_85) (J a c none::V.fn (Fn.func 66) [] [p_P b]::Rp 17) h [0,1,7,8] K=(K .normal 19 [J a c none, .fn (Fn.func 66) [] [p_P b],I (c:Int),I 0] h):=kr
theorem ZRi(a g d x8 h K):CP UY 85 (lp_ B_85) (MZ 19 [0,1,7,8] [J a g none,V.fn (Fn.func 66) [] [p_P d],I (g:Int),I x8]) h [0,1,4,7,8] K=(If (ltI x8 g) ((0<=x8/\x8<g)/\ ∃b c e,Zs 1 (List.drop (x8.toNat*1) a)=some [J b c e]/\ ∃f,RCon UY 66 [J b c e,p_P d] h (.b f)/\If f (K .ret 19 [J a g none, .fn (Fn.func 66) [] [p_P d],I x8,I (g:Int),I x8] h) (K .normal 19 [J a g none, .fn (Fn.func 66) [] [p_P d],Ud,I (g:Int),I (wW (x8+(1:Int)))] h)) (K (.exit 0) 19 [J a g none, .fn (Fn.func 66) [] [p_P d],Ud,I (g:Int),I x8] h)):=kr
theorem ZRj(h K):CP UY 85 ((post B_85).drop 1) (MZ 19 [] []) h [4] K=(K .ret 19 [I (-1)] h):=kr
theorem ZRk(a e c h K):CP UY 77 (flat (Za Tryz.f77)) (J a e none::V.fn (Fn.func 78) [] [p_P c]::Rp 7) h [4] K=(Con UY 122 [J a e none,V.fn (Fn.func 78) [] [p_P c]] h fun(v:V) (f:Heap)=> ∃d,v=I d/\K .ret 9 [.b (leI 0 d)] f):=kr
theorem ZRl(f a h K):CP rY_ 78 (flat (Za Tryz.f78)) (I f::p_P a::Rp 6) h [3] K=(∃b c d,Zb h a 2 1=some [J b c d]/\ ∃e,(PCon rY_ 79 [J b c d,I f] λv=>v=.b e)/\K .ret 8 [.b e] h):=kr
theorem ZRm{a d x1 h}(K):CP UY 79 (flat (Za Tryz.f79)) (J a d none::I x1::Rp 7) h [4] K=(∃c,(PCon UY 123 [J a d none,I x1] λv=>v=I c)/\K .ret 9 [.b (leI 0 c)] h):=kr
theorem ZKi(a c b h K):CP UY 122 (pre (flat (Za Tryz.f122))) (J a c none::V.fn (Fn.func 78) [] [p_P b]::Rp 17) h [0,1,7,8] K=(K .normal 19 [J a c none, .fn (Fn.func 78) [] [p_P b],I (c:Int),I 0] h):=kr
theorem ZKj(a e c x8 h K):CP UY 122 (lp_ (flat (Za Tryz.f122))) (MZ 19 [0,1,7,8] [J a e none,V.fn (Fn.func 78) [] [p_P c],I (e:Int),I x8]) h [0,1,4,7,8] K=(If (ltI x8 e) ((0<=x8/\x8<e)/\ ∃b,Zs 1 (List.drop (x8.toNat*1) a)=some [I b]/\ ∃d,RCon UY 78 [I b,p_P c] h (.b d)/\If d (K .ret 19 [J a e none, .fn (Fn.func 78) [] [p_P c],I x8,I (e:Int),I x8] h) (K .normal 19 [J a e none, .fn (Fn.func 78) [] [p_P c],Ud,I (e:Int),I (wW (x8+(1:Int)))] h)) (K (.exit 0) 19 [J a e none, .fn (Fn.func 78) [] [p_P c],Ud,I (e:Int),I x8] h)):=kr
theorem ZKk(h K):CP UY 122 ((post (flat (Za Tryz.f122))).drop 1) (MZ 19 [] []) h [4] K=(K .ret 19 [I (-1)] h):=kr
theorem ZKl(a b x1 h K):CP UY 123 (pre (flat (Za Tryz.f123))) (J a b none::I x1::Rp 17) h [0,1,7,8] K=(K .normal 19 [J a b none,I x1,I (b:Int),I 0] h):=kr
theorem ZKm(a c x1 x8 h K):CP UY 123 (lp_ (flat (Za Tryz.f123))) (MZ 19 [0,1,7,8] [J a c none,I x1,I (c:Int),I x8]) h [0,1,4,7,8] K=(If (ltI x8 c) ((0<=x8/\x8<c)/\ ∃b,Zs 1 (List.drop (x8.toNat*1) a)=some [I b]/\If (x1==b) (K .ret 19 [J a c none,I x1,I x8,I (c:Int),I x8] h) (K .normal 19 [J a c none,I x1,Ud,I (c:Int),I (wW (x8+(1:Int)))] h)) (K (.exit 0) 19 [J a c none,I x1,Ud,I (c:Int),I x8] h)):=kr
theorem ZKn(h K):CP UY 123 ((post (flat (Za Tryz.f123))).drop 1) (MZ 19 [] []) h [4] K=(K .ret 19 [I (-1)] h):=kr
def idxI(l:List Int)(x:Int):Int:=if hasI l x then(l.findIdx (λy=>x==y):Nat)else -1
theorem ZFl(l)(x:Int):leI 0 (idxI l x)=hasI l x:=by
 unfold idxI;by_cases h:hasI l x=true;rw[uF h,h];simp[leI];have h:hasI l x=false:=su h;rw[h];rfl
theorem ZFm(l:List Int)(x:Int)(p:l.length<2 ^ 20):PCon UY 123 [lst encI l,I x] (· = I (idxI l x)):=by
 refine ZF UK (fn:=Tryz.f123) rfl ?_;refine Xm UK (n:=19) (loc:=UY.loc 123) 100 [0,1,7,8] kr ?_;refine Eq.mpr (ZKl (row encI l) l.length x .empty _) ?_;refine⟨rfl,ZM [0,1,7,8] [0,1,4,7,8] (λm e _=> ∃i:Nat,e= [lst encI l,I x,I l.length,I (i:Nat)]/\i<=l.length/\hasI (l.take i) x=false/\m=l.length-i) l.length ZA ⟨0,rfl,om,by simp[hasI],om⟩ ?_⟩;rintro m e h ⟨i,rfl,k,b,rfl⟩;refine ZW UK (loc:=UY.loc 123) 100 [0,1,4,7,8] ?_;refine Eq.mpr (ZKm (row encI l) l.length x (i:Nat) h _) ?_;refine Zq (λa=> ?_) (λd=> ?_)
 .refine⟨Zu a,_,getI l a,Zf (λc=> ?_) (λc=> ?_)⟩
  .refine Xc rr rfl ⟨_, .i _ _,?_⟩;have f:hasI l x=true:=List.any_eq_true.2 ⟨l[i],qe a,c⟩;have g:l.findIdx (λy=>x==y)=i:=(List.findIdx_eq a).2 ⟨c,λj o=>by
    have:=List.any_eq_false.1 b l[j] (List.mem_take_iff_getElem.2 ⟨j,om,rfl⟩);simpa using this⟩
   unfold idxI;rw[uF f,g]
  .refine⟨rfl,l.length-(i+1),om,i+1,by rw[Ze om];rfl,om,?_,rfl⟩;unfold hasI at b ⊢;rw[qa a,uj,b];simp only[List.any_cons,List.any_nil,c,Bool.or_false]
 .refine Zj [] ?_;refine ZG UK (loc:=UY.loc 123) 100 [4] ?_;refine Eq.mpr (ZKn h _) ?_;rw[qt d]at b;exact ZB rr rfl (.i _ _) (by unfold idxI;rw[b];rfl)
theorem Ztb(l:List Int)(x:Int)(a:l.length<2 ^ 20):PCon UY 79 [lst encI l,I x] (· = .b (hasI l x)):=
 Zv UK (fn:=Tryz.f79) rfl ZRm rfl ⟨_,ZFm l x a,ZB rr rfl (.b _) (by rw[ZFl])⟩
/-! ### ends -/
theorem Con.zr{f}{args}{h}{Q}(c:Con rY_ f args h Q):Con UY f args h Q:=⟨c.body,c.tr⟩
theorem PCon.rz{f}{args}{Q:V->Prop}(c:PCon UY f args Q):PCon rY_ f args Q:=⟨c.body,c.tr⟩
theorem ZFn{a:Au}(f:a.last.length<=300)(x:Int){h:Heap}{c:Nat}(e:h.get c=some (.arr (auC a) true)):Con UY 78 [I x, p_P c] h λv d=>v= .b (hasI a.last x)/\d=h:=by refine Con.zr ?_;refine Zx rK_ (fn:=Tryz.f78) (ZG rK_ (loc:=rY_.loc 78) 100 [3] ?_);refine Eq.mpr (ZRl x c h _) ?_;exact⟨_,_,_,by rw[Zr e];rfl,_,PCon.rz (Ztb a.last x om),finC rr rfl (.now ⟨rfl,rfl⟩)⟩
theorem ZKo{a:Au}(e:a.last.length<=300)(x:Int){h:Heap}{c:Nat}(d:h.get c=some (.arr (auC a) true)):RCon UY 78 [I x, p_P c] h (.b (hasI a.last x)):=
 ⟨h,ZFn e x d,λ_ _=>rfl,λ_ f=>f⟩
theorem ZFo{a:Au}(k:a.last.length<=300)(l:List Int){h:Heap}{e:Nat}(o:h.get e=some (.arr (auC a) true))(q:l.length<=2 ^ 10):
  Con UY 122 [lst encI l, .fn (.func 78) [] [p_P e]] h λv d=> ∃n:Int,v= I n/\leI 0 n=Zb3 a l/\d=h:=by
 refine Zx UK (fn:=Tryz.f122) ?_;refine Xm UK (n:=19) (loc:=UY.loc 122) 100 [0,1,7,8] kr ?_;refine Eq.mpr (ZKi (row encI l) l.length e h _) ?_;refine⟨rfl,ZM [0,1,7,8] [0,1,4,7,8] (λm j d=> ∃i:Nat,j= [lst encI l, .fn (.func 78) [] [p_P e],I l.length,I (i:Nat)]/\i<=l.length/\Zb3 a (l.take i)=false/\m=l.length-i/\d=h) l.length ZA ⟨0,rfl,om,by simp[Zb3],om,rfl⟩ ?_⟩;rintro m j d ⟨i,rfl,p,c,rfl,rfl⟩;refine ZW UK (loc:=UY.loc 122) 100 [0,1,4,7,8] ?_;refine Eq.mpr (ZKj (row encI l) l.length e (i:Nat) d _) ?_;refine Zq (λb=> ?_) (λg=> ?_);refine⟨Zu b,_,getI l b,_,ZKo k l[i] o,Zf (λf=> ?_) (λf=> ?_)⟩;refine Xc rr rfl (.now ⟨(i:Nat),rfl,?_,rfl⟩);have:Zb3 a l=true:=List.any_eq_true.2 ⟨l[i],qe b,f⟩;rw[this];simp[leI];refine⟨rfl,l.length-(i+1),om,i+1,?_,om,?_,rfl,rfl⟩;rw[Ze om];rfl;unfold Zb3 at c ⊢;rw[qa b,uj,c];simp only[List.any_cons,List.any_nil,f,Bool.or_false];refine Zj [] ?_;refine ZG UK (loc:=UY.loc 122) 100 [4] ?_;refine Eq.mpr (ZKk d _) ?_;rw[qt g]at c;exact finC rr rfl (.now ⟨-1,rfl,by rw[c];rfl,rfl⟩)
theorem Ztc{a:Au}(i:a.last.length<=300)(l:List Int){h:Heap}{c:Nat}(j:h.get c=some (.arr (auC a) true))(k:l.length<=2 ^ 10):
  Con UY 77 [lst encI l, .fn (.func 78) [] [p_P c]] h λv d=>v= .b (Zb3 a l)/\d=h:=by
 refine Zx UK (fn:=Tryz.f77) (ZG UK (loc:=UY.loc 77) 100 [4] ?_);refine Eq.mpr (ZRk (row encI l) l.length c h _) ?_;refine(ZFo i l j k).mono λv d ⟨n,e,f,g⟩=>⟨n,e,?_⟩;subst g;rw[f];exact finC rr rfl (.now ⟨rfl,rfl⟩)
theorem ZKp{a:Au}(e:a.last.length<=300)(c:List Int)(f:c.length<=2 ^ 10):PCon UY 36 [.agg (auC a),lst encI c] (· = .b (Zb3 a c)):=by
 refine Zv UK (fn:=Tryz.f36) rfl ZRa rfl ?_;refine(Ztc e c sm f).mono λv h ⟨d,g⟩=>⟨_,d,ZB rr rfl (.b _) rfl⟩
/-! ### May -/
abbrev nC(n:Int):List V:= [I n]
theorem ZFp(l:List Int)(e:l.length<=300)(n:Int){h:Heap}{a:Nat}(d:h.get a=some (.arr (nC n) true)):Con UY 66 [lst encI l, p_P a] h λv c=>v= .b (!risB l n)/\c=h:=by refine Zx UK (fn:=Tryz.f66) (ZG UK (loc:=UY.loc 66) 100 [3] ?_);refine Eq.mpr (ZRg (row encI l) l.length a h _) ?_;exact⟨n,by rw[Zr d];rfl,_,ZFj l n om,finC rr rfl (.now ⟨rfl,rfl⟩)⟩
theorem ZKq(l:List Int)(d:l.length<=300)(n:Int){h:Heap}{a:Nat}(c:h.get a=some (.arr (nC n) true)):RCon UY 66 [lst encI l, p_P a] h (.b (!risB l n)):=
 ⟨h,ZFp l d n c,λ_ _=>rfl,λ_ e=>e⟩
theorem ZFq(a:List (List Int))(j: ∀l∈a,l.length<=300)(k:Int){h:Heap}{e:Nat}(p:h.get e=some (.arr (nC k) true))(r:a.length<=300):
  Con UY 85 [lst Xk a, .fn (.func 66) [] [p_P e]] h λv d=> ∃n:Int,v= I n/\leI 0 n=(a.any λl=> !risB l k)/\d=h:=by
 refine Zx UK (fn:=Tryz.f85) ?_;refine Xm UK (n:=19) (loc:=UY.loc 85) 100 [0,1,7,8] kr ?_;refine Eq.mpr (ZRh (row Xk a) a.length e h _) ?_;refine⟨rfl,ZM [0,1,7,8] [0,1,4,7,8] (λm o d=> ∃i:Nat,o= [lst Xk a, .fn (.func 66) [] [p_P e],I a.length,I (i:Nat)]/\i<=a.length/\((a.take i).any λl=> !risB l k)=false/\m=a.length-i/\d=h) a.length ZA ⟨0,rfl,om,sm,om,rfl⟩ ?_⟩;rintro m o d ⟨i,rfl,q,c,rfl,rfl⟩;refine ZW UK (loc:=UY.loc 85) 100 [0,1,4,7,8] ?_;refine Eq.mpr (ZRi (row Xk a) a.length e (i:Nat) d _) ?_;refine Zq (λb=> ?_) (λg=> ?_);refine⟨Zu b,_,_,_,getL a b,_,ZKq a[i] (j _ (qe b)) k p,Zf (λf=> ?_) (λf=> ?_)⟩;refine Xc rr rfl (.now ⟨(i:Nat),rfl,?_,rfl⟩);have:(a.any λl=> !risB l k)=true:=List.any_eq_true.2 ⟨a[i],qe b,f⟩;rw[this];simp[leI];refine⟨rfl,a.length-(i+1),om,i+1,?_,om,?_,rfl,rfl⟩;rw[Ze om];rfl;rw[qa b,uj,c];simp only[List.any_cons,List.any_nil,f,Bool.or_false];refine Zj [] ?_;refine ZG UK (loc:=UY.loc 85) 100 [4] ?_;refine Eq.mpr (ZRj d _) ?_;rw[qt g]at c;exact finC rr rfl (.now ⟨-1,rfl,by rw[c];rfl,rfl⟩)
theorem Ztd(a:List (List Int))(c: ∀l∈a,l.length<=300)(k:Int){h:Heap}{d:Nat}(j:h.get d=some (.arr (nC k) true))(m:a.length<=300):
  Con UY 65 [lst Xk a, .fn (.func 66) [] [p_P d]] h λv e=>v= .b (!a.all λl=>risB l k)/\e=h:=by
 refine Zx UK (fn:=Tryz.f65) (ZG UK (loc:=UY.loc 65) 100 [4] ?_);refine Eq.mpr (ZRf (row Xk a) a.length d h _) ?_;refine(ZFq a c k j m).mono λv e ⟨n,f,g,i⟩=>⟨n,f,?_⟩;subst i;rw[g,ZFh];exact finC rr rfl (.now ⟨rfl,rfl⟩)
theorem may7(a:Au)(s:Zmc a=true):PCon UY 26 [.agg (auC a)] (· = .b (mayA a)):=by
 obtain⟨z,A,B,t,u⟩:=Zcb s;refine Zv UK (fn:=Tryz.f26) rfl ZQv rfl ?_;have d:UY.tag 3=none:=kr;rw[d];have m: ∀j,((Heap.empty).pushT none (YObj.arr [I 0] true)).get j=if j=Heap.empty.nx then some (YObj.arr [I 0] true)else Heap.empty.get j:=λj=>qj _ _ _ _
 let c:Heap:=((Heap.empty).pushT none (YObj.arr [I 0] true)).set Heap.empty.nx (some (.arr (nC a.sets.length) true))
 have n:Zi ((Heap.empty).pushT none (YObj.arr [I 0] true)) Heap.empty.nx 0 [I (a.sets.length:Nat)]=some c:=by
  simp only[Zi,m,vG]
  rfl
 have p:c.get Heap.empty.nx=some (.arr (nC a.sets.length) true):=by rw[qc,uF rfl]
 have f:Zb c Heap.empty.nx 0 1=some [I (a.sets.length:Nat)]:=by rw[Zr p];rfl
 have o:mayA a=false->Fin UY Tryz.f26 [2] (λv h=> ∃r,Frz h v r/\r= .b (mayA a)) .ret 35 [.b false] c:=λe=>ZB rr rfl (.b _) (by rw[e]);refine⟨c,n,_,f,Xr (λg=>om) (λx=>⟨_,f,Zf (λg=>o (by simp at g;simp[mayA,show¬a.follow.length=a.sets.length from om])) (λi=> ?_)⟩)⟩;have i:a.follow.length=a.sets.length:=by simp at i;omega
 refine⟨_,f,_,ZFj a.first a.sets.length om,Zf (λg=>o (by simp[mayA,show risB a.first a.sets.length=false by simpa using g])) (λk=> ?_)⟩;have k:risB a.first a.sets.length=true:=su k;refine⟨_,f,_,ZFj a.last a.sets.length om,Zf (λg=>o (by simp[mayA,show risB a.last a.sets.length=false by simpa using g])) (λl=> ?_)⟩;have l:risB a.last a.sets.length=true:=su l;refine(Ztd a.follow u a.sets.length p t).mono λv y ⟨q,w⟩=>⟨_,q,ZB rr rfl (.b _) ?_⟩;simp only[mayA,i,k,l,show a.sets.length<=300 from om,decide_true,uT,Bool.not_not]
theorem ZKr{s0 s1 s2 s3 x h}(K):CP rY_ 190 (flat (Za Tryz.f190)) (.agg [U s0,U s1,U s2,U s3]::I x::Rp 12) h [4] K=((0:Int)<=(6:Int)/\((0:Int)<=x.fdiv ((2:Int) ^ min (Int.toNat (6:Int)) IntKind.i64.bits)/\x.fdiv ((2:Int) ^ min (Int.toNat (6:Int)) IntKind.i64.bits)<(↑(4:Nat):Int))/\ ∃a,Zb (h.push (YObj.arr [U s0,U s1,U s2,U s3] true)) h.nx ((0:Nat)+(x.fdiv ((2:Int) ^ min (Int.toNat (6:Int)) IntKind.i64.bits)).toNat*1) 1=some [U a]/\(0:Int)<=wW (↑(BitVec.ofInt IntKind.i64.bits x&&&BitVec.ofInt IntKind.i64.bits (63:Int)).toNat:Int)/\K .ret 14 [.b (IntKind.u64.wrap (↑(BitVec.ofInt IntKind.u64.bits (a.fdiv ((2:Int) ^ min (wW (↑(BitVec.ofInt IntKind.i64.bits x&&&BitVec.ofInt IntKind.i64.bits (63:Int)).toNat:Int)).toNat IntKind.u64.bits))&&&BitVec.ofInt IntKind.u64.bits (1:Int)).toNat:Int)==(1:Int))] (h.push (YObj.arr [U s0,U s1,U s2,U s3] true))):=kr
theorem ZDf{s0 s1 s2 s3 h}(K):CP rY_ 176 (pre (flat (Za Tryz.f176))) (.agg [U s0,U s1,U s2,U s3]::Rp 14) h [1,2,4] K=(K .normal 15 [p_P h.nx, .lb [U 0,U 0,U 0,U 0],I 0] (h.push (YObj.arr [U s0,U s1,U s2,U s3] true))):=kr
theorem ZDg{a x4 h}(K):CP rY_ 176 (lp_ (flat (Za Tryz.f176))) (MZ 15 [1,2,4] [p_P a,.lb [U 0,U 0,U 0,U 0],I x4]) h [1,2,4] K=(If (ltI x4 4) (((0:Int)<=x4/\x4<(↑(4:Nat):Int))/\ ∃b,Zb h a ((0:Nat)+x4.toNat*1) 1=some [U b]/\((0:Int)<=x4/\x4<(↑(4:Nat):Int))/\ ∃c,Zi h a ((0:Nat)+x4.toNat*1) [U (IntKind.u64.wrap (↑(BitVec.ofInt IntKind.u64.bits (if IntKind.u64.signed=true then(-1:Int)else IntKind.u64.max) ^^^ BitVec.ofInt IntKind.u64.bits b).toNat:Int))]=some c/\K .normal 15 [p_P a, .lb [U 0,U 0,U 0,U 0],I (wW (x4+(1:Int)))] c) (K (.exit 0) 15 [p_P a, .lb [U 0,U 0,U 0,U 0],I x4] h)):=kr
theorem ZDh{a h}(K):CP rY_ 176 ((post (flat (Za Tryz.f176))).drop 1) (MZ 15 [1,2] [p_P a,.lb [U 0,U 0,U 0,U 0]]) h [2] K=(∃b c d e,Zb h a 0 4=some [U b,U c,U d,U e]/\K .ret 15 [.lb [U b,U c,U d,U e]] h):=kr
theorem ZKs{x s h}(K):CP UY 177 (flat (Za Tryz.f177)) (.i .u8 x::.s s::Rp 13) h [4] K=(∃a,(PCon UY 171 [.s s,.i .u8 x] λv=>v=I a)/\If (leI 0 a) (∃b,some (Q.val (.s ((fun(x:List UInt8)=>UInt8.ofNat (Int.toNat (92:Int))::x) ((fun(c:List UInt8)=>UInt8.ofNat x.toNat::c) []))))=some (Q.val (.s b))/\K .ret 15 [.s b] h) (∃b,some (Q.val (.s ((fun(c:List UInt8)=>UInt8.ofNat x.toNat::c) [])))=some (Q.val (.s b))/\K .ret 15 [.s b] h)):=kr
theorem ZKt{s x h}(K):CP UY 171 (flat (Za Tryz.f171)) (.s s::.i .u8 x::Rp 6) h [4] K=(∃a,(PCon UY 189 [.s s,.i .u8 x] λv=>v=I a)/\K .ret 8 [I a] h):=kr
theorem ZDi(k h K):CP UY 116 (flat (Za Tryz.f116)) (p_P k::Rp 13) h [2] K=(∃a b c d,Zb h k 1 1=some [S a b c d]/\(b=0->a=none)/\ ∃e f g i,Zb h k 1 1=some [S e f g i]/\ ∃j l,strH UY h 224 a (f:Int)=some (l,j)/\K .ret 14 [.s j] l):=kr
theorem ZDj(f h K):CP UY 162 (flat (Za Tryz.f162)) (p_P f::Rp 19) h [] K=(∃a,Zb h f 0 1=some [.p a]/\(UY.ty 182).isSome=true/\If a.isNone ((λg=>g/\g/\ ∃b,Zi h f 0 [p_P f]=some b/\K .normal 20 [] b) (∃b c d e,some (f,0)=some (b,0)/\h.get b=some (YObj.arr c d)/\h.tagOf b=some 182/\some (TI.mk (2:Nat) (32:Nat) (Kd.struct [((0:Nat),180),((1:Nat),138)]) [.p none,S none (0:Nat) (some (0:Nat)) (0:Nat)])=some e/\(e.size=0->False)/\e.size<=c.length)) (∃b,Zb h f 0 1=some [.p b]/\(UY.ty 182).isSome=true/\(∃c,b=some c/\some (f,0)=some c/\(h.get c.fst).isSome=true)/\K .normal 20 [] h)):=kr
theorem ZDk(k x h K):CP UY 126 (flat (Za Tryz.f126)) (p_P k::.i .u8 x::Rp 15) h [4] K=(Con UY 162 [p_P k] h fun(v:V) (n:Heap)=>v=.tup []/\ ∃a b c d,Zb n k 1 1=some [S a b c d]/\ ∃e f g j l,Zk UY n 138 138 (S a b c d) (J [.i .u8 x] 1 (some 1))=some (S e f g j,l)/\ ∃m,Zi l k 1 [S e f g j]=some m/\K .ret 17 [V.nilifc] m):=kr
theorem ZKu(k s h K):CP UY 146 (flat (Za Tryz.f146)) (p_P k::.s s::Rp 17) h [4,5] K=(Con UY 162 [p_P k] h fun(v:V) (m:Heap)=>v=.tup []/\ ∃a b c d,Zb m k 1 1=some [S a b c d]/\ ∃e f g i j,Zk UY m 138 9 (S a b c d) (.s s)=some (S e f g i,j)/\ ∃l,Zi j k 1 [S e f g i]=some l/\K .ret 19 [I (↑s.length:Int),V.nilifc] l):=kr
theorem ZKv{s x h}(K):CP UY 189 (flat (Za Tryz.f189)) (.s s::.i .u8 x::Rp 6) h [4] K=(K .ret 8 [I (Jj s x.toNat.toUInt8 (0:Nat))] h):=kr
theorem ZKw{e h}(K):CP UY 115 (flat (Za Tryz.f115)) (p_P e::Rp 7) h [2] K=(∃a b c d,Zb h e 1 1=some [S a b c d]/\K .ret 8 [I (b:Int)] h):=kr
theorem PCon.zr{f}{args}{Q:V->Prop}(c:PCon rY_ f args Q):PCon UY f args Q:=⟨c.body,c.tr⟩
/-! ### told -/
theorem ZFr(c:UInt8):((c.toNat:Int)).toNat.toUInt8=c:=by rw[qdq];simp
theorem Zwz(s)(c:UInt8):PCon UY 171 [.s s, .i .u8 (c.toNat:Nat)] (· = I (Jj s c 0)):=by refine Zv UK (fn:=Tryz.f171) rfl ZKt rfl ⟨_,?_,ZB rr rfl (.i _ _) rfl⟩;refine Zv UK (fn:=Tryz.f189) rfl ZKv rfl ?_;rw[ZFr];exact ZB rr rfl (.i _ _) rfl
def Zcc(c:UInt8)(a:List UInt8):List UInt8:=if leI 0 (Jj a c 0)=true then [92,c]else [c]
theorem Vs(c:UInt8)(m):(Zcc c m).length<=2:=by unfold Zcc;split<;>simp
theorem Zjx(c:UInt8)(m):PCon UY 177 [.i .u8 (c.toNat:Nat), .s m] (· = .s (Zcc c m)):=by
 refine Zv UK (fn:=Tryz.f177) rfl ZKs rfl ⟨_,Zwz m c,?_⟩;unfold Zcc;refine Zf (λh=> ?_) (λh=> ?_)<;>rw[h]
 .exact⟨_,rfl,ZB rr rfl (.s _) sm⟩
 .exact⟨_,rfl,ZB rr rfl (.s _) sm⟩
/-! ### has -/
theorem ZA2{c:Nat} :(c:Int).fdiv ((2:Int) ^ min (Int.toNat (6:Int)) IntKind.i64.bits)=((c / 64:Nat):Int):=by have e:(2:Int) ^ min (Int.toNat (6:Int)) IntKind.i64.bits=64:=dc;rw[e,Int.fdiv_eq_ediv_of_nonneg _ dc];omega
theorem ZA3{c:Nat}(a:c<256):wW (((BitVec.ofInt IntKind.i64.bits (c:Int)&&&BitVec.ofInt IntKind.i64.bits (63:Int)).toNat:Nat):Int)=((c % 64:Nat):Int):=by
 have h: ∀c:_root_.Fin 256,wW (((BitVec.ofInt IntKind.i64.bits (c.val:Int)&&&BitVec.ofInt IntKind.i64.bits (63:Int)).toNat:Nat):Int)=((c.val % 64:Nat):Int):=by decide+kernel
 exact h ⟨c,a⟩
theorem ZFs(x)(c:Nat)(e:c<256):PCon UY 190 [.agg (setC x),I c] (· = .b (hasN x c)):=by
 refine PCon.zr (Zv rK_ (fn:=Tryz.f190) rfl ZKr rfl ?_);rw[ZA2,ZA3 e];have a:c / 64<4:=om;refine⟨dc,⟨om,om⟩,Zd9 x (c / 64),?_,om,?_⟩
 .rw[Zr (cs:= [U x.1,U x.2.1,U x.2.2.1,U x.2.2.2]) (wr:=true) sm,qdq];generalize c / 64=k at a
  match k,a with
  |0,_=>rfl
  |1,_=>rfl
  |2,_=>rfl
  |3,_=>rfl
 .have d:min (((c % 64:Nat):Int)).toNat IntKind.u64.bits=c % 64:=by
   have:IntKind.u64.bits=64:=rfl;rw[this,qdq];omega
  rw[d,ZFk];exact ZB rr rfl (.b _) rfl
/-! ### not, of nothing -/
def maxU:Int:=IntKind.u64.wrap (((BitVec.ofInt IntKind.u64.bits (if IntKind.u64.signed=true then -1 else IntKind.u64.max) ^^^ BitVec.ofInt IntKind.u64.bits 0).toNat:Nat):Int)
def notL(i:Nat):List Int:=List.replicate i maxU++List.replicate (4-i) 0
abbrev u64s(l:List Int):List V:=l.map λx=>U x
theorem ZFt:PCon UY 176 [.agg (setC (0,0,0,0))] (· = .agg (setC (maxU,maxU,maxU,maxU))):=by
 refine PCon.zr (ZF rK_ (fn:=Tryz.f176) rfl ?_);refine Zh rK_ 15 ZDf rfl ?_;refine⟨rfl,ZM [1,2,4] [1,2,4] (λm c h=> ∃i:Nat,c= [p_P Heap.empty.nx, .lb (setC (0,0,0,0)),I (i:Nat)]/\i<=4/\m=4-i/\h.get Heap.empty.nx=some (.arr (u64s (notL i)) true)) 4 ZA ⟨0,rfl,om,om,by simp[qk,notL,u64s]⟩ ?_⟩;rintro m c h ⟨i,rfl,f,rfl,b⟩;refine Zm rK_ ZDg rfl ?_;refine Xr (λa=> ?_) (λe=> ?_)
 .have a:i<4:=om;refine⟨⟨om,om⟩,0,?_,⟨om,om⟩,?_⟩
  .rw[Zr b,qdq]
   match i,a with
   |0,_=>rfl
   |1,_=>rfl
   |2,_=>rfl
   |3,_=>rfl
  .refine⟨h.set Heap.empty.nx (some (.arr (u64s (notL (i+1))) true)),?_,rfl,4-(i+1),om,i+1,by rw[Ze om];rfl,om,rfl,by rw[qc,uF rfl]⟩;simp only[Zi,b,qdq]
   match i,a with
   |0,_=>rfl
   |1,_=>rfl
   |2,_=>rfl
   |3,_=>rfl
 .have d:i=4:=om;subst d;refine Zj [1,2] ?_;refine Zo rK_ ZDh rfl ?_;refine⟨maxU,maxU,maxU,maxU,by rw[Zr b];rfl,ZB rr rfl ?_ rfl⟩;exact .agg _ _ (.cons _ _ _ _ (.i _ _) (.cons _ _ _ _ (.i _ _) (.cons _ _ _ _ (.i _ _) (.cons _ _ _ _ (.i _ _) .nil))))
theorem ZKx(x0 x1 x2 x3 h K):CP UY 175 (pre B_175) (.agg [U x0,U x1,U x2,U x3]::Rp 32) h [1,2,3,4] K=(K .normal 33 [.lb [U x0,U x1,U x2,U x3],S0,S0,I 0] h):=kr
theorem ZKy(x0 x1 x2 x3 b c d e a h K):CP UY 175 (pre (lp_ B_175)) (MZ 33 [1,2,3,4] [.lb [U x0,U x1,U x2,U x3],S0,S b c d e,I a]) h [1,2,3,4] K=(If (ltI a 256) (K .normal 33 [.lb [U x0,U x1,U x2,U x3],S0,S b c d e,I a] h) (K (.exit 0) 33 [.lb [U x0,U x1,U x2,U x3],S0,S b c d e,I a] h)):=kr
theorem ZKz(x0 x1 x2 x3 b c d e a h K):CP UY 175 (pre (bk_ (lp_ B_175))) (MZ 33 [1,2,3,4] [.lb [U x0,U x1,U x2,U x3],S0,S b c d e,I a]) h [1,2,3,4,5] K=(K .normal 33 [.lb [U x0,U x1,U x2,U x3],S0,S b c d e,I a,I a] h):=kr
theorem ZK0(x0 x1 x2 x3 c d e f a x5 h K):CP UY 175 (lp_ (bk_ (lp_ B_175))) (MZ 33 [1,2,3,4,5] [.lb [U x0,U x1,U x2,U x3],S0,S c d e f,I a,I x5]) h [1,2,3,4,5] K=(If (ltI a 256) (∃b,(PCon UY 190 [.agg [U x0,U x1,U x2,U x3],I a] λv=>v=.b b)/\If b (K .normal 33 [.lb [U x0,U x1,U x2,U x3],S0,S c d e f,I (wW (a+(1:Int))),I x5] h) (K (.exit 2) 33 [.lb [U x0,U x1,U x2,U x3],S0,S c d e f,I a,I x5] h)) (K (.exit 2) 33 [.lb [U x0,U x1,U x2,U x3],S0,S c d e f,I a,I x5] h)):=kr
theorem ZDl(x0 x1 x2 x3 d e f g b x5 h K):CP UY 175 ((post (bk_ (lp_ B_175))).drop 1) (MZ 33 [1,2,3,4,5] [.lb [U x0,U x1,U x2,U x3],S0,S d e f g,I b,I x5]) h [1,2,3,4] K=(If (ltI x5 b) (∃a c j l m,Zk UY h 57 57 (S d e f g) (J [.i .u8 (IntKind.u8.wrap x5),.i .u8 (IntKind.u8.wrap (wW (b-(1:Int))))] 1 (some 1))=some (S a c j l,m)/\K .normal 33 [.lb [U x0,U x1,U x2,U x3],S0,S a c j l,I b] m) (K .normal 33 [.lb [U x0,U x1,U x2,U x3],S0,S d e f g,I b] h)):=kr
theorem Zq2(x0 x1 x2 x3 a b c d e h K):CP UY 175 ((post (lp_ B_175)).drop 1) (MZ 33 [1,2,3,4] [.lb [U x0,U x1,U x2,U x3],S0,S b c d e,I a]) h [1,2,3,4] K=(K .normal 33 [.lb [U x0,U x1,U x2,U x3],S0,S b c d e,I (wW (a+(1:Int)))] h):=kr
theorem ZK1(a b c d h K):CP UY 175 ((post B_175).drop 1) (MZ 33 [3] [S a b c d]) h [2] K=(K .ret 33 [S a b c d] h):=kr
end Go.Y
