/- A part of the proof. -/
import Derived.Test.YteennilbmmlikaaGreatDoorGPart
import Derived.Test.YteennilbmmlikaaGreatDoorGPartP
import Derived.Test.YteennilbmmlikaaGreatDoorYTryzP
import Derived.Test.YteennilbmmlikaaGreatDoorYLoop
import Derived.Test.YteennilbmmlikaaGreatDoorYFrz
import Derived.Test.YteennilbmmlikaaGreatDoorGSortK
namespace Go.Y
set_option maxRecDepth 1000000
set_option maxHeartbeats 0
theorem Zyx{α:Type}(p:α->Bool)(k:List α):(k.any fun x=> !p x)= !k.all p:=by
 induction k with
 |nil=>rfl
 |cons x k ih=>rw[List.any_cons,List.all_cons,ih];cases p x<;>simp

theorem Zrn(x:List Int):(ZY x).length=1:=rfl
theorem getI(l:List Int){i:Nat}(h:i<l.length):Zo 1 (List.drop ((i:Int).toNat*1) (row encI l))=some [I l[i]]:=by
 rw[qdq];exact Xi (f:=encI) (k:=1) Zgu h
theorem getL(l:List (List Int)){i:Nat}(h:i<l.length):Zo 1 (List.drop ((i:Int).toNat*1) (row ZY l))=some [lst encI l[i]]:=by
 rw[qdq];exact Xi (f:=ZY) (k:=1) Zrn h

/-! ### rising -/
def risB(l:List Int)(n:Int):Bool:=(List.range l.length).all (okAt l n)
theorem Zyy{l:List Int}{n:Int}{i:Nat}(hi:i<l.length)(h:okAt l n i=false):risB l n=false:=
 List.all_eq_false.2 ⟨i,List.mem_range.2 hi,by simp[h]⟩
theorem Jq{l:List Int}{i:Nat}(hi:i<l.length):l.getD i 0=l[i]:=by simp[hi]

def mayA(a:Au):Bool:=decide (a.sets.length<=300)&&decide (a.follow.length=a.sets.length)&&risB a.first a.sets.length&&risB a.last a.sets.length&&a.follow.all fun l=>risB l a.sets.length

theorem Zmw{l:List Int}{n:Int}(h:risB l n=true){x:Int}(hx:x∈l):0<=x∧x<n:=by
 obtain⟨i,hi,rfl⟩:=List.getElem_of_mem hx
 have:=List.all_eq_true.1 h i (List.mem_range.2 hi)
 simp only[okAt,Jq hi,qrq,Bool.not_eq_true',ltI,leI,decide_eq_false_iff_not]at this
 omega
end Go.Y
namespace Go.Y
open Go.Proofs
set_option maxRecDepth 1000000
set_option maxHeartbeats 0
theorem Zbp(l:List Int)(n:Int)(i:Nat):okAt l n i=(!ltI (l.getD i 0) 0&& !leI n (l.getD i 0)&& !(decide (0<i)&&leI (l.getD i 0) (l.getD (i-1) 0))):=rfl
theorem Zyz(l:List Int)(n:Int)(hl:l.length<2 ^ 30):PCon UY 64 [lst encI l,I n] (· = .b (risB l n)):=by
 refine ZE UK (fn:=Tryz.f64) rfl ?_
 refine Xm UK (n:=35) (loc:=UY.loc 64) 100 [0,1,2,7,8,9] (by kernel_rfl) ?_
 refine Eq.mpr (ZIw (row encI l) l.length n .empty _) ?_
 refine⟨rfl,ZL [0,1,2,7,8,9] [0,1,2,4,7,8,9] (fun m vs _=> ∃i:Nat,vs= [lst encI l,I n, .undef,lst encI l,I l.length,I (i:Nat)]∧i<=l.length∧m=l.length-i∧(List.range i).all (okAt l n)=true) l.length Zy ⟨0,rfl,by omega,by omega,by simp⟩ ?_⟩
 rintro m vs h ⟨i,rfl,hi,rfl,hp⟩
 refine ZT UK (loc:=UY.loc 64) 100 [0,1,2,4,7,8,9] ?_
 refine Eq.mpr (ZIx (row encI l) l.length n (i:Nat) h _) ?_
 refine Zm (fun hlt=> ?_) (fun hge=> ?_)
 ·have no:okAt l n i=false-> ∃r,Frz h (.b false) r∧r= .b (risB l n):=fun e=>⟨_, .b _,by rw[Zyy hlt e]⟩
  have ok:okAt l n i=true-> ∃m',m'<l.length-i∧ ∃i':Nat,[lst encI l,I n, .undef,lst encI l,I l.length,I (IntKind.i64.wrap ((i:Nat)+1))]= [lst encI l,I n, .undef,lst encI l,I l.length,I (i':Nat)]∧i'<=l.length∧m'=l.length-i'∧(List.range i').all (okAt l n)=true:=fun e=>
   ⟨l.length-(i+1),by omega,i+1,by rw[Zh (by omega)],by omega,rfl,Zoa hp e⟩
  refine⟨Zz hlt,_,getI l hlt,Zg (fun h1=>Xv (.inr rfl) rfl (no (by simp only[Zbp,Jq hlt,h1];rfl))) (fun h1=>Zg (fun h2=>Xv (.inr rfl) rfl (no (by simp only[Zbp,Jq hlt,h1,h2];rfl))) (fun h2=>Zg (fun h3=> ?_) (fun h3=> ?_)))⟩
  ·have h3:0<i:=by simpa[ltI]using h3
   have hw:IntKind.i64.wrap (((i:Nat):Int)-1)=((i-1:Nat):Int):=by rw[ZG (by omega) (by omega)];omega
   rw[hw]
   refine⟨Zz (by omega),_,getI l (by omega),Zg (fun h4=>Xv (.inr rfl) rfl (no ?_)) (fun h4=>⟨rfl,ok ?_⟩)⟩
   ·simp only[Zbp,Jq hlt,Jq (show i-1<l.length by omega),h1,h2,h3,h4];rfl
   ·simp only[Zbp,Jq hlt,Jq (show i-1<l.length by omega),h1,h2,h3,h4];rfl
  ·have h3: ¬0<i:=by simpa[ltI]using h3
   exact⟨rfl,ok (by simp only[Zbp,Jq hlt,h1,h2,h3];rfl)⟩
 ·refine Zi [] ?_
  refine ZB UK (loc:=UY.loc 64) 100 [4] ?_
  refine Eq.mpr (ZIy ..) ?_
  have:i=l.length:=by omega
  subst this
  exact Zv (.inr rfl) rfl (.b _) (by rw[risB,hp])

/-! ### ref35.SameInts -/
/-! ### small -/
def Zi8(a:Au):Bool:=decide (a.sets.length<=300)&&decide (a.first.length<=300)&&decide (a.last.length<=300)&&decide (a.follow.length<=300)&&a.follow.all fun l=>decide (l.length<=300)
theorem Zau{a:Au}(h:Zi8 a=true):a.sets.length<=300∧a.first.length<=300∧a.last.length<=300∧a.follow.length<=300∧ ∀l∈a.follow,l.length<=300:=by
 simp only[Zi8,qrq,decide_eq_true_eq,List.all_eq_true]at h
 exact⟨h.1.1.1.1,h.1.1.1.2,h.1.1.2,h.1.2,fun l hl=>by simpa using h.2 l hl⟩

/-! ### May, by the reference -/
theorem ZI4(a c d e f g j l m n n1 x2 h K):CP UY 34 (pre (flat (Za Tryz.f34))) (.agg [J a c none,J d e none,J f g none,J j l none,.b m]::J n n1 none::.i .u8 x2::Rp 32) h [2,3,7,10,11,12] K=(K .normal 35 [.i .u8 x2, .lb [J a c none,J d e none,J f g none,J j l none, .b m],S0,J n n1 none,I (n1:Int),I 0] h):=by kernel_rfl
theorem ZI5(e f j m o p q r s g n1 x2 t u v w d h K):CP UY 34 (flat (Zx (post (flat (Za Tryz.f34))))) (MZ 35 [2,3,7,10,11,12] [.i .u8 x2,.lb [J e f none,J j m none,J o p none,J q r none,.b s],S t u v w,J g n1 none,I (n1:Int),I d]) h [2,3,7,10,11,12] K=(If (ltI d n1) ((0<=d∧d<n1)∧ ∃a,Zo 1 (List.drop (d.toNat*1) g)=some [I a]∧(0:Int)<=(6:Int)∧(0<=a∧a<f)∧((0:Int)<=x2.fdiv ((2:Int) ^ min (Int.toNat (6:Int)) IntKind.u8.bits)∧x2.fdiv ((2:Int) ^ min (Int.toNat (6:Int)) IntKind.u8.bits)<(↑(4:Nat):Int))∧ ∃c,Zo 1 (List.drop ((x2.fdiv ((2:Int) ^ min (Int.toNat (6:Int)) IntKind.u8.bits)).toNat*1) (List.drop (a.toNat*4) e))=some [U c]∧(0:Int)<=IntKind.u8.wrap (↑(BitVec.ofInt IntKind.u8.bits x2&&&BitVec.ofInt IntKind.u8.bits (63:Int)).toNat:Int)∧If (IntKind.u64.wrap (↑(BitVec.ofInt IntKind.u64.bits (c.fdiv ((2:Int) ^ min (IntKind.u8.wrap (↑(BitVec.ofInt IntKind.u8.bits x2&&&BitVec.ofInt IntKind.u8.bits (63:Int)).toNat:Int)).toNat IntKind.u64.bits))&&&BitVec.ofInt IntKind.u64.bits (1:Int)).toNat:Int)==(1:Int)) (∃l n x y z,Zf UY h 32 32 (S t u v w) (J [I a] 1 (some 1))=some (S l n x y,z)∧K .normal 35 [.i .u8 x2, .lb [J e f none,J j m none,J o p none,J q r none, .b s],S l n x y,J g n1 none,I (n1:Int),I (IntKind.i64.wrap (d+(1:Int)))] z) (K .normal 35 [.i .u8 x2, .lb [J e f none,J j m none,J o p none,J q r none, .b s],S t u v w,J g n1 none,I (n1:Int),I (IntKind.i64.wrap (d+(1:Int)))] h)) (K (.exit 0) 35 [.i .u8 x2, .lb [J e f none,J j m none,J o p none,J q r none, .b s],S t u v w,J g n1 none,I (n1:Int),I d] h)):=by kernel_rfl
theorem ZI6(a b c d h K):CP UY 34 ((post (flat (Za Tryz.f34))).drop 1) (MZ 35 [7] [S a b c d]) h [6] K=(K .ret 35 [S a b c d] h):=by kernel_rfl
theorem ZI7(a c d e f g j l m n n1 x2 h K):CP UY 35 (pre (flat (Za Tryz.f35))) (.agg [J a c none,J d e none,J f g none,J j l none,.b m]::J n n1 none::.i .u8 x2::Rp 37) h [2,3,7,10,11,12] K=(K .normal 40 [.i .u8 x2, .lb [J a c none,J d e none,J f g none,J j l none, .b m],S0,J n n1 none,I (n1:Int),I 0] h):=by kernel_rfl
theorem ZI8(j e m o p q f g r s n1 x2 t u w x d h K):CP UY 35 (flat (Zx (post (flat (Za Tryz.f35))))) (MZ 40 [2,3,7,10,11,12] [.i .u8 x2,.lb [J j e none,J m o none,J p q none,J f g none,.b r],S t u w x,J s n1 none,I (n1:Int),I d]) h [2,3,7,10,11,12] K=(If (ltI d n1) ((0<=d∧d<n1)∧ ∃a,(fun P0=>Zo 1 (List.drop (d.toNat*1) s)=some [I a]∧If (leI 0 a) (If (ltI a e) ((0<=a∧a<g)∧ ∃c l n,Zo 1 (List.drop (a.toNat*1) f)=some [J c l n]∧ ∃y z a0,(PCon UY 34 [.agg [J j e none,J m o none,J p q none,J f g none,.b r],J c l n,.i .u8 x2] fun v=>v=J y z a0)∧ ∃a1 a2 a3 a4 a5,Zf UY h 32 32 (S t u w x) (J y z a0)=some (S a1 a2 a3 a4,a5)∧K .normal 40 [.i .u8 x2, .lb [J j e none,J m o none,J p q none,J f g none, .b r],S a1 a2 a3 a4,J s n1 none,I (n1:Int),I (IntKind.i64.wrap (d+(1:Int)))] a5) P0) P0) (K .normal 40 [.i .u8 x2, .lb [J j e none,J m o none,J p q none,J f g none, .b r],S t u w x,J s n1 none,I (n1:Int),I (IntKind.i64.wrap (d+(1:Int)))] h)) (K (.exit 0) 40 [.i .u8 x2, .lb [J j e none,J m o none,J p q none,J f g none, .b r],S t u w x,J s n1 none,I (n1:Int),I d] h)):=by kernel_rfl
theorem ZI9(b d e f h K):CP UY 35 ((post (flat (Za Tryz.f35))).drop 1) (MZ 40 [7] [S b d e f]) h [6] K=(Con UY 75 [S b d e f] h fun(v:V) (h':Heap)=>v=.tup []∧Con UY 76 [S b d e f] h' fun(v:V) (h':Heap)=> ∃a c g i,v=S a c g i∧K .ret 40 [S a c g i] h'):=by kernel_rfl
theorem ZJa{a c d e f g i j l m n1 h}(K):CP UY 36 (flat (Za Tryz.f36)) (.agg [J a c none,J d e none,J f g none,J i j none,.b l]::J m n1 none::Rp 6) h [4] K=(Con UY 77 [J m n1 none,V.fn (Fn.func (78:Nat)) [] [.p (some (h.nx,0))]] (h.push (YObj.arr [J a c none,J d e none,J f g none,J i j none,.b l] true)) fun(v:V) (h':Heap)=> ∃n,v=.b n∧K .ret 8 [.b n] h'):=by kernel_rfl
/-! ### bits -/
theorem ZDc{c:Nat} :(c:Int).fdiv ((2:Int) ^ min (Int.toNat (6:Int)) IntKind.u8.bits)=((c / 64:Nat):Int):=by
 have e:(2:Int) ^ min (Int.toNat (6:Int)) IntKind.u8.bits=64:=by decide
 rw[e,Int.fdiv_eq_ediv_of_nonneg _ (by decide)]
 omega
theorem ZDd{c:Nat}(hc:c<256):IntKind.u8.wrap (((BitVec.ofInt IntKind.u8.bits (c:Int)&&&BitVec.ofInt IntKind.u8.bits (63:Int)).toNat:Nat):Int)=((c % 64:Nat):Int):=by
 have h: ∀c:_root_.Fin 256,IntKind.u8.wrap (((BitVec.ofInt IntKind.u8.bits (c.val:Int)&&&BitVec.ofInt IntKind.u8.bits (63:Int)).toNat:Nat):Int)=((c.val % 64:Nat):Int):=by decide+kernel
 exact h ⟨c,hc⟩
theorem Zy0(y:Int):IntKind.u64.wrap (((BitVec.ofInt IntKind.u64.bits y&&&BitVec.ofInt IntKind.u64.bits (1:Int)).toNat:Nat):Int)=y % 2:=by
 have e:IntKind.u64.bits=64:=rfl
 have e1:(BitVec.ofInt IntKind.u64.bits y&&&BitVec.ofInt IntKind.u64.bits (1:Int)).toNat=(y % 18446744073709551616).toNat % 2:=by
  rw[e,BitVec.toNat_and,BitVec.toNat_ofInt,BitVec.toNat_ofInt]
  have:((1:Int) % ((2 ^ 64:Nat):Int)).toNat=1:=by decide
  rw[this,Nat.and_one_is_mod]
  rfl
 rw[e1]
 have e2:(2:Int) ^ IntKind.u64.bits=18446744073709551616:=by decide
 unfold IntKind.wrap
 simp only[e2,IntKind.signed,Bool.false_and]
 simp only[Bool.false_eq_true,if_false]
 omega

/-! ### having -/
theorem Zro(sets:List Set4)(l:List Int)(c:Nat){i:Nat}(hi:i<l.length)(s:Set4)(hs:sets.getD l[i].toNat set0=s):havL sets (l.take (i+1)) c=havL sets (l.take i) c++if hasN s c then [l[i]]else []:=by
 rw[qa hi]
 unfold havL
 rw[List.filter_append,List.filter_cons,List.filter_nil,hs]
theorem Zco(sets:List Set4)(l:List Int)(c:Nat):(havL sets l c).length<=l.length:=List.length_filter_le _ _

theorem getS(l:List Set4){i:Nat}(h:i<l.length):Zo 4 (List.drop (i*4) (row setC l))=some (setC l[i]):=Xi (f:=setC) (k:=4) Zcm h
theorem ZJb(l:List Set4){i k:Nat}(h:i<l.length)(hk:k<4):Zo 1 (List.drop ((k:Int).toNat*1) (List.drop (i*4) (row setC l)))=some [U (Zeo l[i] k)]:=by
 rw[Zag Zcm l h,qdq]
 match k,hk with
 |0,_=>rfl
 |1,_=>rfl
 |2,_=>rfl
 |3,_=>rfl

theorem ZJc{h:Heap}{a}{l:Nat}{c}{kk:Nat}{out:List Int}(x:Int)(hl:Lst encI 1 h a l c kk out)(hb:out.length<2 ^ 29):
  ∃a' l' c' k' h',Zf UY h 32 32 (.sl a l c kk) (.ts [I x] 1 (some 1))=some (.sl a' l' c' k',h')∧Lst encI 1 h' a' l' c' k' (out++ [x])∧Fr h a h'∧ ∃j,a'=some (j,0)∧h.nx<=j:=
 Lst.app1 (Y:=UY) (e:=3) (te:=⟨1,8, .int .i64,[I 0]⟩) x (by kernel_rfl) (by kernel_rfl) rfl (by decide) hl (.cons _ _ _ _ (.i _ _) .nil) rfl rfl rfl (by decide) hb

theorem Zmx(a:Au)(l:List Int)(c:Nat)(hc:c<256)(hr: ∀p∈l,0<=p∧p<a.sets.length)(hl:l.length<2 ^ 20):PCon UY 34 [.agg (auC a),lst encI l, .i .u8 (c:Nat)] (· =lst encI (havL a.sets l c)):=by
 refine ZE UK (fn:=Tryz.f34) rfl ?_
 refine Xm UK (n:=35) (loc:=UY.loc 34) 100 [2,3,7,10,11,12] (by kernel_rfl) ?_
 refine Eq.mpr (ZI4 (row setC a.sets) a.sets.length (row encI a.first) a.first.length (row encI a.last) a.last.length (row ZY a.follow) a.follow.length a.empty (row encI l) l.length (c:Nat) .empty _) ?_
 refine⟨rfl,ZL [2,3,7,10,11,12] [2,3,7,10,11,12] (fun m vs h=> ∃(i:Nat) (q:Option (Nat×Nat)) (n:Nat) (cp:Option Nat) (kk:Nat),vs= [.i .u8 (c:Nat), .lb (auC a), .sl q n cp kk,lst encI l,I l.length,I (i:Nat)]∧i<=l.length∧m=l.length-i∧Lst encI 1 h q n cp kk (havL a.sets (l.take i) c)) l.length Zy ⟨0,none,0,some 0,0,rfl,by omega,by omega,Lst.nil _ _ _ _ _⟩ ?_⟩
 rintro m vs h ⟨i,q,n,cp,kk,rfl,hi,rfl,hL⟩
 refine ZT UK (loc:=UY.loc 34) 100 [2,3,7,10,11,12] ?_
 refine Eq.mpr (ZI5 (row setC a.sets) a.sets.length (row encI a.first) a.first.length (row encI a.last) a.last.length (row ZY a.follow) a.follow.length a.empty (row encI l) l.length (c:Nat) q n cp kk (i:Nat) h _) ?_
 refine Zm (fun hlt=> ?_) (fun hge=> ?_)
 ·obtain⟨p0,p1⟩:=hr l[i] (qe hlt)
  have hp:l[i].toNat<a.sets.length:=by omega
  have hD:a.sets.getD l[i].toNat set0=a.sets[l[i].toNat]:=by simp[hp]
  have hs:=Zro a.sets l c hlt _ hD
  have hlen:(havL a.sets (l.take i) c).length<2 ^ 29:=by
   have:=Zco a.sets (l.take i) c
   rw[List.length_take]at this;omega
  refine⟨Zz hlt,_,getI l hlt,by decide,⟨p0,p1⟩,?_⟩
  rw[ZDc,ZDd hc]
  refine⟨⟨by omega,by omega⟩,_,ZJb a.sets hp (by omega),by omega,?_⟩
  have e4:min (((c % 64:Nat):Int)).toNat IntKind.u64.bits=c % 64:=by
   have:IntKind.u64.bits=64:=rfl
   rw[this,qdq];omega
  rw[e4,Zy0]
  refine Zg (fun g=> ?_) (fun g=> ?_)
  ·have g:hasN a.sets[l[i].toNat] c=true:=g
   rw[g,if_pos rfl]at hs
   obtain⟨a',l',c',k',h',q1,q2,q3,q4⟩:=ZJc l[i] hL hlen
   exact⟨a',l',c',k',h',q1,rfl,l.length-(i+1),by omega,i+1,a',l',c',k',by rw[Zh (by omega)];rfl,by omega,rfl,by rw[hs];exact q2⟩
  ·have g:hasN a.sets[l[i].toNat] c=false:=g
   rw[g,if_neg (by decide),qi]at hs
   exact⟨rfl,l.length-(i+1),by omega,i+1,q,n,cp,kk,by rw[Zh (by omega)];rfl,by omega,rfl,by rw[hs];exact hL⟩
 ·refine Zi [7] ?_
  refine ZB UK (loc:=UY.loc 34) 100 [6] ?_
  refine Eq.mpr (ZI6 ..) ?_
  rw[qt hge]at hL
  exact Zv (.inr rfl) rfl (hL.frz (by decide) Zgu) rfl
theorem kd23:UY.kd 32=some (.slice 3):=by kernel_rfl
theorem frzI{h:Heap} : ∀ {l} {zs:List Int},FrzL h l (ZV zs)->l=ZV zs
 |_,[],f=>by cases f;rfl
 |_,z::zs,f=>by
  cases f with
  |cons _ _ _ _ h1 h2=>
   cases h1
   rw[frzI h2]
   rfl

theorem ZJd{h:Heap}{a}{l:Nat}{c}{kk:Nat}{out:List Int}{cap:Option Nat}(hl:Lst encI 1 h a l c kk out):
  ∃a' l' c' k',Zf UY h 32 32 (.sl a l c kk) (.ts (row encI ([]:List Int)) 0 cap)=some (.sl a' l' c' k',h)∧Lst encI 1 h a' l' c' k' out∧a'=a:=by
 obtain⟨⟨cells,h1,h2,h3⟩,h4⟩:=hl
 have hs:Xz UY ⟨[],[],h⟩ ⟨1,8, .int .i64,[I 0]⟩ 32 (.ts (row encI ([]:List Int)) 0 cap)=some (0,[]):=by
  simp only[Xz,kd23,QL,XE,Zo,Option.map_some]
 rcases h1.2 with ⟨rfl,h0,h5⟩|⟨id,rfl,rfl,rfl,h5,h6⟩
 ·refine⟨none,0,some 0,1,?_,⟨⟨cells,⟨by subst h5;rfl, .inl ⟨rfl,rfl,h5⟩⟩,h2,h3⟩,by omega⟩,rfl⟩
  simp only[Zf,ZR,kd23,ty3,hs]
  rfl
 ·refine⟨some (id,0),l,none,1,?_,⟨⟨cells,h1,h2,h3⟩,h4⟩,rfl⟩
  simp only[Zf,ZR,kd23,ty3,hs]
  rfl

theorem ZJe{h:Heap}{a}{l:Nat}{c}{kk:Nat}{out:List Int}(xs:List Int)(hl:Lst encI 1 h a l c kk out)(hb:out.length+xs.length<2 ^ 29):
  ∃a' l' c' k' h',Zf UY h 32 32 (.sl a l c kk) (.ts (row encI xs) xs.length none)=some (.sl a' l' c' k',h')∧Lst encI 1 h' a' l' c' k' (out++xs)∧(out++xs= []->a'=a):=by
 by_cases hx:xs= []
 ·subst hx
  obtain⟨a',l',c',k',q1,q2,q3⟩:=ZJd (cap:=none) hl
  exact⟨a',l',c',k',h,q1,by rw[qi];exact q2,fun _=>q3⟩
 ·have hm:most=1099511627776:=by decide
  obtain⟨a',l',c',k',h',q1,q2,_,_⟩:=Lst.app (Y:=UY) (st:=32) (e:=3) (te:=⟨1,8, .int .i64,[I 0]⟩) xs (cap:=none) kd23 ty3 rfl (by decide) hl (Zci xs _) (by
   rw[rowI]
   induction xs with
   |nil=>rfl
   |cons x r ih=>
    by_cases hr:r= []
    ·subst hr;rfl
    ·have:=ih (by simp at hb ⊢;omega) hr
     simp only[qz,ZQ,this,Bool.and_true]
     rfl) hx (by rw[JX];exact(Nat.mul_one _).symm) (Zch xs) (by show(out.length+xs.length)*8<=most;rw[hm];omega) (by rw[hm];omega)
  exact⟨a',l',c',k',h',q1,q2,fun e=>absurd (List.append_eq_nil_iff.1 e).2 hx⟩

/-! ### Put -/
/-! ### what may come next -/
structure OkA(a:Au):Prop where
 may:mayA a=true
 small:Zi8 a=true
theorem OkA.fl{a:Au}(h:OkA a):a.follow.length=a.sets.length:=by
 have:=h.may
 simp only[mayA,qrq,decide_eq_true_eq]at this
 exact this.1.1.1.2
theorem OkA.fr{a:Au}(h:OkA a){l:List Int}(hl:l∈a.follow): ∀p∈l,0<=p∧p<a.sets.length:=by
 have:=h.may
 simp only[mayA,qrq,List.all_eq_true]at this
 exact fun p hp=>Zmw (this.2 l hl) hp
theorem OkA.first{a:Au}(h:OkA a): ∀p∈a.first,0<=p∧p<a.sets.length:=by
 have:=h.may
 simp only[mayA,qrq]at this
 exact fun p hp=>Zmw this.1.1.2 hp
theorem OkA.len{a:Au}(h:OkA a){l:List Int}(hl:l∈a.follow):l.length<=300:=(Zau h.small).2.2.2.2 l hl
theorem OkA.nsets{a:Au}(h:OkA a):a.sets.length<=300:=(Zau h.small).1
theorem OkA.nfirst{a:Au}(h:OkA a):a.first.length<=300:=(Zau h.small).2.1
theorem OkA.nlast{a:Au}(h:OkA a):a.last.length<=300:=(Zau h.small).2.2.1

theorem Zrp(a:Au)(p:Int):inR a p=(leI 0 p&&ltI p a.sets.length):=rfl
theorem Zrq(a:Au)(ps:List Int)(c:Nat){i:Nat}(hi:i<ps.length):catL a (ps.take (i+1)) c=catL a (ps.take i) c++Zdo a c ps[i]:=by
 rw[qa hi];unfold catL;rw[List.flatMap_append];simp
theorem Zrr{a:Au}(h:OkA a)(c:Nat)(p:Int):(Zdo a c p).length<=300:=by
 unfold Zdo
 split
 ·have h1:=Zco a.sets (a.follow.getD p.toNat []) c
  by_cases hp:p.toNat<a.follow.length
  ·have e:a.follow.getD p.toNat []=a.follow[p.toNat]:=by simp[hp]
   rw[e]at h1 ⊢
   exact Nat.le_trans h1 (h.len (qe hp))
  ·have e:a.follow.getD p.toNat []= []:=by simp[Nat.le_of_not_lt hp]
   rw[e]
   have:havL a.sets [] c= []:=rfl
   rw[this];simp
 ·simp
theorem Zg4{a:Au}(h:OkA a)(c:Nat): ∀ps:List Int,(catL a ps c).length<=300*ps.length
 | []=>by simp[catL]
 |p::ps=>by
  have:=Zg4 h c ps
  have h1:=Zrr h c p
  unfold catL at this ⊢
  simp only[List.flatMap_cons,qf,qh];omega
theorem Zfg: ∀ {l:List Int} {k n:Int},QA l->(∀x∈l,k<=x∧x<n)->k<=n->(l.length:Int)<=n-k
 | [],k,n,_,_,h=>by simp;omega
 |a::r,k,n,hr,hb,_=>by
  obtain⟨h1,h2⟩:=List.pairwise_cons.1 hr
  obtain⟨b1,b2⟩:=hb a (by simp)
  have:=Zfg (k:=a+1) (n:=n) h2 (fun x hx=>⟨by have:=h1 x hx;omega,(hb x (List.mem_cons_of_mem _ hx)).2⟩) (by omega)
  simp only[qh];omega
theorem Zrs{a:Au}(h:OkA a){c:Nat}{p x:Int}(hx:x∈Zdo a c p):0<=x∧x<a.sets.length:=by
 unfold Zdo at hx
 split at hx
 ·have hx:=(List.mem_filter.1 hx).1
  by_cases hp:p.toNat<a.follow.length
  ·have e:a.follow.getD p.toNat []=a.follow[p.toNat]:=by simp[hp]
   rw[e]at hx
   exact h.fr (qe hp) x hx
  ·have e:a.follow.getD p.toNat []= []:=by simp[Nat.le_of_not_lt hp]
   rw[e]at hx;cases hx
 ·cases hx
theorem Zrt{a:Au}(h:OkA a){c:Nat}{ps:List Int}{x:Int}(hx:x∈Zep a ps c):0<=x∧x<a.sets.length:=by
 unfold Zep at hx
 rcases Zal.1 hx with hx|hx
 ·cases hx
 ·unfold catL at hx
  obtain⟨p,_,hp⟩:=List.mem_flatMap.1 hx
  exact Zrs h hp
theorem Zru{a:Au}(h:OkA a)(c:Nat)(ps:List Int):(Zep a ps c).length<=300:=by
 have:=Zfg (l:=Zep a ps c) (k:=0) (n:=a.sets.length) (Wa (by simp[QA])) (fun x hx=>Zrt h hx) (by omega)
 have:=h.nsets
 omega

theorem ZDe(hs:ZO UY.P 75)(hcm:ZC UY.P 76){a:Au}(ha:OkA a)(ps:List Int)(c:Nat)(hc:c<256)(hl:ps.length<=2 ^ 10):PCon UY 35 [.agg (auC a),lst encI ps, .i .u8 (c:Nat)] (· =lst encI (Zep a ps c)):=by
 refine ZE UK (fn:=Tryz.f35) rfl ?_
 refine Xm UK (n:=40) (loc:=UY.loc 35) 100 [2,3,7,10,11,12] (by kernel_rfl) ?_
 refine Eq.mpr (ZI7 (row setC a.sets) a.sets.length (row encI a.first) a.first.length (row encI a.last) a.last.length (row ZY a.follow) a.follow.length a.empty (row encI ps) ps.length (c:Nat) .empty _) ?_
 refine⟨rfl,ZL [2,3,7,10,11,12] [2,3,7,10,11,12] (fun m vs h=> ∃(i:Nat) (q:Option (Nat×Nat)) (n:Nat) (cp:Option Nat) (kk:Nat),vs= [.i .u8 (c:Nat), .lb (auC a), .sl q n cp kk,lst encI ps,I ps.length,I (i:Nat)]∧i<=ps.length∧m=ps.length-i∧Lst encI 1 h q n cp kk (catL a (ps.take i) c)∧(catL a (ps.take i) c= []->q=none)) ps.length Zy ⟨0,none,0,some 0,0,rfl,by omega,by omega,Lst.nil _ _ _ _ _,fun _=>rfl⟩ ?_⟩
 rintro m vs h ⟨i,q,n,cp,kk,rfl,hi,rfl,hL,hnil⟩
 refine ZT UK (loc:=UY.loc 35) 100 [2,3,7,10,11,12] ?_
 refine Eq.mpr (ZI8 (row setC a.sets) a.sets.length (row encI a.first) a.first.length (row encI a.last) a.last.length (row ZY a.follow) a.follow.length a.empty (row encI ps) ps.length (c:Nat) q n cp kk (i:Nat) h _) ?_
 refine Zm (fun hlt=> ?_) (fun hge=> ?_)
 ·have hsn:=Zrq a ps c hlt
  have hout:inR a ps[i]=false->Zdo a c ps[i]= []:=fun e=>by unfold Zdo;rw[e];rfl
  have stay:Zdo a c ps[i]= []-> ∃m',m'<ps.length-i∧ ∃(i':Nat) (q':Option (Nat×Nat)) (n':Nat) (cp':Option Nat) (kk':Nat),[V.i .u8 (c:Nat), .lb (auC a), .sl q n cp kk,lst encI ps,I ps.length,I (IntKind.i64.wrap ((i:Nat)+1))]= [.i .u8 (c:Nat), .lb (auC a), .sl q' n' cp' kk',lst encI ps,I ps.length,I (i':Nat)]∧i'<=ps.length∧m'=ps.length-i'∧Lst encI 1 h q' n' cp' kk' (catL a (ps.take i') c)∧(catL a (ps.take i') c= []->q'=none):=fun e=>
   ⟨ps.length-(i+1),by omega,i+1,q,n,cp,kk,by rw[Zh (by omega)],by omega,rfl,by rw[hsn,e,qi];exact hL,by rw[hsn,e,qi];exact hnil⟩
  refine⟨Zz hlt,_,getI ps hlt,Zg (fun g1=>Zg (fun g2=> ?_) (fun g2=>⟨rfl,stay (hout (by rw[Zrp];rw[g1,g2];rfl))⟩)) (fun g1=>⟨rfl,stay (hout (by rw[Zrp];rw[g1];rfl))⟩)⟩
  have hin:inR a ps[i]=true:=by rw[Zrp];rw[g1,g2];rfl
  have g1:0<=ps[i]:=by simpa[leI]using g1
  have g2:ps[i]<a.sets.length:=by simpa[ltI]using g2
  have hp:ps[i].toNat<a.follow.length:=by rw[ha.fl];omega
  have hD:a.follow.getD ps[i].toNat []=a.follow[ps[i].toNat]:=by simp[hp]
  have hnx:Zdo a c ps[i]=havL a.sets a.follow[ps[i].toNat] c:=by unfold Zdo;rw[hin,if_pos rfl,hD]
  have hmem:=qe hp
  have hF:=getL a.follow hp
  rw[qdq]at hF
  have hlen:(catL a (ps.take i) c).length+(havL a.sets a.follow[ps[i].toNat] c).length<2 ^ 29:=by
   have h1:=Zg4 ha c (ps.take i)
   have h2:=Zco a.sets a.follow[ps[i].toNat] c
   have h3:=ha.len hmem
   rw[List.length_take]at h1;omega
  obtain⟨a',l',c',k',h',q1,q2,q3⟩:=ZJe (havL a.sets a.follow[ps[i].toNat] c) hL hlen
  refine⟨⟨g1,by rw[ha.fl];exact g2⟩,_,_,_,hF,_,_,_,Zmx a a.follow[ps[i].toNat] c hc (ha.fr hmem) (by have:=ha.len hmem;omega),a',l',c',k',h',q1,rfl,ps.length-(i+1),by omega,i+1,a',l',c',k',by rw[Zh (by omega)];rfl,by omega,rfl,by rw[hsn,hnx];exact q2,?_⟩
  rw[hsn,hnx]
  exact fun e=>by rw[q3 e,hnil (List.append_eq_nil_iff.1 e).1]
 ·refine Zi [7] ?_
  refine ZB UK (loc:=UY.loc 35) 100 [6] ?_
  refine Eq.mpr (ZI9 ..) ?_
  rw[qt hge]at hL hnil
  have hb36:QV UY 75:=⟨Tryz.f75,_,by kernel_rfl,rfl⟩
  have hb37:QV UY 76:=⟨Tryz.f76,_,by kernel_rfl,rfl⟩
  generalize hz:catL a ps c=zs at hL hnil
  have hzl:zs.length<=300*ps.length:=by rw[<-hz];exact Zg4 ha c ps
  have hres:Zep a ps c=ZX (XV zs):=by unfold Zep;rw[hz,Zi1]
  obtain⟨⟨cells,hI,hcold,hF⟩,hlen⟩:=hL
  rw[rowI]at hF
  have hcs:=frzI hF
  subst hcs
  rcases hI.2 with ⟨rfl,h0,h5⟩|⟨id,rfl,rfl,rfl,h5,h6⟩
  ·have hz0:zs= []:=by cases zs with
    |nil=>rfl
    |cons z r=>simp at h5
   subst hz0 h0
   refine(Ziz hb36 hs).mono fun v h' ⟨e1,e2⟩=>⟨e1,?_⟩
   refine(Zb6 hb37 hcm).mono fun v h' ⟨e1,e2⟩=>⟨_,_,_,_,e1,?_⟩
   refine Zv (.inr rfl) rfl (.sln _ _ none (fun _ h=>by cases h)) ?_
   rw[hres,show XV ([]:List Int)= [] from List.mergeSort_nil]
   rfl
  ·have hne:zs≠ []:=fun e=>by have:=hnil e;cases this
   subst hlen
   refine(Zml hb36 hs h6 hne (by omega)).mono fun v h' ⟨e1,e2⟩=>⟨e1,?_⟩
   subst e2
   have hg:(h.set id (some (.arr (ZV (XV zs)) true))).get id=some (.arr (ZV (XV zs)) true):=by rw[qc,if_pos rfl]
   have hsl:(XV zs).length=zs.length:=List.length_mergeSort _
   have hc2:=Zdq hb37 hcm (c:=none) (k:=1) hg (fun e=>by rw[e]at hsl;exact hne (qg hsl.symm)) (by omega)
   rw[hsl]at hc2
   refine hc2.mono fun v h' ⟨e1,e2⟩=>⟨_,_,_,_,e1,?_⟩
   subst e2
   refine Zv (.inr rfl) rfl (.sl id 0 _ none 1 (ZV (Zq1 (XV zs))) true (ZV (ZX (XV zs))) (ZV (ZX (XV zs))) none (by rw[qc,if_pos rfl]) ?_ (fun _ h=>by cases h) (by decide) ?_) ?_
   ·rw[ql,Nat.mul_one]
    have: ∀(x y:List V),Zo x.length (x++y)=some x:=by
     intro x
     induction x with
     |nil=>intro y;rfl
     |cons v x ih=>intro y;simp[Zo,ih]
    have h2:=this (ZV (ZX (XV zs))) (ZV (List.replicate ((XV zs).length-(ZX (XV zs)).length) 0))
    rw[List.length_map]at h2
    rw[<-h2,ZV,List.map_append]
   ·have:=Zci (ZX (XV zs)) ((h.set id (some (.arr (ZV (XV zs)) true))).set id (some (.arr (ZV (Zq1 (XV zs))) true)))
    rwa [rowI]at this
   ·rw[hres]
    simp only[lst,rowI]
def Tryr.locs:List (List Nat):=(Tryz.locs.set 190 []).set 176 [2]
noncomputable def Tryr.Y:YP:=⟨Go.Proofs.Tryz.prog,Tryz.tys,Tryr.locs,Tryz.modes,[182,5],[(185,1),(197,2)],[26,27,28,31,32,33,34,35]⟩
theorem Tryr.Yok:YOK Tryr.Y:=Zc3 (by kernel_rfl) Tryz.extok
theorem ZJf(a n0 c h K):CP UY 65 (flat (Za Tryz.f65)) (J a n0 none::V.fn (Fn.func 66) [] [.p (some (c,0))]::Rp 7) h [4] K=(Con UY 85 [J a n0 none,V.fn (Fn.func 66) [] [.p (some (c,0))]] h fun(v:V) (h':Heap)=> ∃d,v=I d∧K .ret 9 [.b (leI 0 d)] h'):=by kernel_rfl
theorem ZJg(a n0 c h K):CP UY 66 (flat (Za Tryz.f66)) (J a n0 none::.p (some (c,0))::Rp 6) h [3] K=(∃b,Zb h c 0 1=some [I b]∧ ∃d,(PCon UY 64 [J a n0 none,I b] fun v=>v=.b d)∧K .ret 8 [.b !d] h):=by kernel_rfl
theorem ZJh(a n0 b h K):CP UY 85 (pre (flat (Za Tryz.f85))) (J a n0 none::V.fn (Fn.func 66) [] [.p (some (b,0))]::Rp 17) h [0,1,7,8] K=(K .normal 19 [J a n0 none, .fn (Fn.func 66) [] [.p (some (b,0))],I (n0:Int),I 0] h):=by kernel_rfl
theorem ZJi(a n0 d x8 h K):CP UY 85 (flat (Zx (post (flat (Za Tryz.f85))))) (MZ 19 [0,1,7,8] [J a n0 none,V.fn (Fn.func 66) [] [.p (some (d,0))],I (n0:Int),I x8]) h [0,1,4,7,8] K=(If (ltI x8 n0) ((0<=x8∧x8<n0)∧ ∃b c e,Zo 1 (List.drop (x8.toNat*1) a)=some [J b c e]∧ ∃f,RCon UY 66 [J b c e,.p (some (d,0))] h (.b f)∧If f (K .ret 19 [J a n0 none, .fn (Fn.func 66) [] [.p (some (d,0))],I x8,I (n0:Int),I x8] h) (K .normal 19 [J a n0 none, .fn (Fn.func 66) [] [.p (some (d,0))],Ud,I (n0:Int),I (IntKind.i64.wrap (x8+(1:Int)))] h)) (K (.exit 0) 19 [J a n0 none, .fn (Fn.func 66) [] [.p (some (d,0))],Ud,I (n0:Int),I x8] h)):=by kernel_rfl
theorem ZJj(h K):CP UY 85 ((post (flat (Za Tryz.f85))).drop 1) (MZ 19 [] []) h [4] K=(K .ret 19 [I (-1)] h):=by kernel_rfl
theorem ZJk(a n0 c h K):CP UY 77 (flat (Za Tryz.f77)) (J a n0 none::V.fn (Fn.func 78) [] [.p (some (c,0))]::Rp 7) h [4] K=(Con UY 122 [J a n0 none,V.fn (Fn.func 78) [] [.p (some (c,0))]] h fun(v:V) (h':Heap)=> ∃d,v=I d∧K .ret 9 [.b (leI 0 d)] h'):=by kernel_rfl
theorem ZJl(x0 a h K):CP Tryr.Y 78 (flat (Za Tryz.f78)) (I x0::.p (some (a,0))::Rp 6) h [3] K=(∃b c d,Zb h a 2 1=some [J b c d]∧ ∃e,(PCon Tryr.Y 79 [J b c d,I x0] fun v=>v=.b e)∧K .ret 8 [.b e] h):=by kernel_rfl
theorem ZJm{a n0 x1 h}(K):CP UY 79 (flat (Za Tryz.f79)) (J a n0 none::I x1::Rp 7) h [4] K=(∃c,(PCon UY 123 [J a n0 none,I x1] fun v=>v=I c)∧K .ret 9 [.b (leI 0 c)] h):=by kernel_rfl
theorem ZDf(a n0 b h K):CP UY 122 (pre (flat (Za Tryz.f122))) (J a n0 none::V.fn (Fn.func 78) [] [.p (some (b,0))]::Rp 17) h [0,1,7,8] K=(K .normal 19 [J a n0 none, .fn (Fn.func 78) [] [.p (some (b,0))],I (n0:Int),I 0] h):=by kernel_rfl
theorem ZDg(a n0 c x8 h K):CP UY 122 (flat (Zx (post (flat (Za Tryz.f122))))) (MZ 19 [0,1,7,8] [J a n0 none,V.fn (Fn.func 78) [] [.p (some (c,0))],I (n0:Int),I x8]) h [0,1,4,7,8] K=(If (ltI x8 n0) ((0<=x8∧x8<n0)∧ ∃b,Zo 1 (List.drop (x8.toNat*1) a)=some [I b]∧ ∃d,RCon UY 78 [I b,.p (some (c,0))] h (.b d)∧If d (K .ret 19 [J a n0 none, .fn (Fn.func 78) [] [.p (some (c,0))],I x8,I (n0:Int),I x8] h) (K .normal 19 [J a n0 none, .fn (Fn.func 78) [] [.p (some (c,0))],Ud,I (n0:Int),I (IntKind.i64.wrap (x8+(1:Int)))] h)) (K (.exit 0) 19 [J a n0 none, .fn (Fn.func 78) [] [.p (some (c,0))],Ud,I (n0:Int),I x8] h)):=by kernel_rfl
theorem ZDh(h K):CP UY 122 ((post (flat (Za Tryz.f122))).drop 1) (MZ 19 [] []) h [4] K=(K .ret 19 [I (-1)] h):=by kernel_rfl
theorem ZDi(a n0 x1 h K):CP UY 123 (pre (flat (Za Tryz.f123))) (J a n0 none::I x1::Rp 17) h [0,1,7,8] K=(K .normal 19 [J a n0 none,I x1,I (n0:Int),I 0] h):=by kernel_rfl
theorem ZDj(a n0 x1 x8 h K):CP UY 123 (flat (Zx (post (flat (Za Tryz.f123))))) (MZ 19 [0,1,7,8] [J a n0 none,I x1,I (n0:Int),I x8]) h [0,1,4,7,8] K=(If (ltI x8 n0) ((0<=x8∧x8<n0)∧ ∃b,Zo 1 (List.drop (x8.toNat*1) a)=some [I b]∧If (x1==b) (K .ret 19 [J a n0 none,I x1,I x8,I (n0:Int),I x8] h) (K .normal 19 [J a n0 none,I x1,Ud,I (n0:Int),I (IntKind.i64.wrap (x8+(1:Int)))] h)) (K (.exit 0) 19 [J a n0 none,I x1,Ud,I (n0:Int),I x8] h)):=by kernel_rfl
theorem ZDk(h K):CP UY 123 ((post (flat (Za Tryz.f123))).drop 1) (MZ 19 [] []) h [4] K=(K .ret 19 [I (-1)] h):=by kernel_rfl
end Go.Y
