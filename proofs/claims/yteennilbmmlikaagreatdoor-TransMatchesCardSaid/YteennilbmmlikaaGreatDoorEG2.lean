/- A part of the proof. -/
import Derived.Test.YteennilbmmlikaaGreatDoorGSuA
import Derived.Test.YteennilbmmlikaaGreatDoorYLoop
import Derived.Test.YteennilbmmlikaaGreatDoorGTrL
namespace Go.Y
open Go.Proofs
set_option maxRecDepth 1000000
set_option maxHeartbeats 0
theorem ZA8{k0 p0 p1 p2 p3 a n0 c d m0 s1 e n2 b3 b4 h}(K):CP Tryv.Y 110 (pre (flat (Za Tryz.f110))) (.agg (R9 k0 p0 p1 p2 p3 a n0 none c d m0)::.s s1::J e n2 none::.b b3::.b b4::Rp 138) h [1,2,3,4,5,7,8,11,21] K=(((0:Int)<=wW ((↑s1.length:Int)+(1:Int))/\wW ((↑s1.length:Int)+(1:Int))<=wW ((↑s1.length:Int)+(1:Int))/\wW ((↑s1.length:Int)+(1:Int))<=(most:Int)/\wW ((↑s1.length:Int)+(1:Int))*(↑(1:Nat):Int)<=(most:Int))/\K .normal 143 [.s s1,J e n2 none, .b b3, .b b4, .lb (R9 k0 p0 p1 p2 p3 a n0 none c d m0),Ud,Ud,S (some (h.nx,0)) (wW ((↑s1.length:Int)+(1:Int))).toNat (some (wW ((↑s1.length:Int)+(1:Int))).toNat) 1, .b (k0==(0:Int))] (h.push (YObj.arr (List.replicate (wW ((↑s1.length:Int)+(1:Int))).toNat [.b false]).flatten true))):=kr
theorem ZA9{k0 p0 p1 p2 p3 f n0 g j m0 s1 e n2 b3 b4 a c d h}(K):CP Tryv.Y 110 (flat (QU (post (flat (Za Tryz.f110))))) (MZ 143 [1,2,3,4,5,7,8,11,21] [.s s1,J e n2 none,.b b3,.b b4,.lb (R9 k0 p0 p1 p2 p3 f n0 none g j m0),V.undef,V.undef,S (some (a,0)) c (some d) 1,.b true]) h [11] K=(∃i l,Zky Tryv.Y h 4 (S (some (a,0)) c (some d) 1) (J e n2 none)=some (i,l)/\K .normal 143 [S (some (a,0)) c (some d) 1] i):=kr
theorem JQ{k0 p0 p1 p2 p3 a n0 c d m0 s1 e n2 b3 b4 f g j h}(K):CP Tryv.Y 110 (pre (flat (ZT (post (flat (Za Tryz.f110)))))) (MZ 143 [1,2,3,4,5,7,8,11,21] [.s s1,J e n2 none,.b b3,.b b4,.lb (R9 k0 p0 p1 p2 p3 a n0 none c d m0),V.undef,V.undef,S (some (f,0)) g (some j) 1,.b false]) h [1,2,3,4,5,7,8,11,27] K=(K .normal 143 [.s s1,J e n2 none, .b b3, .b b4, .lb (R9 k0 p0 p1 p2 p3 a n0 none c d m0),Ud,Ud,S (some (f,0)) g (some j) 1, .b (k0==(1:Int))] h):=kr
theorem ZBa{k0 p0 p1 p2 p3 a n0 c d m0 s1 e n2 b3 b4 f g j h}(K):CP Tryv.Y 110 (pre (flat (QU (post (flat (ZT (post (flat (Za Tryz.f110))))))))) (MZ 143 [1,2,3,4,5,7,8,11,27] [.s s1,J e n2 none,.b b3,.b b4,.lb (R9 k0 p0 p1 p2 p3 a n0 none c d m0),V.undef,V.undef,S (some (f,0)) g (some j) 1,.b true]) h [1,2,5,7,11,12] K=(K .normal 143 [.s s1,J e n2 none, .lb (R9 k0 p0 p1 p2 p3 a n0 none c d m0),Ud,S (some (f,0)) g (some j) 1,I 0] h):=kr
theorem WR{k0 p0 p1 p2 p3 a n0 c d m0 s1 e n2 b3 b4 f g j h}(K):CP Tryv.Y 110 (pre (flat (ZT (post (flat (ZT (post (flat (Za Tryz.f110))))))))) (MZ 143 [1,2,3,4,5,7,8,11,27] [.s s1,J e n2 none,.b b3,.b b4,.lb (R9 k0 p0 p1 p2 p3 a n0 none c d m0),V.undef,V.undef,S (some (f,0)) g (some j) 1,.b false]) h [1,2,3,4,5,8,11,52] K=(K .normal 143 [.s s1,J e n2 none, .b b3, .b b4, .lb (R9 k0 p0 p1 p2 p3 a n0 none c d m0),Ud,S (some (f,0)) g (some j) 1, .b (k0==(2:Int))] h):=kr
theorem ZBb{k0 p0 p1 p2 p3 f n0 g j m0 s1 e k b3 b4 a c d h}(K):CP Tryv.Y 110 (flat (QU (post (flat (ZT (post (flat (ZT (post (flat (Za Tryz.f110))))))))))) (MZ 143 [1,2,3,4,5,8,11,52] [.s s1,J e k none,.b b3,.b b4,.lb (R9 k0 p0 p1 p2 p3 f n0 none g j m0),V.undef,S (some (a,0)) c (some d) 1,.b true]) h [11] K=(((0:Int)<=(0:Int)/\(0:Int)<(k:Int))/\ ∃i,Zr 1 e=some [.b i]/\If i (((0:Int)<=(0:Int)/\(0:Int)<(c:Int))/\1=1/\ ∃l,Zi h a 0 [.b b3]=some l/\K .normal 143 [S (some (a,0)) c (some d) 1] l) (((0:Int)<=(0:Int)/\(0:Int)<(c:Int))/\1=1/\ ∃l,Zi h a 0 [.b false]=some l/\K .normal 143 [S (some (a,0)) c (some d) 1] l)):=kr
theorem Zaa{k0 p0 p1 p2 p3 a n0 c d m0 s1 e n2 b3 b4 f g j h}(K):CP Tryv.Y 110 (pre (flat (ZT (post (flat (ZT (post (flat (ZT (post (flat (Za Tryz.f110)))))))))))) (MZ 143 [1,2,3,4,5,8,11,52] [.s s1,J e n2 none,.b b3,.b b4,.lb (R9 k0 p0 p1 p2 p3 a n0 none c d m0),V.undef,S (some (f,0)) g (some j) 1,.b false]) h [1,2,3,4,5,8,11,63] K=(K .normal 143 [.s s1,J e n2 none, .b b3, .b b4, .lb (R9 k0 p0 p1 p2 p3 a n0 none c d m0),Ud,S (some (f,0)) g (some j) 1, .b (k0==(3:Int))] h):=kr
theorem ZBc{k0 p0 p1 p2 p3 f n0 g j m0 s1 e k b3 b4 a c d h}(K):CP Tryv.Y 110 (flat (QU (post (flat (ZT (post (flat (ZT (post (flat (ZT (post (flat (Za Tryz.f110)))))))))))))) (MZ 143 [1,2,3,4,5,8,11,63] [.s s1,J e k none,.b b3,.b b4,.lb (R9 k0 p0 p1 p2 p3 f n0 none g j m0),V.undef,S (some (a,0)) c (some d) 1,.b true]) h [11] K=(((0:Int)<=(↑s1.length:Int)/\(↑s1.length:Int)<(k:Int))/\ ∃i,Zr 1 (List.drop ((↑s1.length:Int).toNat*1) e)=some [.b i]/\If i (((0:Int)<=(↑s1.length:Int)/\(↑s1.length:Int)<(c:Int))/\1=1/\ ∃l,Zi h a ((0:Nat)+(↑s1.length:Int).toNat*1) [.b b4]=some l/\K .normal 143 [S (some (a,0)) c (some d) 1] l) (((0:Int)<=(↑s1.length:Int)/\(↑s1.length:Int)<(c:Int))/\1=1/\ ∃l,Zi h a ((0:Nat)+(↑s1.length:Int).toNat*1) [.b false]=some l/\K .normal 143 [S (some (a,0)) c (some d) 1] l)):=kr
theorem Zch{k0 p0 p1 p2 p3 a n0 c d m0 s1 e n2 b3 b4 f g j h}(K):CP Tryv.Y 110 (pre (flat (ZT (post (flat (ZT (post (flat (ZT (post (flat (ZT (post (flat (Za Tryz.f110))))))))))))))) (MZ 143 [1,2,3,4,5,8,11,63] [.s s1,J e n2 none,.b b3,.b b4,.lb (R9 k0 p0 p1 p2 p3 a n0 none c d m0),V.undef,S (some (f,0)) g (some j) 1,.b false]) h [1,2,3,4,5,11,78] K=(K .normal 143 [.s s1,J e n2 none, .b b3, .b b4, .lb (R9 k0 p0 p1 p2 p3 a n0 none c d m0),S (some (f,0)) g (some j) 1, .b (k0==(4:Int))] h):=kr
theorem Zxp{k0 p0 p1 p2 p3 e n0 f g m0 s1 j n2 b3 b4 a c d h}(K):CP Tryv.Y 110 (pre (flat (QU (post (flat (ZT (post (flat (ZT (post (flat (ZT (post (flat (ZT (post (flat (Za Tryz.f110)))))))))))))))))) (MZ 143 [1,2,3,4,5,11,78] [.s s1,J j n2 none,.b b3,.b b4,.lb (R9 k0 p0 p1 p2 p3 e n0 none f g m0),S (some (a,0)) c (some d) 1,.b true]) h [1,3,4,5,11,13] K=(∃i l,Zky Tryv.Y h 4 (S (some (a,0)) c (some d) 1) (J j n2 none)=some (i,l)/\K .normal 143 [.s s1, .b b3, .b b4, .lb (R9 k0 p0 p1 p2 p3 e n0 none f g m0),S (some (a,0)) c (some d) 1,I 0] i):=kr
theorem Zci{k0 p0 p1 p2 p3 a n0 c d m0 s1 e n2 b3 b4 f g j h}(K):CP Tryv.Y 110 (pre (flat (ZT (post (flat (ZT (post (flat (ZT (post (flat (ZT (post (flat (ZT (post (flat (Za Tryz.f110)))))))))))))))))) (MZ 143 [1,2,3,4,5,11,78] [.s s1,J e n2 none,.b b3,.b b4,.lb (R9 k0 p0 p1 p2 p3 a n0 none c d m0),S (some (f,0)) g (some j) 1,.b false]) h [1,2,3,4,5,11,101] K=(K .normal 143 [.s s1,J e n2 none, .b b3, .b b4, .lb (R9 k0 p0 p1 p2 p3 a n0 none c d m0),S (some (f,0)) g (some j) 1, .b (k0==(5:Int))] h):=kr
theorem Zxq{k0 p0 p1 p2 p3 a n0 c d m0 s1 e n2 b3 b4 f g j h}(K):CP Tryv.Y 110 (pre (flat (QU (post (flat (ZT (post (flat (ZT (post (flat (ZT (post (flat (ZT (post (flat (ZT (post (flat (Za Tryz.f110))))))))))))))))))))) (MZ 143 [1,2,3,4,5,11,101] [.s s1,J e n2 none,.b b3,.b b4,.lb (R9 k0 p0 p1 p2 p3 a n0 none c d m0),S (some (f,0)) g (some j) 1,.b true]) h [1,2,3,4,5,11,14] K=(K .normal 143 [.s s1,J e n2 none, .b b3, .b b4, .lb (R9 k0 p0 p1 p2 p3 a n0 none c d m0),S (some (f,0)) g (some j) 1,I 0] h):=kr
theorem Zgg{k0 p0 p1 p2 p3 f k j m m0 s1 g n2 b3 b4 a d e h}(K):CP Tryv.Y 110 (flat (ZT (post (flat (ZT (post (flat (ZT (post (flat (ZT (post (flat (ZT (post (flat (ZT (post (flat (Za Tryz.f110)))))))))))))))))))) (MZ 143 [1,2,3,4,5,11,101] [.s s1,J g n2 none,.b b3,.b b4,.lb (R9 k0 p0 p1 p2 p3 f k none j m m0),S (some (a,0)) d (some e) 1,.b false]) h [10,11] K=(If (k0==(6:Int)) (Con Tryv.Y 140 [.agg (R9 k0 p0 p1 p2 p3 f k none j m m0),.s s1,J g n2 none,.b b3,.b b4] h fun(v:V) (A:Heap)=> ∃c i l,v=J c i l/\K .ret 143 [J c i l,S (some (a,0)) d (some e) 1] A) (If (k0==(7:Int)) (((0:Int)<=(0:Int)/\(0:Int)<(k:Int))/\ ∃c i l n o p q r t u w,Zr 9 f=some (R9 c i l n o p q r t u w)/\Con Tryv.Y 110 [.agg (R9 c i l n o p q r t u w),.s s1,J g n2 none,.b b3,.b b4] h fun(v:V) (A:Heap)=> ∃x y z,v=J x y z/\K .ret 143 [J x y z,S (some (a,0)) d (some e) 1] A) (K .normal 143 [Ud,S (some (a,0)) d (some e) 1] h))):=kr
theorem Zxr{a b c h}(K):CP Tryv.Y 110 ((post (flat (Za Tryz.f110))).drop 1) (MZ 143 [11] [S (some (a,0)) b (some c) 1]) h [10] K=(K .ret 143 [S (some (a,0)) b (some c) 1] h):=kr
theorem ZHa{k0 p0 p1 p2 p3 g n0 j l m0 s1 f n2 d e m a h}(K):CP Tryv.Y 110 (flat (Zx (post (flat (QU (post (flat (ZT (post (flat (Za Tryz.f110))))))))))) (MZ 143 [1,2,5,7,11,12] [.s s1,J f n2 none,.lb (R9 k0 p0 p1 p2 p3 g n0 none j l m0),V.undef,S (some (d,0)) e (some m) 1,I a]) h [1,2,5,7,11,12] K=(If (ltI a (↑s1.length:Int)) ((0<=a/\a<n2)/\ ∃b,Zr 1 (List.drop (a.toNat*1) f)=some [.b b]/\If b (∃c,((0:Int)<=a/\s1[a.toNat]? =some c)/\ ∃n,(PCon Tryv.Y 124 [.agg [U p0,U p1,U p2,U p3],.i .u8 (↑c.toNat:Int)] λv=>v=.b n)/\((0:Int)<=wW (a+(1:Int))/\wW (a+(1:Int))<(e:Int))/\1=1/\ ∃o,Zi h d ((0:Nat)+(wW (a+(1:Int))).toNat*1) [.b n]=some o/\K .normal 143 [.s s1,J f n2 none, .lb (R9 k0 p0 p1 p2 p3 g n0 none j l m0),Ud,S (some (d,0)) e (some m) 1,I (wW (a+(1:Int)))] o) (((0:Int)<=wW (a+(1:Int))/\wW (a+(1:Int))<(e:Int))/\1=1/\ ∃c,Zi h d ((0:Nat)+(wW (a+(1:Int))).toNat*1) [.b false]=some c/\K .normal 143 [.s s1,J f n2 none, .lb (R9 k0 p0 p1 p2 p3 g n0 none j l m0),Ud,S (some (d,0)) e (some m) 1,I (wW (a+(1:Int)))] c)) (K (.exit 0) 143 [.s s1,J f n2 none, .lb (R9 k0 p0 p1 p2 p3 g n0 none j l m0),Ud,S (some (d,0)) e (some m) 1,I a] h)):=kr
theorem ZBd{k0 p0 p1 p2 p3 d n0 m o m0 s1 e n2 b3 b4 f g j a h}(K):CP Tryv.Y 110 (flat (Zx (post (flat (QU (post (flat (ZT (post (flat (ZT (post (flat (ZT (post (flat (ZT (post (flat (ZT (post (flat (Za Tryz.f110))))))))))))))))))))))) (MZ 143 [1,2,3,4,5,11,14] [.s s1,J e n2 none,.b b3,.b b4,.lb (R9 k0 p0 p1 p2 p3 d n0 none m o m0),S (some (f,0)) g (some j) 1,I a]) h [1,2,3,4,5,11,14] K=(If (ltI a n0) ((0<=a/\a<n0)/\ ∃c i l n p q r t u w x,Zr 9 (List.drop (a.toNat*9) d)=some (R9 c i l n p q r t u w x)/\Con Tryv.Y 110 [.agg (R9 c i l n p q r t u w x),.s s1,J e n2 none,.b b3,.b b4] h fun(v:V) (k:Heap)=> ∃y z A,v=J y z A/\Con Tryv.Y 139 [S (some (f,0)) g (some j) 1,J y z A] k fun(v:V) (k:Heap)=> ∃B,v=.b B/\K .normal 143 [.s s1,J e n2 none, .b b3, .b b4, .lb (R9 k0 p0 p1 p2 p3 d n0 none m o m0),S (some (f,0)) g (some j) 1,I (wW (a+(1:Int)))] k) (K (.exit 4) 143 [.s s1,J e n2 none, .b b3, .b b4, .lb (R9 k0 p0 p1 p2 p3 d n0 none m o m0),S (some (f,0)) g (some j) 1,I a] h)):=kr
theorem Zxs{k0 p0 p1 p2 p3 d n0 e f m0 s1 b3 b4 g j a h}(K):CP Tryv.Y 110 (flat (Zx (post (flat (QU (post (flat (ZT (post (flat (ZT (post (flat (ZT (post (flat (ZT (post (flat (Za Tryz.f110)))))))))))))))))))) (MZ 143 [1,3,4,5,11,13] [.s s1,.b b3,.b b4,.lb (R9 k0 p0 p1 p2 p3 d n0 none e f m0),J g j none,I a]) h [1,3,4,5,11,13] K=(If (ltI a n0) ((0<=a/\a<n0)/\ ∃c i l m n o p q r t u,Zr 9 (List.drop (a.toNat*9) d)=some (R9 c i l m n o p q r t u)/\Con Tryv.Y 110 [.agg (R9 c i l m n o p q r t u),.s s1,J g j none,.b b3,.b b4] h fun(v:V) (k:Heap)=> ∃w x y,v=J w x y/\K .normal 143 [.s s1, .b b3, .b b4, .lb (R9 k0 p0 p1 p2 p3 d n0 none e f m0),J w x y,I (wW (a+(1:Int)))] k) (K (.exit 2) 143 [.s s1, .b b3, .b b4, .lb (R9 k0 p0 p1 p2 p3 d n0 none e f m0),J g j none,I a] h)):=kr
theorem Zxt{a h}(K):CP Tryv.Y 110 ((post (flat (Za Tryz.f110))).drop 1) (MZ 143 [11] [a]) h [10] K=(K .ret 143 [(fun(i:Nat)=>lv i {env:=((mk (143:Nat) ([(11:Nat)].zip [a])).set (142:Nat) (ev (mk (143:Nat) ([(11:Nat)].zip [a])) (Operand.tmp (11:Nat)))).set (10:Nat) (ev ((mk (143:Nat) ([(11:Nat)].zip [a])).set (142:Nat) (ev (mk (143:Nat) ([(11:Nat)].zip [a])) (Operand.tmp (11:Nat)))) (Operand.tmp (142:Nat))),refs:= [],h:=h}) (10:Nat)] h):=kr
theorem Zmj(set): ∀ {s:List UInt8} {fr:List Bool} {i:Nat} (d:i<s.length) (a:i<fr.length) (h:i<(JA set s fr).length),(JA set s fr)[i]=(fr[i]&&hasN set s[i].toNat)
 |c::s,f::fr,0,_,_,_=>rfl
 |c::s,f::fr,i+1,d,a,h=>by
  show(JA set s fr)[i]'_=_;exact Zmj set (by simpa using d) (by simpa using a) (by simpa[JA]using h)
 | [],_,i,d,_,_=>by simp at d
 |_::_,[],i,_,a,_=>by simp at a
def gkRe:Re->Prop
 | .mk k _ a _ _ _=>(k=7->a.length=1)/\gkRes a
where
 gkRes:List Re->Prop
  | []=>True
  |r::l=>gkRe r/\gkRes l
abbrev R110(k:Int)(set:Set4)(a:List Re)(c d n:Int):List V:= [I k,U set.1,U set.2.1,U set.2.2.1,U set.2.2.2,lst Zd a,I c,I d,I n]
abbrev Zxu(l:List Bool):Out->St->Prop:=FinS Tryv.Y Tryz.f110 λv h=> ∃r,Frz h v r/\r=lst Zl l
theorem Vz{a n:Nat}{c:Nat}{h:Heap}{l:List Bool}(d:h.get a=some (.arr (row Zl l) true))(e:n=l.length):
  TriL Tryv.Y ((post (flat (Za Tryz.f110))).drop 1) ⟨mk 143 ([11].zip [.sl (some (a,0)) n (some c) 1]),[],h⟩ (Zxu l):=by
 refine Zo Tryv.Yok Zxr rfl ?_;exact ZB rr rfl (ZA7 l d e) rfl
theorem ZHb{h:Heap}{l} :TriL Tryv.Y ((post (flat (Za Tryz.f110))).drop 1) ⟨mk 143 ([11].zip [lst Zl l]),[],h⟩ (Zxu l):=by
 refine Zo Tryv.Yok Zxt rfl ?_;exact ZB rr rfl (.ts _ _ _ none (λx a=>by cases a)) rfl
theorem ZBe{s:List UInt8}{g o:Bool}(hs:s.length<2 ^ 19){k:Int}{set}{a:List Re}{lo B n:Int}(d2:a.length<2 ^ 19)(c5:nnS set)(h6:k=6->0<=lo/\lo<=8/\a.length=1)(h7:k=7->a.length=1)
  (ih: ∀x∈a,OvR s g o x):OvR s g o (.mk k set a lo B n):=by
 intro fr Z;rw[Zm];refine ZG Tryv.Yok (fn:=Tryz.f110) rfl ?_;refine Zh Tryv.Yok 143 ZA8 rfl ?_;have hw:wW ((s.length:Int)+1)=((s.length+1:Nat):Int):=Ze om;have d0:most=1099511627776:=dc;rw[hw,qdq,XY];obtain⟨h0,e0⟩: ∃h0,h0=Heap.empty.push (.arr (row Zl (Zy (s.length+1))) true):=⟨_,rfl⟩;rw[<-e0];have g0:h0.get Heap.empty.nx=some (.arr (row Zl (Zy (s.length+1))) true):=by rw[e0,qk,uF rfl]
 generalize Heap.empty.nx=O at g0 ⊢;refine⟨⟨om,om,om,om⟩,rfl,?_⟩;have d: ∀l,overF s g o (.mk k set a lo B n) fr=l->FinS Tryv.Y Tryz.f110 (λv h=> ∃r,Frz h v r/\r=lst Zl (overF s g o (.mk k set a lo B n) fr))=Zxu l:=λl e=>by rw[e]
 have F:(Zy (s.length+1)).length=s.length+1:=sm;by_cases k0:k=0
 .subst k0;rw[d fr (by rw[overF,uF rfl])];refine Xy 143 [11] (b:=true) kr kr kr ?_;refine Zn Tryv.Yok ZA9 rfl ?_;obtain⟨kk,a5⟩:=ZG9 (c:=some (s.length+1)) (x:=none) fr _ g0 Z F;exact⟨_,_,a5,rfl,Vz (by rw[qc,uF rfl]) Z.symm⟩
 have b0:(k==0)=false:=by simpa using k0
 rw[b0];by_cases k1:k=1
 .subst k1;rw[d (false::JA set s fr) (by rw[overF,uE k0,uF rfl])];refine Xy 143 [11] (b:=false) kr kr kr ?_;refine Zh Tryv.Yok 143 JQ rfl ?_;refine⟨rfl,Zz (b:=true) kr kr ?_⟩;refine Zh Tryv.Yok 143 ZBa rfl ?_;have a2:=Zgd set s fr om;refine⟨rfl,Zfa [1,2,5,7,11,12] [1,2,5,7,11,12] (λm vs h=> ∃i:Nat,vs= [.s s,lst Zl fr, .lb (R110 1 set a lo B n), .undef, .sl (some (O,0)) (s.length+1) (some (s.length+1)) 1,I (i:Nat)]/\i<=s.length/\m=s.length-i/\
   h.get O=some (.arr (row Zl ((false::(JA set s fr).take i)++Zy (s.length-i))) true)) s.length ZA ⟨0,rfl,om,rfl,by rw[g0];rfl⟩ ?_⟩
  rintro m vs h ⟨i,rfl,b6,rfl,hg⟩;refine Zn Tryv.Yok ZHa rfl ?_;refine Zq (λu=> ?_) (λa8=> ?_)
  .have a4:i<fr.length:=om;have b7:((false::(JA set s fr).take i)++Zy (s.length-i)).length=s.length+1:=by simp[a2];omega
   have nx: ∀v:Bool,v=(fr[i]&&hasN set s[i].toNat)-> ∃w,Zi h O (0+(((i+1:Nat):Int)).toNat*1) [.b v]=some w/\
     w.get O=some (.arr (row Zl ((false::(JA set s fr).take (i+1))++Zy (s.length-(i+1)))) true):=λv K=>by
    refine⟨_,ZM hg (by rw[XD,b7];simp;omega),?_⟩;rw[qc,uF rfl,show 0+(((i+1:Nat):Int)).toNat*1=i+1 from sm,JC _ _ _ (by rw[b7];omega)]
    congr 3
    have A:(JA set s fr).take (i+1)=(JA set s fr).take i++ [v]:=by
     rw[qa om,Zmj set u a4 om,K]
    have b8:(false::(JA set s fr).take i).length=i+1:=by simp[a2];omega
    rw[A,List.set_append_right _ _ (by rw[b8];exact qnq _),b8,vK];obtain⟨j,hj⟩: ∃j,s.length-i=j+1:=⟨s.length-i-1,om⟩;rw[hj,show s.length-(i+1)=j from om];simp[Zy,uZ]
   have c8:wW ((i:Int)+1)=((i+1:Nat):Int):=Ze om;rw[c8];refine⟨Zu a4,_,QX fr a4,Zf (λL=> ?_) (λL=> ?_)⟩
   .have c4:s[((i:Nat):Int).toNat]? =some s[i]:=by rw[qdq];exact qo u
    obtain⟨w,W,H⟩:=nx (hasN set s[i].toNat) (by rw[L];simp);exact⟨s[i],⟨om,c4⟩,_,PCon.zv (Zqt set c5 s[i].toNat (s[i].toNat_lt)),⟨om,om⟩,rfl,w,W,rfl,s.length-(i+1),om,i+1,rfl,om,rfl,H⟩
   .obtain⟨w,W,H⟩:=nx false (by rw[L];simp);exact⟨⟨om,om⟩,rfl,w,W,rfl,s.length-(i+1),om,i+1,rfl,om,rfl,H⟩
  .have he:i=s.length:=om;subst he;rw[vK]at hg;refine ZU rfl ⟨rfl,Vz (l:=false::JA set s fr) ?_ (by simp[a2])⟩;rw[hg];rw[qt om];simp[Zy]
 have C: ∀(i:Nat) (v:Bool),i<s.length+1-> ∃w,Zi h0 O (0+((i:Nat):Int).toNat*1) [.b v]=some w/\w.get O=some (.arr (row Zl ((Zy (s.length+1)).set i v)) true):=λi v B=>by
  refine⟨_,ZM g0 (by rw[XD,F];simp;omega),?_⟩;rw[qc,uF rfl,show 0+((i:Nat):Int).toNat*1=i from sm,JC _ _ _ (by rw[F];exact B)]
 by_cases k2:k=2
 .subst k2;rw[d ((fr.getD 0 false&&g)::Zy s.length) (by rw[overF,uE k0,uE k1,uF rfl])];refine Xy 143 [11] (b:=false) kr kr kr ?_;refine Zh Tryv.Yok 143 JQ rfl ?_;refine⟨rfl,Zz (b:=false) kr kr ?_⟩;refine Zh Tryv.Yok 143 WR rfl ?_;refine⟨rfl,Zz (b:=true) kr kr ?_⟩;refine Zn Tryv.Yok ZBb rfl ?_;have E:0<fr.length:=om;have a3:fr.getD 0 false=fr[0]:=by rw[qw,qo E];rfl
  rw[a3];refine⟨⟨om,om⟩,fr[0],Zcg fr E,Zf (λL=> ?_) (λL=> ?_)⟩
  .obtain⟨w,W,H⟩:=C 0 g om;exact⟨⟨om,om⟩,rfl,w,W,rfl,Vz (by rw[H,L];rfl) sm⟩
  .obtain⟨w,W,H⟩:=C 0 false om;exact⟨⟨om,om⟩,rfl,w,W,rfl,Vz (by rw[H,L];rfl) sm⟩
 by_cases k3:k=3
 .subst k3;rw[d (Zy s.length++ [fr.getD s.length false&&o]) (by rw[overF,uE k0,uE k1,uE k2,uF rfl])];refine Xy 143 [11] (b:=false) kr kr kr ?_;refine Zh Tryv.Yok 143 JQ rfl ?_;refine⟨rfl,Zz (b:=false) kr kr ?_⟩;refine Zh Tryv.Yok 143 WR rfl ?_;refine⟨rfl,Zz (b:=false) kr kr ?_⟩;refine Zh Tryv.Yok 143 Zaa rfl ?_;refine⟨rfl,Zz (b:=true) kr kr ?_⟩;refine Zn Tryv.Yok ZBc rfl ?_;have E:s.length<fr.length:=om;have a3:fr.getD s.length false=fr[s.length]:=by rw[qw,qo E];rfl
  have a0: ∀v:Bool,(Zy (s.length+1)).set s.length v=Zy s.length++ [v]:=λv=>by
   show(List.replicate (s.length+1) false).set s.length v=_;rw[List.replicate_succ',List.set_append_right _ _ sm];simp
  rw[a3];refine⟨Zu E,fr[s.length],QX fr E,Zf (λL=> ?_) (λL=> ?_)⟩
  .obtain⟨w,W,H⟩:=C s.length o om;exact⟨⟨om,om⟩,rfl,w,W,rfl,Vz (by rw[H,L,a0];rfl) sm⟩
  .obtain⟨w,W,H⟩:=C s.length false om;exact⟨⟨om,om⟩,rfl,w,W,rfl,Vz (by rw[H,L,a0];rfl) sm⟩
 have P: ∀(i:Nat) (B:i<a.length),∃(xk:Int) (D:Set4) (xl:List Re) (y z xn:Int),a[i]= .mk xk D xl y z xn/\Zr 9 (List.drop (((i:Nat):Int).toNat*9) (row Zd a))=some [I xk,U D.1,U D.2.1,U D.2.2.1,U D.2.2.2,lst Zd xl,I y,I z,I xn]/\
   ∀(t:List Bool) (h:Heap),t.length=s.length+1->Con Tryv.Y 110 [.agg [I xk,U D.1,U D.2.1,U D.2.2.1,U D.2.2.2,lst Zd xl,I y,I z,I xn], .s s,lst Zl t, .b g, .b o] h λv h'=>v=lst Zl (overF s g o a[i] t)/\h'=h:=λi B=>by
  have ho:=ih a[i] (qe B);have hr:=Xp (f:=Zd) (k:=9) ZW B;generalize a[i]=x at ho hr;obtain⟨xk,D,xl,y,z,xn⟩:=x;refine⟨xk,D,xl,y,z,xn,rfl,?_,λt h A=> ?_⟩
  .rw[qdq,hr,Zm]
  .have:=ho.con A h;rw[Zm]at this;exact this
 by_cases k4:k=4
 .subst k4;rw[d (overF.cats s g o a fr) (by rw[overF,uE k0,uE k1,uE k2,uE k3,uF rfl])];refine Xy 143 [11] (b:=false) kr kr kr ?_;refine Zh Tryv.Yok 143 JQ rfl ?_;refine⟨rfl,Zz (b:=false) kr kr ?_⟩;refine Zh Tryv.Yok 143 WR rfl ?_;refine⟨rfl,Zz (b:=false) kr kr ?_⟩;refine Zh Tryv.Yok 143 Zaa rfl ?_;refine⟨rfl,Zz (b:=false) kr kr ?_⟩;refine Zh Tryv.Yok 143 Zch rfl ?_;refine⟨rfl,Zz (b:=true) kr kr ?_⟩;refine Zh Tryv.Yok 143 Zxp rfl ?_;obtain⟨kk,a5⟩:=ZG9 (c:=some (s.length+1)) (x:=none) fr _ g0 Z F;have b9:(h0.set O (some (.arr (row Zl fr) true))).get O=some (.arr (row Zl fr) true):=by rw[qc,uF rfl]
  refine⟨_,_,a5,rfl,?_⟩;refine Zcf [O] [1,3,4,5,11,13] kr (.cons _ _ _ _ (.same _) (.cons _ _ _ _ (.same _) (.cons _ _ _ _ (.same _) (.cons _ _ _ _ (.same _) (.cons _ _ _ _ (.frz _ _ (frzB fr b9 Z.symm sm)) (.cons _ _ _ _ (.same _) .nil)))))) ?_;refine Zfa [1,3,4,5,11,13] [1,3,4,5,11,13] (λm vs h=> ∃(i:Nat) (t:List Bool),vs= [.s s, .b g, .b o, .lb (R110 4 set a lo B n),lst Zl t,I (i:Nat)]/\i<=a.length/\m=a.length-i/\t=overF.cats s g o (a.take i) fr) a.length ZA ⟨0,fr,rfl,om,rfl,by rw[uQ,overF.cats]⟩ ?_;rintro m vs h ⟨i,t,rfl,b6,rfl,A⟩;have X:t.length=s.length+1:=by rw[A];exact Zju s g o _ _ Z
  refine Zn Tryv.Yok Zxs rfl ?_;refine Zq (λu=> ?_) (λa8=> ?_)
  .obtain⟨xk,D,xl,y,z,xn,he,N,G⟩:=P i u;refine⟨Zu u,_,_,_,_,_,_,_,_,_,_,_,N,(G t h X).mono λv h' ⟨K,_⟩=>⟨_,_,_,K,rfl,a.length-(i+1),om,i+1,overF s g o a[i] t,?_,om,rfl,?_⟩⟩
   .rw[Ze om];rfl
   .rw[qa u,Zmg,A]
  .have he:i=a.length:=om;subst he;rw[qm]at A;rw[<-A];exact ZU rfl ⟨rfl,ZHb⟩
 by_cases k5:k=5
 .subst k5;rw[d (overF.alts s g o a fr (Zy (s.length+1))) (by rw[overF,uE k0,uE k1,uE k2,uE k3,uE k4,uF rfl])];refine Xy 143 [11] (b:=false) kr kr kr ?_;refine Zh Tryv.Yok 143 JQ rfl ?_;refine⟨rfl,Zz (b:=false) kr kr ?_⟩;refine Zh Tryv.Yok 143 WR rfl ?_;refine⟨rfl,Zz (b:=false) kr kr ?_⟩;refine Zh Tryv.Yok 143 Zaa rfl ?_;refine⟨rfl,Zz (b:=false) kr kr ?_⟩;refine Zh Tryv.Yok 143 Zch rfl ?_;refine⟨rfl,Zz (b:=false) kr kr ?_⟩;refine Zh Tryv.Yok 143 Zci rfl ?_;refine⟨rfl,Zz (b:=true) kr kr ?_⟩;refine Zh Tryv.Yok 143 Zxq rfl ?_;refine⟨rfl,Zfa [1,2,3,4,5,11,14] [1,2,3,4,5,11,14] (λm vs h=> ∃(i:Nat) (t:List Bool),vs= [.s s,lst Zl fr, .b g, .b o, .lb (R110 5 set a lo B n), .sl (some (O,0)) (s.length+1) (some (s.length+1)) 1,I (i:Nat)]/\i<=a.length/\m=a.length-i/\t=overF.alts s g o (a.take i) fr (Zy (s.length+1))/\h.get O=some (.arr (row Zl t) true)) a.length ZA ⟨0,Zy (s.length+1),rfl,om,rfl,by rw[uQ,overF.alts],g0⟩ ?_⟩;rintro m vs h ⟨i,t,rfl,b6,rfl,A,hg⟩;have X:t.length=s.length+1:=by rw[A];exact Zjv s g o _ _ _ Z F
  refine Zn Tryv.Yok ZBd rfl ?_;refine Zq (λu=> ?_) (λa8=> ?_)
  .obtain⟨xk,D,xl,y,z,xn,he,N,G⟩:=P i u;have c9:=JB s g o a[i] fr Z;refine⟨Zu u,_,_,_,_,_,_,_,_,_,_,_,N,(G fr h Z).mono λv h' ⟨K,hh⟩=>⟨_,_,_,K,?_⟩⟩;subst hh;refine(Zjx (n:=s.length+1) (c0:=some (s.length+1)) (to:=t) (more:=overF s g o a[i] fr) X.symm (by rw[X,c9]) om hg).mono λv w ⟨K,c6,_,_⟩=>⟨_,K,rfl,a.length-(i+1),om,i+1,_,?_,om,rfl,?_,c6⟩
   .rw[Ze om];rfl
   .rw[qa u,Zmh,A]
  .have he:i=a.length:=om;subst he;rw[qm]at A;rw[<-A];exact ZU rfl ⟨rfl,Vz hg X.symm⟩
 by_cases k6:k=6
 .subst k6;obtain⟨a7,a9,a6⟩:=h6 rfl;obtain⟨x,rfl⟩:=List.length_eq_one_iff.1 a6;have a1:=Zxo (set:=set) (hi:=B) (n:=n) hs a7 a9 (ih x (.head _)) Z;have c7:(λt=>overF.heads s g o [x] t)=overF s g o x:=funext λt=>by rw[overF.heads]
  rw[d (Vy (overF s g o x) (s.length+1) lo B fr) (by rw[overF,uE k0,uE k1,uE k2,uE k3,uE k4,uE k5,uF rfl,c7])];rw[Zm]at a1;refine Xy 143 [10,11] (b:=false) kr kr kr ?_;refine Zh Tryv.Yok 143 JQ rfl ?_;refine⟨rfl,Zz (b:=false) kr kr ?_⟩;refine Zh Tryv.Yok 143 WR rfl ?_;refine⟨rfl,Zz (b:=false) kr kr ?_⟩;refine Zh Tryv.Yok 143 Zaa rfl ?_;refine⟨rfl,Zz (b:=false) kr kr ?_⟩;refine Zh Tryv.Yok 143 Zch rfl ?_;refine⟨rfl,Zz (b:=false) kr kr ?_⟩;refine Zh Tryv.Yok 143 Zci rfl ?_;refine⟨rfl,Zz (b:=false) kr kr ?_⟩;refine Zn Tryv.Yok Zgg rfl ?_;refine ifT rfl ((Con.ofP [] (FrzAL.refl _) a1).mono λv h' ⟨K,_⟩=>⟨_,_,_,K,?_⟩);exact ZZ rr rfl ⟨_, .ts _ _ _ none (λx hx=>by cases hx),rfl⟩
 by_cases k7:k=7
 .subst k7;have a6:=h7 rfl;obtain⟨x,rfl⟩:=List.length_eq_one_iff.1 a6;rw[d (overF s g o x fr) (by rw[overF,uE k0,uE k1,uE k2,uE k3,uE k4,uE k5,uE k6,uF rfl,overF.heads])];refine Xy 143 [10,11] (b:=false) kr kr kr ?_;refine Zh Tryv.Yok 143 JQ rfl ?_;refine⟨rfl,Zz (b:=false) kr kr ?_⟩;refine Zh Tryv.Yok 143 WR rfl ?_;refine⟨rfl,Zz (b:=false) kr kr ?_⟩;refine Zh Tryv.Yok 143 Zaa rfl ?_;refine⟨rfl,Zz (b:=false) kr kr ?_⟩;refine Zh Tryv.Yok 143 Zch rfl ?_;refine⟨rfl,Zz (b:=false) kr kr ?_⟩;refine Zh Tryv.Yok 143 Zci rfl ?_;refine⟨rfl,Zz (b:=false) kr kr ?_⟩;refine Zn Tryv.Yok Zgg rfl ?_;obtain⟨xk,D,xl,y,z,xn,he,N,G⟩:=P 0 sm;refine ifF rfl (ifT rfl ⟨⟨om,sm⟩,_,_,_,_,_,_,_,_,_,_,_,N,(G fr h0 Z).mono λv h' ⟨K,_⟩=>⟨_,_,_,K,?_⟩⟩);exact ZZ rr rfl ⟨_, .ts _ _ _ none (λx hx=>by cases hx),rfl⟩
 .have b1:(k==1)=false:=by simpa using k1
  have b2:(k==2)=false:=by simpa using k2
  have b3:(k==3)=false:=by simpa using k3
  have b4:(k==4)=false:=by simpa using k4
  have b5:(k==5)=false:=by simpa using k5
  rw[d (Zy (s.length+1)) (by rw[overF,uE k0,uE k1,uE k2,uE k3,uE k4,uE k5,uE k6,uE k7])];refine Xy 143 [11] (b:=false) kr kr kr ?_;refine Zh Tryv.Yok 143 JQ rfl ?_;rw[b1];refine⟨rfl,Zz (b:=false) kr kr ?_⟩;refine Zh Tryv.Yok 143 WR rfl ?_;rw[b2];refine⟨rfl,Zz (b:=false) kr kr ?_⟩;refine Zh Tryv.Yok 143 Zaa rfl ?_;rw[b3];refine⟨rfl,Zz (b:=false) kr kr ?_⟩;refine Zh Tryv.Yok 143 Zch rfl ?_;rw[b4];refine⟨rfl,Zz (b:=false) kr kr ?_⟩;refine Zh Tryv.Yok 143 Zci rfl ?_;rw[b5];refine⟨rfl,Zz (b:=false) kr kr ?_⟩;refine Zi7 Tryv.Yok Zgg rfl ?_;refine ifF (by simpa using k6) (ifF (by simpa using k7) ?_);refine λd1 A=> ?_;obtain⟨τ,q1,q2⟩:=A;simp only[qz,List.map_nil,List.cons.injEq,and_true]at q1 q2;rw[q1.2]at q2;subst q2;exact⟨rfl,Vz g0 F.symm⟩
mutual
theorem Zjy{s:List UInt8}{bg en:Bool}(f:s.length<2 ^ 19){B:Nat}(g:B<2 ^ 19): ∀r:Re,wfRe B r->nnRe r->gkRe r->OvR s bg en r
 | .mk k set a l j n,h,c,d=>by
  rw[wfRe]at h;rw[nnRe]at c;rw[gkRe]at d;exact ZBe f (by have:=h.2.2.1;omega) c.1 (λe=>⟨(h.1 e).1,(h.1 e).2.1,(h.1 e).2.2.2⟩) d.1 (Zmk f g a h.2.2.2 c.2 d.2)
theorem Zmk{s:List UInt8}{c d:Bool}(j:s.length<2 ^ 19){B:Nat}(k:B<2 ^ 19): ∀l:List Re,wfRe.wfRes B l->nnRe.nnRes l->gkRe.gkRes l-> ∀x∈l,OvR s c d x
 | [],_,_,_=>λx a=>by cases a
 |r::l,h,f,g=>λx a=>by
  rw[wfRe.wfRes]at h;rw[nnRe.nnRes]at f;rw[gkRe.gkRes]at g;have m:OvR s c d r:=Zjy j k r h.1 f.1 g.1;have n: ∀x∈l,OvR s c d x:=Zmk j k l h.2 f.2 g.2;rcases qu.1 a with e|a
  .exact e▸m
  .exact n x a
end
end Go.Y
