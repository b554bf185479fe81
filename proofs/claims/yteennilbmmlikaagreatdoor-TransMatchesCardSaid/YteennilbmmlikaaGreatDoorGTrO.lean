/- A part of the proof. -/
import Derived.Test.YteennilbmmlikaaGreatDoorGTrL
import Derived.Test.YteennilbmmlikaaGreatDoorYAny3
import Derived.Test.YteennilbmmlikaaGreatDoorYLoop
import Derived.Test.YteennilbmmlikaaGreatDoorGReD
import Derived.Test.YteennilbmmlikaaGreatDoorYExo
import Derived.Test.YteennilbmmlikaaGreatDoorGN0
import Derived.Test.YteennilbmmlikaaGreatDoorYFrz
namespace Go.Y
open Go.Proofs
set_option maxRecDepth 1000000
set_option maxHeartbeats 0
def TxR(r:Re):Prop:=PCon UY 37 [.agg (Zd r)] (· = .s (textF r))
theorem Zoi{k:Int}{l:List Re}(h:cntN.cntsN l<=10000)(i:Nat):(textF.textsF k false (l.take i)).length<=14000000:=by
 have a:=Zc9 k l i;have c:=Zc7 k false l;omega
theorem Zsq{B:Nat}(hB:B<2 ^ 20){k:Int}{s}{a:List Re}{y v n:Int}(w:wfRe B (.mk k s a y v n))(F:nnS s)(u:cntN.cntsN a<=10000)(ih: ∀x∈a,TxR x/\(textF x).length<=14000000):TxR (.mk k s a y v n):=by
 unfold TxR;rw[wfRe]at w;obtain⟨h6,o,hl,_⟩:=w;rw[ZJ,textF];refine ZG UK (fn:=Tryz.f37) rfl ?_;refine Zh UK 58 ZRu rfl ?_;refine Zf (λK=> ?_) (λK=>Zf (λL=> ?_) (λL=>Zf (λG=> ?_) (λG=> ?_)))
 .have f:k=1:=by simpa using K
  subst f;have c:=o dc dc dc dc;subst c;refine⟨_,ZAm s F,fin1 rr rfl (.s _) ?_⟩;simp[preT,Zaf,textF.textsF]
 .have f:k=2:=by simpa using L
  subst f;have c:=o dc dc dc dc;subst c;refine fin1 rr rfl (.s _) ?_;simp[preT,Zaf,textF.textsF]
 .have f:k=3:=by simpa using G
  subst f;have c:=o dc dc dc dc;subst c;refine fin1 rr rfl (.s _) ?_;simp[preT,Zaf,textF.textsF]
 have C:=λi=>Zoi (k:=k) u i;refine⟨rfl,ZN [1,2,3,4] [1,2,3,4] (λm N g=> ∃i:Nat,N= [.lb [I k,U s.1,U s.2.1,U s.2.2.1,U s.2.2.2,lst Zd a,I y,I v,I n], .s [], .s (textF.textsF k false (a.take i)),I (i:Nat)]/\i<=a.length/\m=a.length-i) a.length ZA ⟨0,rfl,om,om⟩ ?_⟩;rintro m N g ⟨i,rfl,a2,rfl⟩;refine Zn UK ZRv rfl ?_;have D:=C i;refine Zq (λj=> ?_) (λa0=> ?_)
 .obtain⟨r,H⟩:=ih a[i] (qe j);unfold TxR at r;have d:=Za4 j;have e:=Zfs k a j;generalize textF a[i]=t at r H e;generalize a[i]=x at r d;obtain⟨xk,xs,xl,a1,a3,xn⟩:=x;rw[Zm]at d;rw[ZJ]at r;have E:=Zu j;refine Xr (λh0=>Zf (λA=> ?_) (λA=> ?_)) (λh0=> ?_)
  .refine⟨by simp only[qh,qp];omega,E,_,_,_,_,_,_,_,_,_,_,_,d,_,r,by simp only[qf,qh,qp];omega,rfl,a.length-(i+1),om,i+1,?_,om,rfl⟩;rw[Ze om,e,uF ⟨om,A⟩,<-uU];rfl
  .refine⟨E,_,_,_,_,_,_,_,_,_,_,_,d,_,r,om,rfl,a.length-(i+1),om,i+1,?_,om,rfl⟩;rw[Ze om,e,uE (λh=>by rw[h.2]at A;cases A),qy];rfl
  .refine⟨E,_,_,_,_,_,_,_,_,_,_,_,d,_,r,om,rfl,a.length-(i+1),om,i+1,?_,om,rfl⟩;rw[Ze om,e,uE (λh=>om),qy];rfl
 .have W:i=a.length:=om;subst W;rw[qm]at D;refine Zj [1,3] ?_;refine Zo UK ZRw rfl ?_;rw[qm];refine Zf (λz=> ?_) (λz=>Zf (λl=> ?_) (λl=> ?_))
  .have f:k=7:=by simpa using z
   subst f;refine⟨by simp only[qh,qp];omega,by simp only[qf,qh,qp];omega,ZB rr rfl (.s _) ?_⟩;simp[preT,Zaf]
  .have f:k=6:=by simpa using l
   subst f;obtain⟨P,O,Z,_⟩:=h6 rfl;have a4:=Zfq y v;refine⟨_,Zwy ⟨P,O⟩ Z,om,ZB rr rfl (.s _) ?_⟩;simp[preT,Zaf]
  .refine ZB rr rfl (.s _) ?_;have e1:preT k s= []:=by unfold preT;rw[uE (by rw[K];decide),uE (by rw[L];decide),uE (by rw[G];decide),uE (by rw[z];decide)]
   have X:Zaf k y v= []:=by unfold Zaf;rw[uE (by rw[l];decide),uE (by rw[z];decide)]
   rw[e1,X,qy,qi]
mutual
theorem Zoj{B:Nat}(e:B<2 ^ 20): ∀r:Re,wfRe B r->nnRe r->cntN r<=10000->TxR r
 | .mk k s a j g n,h,c,f=>by
  have d:=h;rw[wfRe]at d;rw[nnRe]at c;rw[cntN]at f;exact Zsq e h c.1 om (Zqw e a d.2.2.2 c.2 om)
theorem Zqw{B:Nat}(d:B<2 ^ 20): ∀l:List Re,wfRe.wfRes B l->nnRe.nnRes l->cntN.cntsN l<=10000-> ∀x∈l,TxR x/\(textF x).length<=14000000
 | [],_,_,_,x,a=>by cases a
 |r::l,h,c,g,x,a=>by
  rw[wfRe.wfRes]at h;rw[nnRe.nnRes]at c;rw[cntN.cntsN]at g;have f:=Zoj d r h.1 c.1 om;have j:=Zqw d l h.2 c.2 om;have k:=Vn r;rcases qu.1 a with e|a
  .rw[e];exact⟨f,om⟩
  .exact j x a
end
structure FineR(r:Re):Prop where
 wf:wfRe 1000 r
 nn:nnRe r
 cnt:cntN r<=10000
theorem ZAn(r:Re):mayE r=((formF r 0 0 0).1&&decide ((textF r).length<=200)):=by rw[ZFy];rfl
theorem Zf8{r}(h:FineR r):PCon UY 42 [.agg (Zd r)] (· = .b (mayE r)):=by
 have d:=Zoj (B:=1000) dc r h.wf h.nn h.cnt;have f:=ZLw (B:=1000) dc r h.wf 0 0 0;unfold TxR at d;rw[ZAn];generalize formF r 0 0 0=q at f;generalize textF r=t at d;have hp:PCon UY 93 [.agg (Zd r)] (· =if q.1=false then .tup [.s [],I 5]else if 200<t.length then .tup [.s [],I 2]else .tup [.s t,I 0]):=by
  obtain⟨k,o,l,e,g,m⟩:=r;rw[ZJ]at d f ⊢;refine Zw UK (fn:=Tryz.f93) rfl ZRy rfl ?_;refine⟨_,_,f,Zf (λa=> ?_) (λa=>⟨_,d,Xr (λn=> ?_) (λn=> ?_)⟩)⟩
  .have a:q.1=false:=by simpa using a
   exact Zcb rr rfl (.s _) (.i _ _) (by rw[uF a])
  .have a:q.1=true:=by simpa using a
   exact Zcb rr rfl (.s _) (.i _ _) (by rw[uE (by rw[a];decide),uF om])
  .have a:q.1=true:=by simpa using a
   exact Zcb rr rfl (.s _) (.i _ _) (by rw[uE (by rw[a];decide),uE om])
 obtain⟨k,o,l,e,g,m⟩:=r;rw[ZJ]at hp ⊢;refine Zw UK (fn:=Tryz.f42) rfl ZRx rfl ?_;by_cases c:q.1=false
 .rw[uF c]at hp;exact⟨_,_,hp,ZB rr rfl (.b _) (by rw[c];rfl)⟩
 .rw[uE c]at hp;have c:q.1=true:=by simpa using c
  by_cases j:200<t.length
  .rw[uF j]at hp;exact⟨_,_,hp,ZB rr rfl (.b _) (by rw[c,uK om];rfl)⟩
  .rw[uE j]at hp;exact⟨_,_,hp,ZB rr rfl (.b _) (by rw[c,uN om];rfl)⟩
theorem Zjn(t):FineR (ereL t):=⟨Zlz t,ZCs t,by have:=Zof t;omega⟩
theorem Zl5(k:Int)(t):PCon UY 15 [.agg [I k, .s t]] (· = .b (mayP k t)):=by
 refine Zw UK (fn:=Tryz.f15) rfl ZRb rfl ?_;generalize a:mayP k t=M;unfold mayP at a;refine Zf (λg=> ?_) (λg=> ?_)
 .rw[uF g]at a;exact ZB rr rfl (.b _) (by rw[a])
 rw[uE (by rw[g];decide)]at a;refine Zf (λf=> ?_) (λf=> ?_)
 .rw[uF f]at a;have hp:=Zdf t;rw[Vu]at hp;exact⟨_,_,_,_,_,hp,ZB rr rfl (.b _) (by rw[a])⟩
 rw[uE (by rw[f];decide)]at a;refine Zf (λh=> ?_) (λh=> ?_)
 .rw[uF h]at a;have hp:=Zdd t;rw[Wr]at hp;have c:=Zf8 (Zjn t);revert a c hp;generalize ereL t=x;generalize ereE t=e;intro a hp c;obtain⟨m,r,n,l,j,o⟩:=x;rw[ZJ]at c hp;refine⟨_,_,_,_,_,_,_,_,_,_,_,_,_,hp,Zf (λd=> ?_) (λd=> ?_)⟩
  .rw[uF d]at a;exact⟨_,c,ZB rr rfl (.b _) (by rw[a])⟩
  .rw[uE (by rw[d];decide)]at a;exact ZB rr rfl (.b _) (by rw[a])
 .rw[uE (by rw[h];decide)]at a;exact ZB rr rfl (.b _) (by rw[a])
theorem VZ{l}(a:FewL l)(c:nnRe.nnRes l):FineR (sevS 4 l):=⟨a.re,Zl2 c,by have d:=Zc6 4 l;have e:=a.cnt;omega⟩
def Zsr(r:Re)(e:Int):V:= .tup [.agg (Zd r), .i .i64 e]
theorem ZF2:wfRe 1000 Xs:=by unfold Xs;rw[wfRe];exact⟨λh=>absurd h dc,λ_ _ _ _=>rfl,dc,by rw[wfRe.wfRes];trivial⟩
end Go.Y
namespace Go.Proofs.YteennilbmmlikaaGreatDoor
open Go.Y Go.RowKit
open Go.Proofs
set_option maxRecDepth 100000
theorem own:ownKnob Tryz.prog.godebug=none:=kr
theorem Zok:laidOutB Tryz.prog=true:=kr
theorem shp9{n:Nat}{vs}(h:Shp UY n 9 vs): ∃s:List UInt8,vs= [.s s]:=by
 obtain⟨s,h,_⟩:=ZD0 kr h;exact⟨s,h⟩
theorem ZRz{n:Nat}{vs}(h:Shp UY n 44 vs): ∃x:Int×List UInt8,vs= [I x.1, .s x.2]:=by
 obtain⟨m,rfl,h⟩:=Zry (show UY.kd 44=some (.struct [(0,3),(1,9)]) from kr) h;obtain⟨a,b,rfl,e,c,d,rfl,f,rfl⟩:=h;obtain⟨k,rfl,_⟩:=ZDz (show UY.kd 3=some (.int .i64) from kr) e;obtain⟨p,rfl⟩:=shp9 f;exact⟨(k,p),rfl⟩
theorem Zw3: ∀n,Zaw UY n 9=true
 |0=>kr
 |n+1=>kr
theorem ZAo: ∀n,Zaw UY n 44=true
 |0=>kr
 |1=>kr
 |n+2=>kr
end Go.Proofs.YteennilbmmlikaaGreatDoor
namespace Go.Y
open Go.Proofs
set_option maxRecDepth 1000000
set_option maxHeartbeats 0
def Tryd.locs:List (List Nat):=Tryz.locs.set 38 [2,4,30,81]
noncomputable def Tryd.Y:YP:=⟨Go.Proofs.Tryz.prog,Tryz.tys,Tryd.locs,Tryz.modes,[182,5],[(185,1),(197,2)],[26,27,28,32]⟩
theorem Tryd.Yok:YOK Tryd.Y:=Vg kr Tryz.extok
theorem ZL1{a o0 c c0 b h}(K):CP Tryd.Y 85 (pre (flat (Za Tryz.f85))) (S (some (a,o0)) c c0 1::V.fn (.func 86) [] [.p (some (b,0))]::Rp 17) h [0,1,7,8] K=(K .normal 19 [S (some (a,o0)) c c0 1, .fn (Fn.func 86) [] [.p (some (b,0))],I (c:Int),I 0] h):=kr
theorem ZL2{a o0 g c0 d x8 h}(K):CP Tryd.Y 85 (flat (Zx (post (flat (Za Tryz.f85))))) (MZ 19 [0,1,7,8] [S (some (a,o0)) g c0 1,V.fn (Fn.func 86) [] [.p (some (d,0))],I (g:Int),I x8]) h [0,1,4,7,8] K=(If (ltI x8 g) ((0<=x8/\x8<g)/\1=1/\ ∃b c e,Zb h a (o0+x8.toNat*1) 1=some [J b c e]/\ ∃f,RCon Tryd.Y 86 [J b c e,.p (some (d,0))] h (.b f)/\If f (K .ret 19 [S (some (a,o0)) g c0 1, .fn (Fn.func 86) [] [.p (some (d,0))],I x8,I (g:Int),I x8] h) (K .normal 19 [S (some (a,o0)) g c0 1, .fn (Fn.func 86) [] [.p (some (d,0))],Ud,I (g:Int),I (wW (x8+(1:Int)))] h)) (K (.exit 0) 19 [S (some (a,o0)) g c0 1, .fn (Fn.func 86) [] [.p (some (d,0))],Ud,I (g:Int),I x8] h)):=kr
theorem ZL3{h}(K):CP Tryd.Y 85 ((post (flat (Za Tryz.f85))).drop 1) (MZ 19 [] []) h [4] K=(K .ret 19 [I (-1)] h):=kr
theorem ZL4{a g d h}(K):CP Tryd.Y 86 (flat (Za Tryz.f86)) (J a g none::.p (some (d,0))::Rp 5) h [3] K=(∃b c e,Zb h d 0 1=some [J b c e]/\ ∃f,(PCon Tryd.Y 87 [J a g none,J b c e] λv=>v=.b f)/\K .ret 7 [.b f] h):=kr
theorem ZR0{e f a d g j m n o x1 h}(K):CP UY 83 (flat (Za Tryz.f83)) (.agg [J e f none,J a d none,J g j none,J m n none,.b o]::.i .u8 x1::Rp 11) h [4] K=(∃c,(PCon UY 26 [.agg [J e f none,J a d none,J g j none,J m n none,.b o]] λv=>v=.b c)/\If (!c) (K .ret 13 [S0] h) (∃l p q,(PCon UY 34 [.agg [J e f none,J a d none,J g j none,J m n none,.b o],J a d none,.i .u8 x1] λv=>v=J l p q)/\K .ret 13 [J l p q] h)):=kr
theorem ZR1{a d e f g j m n o p n1 x2 h}(K):CP UY 84 (flat (Za Tryz.f84)) (.agg [J a d none,J e f none,J g j none,J m n none,.b o]::J p n1 none::.i .u8 x2::Rp 11) h [6] K=(∃c,(PCon UY 26 [.agg [J a d none,J e f none,J g j none,J m n none,.b o]] λv=>v=.b c)/\If (!c) (K .ret 14 [S0] h) (∃l q r,(PCon UY 35 [.agg [J a d none,J e f none,J g j none,J m n none,.b o],J p n1 none,.i .u8 x2] λv=>v=J l q r)/\K .ret 14 [J l q r] h)):=kr
theorem ZR2{a c d e f g i j l m n1 h}(K):CP UY 88 (flat (Za Tryz.f88)) (.agg [J a c none,J d e none,J f g none,J i j none,.b l]::J m n1 none::Rp 10) h [4] K=(∃n,(PCon UY 26 [.agg [J a c none,J d e none,J f g none,J i j none,.b l]] λv=>v=.b n)/\If n (∃o,(PCon UY 36 [.agg [J a c none,J d e none,J f g none,J i j none,.b l],J m n1 none] λv=>v=.b o)/\K .ret 12 [.b o] h) (K .ret 12 [.b false] h)):=kr
theorem ZF3{a c h}(K):CP UY 163 (pre (flat (Za Tryz.f163))) (J a c none::Rp 24) h [0,3,4] K=(If (ltI (c:Int) (1:Int)) False (((0:Int)<=(0:Int)/\(0:Int)<(c:Int))/\ ∃b,Zr 1 a=some [I b]/\K .normal 25 [J a c none,I b,I 1] h)):=kr
theorem ZF4{a n0 x3 x4 h}(K):CP UY 163 (flat (Zx (post (flat (Za Tryz.f163))))) (MZ 25 [0,3,4] [J a n0 none,I x3,I x4]) h [0,3,4] K=(If (ltI x4 n0) ((0<=x4/\x4<n0)/\ ∃b,Zr 1 (List.drop (x4.toNat*1) a)=some [I b]/\K .normal 25 [J a n0 none,I ((fun(x y:Int)=>if y>x then y else x) x3 b),I (wW (x4+(1:Int)))] h) (K (.exit 0) 25 [J a n0 none,I x3,I x4] h)):=kr
theorem ZF5{x3 h}(K):CP UY 163 ((post (flat (Za Tryz.f163))).drop 1) (MZ 25 [3] [I x3]) h [2] K=(K .ret 25 [I x3] h):=kr
theorem ZF6{a c h}(K):CP UY 164 (pre (flat (Za Tryz.f164))) (J a c none::Rp 24) h [0,3,4] K=(If (ltI (c:Int) (1:Int)) False (((0:Int)<=(0:Int)/\(0:Int)<(c:Int))/\ ∃b,Zr 1 a=some [I b]/\K .normal 25 [J a c none,I b,I 1] h)):=kr
theorem ZF7{a n0 x3 x4 h}(K):CP UY 164 (flat (Zx (post (flat (Za Tryz.f164))))) (MZ 25 [0,3,4] [J a n0 none,I x3,I x4]) h [0,3,4] K=(If (ltI x4 n0) ((0<=x4/\x4<n0)/\ ∃b,Zr 1 (List.drop (x4.toNat*1) a)=some [I b]/\K .normal 25 [J a n0 none,I ((fun(x y:Int)=>if y<x then y else x) x3 b),I (wW (x4+(1:Int)))] h) (K (.exit 0) 25 [J a n0 none,I x3,I x4] h)):=kr
theorem ZF8{x3 h}(K):CP UY 164 ((post (flat (Za Tryz.f164))).drop 1) (MZ 25 [3] [I x3]) h [2] K=(K .ret 25 [I x3] h):=kr
theorem ZL5{a d c e h}(K):CP UY 87 (pre (flat (Za Tryz.f87))) (J a d none::J c e none::Rp 24) h [0,1,4,12,13] K=(If ((↑d:Int) !=(e:Int)) (K .ret 26 [J a d none,J c e none, .b false,Ud,Ud] h) (K .normal 26 [J a d none,J c e none, .b false,I (d:Int),I 0] h)):=kr
theorem ZL6{c g d n1 a h}(K):CP UY 87 (flat (Zx (post (flat (Za Tryz.f87))))) (MZ 26 [0,1,12,13] [J c g none,J d n1 none,I (g:Int),I a]) h [0,1,4,12,13] K=(If (ltI a g) ((0<=a/\a<g)/\ ∃e,Zr 1 (List.drop (a.toNat*1) c)=some [I e]/\(0<=a/\a<n1)/\ ∃f,Zr 1 (List.drop (a.toNat*1) d)=some [I f]/\If (e !=f) (K .ret 26 [J c g none,J d n1 none, .b false,I (g:Int),I a] h) (K .normal 26 [J c g none,J d n1 none,Ud,I (g:Int),I (wW (a+(1:Int)))] h)) (K (.exit 0) 26 [J c g none,J d n1 none,Ud,I (g:Int),I a] h)):=kr
theorem ZL7{h}(K):CP UY 87 ((post (flat (Za Tryz.f87))).drop 1) (MZ 26 [] []) h [4] K=(K .ret 26 [.b true] h):=kr
end Go.Y
namespace Go.Y
set_option maxRecDepth 1000000
set_option maxHeartbeats 0
def keyN(a:List Set4)(c:Nat):List UInt8:=a.map λs=>if hasN s c then 1 else 0
def srtS(a:List Set4):Nat->List Nat×List Nat
 |0=>([],[])
 |c+1=>
  let p:=srtS a c
  match p.2.findIdx? λd=>keyN a c==keyN a d with
  |some k=>(p.1++ [k],p.2)
  |none=>(p.1++ [p.2.length],p.2++ [c])
theorem WO(a:List Set4): ∀c,(srtS a c).1.length=c/\(srtS a c).2.length<=c
 |0=>⟨rfl,Nat.le_refl _⟩
 |c+1=>by
  obtain⟨d,e⟩:=WO a c;rw[srtS];split
  .simp only[List.length_append,List.length_cons,List.length_nil];omega
  .simp only[List.length_append,List.length_cons,List.length_nil];omega
theorem Zw4(a:List Set4): ∀c,∀d∈(srtS a c).2,d<c
 |0=>λd h=>by cases h
 |c+1=>λd h=>by
  have e:=Zw4 a c;rw[srtS]at h;split at h
  .have:=e d h;omega
  .rcases List.mem_append.1 h with h|h
   .have:=e d h;omega
   .simp at h;omega
theorem Zqx(a:List Set4): ∀c,0<(srtS a (c+1)).2.length
 |0=>by rw[srtS];simp[srtS]
 |c+1=>by
  have d:=Zqx a c;rw[srtS];split
  .exact d
  .simp
theorem Zl6(a:List Set4)(c:Nat)(h:0<c):0<(srtS a c).2.length:=by
 cases c with
 |zero=>omega
 |succ c=>exact Zqx a c
def esM(a:List Set4)(le:List Nat):List (V×V):=le.zipIdx.map λx=>(V.s (keyN a x.1),V.i .i64 (x.2:Nat))
theorem ZAp(a:List Set4)(le:List Nat)(c:Nat):esM a (le++ [c])=esM a le++ [(V.s (keyN a c),V.i .i64 (le.length:Nat))]:=by
 unfold esM;rw[List.zipIdx_append,uV];simp
theorem ZF9(k x:List UInt8)(v:V):Jk .str (.s k) (.s x,v)=(k==x):=rfl
theorem Zw5(a:List Set4)(k:List UInt8): ∀(le:List Nat) (n:Nat),XT .str (.s k) ((le.zipIdx n).map λx=>(V.s (keyN a x.1),V.i .i64 (x.2:Nat)))=(le.findIdx? λd=>k==keyN a d).map λi=>V.i .i64 ((i+n:Nat):Int)
 | [],n=>rfl
 |d::le,n=>by
  rw[List.zipIdx_cons,List.map_cons,XT,ZF9,List.findIdx?_cons];by_cases h:(k==keyN a d)=true
  .rw[uF h,uF h];simp
  .rw[uE h,uE h,Zw5 a k le (n+1)]
   cases le.findIdx? λd=>k==keyN a d with
   |none=>rfl
   |some i=>simp;omega
theorem Zjo(a:List Set4)(k): ∀(le:List Nat) (n:Nat),Xa .str (.s k) ((le.zipIdx n).map λx=>(V.s (keyN a x.1),V.i .i64 (x.2:Nat)))=true
 | [],n=>rfl
 |d::le,n=>by
  rw[List.zipIdx_cons,List.map_cons,Xa,Zjo a k le (n+1)];rfl
theorem ZCw(k)(v): ∀(a:List (V×V)),XT .str (.s k) a=none->Xv .str (.s k) v a=a++ [(.s k,v)]
 | [],_=>rfl
 |e::a,h=>by
  rw[XT]at h;split at h
  .cases h
  .rename_i c;rw[Xv,uE c,ZCw k v a h];rfl
def clsC(a:List Nat):List V:=a.map (λk=>V.i .i64 (k:Nat))++List.replicate (256-a.length) (V.i .i64 0)
theorem Zjp(a:List Nat)(h:a.length<=256):(clsC a).length=256:=by unfold clsC;simp;omega
theorem Zjq{a:Type} : ∀(l:List a) (x y:a) (m:List a),splice (l++x::m) l.length [y]=l++y::m
 | [],x,y,m=>rfl
 |v::l,x,y,m=>by
  show v::splice (l++x::m) l.length [y]=_;rw[Zjq l x y m];rfl
theorem Zqy(a:List Nat)(k:Nat)(h:a.length<256):splice (clsC a) a.length [V.i .i64 (k:Nat)]=clsC (a++ [k]):=by
 unfold clsC;have e:256-a.length=(256-(a++ [k]).length)+1:=by simp;omega
 rw[e,uZ];have c:a.length=(a.map λk=>V.i .i64 ((k:Nat):Int)).length:=sm;rw[c,Zjq];simp
def Zce(T:List (List Int))(l:List Int):Option Nat:=T.findIdx? λx=>x==l
def stD(a:Au)(at_:Nat)(T:List (List Int))(c:Nat):List Int:=if 0<at_ then Zgv a (T.getD (at_-1) []) c else havL a.sets a.first c
def rowD(a:Au)(most at_:Nat):List Nat->List (List Int)->List Int->Option (List (List Int)×List Int)
 | [],T,r=>some (T,r)
 |c::cs,T,r=>match Zce T (stD a at_ T c) with
  |some i=>rowD a most at_ cs T (r++ [((i+1:Nat):Int)])
  |none=>if most<=T.length+1 then none else rowD a most at_ cs (T++ [stD a at_ T c]) (r++ [((T.length+1:Nat):Int)])
def Zol(a:Au)(at_:Nat)(T:List (List Int)):Bool:=if at_=0 then a.empty else Zfi a (T.getD (at_-1) [])
def JZ(a:Au)(most:Nat)(le:List Nat):Nat->Nat->List (List Int)->List (List Int)->List Bool->Option (List (List Int)×List Bool)
 |0,_,_,N,G=>some (N,G)
 |f+1,at_,T,N,G=>if at_<T.length+1 then match rowD a most at_ le T [] with
   |none=>none
   |some (c,r)=>JZ a most le f (at_+1) c (N++ [r]) (G++ [Zol a at_ c])
  else some (N,G)
theorem Zw6{a:Au}(d:OkA a)(at_:Nat)(T:List (List Int))(c:Nat):(stD a at_ T c).length<=300:=by
 unfold stD;split
 .exact Zvw d c _
 .exact uu (Zed _ _ _) d.nfirst
structure TOk(most:Nat)(T:List (List Int)):Prop where
 len:T.length+1<=most
 el: ∀x∈T,x.length<=300
theorem Zom{a:Au}(l:OkA a){most at_:Nat} : ∀ {k:List Nat} {T:List (List Int)} {r:List Int} {e:List (List Int)} {g:List Int},TOk most T->rowD a most at_ k T r=some (e,g)->
  TOk most e/\g.length=r.length+k.length/\T.length<=e.length/\ ∃X,e=T++X
 | [],T,r,e,g,f,h=>by
  rw[rowD]at h;cases h;exact⟨f,rfl,qnq _,[],sm⟩
 |c::k,T,r,e,g,f,h=>by
  rw[rowD]at h;split at h
  .obtain⟨m,o,j,X,n⟩:=Zom l f h;exact⟨m,by simp at o ⊢;omega,j,X,n⟩
  .split at h
   .cases h
   .rename_i t;obtain⟨m,o,j,X,n⟩:=Zom l (T:=T++ [stD a at_ T c]) ⟨by simp;omega,λx d=>by
     rcases qA.1 d with d|d
     .exact f.el x d
     .simp at d;subst d;exact Zw6 l _ _ _⟩ h
    exact⟨m,by simp at o ⊢;omega,by simp at j;omega,_,by rw[n,uU]⟩
end Go.Y
namespace Go.Y
open Go.Proofs
set_option maxRecDepth 1000000
set_option maxHeartbeats 0
theorem PCon.dz{f:FuncId}{args}{Q:V->Prop}(c:PCon Tryd.Y f args Q):PCon UY f args Q:=⟨c.body,c.tr⟩
theorem PCon.zd{f:FuncId}{args}{Q:V->Prop}(c:PCon UY f args Q):PCon Tryd.Y f args Q:=⟨c.body,c.tr⟩
/-! ### nfa's -/
theorem ZGa{a:Au}(d:OkA a)(c:Nat)(f:c<256):PCon UY 83 [.agg (auC a), .i .u8 (c:Nat)] (· =lst encI (havL a.sets a.first c)):=by
 refine Zw UK (fn:=Tryz.f83) rfl ZR0 rfl ?_;have e:=may7 a d.small;rw[d.may]at e;exact⟨true,e,ifF rfl ⟨_,_,_,Zqb a a.first c f d.first (by have:=d.nfirst;omega),ZB rr rfl (.ts _ _ _ none (λx g=>by cases g)) rfl⟩⟩
theorem ZL8(g:ZY UY.P 75)(d:ZF UY.P 76){a:Au}(e:OkA a)(ps:List Int)(c:Nat)(j:c<256)(k:ps.length<=2 ^ 10):PCon UY 84 [.agg (auC a),lst encI ps, .i .u8 (c:Nat)] (· =lst encI (Zgv a ps c)):=by
 refine Zw UK (fn:=Tryz.f84) rfl ZR1 rfl ?_;have f:=may7 a e.small;rw[e.may]at f;exact⟨true,f,ifF rfl ⟨_,_,_,ZI9 g d e ps c j k,ZB rr rfl (.ts _ _ _ none (λx h=>by cases h)) rfl⟩⟩
theorem ZL9{a:Au}(c:OkA a)(ps:List Int)(e:ps.length<=2 ^ 10):PCon UY 88 [.agg (auC a),lst encI ps] (· = .b (Zfi a ps)):=by
 refine Zw UK (fn:=Tryz.f88) rfl ZR2 rfl ?_;have d:=may7 a c.small;rw[c.may]at d;exact⟨true,d,ifT rfl ⟨_,ZJh c.nlast ps e,ZB rr rfl (.b _) rfl⟩⟩
/-! ### slices.Equal -/
theorem ZGb{x y:List Int}{i:Nat}(d:i<x.length)(f:i<y.length):(x.take (i+1)==y.take (i+1))=((x.take i==y.take i)&&(x[i]==y[i])):=by
 rw[qa d,qa f,Bool.eq_iff_iff];simp only[vM,qrq];constructor
 .intro h;have e:(x.take i).length=(y.take i).length:=by simp;omega
  obtain⟨a,c⟩:=List.append_inj h e;exact⟨a,by simpa using c⟩
 .rintro⟨a,c⟩;rw[a,c]
theorem ZGc(x y:List Int)(r:x.length<2 ^ 20):PCon UY 87 [lst encI x,lst encI y] (· = .b (x==y)):=by
 refine ZG UK (fn:=Tryz.f87) rfl ?_;refine Zh UK 26 ZL5 rfl ?_;refine Zf (λc=> ?_) (λf=> ?_)
 .have c:x.length≠y.length:=by
   intro e;rw[e]at c;simp at c
  refine ZZ rr rfl ⟨_, .b _,?_⟩;have:(x==y)=false:=by
   rw[Bool.eq_false_iff];intro h;rw[eq_of_beq h]at c;exact c rfl
  rw[this]
 have f:x.length=y.length:=by
  have:((x.length:Nat):Int)=(y.length:Nat):=by simpa using f
  omega
 refine⟨rfl,ZN [0,1,12,13] [0,1,4,12,13] (λm k _=> ∃i:Nat,k= [lst encI x,lst encI y,I x.length,I (i:Nat)]/\i<=x.length/\(x.take i==y.take i)=true/\m=x.length-i) x.length ZA ⟨0,rfl,om,rfl,om⟩ ?_⟩;rintro m k h ⟨i,rfl,t,a,rfl⟩;refine Zn UK ZL6 rfl ?_;refine Zq (λg=> ?_) (λn=> ?_)
 .have d:i<y.length:=om;have l:=ZGb g d;refine⟨Zu g,_,getI x g,Zu d,_,getI y d,Zf (λj=> ?_) (λj=> ?_)⟩
  .refine ZZ rr rfl ⟨_, .b _,?_⟩;have:(x==y)=false:=by
    rw[Bool.eq_false_iff];intro h;have h:=eq_of_beq h;subst h;simp at j
   rw[this]
  .refine⟨rfl,x.length-(i+1),om,i+1,by rw[Ze om];rfl,om,?_,rfl⟩;rw[l,a];simpa using j
 .have o:i=x.length:=om;subst o;refine Zj [] ?_;refine Zo UK ZL7 rfl ?_;rw[qm,f,qm]at a;exact ZB rr rfl (.b _) (by rw[a])
/-! ### a list among lists -/
theorem ZGd(x l:List Int)(d:x.length<2 ^ 20){h:Heap}{a:Nat}(c:h.get a=some (.arr [lst encI l] true)):Con Tryd.Y 86 [lst encI x, .p (some (a,0))] h λv e=>v= .b (x==l)/\e=h:=by
 refine Zv Tryd.Yok (fn:=Tryz.f86) (Zo Tryd.Yok ZL4 rfl ?_);exact⟨_,_,_,by rw[Zs c];rfl,_,PCon.zd (ZGc x l d),finC rr rfl (.now ⟨rfl,rfl⟩)⟩
theorem ZMa(x l:List Int)(c:x.length<2 ^ 20){h:Heap}{a:Nat}(d:h.get a=some (.arr [lst encI l] true)):RCon Tryd.Y 86 [lst encI x, .p (some (a,0))] h (.b (x==l)):=
 ⟨h,ZGd x l c d,λ_ _=>rfl,λ_ hp=>hp⟩
theorem ZGe(T:List (List Int))(l:List Int)(t: ∀x∈T,x.length<2 ^ 20)(u:T.length<2 ^ 20){h:Heap}{id0 o0 id:Nat}{pre:List V}{c:Option Nat}(y:h.get id0=some (.arr (pre++T.map (lst encI)) true))(w:o0=pre.length)(r:h.get id=some (.arr [lst encI l] true)):
  Con Tryd.Y 85 [.sl (some (id0,o0)) T.length c 1, .fn (.func 86) [] [.p (some (id,0))]] h λv g=>v= I (match Zce T l with|some i=>((i:Nat):Int)|none=> -1)/\g=h:=by
 refine Zv Tryd.Yok (fn:=Tryz.f85) ?_;refine Zh Tryd.Yok 19 ZL1 rfl ?_;refine⟨rfl,ZN [0,1,7,8] [0,1,4,7,8] (λm o g=> ∃i:Nat,o= [.sl (some (id0,o0)) T.length c 1, .fn (.func 86) [] [.p (some (id,0))],I T.length,I (i:Nat)]/\i<=T.length/\Zce (T.take i) l=none/\m=T.length-i/\g=h) T.length ZA ⟨0,rfl,om,rfl,om,rfl⟩ ?_⟩;rintro m o g ⟨i,rfl,z,a,rfl,rfl⟩;refine Zn Tryd.Yok ZL2 rfl ?_;refine Zq (λd=> ?_) (λk=> ?_)
 .have f:Zb g id0 (o0+((i:Nat):Int).toNat*1) 1=some [lst encI T[i]]:=by
   rw[Zs y,qdq,w,uY,List.drop_append,qB om,qy,show pre.length+i-pre.length=i from om,uM (by simpa using d)];simp[Zr]
  have n:T.take (i+1)=T.take i++ [T[i]]:=qa d;have j:Zce (T.take (i+1)) l=if T[i]==l then some i else none:=by
   unfold Zce at a ⊢;rw[n,List.findIdx?_append,a];simp only[List.findIdx?_cons,List.findIdx?_nil,uO];by_cases e:(T[i]==l)=true
   .rw[uF e,uF e];simp;omega
   .rw[uE e,uE e];rfl
  refine⟨Zu d,rfl,_,_,_,f,_,ZMa T[i] l (t _ (qe d)) r,Zf (λe=> ?_) (λe=> ?_)⟩
  .refine ZZ rr rfl (.now ⟨?_,rfl⟩);rw[uF e]at j;have:Zce T l=some i:=by
    unfold Zce at j ⊢;rw[<-vL (i+1) T,List.findIdx?_append,j];rfl
   rw[this];rfl
  .refine⟨rfl,T.length-(i+1),om,i+1,by rw[Ze om];rfl,om,?_,rfl,rfl⟩;rw[j,uE (by rw[e];decide)]
 .refine Zj [] ?_;refine Zo Tryd.Yok ZL3 rfl ?_;rw[qt k]at a;exact finC rr rfl (.now ⟨by rw[a];rfl,rfl⟩)
/-! ### slices.Max, Min -/
def maxZ:List Int->Int
 | []=>0
 |x::r=>r.foldl (λx y=>if y>x then y else x) x
def minZ:List Int->Int
 | []=>0
 |x::r=>r.foldl (λx y=>if y<x then y else x) x
theorem Zw7{l:List Int}{i:Nat}(c:0<i)(a:i<l.length):maxZ (l.take (i+1))=if l[i]>maxZ (l.take i)then l[i]else maxZ (l.take i):=by
 rw[qa a]
 cases l with
 |nil=>simp at a
 |cons x r=>
  obtain⟨j,rfl⟩: ∃j,i=j+1:=⟨i-1,om⟩;simp only[List.take_succ_cons,qs,maxZ,List.foldl_append,uR,List.foldl_nil];rfl
theorem Zw8{l:List Int}{i:Nat}(c:0<i)(a:i<l.length):minZ (l.take (i+1))=if l[i]<minZ (l.take i)then l[i]else minZ (l.take i):=by
 rw[qa a]
 cases l with
 |nil=>simp at a
 |cons x r=>
  obtain⟨j,rfl⟩: ∃j,i=j+1:=⟨i-1,om⟩;simp only[List.take_succ_cons,qs,minZ,List.foldl_append,uR,List.foldl_nil];rfl
theorem ZCx(l:List Int)(g:l≠ [])(k:l.length<2 ^ 20):PCon UY 163 [lst encI l] (· = I (maxZ l)):=by
 have f:0<l.length:=List.length_pos_iff.2 g;refine ZG UK (fn:=Tryz.f163) rfl ?_;refine Zh UK 25 ZF3 rfl ?_;refine Zq (b:=1) (λh=>om) (λ_=>⟨⟨om,om⟩,l[0],(getI l f:_),?_⟩);refine⟨rfl,ZN [0,3,4] [0,3,4] (λm e _=> ∃i:Nat,e= [lst encI l,I (maxZ (l.take i)),I (i:Nat)]/\0<i/\i<=l.length/\l.length<=m+i) l.length ZA ⟨1,?_,om,om,om⟩ ?_⟩
 .cases l with
  |nil=>simp at f
  |cons x r=>rfl
 rintro m e h ⟨i,rfl,c,n,j⟩;refine Zn UK ZF4 rfl ?_;refine Zq (λa=> ?_) (λd=> ?_)
 .refine⟨Zu a,_,getI l a,rfl,l.length-(i+1),om,i+1,?_,om,om,om⟩;rw[Ze om,Zw7 c a];rfl
 .refine Zj [3] ?_;refine Zo UK ZF5 rfl ?_;rw[qt d];exact ZB rr rfl (.i _ _) rfl
theorem ZCy(l:List Int)(g:l≠ [])(k:l.length<2 ^ 20):PCon UY 164 [lst encI l] (· = I (minZ l)):=by
 have f:0<l.length:=List.length_pos_iff.2 g;refine ZG UK (fn:=Tryz.f164) rfl ?_;refine Zh UK 25 ZF6 rfl ?_;refine Zq (b:=1) (λh=>om) (λ_=>⟨⟨om,om⟩,l[0],(getI l f:_),?_⟩);refine⟨rfl,ZN [0,3,4] [0,3,4] (λm e _=> ∃i:Nat,e= [lst encI l,I (minZ (l.take i)),I (i:Nat)]/\0<i/\i<=l.length/\l.length<=m+i) l.length ZA ⟨1,?_,om,om,om⟩ ?_⟩
 .cases l with
  |nil=>simp at f
  |cons x r=>rfl
 rintro m e h ⟨i,rfl,c,n,j⟩;refine Zn UK ZF7 rfl ?_;refine Zq (λa=> ?_) (λd=> ?_)
 .refine⟨Zu a,_,getI l a,rfl,l.length-(i+1),om,i+1,?_,om,om,om⟩;rw[Ze om,Zw8 c a];rfl
 .refine Zj [3] ?_;refine Zo UK ZF8 rfl ?_;rw[qt d];exact ZB rr rfl (.i _ _) rfl
def Za9:List V->Nat
 | .sl none _ _ _::_=>1
 | .sl (some _) _ _ _::_=>2
 | .b _::_=>3
 | .i k n::r=>if((V.i k n)::r).length<=256 then 4 else 5
 |_=>0
structure FrK(q n:Nat)(h h':Heap):Prop where
 nx:h.nx<=h'.nx
 keep: ∀j cs wr,j<h.nx->h.get j=some (.arr cs wr)->(Za9 cs≠q∨j<n)->h'.get j=h.get j
theorem FrK.of{q n:Nat}{h a:Heap}(e:h.nx<=a.nx)(d: ∀j,j<h.nx->a.get j=h.get j):FrK q n h a:=⟨e,λj _ _ c _ _=>d j c⟩
def LN(h:Heap)(a:Option (Nat×Nat))(l:Nat)(c:Option Nat)(k:Nat)(cells:List V):Prop:=
 (a=none/\l=0/\cells= [])\/ ∃j,a=some (j,0)/\c=none/\k=1/\j<h.nx/\h.get j=some (.arr cells true)/\cells≠ []/\l=cells.length
theorem LN.nil(h)(c)(k:Nat):LN h none 0 c k []:= .inl ⟨rfl,rfl,rfl⟩
theorem LN.isL{h}{a}{l:Nat}{c}{k:Nat}{cells}(o:LN h a l c k cells):IsL h 1 a l c k cells:=by
 rcases o with ⟨rfl,rfl,rfl⟩|⟨j,rfl,rfl,rfl,d,e,f,rfl⟩
 .exact IsL.nil _ _ _ _
 .exact⟨sm, .inr ⟨j,rfl,rfl,rfl,d,e⟩⟩
theorem LN.len{h}{a}{l:Nat}{c}{k:Nat}{cells:List V}(o:LN h a l c k cells):l=cells.length:=by
 rcases o with ⟨rfl,rfl,rfl⟩|⟨j,rfl,rfl,rfl,e,f,d,rfl⟩<;>rfl
theorem LN.of{h f:Heap}{a}{l:Nat}{c}{k:Nat}{cells}(o:IsL f 1 a l c k cells)(g: ∃j,a=some (j,0)/\h.nx<=j)(d:cells≠ []):LN f a l c k cells:=by
 rcases o.2 with ⟨rfl,_,_⟩|⟨r,rfl,rfl,rfl,n,m⟩
 .obtain⟨j,e,_⟩:=g;cases e
 .exact .inr ⟨r,rfl,rfl,rfl,n,m,d,by have:=o.1;omega⟩
theorem LN.keep{q n:Nat}{h d}{a}{l:Nat}{c}{k:Nat}{cells}(o:LN h a l c k cells)(f:FrK q n h d)(t:Za9 cells≠q\/ ∀j,a=some (j,0)->j<n):LN d a l c k cells:=by
 rcases o with u|⟨j,rfl,rfl,rfl,e,m,r,rfl⟩
 .exact .inl u
 .exact .inr ⟨j,rfl,rfl,rfl,qv e f.nx,by rw[f.keep j _ _ e m (t.imp id λg=>g j rfl),m],r,rfl⟩
theorem ZCz{q n:Nat}{h g}{a}{l:Nat}{c}{k:Nat}{cells}(o:LN h a l c k cells)(u:cells≠ []->Za9 cells=q)(v: ∀j,a=some (j,0)->n<=j)(f:Fr h a g):FrK q n h g:=by
 refine⟨f.1,λj x wr t m d=>f.2 j t λy e=> ?_⟩;rcases o with ⟨rfl,_⟩|⟨z,rfl,_,_,_,w,r,_⟩
 .cases e
 .cases e;rw[w]at m;cases m;rcases d with d|d
  .exact d (u r)
  .have:=v j rfl;omega
theorem appN{Y:YP}{st e:TypeId}{te:TI}{q n:Nat}{h:Heap}{a:Option (Nat×Nat)}{l:Nat}{c:Option Nat}{k:Nat}{cells:List V}(v:V)(F:Y.kd st=some (.slice e))(u:Y.ty e=some te)(y:te.size=1)(w:te.bytes<=1024)(A:Zp [v]=true)
  (o:LN h a l c k cells) (G:cells.length<2 ^ 29) (z:cells≠ []->Za9 cells=q) (D: ∀j,a=some (j,0)->n<=j):
  ∃f g t r d,Zk Y h st st (.sl a l c k) (.ts [v] 1 (some 1))=some (.sl f g t r,d)/\LN d f g t r (cells++ [v])/\FrK q n h d/\ ∃j,f=some (j,0)/\h.nx<=j:=by
 have L:most=1099511627776:=dc;have H:=o.len;have N:(l+1)*te.bytes<=2 ^ 29*1024:=Nat.mul_le_mul om w;obtain⟨f,g,t,r,d,C,B,E,K,x⟩:=Zbs (Y:=Y) (new:= [v]) (m:=1) (cap:=some 1) F u y dc o.isL dc rfl A om om;exact⟨f,g,t,r,d,C,LN.of B x sm,ZCz o z D E,x⟩
theorem ZR3{Y:YP}{st e:TypeId}{te:TI}{q n:Nat}{h:Heap}{a:Option (Nat×Nat)}{l:Nat}{c:Option Nat}{k:Nat}{cells:List V}(v:V)(F:Y.kd st=some (.slice e))(u:Y.ty e=some te)(y:te.size=1)(w:te.bytes<=1024)(A:Zp [v]=true)
  (o:LN h a l c k cells) (G:cells.length<2 ^ 29) (z:cells≠ []->Za9 cells=q) (D: ∀j,a=some (j,0)->n<=j):
  ∃f g t r d,Zk Y (h.push (.arr [v] true)) st st (.sl a l c k) (.sl (some (h.nx,0)) 1 (some 1) 1)=some (.sl f g t r,d)/\LN d f g t r (cells++ [v])/\FrK q n h d/\ ∃j,f=some (j,0)/\h.nx<=j:=by
 have L:most=1099511627776:=dc;have H:=o.len;have N:(l+1)*te.bytes<=2 ^ 29*1024:=Nat.mul_le_mul om w;obtain⟨f,g,t,r,d,C,B,E,K,x⟩:=Zrw (Y:=Y) (new:= [v]) (m:=1) F u y dc o.isL dc rfl A om om;exact⟨f,g,t,r,d,C,LN.of B x sm,ZCz o z D E,x⟩
def NestZ(n w:Nat)(h:Heap)(cells:List V)(N:List (List Int)):Prop:=
 cells.length=N.length/\ ∀(p:Nat) (l:List Int),N[p]? =some l->l.length=w/\ ∃j,cells[p]? =some (.sl (some (j,0)) w none 1)/\h.get j=some (.arr (Xj l) true)/\j<n/\j<h.nx
theorem NestZ.nil(n w:Nat)(h):NestZ n w h [] []:=⟨rfl,λp l hp=>by simp at hp⟩
theorem Vx{l:List Int}(c:l≠ [])(a:l.length<=256):Za9 (Xj l)=4:=by
 cases l with
 |nil=>exact absurd rfl c
 |cons x r=>simp only[Xj,qz,Za9];rw[uF (by simp at a ⊢;omega)]
theorem NestZ.keep{n w q m:Nat}{h d}{cells}{N:List (List Int)}(z:NestZ n w h cells N)(f:FrK q m h d)(t:0<w/\w<=256)(a:q≠4\/n<=m):NestZ n w d cells N:=
 ⟨z.1,λp l hp=>by
  obtain⟨c,j,r,g,o,k⟩:=z.2 p l hp;refine⟨c,j,r,?_,o,qv k f.nx⟩;rw[f.keep j _ _ k g ?_,g];rcases a with a|a
  .left
   rw[Vx (λe=>by rw[e]at c;simp at c;omega) om];exact Ne.symm a
  .right;omega⟩
theorem NestZ.snoc{n m w:Nat}{h:Heap}{cells}{N:List (List Int)}(z:NestZ n w h cells N){j:Nat}{l:List Int}(t:l.length=w)(k:h.get j=some (.arr (Xj l) true))(A:n<=m)(o:j<m)(d:j<h.nx):NestZ m w h (cells++ [.sl (some (j,0)) w none 1]) (N++ [l]):=by
 have a:=z.1;refine⟨by simp[a],λp r hp=> ?_⟩;by_cases e:p<N.length
 .rw[vC e]at hp;obtain⟨u,v,f,g,y,x⟩:=z.2 p r hp;exact⟨u,v,by rw[vC om];exact f,g,om,x⟩
 .rw[vB om]at hp;have c:p-N.length=0:=by
   rcases Nat.eq_zero_or_pos (p-N.length)with h0|h0
   .exact h0
   .rw[qq (by simp;omega)]at hp;cases hp
  rw[c]at hp;simp at hp;subst hp;exact⟨t,j,by rw[vB om,show p-cells.length=0 from om];rfl,k,o,d⟩
theorem NestZ.more{n m w:Nat}{h}{cells}{N:List (List Int)}(z:NestZ n w h cells N)(f:n<=m):NestZ m w h cells N:=
 ⟨z.1,λp l hp=>by obtain⟨h1,j,a,c,e,d⟩:=z.2 p l hp;exact⟨h1,j,a,c,om,d⟩⟩
theorem NestZ.kind{n w:Nat}{h}{cells}{N:List (List Int)}(z:NestZ n w h cells N)(c:cells≠ []):Za9 cells=2:=by
 cases cells with
 |nil=>exact absurd rfl c
 |cons v r=>
  have e:=z.1;obtain⟨l,a⟩: ∃l,N[0]? =some l:=⟨N[0]'(by simp at e;omega),qo _⟩;obtain⟨_,j,d,_⟩:=z.2 0 l a;simp at d;subst d;rfl
theorem Zss(l:List Int):Xb (Xj l)=true:=by
 induction l with
 |nil=>rfl
 |cons x r a=>simp only[Xj,qz,Xb,qrq];exact⟨rfl,a⟩
theorem NestZ.frz{n' w:Nat} : ∀ {cells} {N:List (List Int)} {h:Heap},NestZ n' w h cells N->FrzL h cells (row Xm N)
 | [],[],_,_=> .nil
 | [],_::_,_,n=>by have:=n.1;simp at this
 |_::_,[],_,n=>by have:=n.1;simp at this
 |v::cells,l::L,h,n=>by
  obtain⟨c,j,a,u,z,y⟩:=n.2 0 l rfl;simp at a;subst a;have e:row Xm (l::L)=lst encI l::row Xm L:=rfl;rw[e];refine .cons _ _ _ _ ?_ (NestZ.frz (n':=n') (w:=w) ⟨by have:=n.1;simp at this;exact this,λp k hp=> ?_⟩)
  .rw[show lst encI l= .ts (Xj l) w none by simp only[lst,rowI,c]];exact .sl _ _ _ _ _ _ true _ _ _ u (by rw[ql];exact ZD (by simp[Xj,c])) (λx m=>by cases m) dc (Xc _ (Zss l))
  .obtain⟨o,r,f,g,t,d⟩:=n.2 (p+1) k (by simpa using hp);exact⟨o,r,by simpa using f,g,t,d⟩
abbrev nilC:V:= .sl none 0 (some 0) 0
abbrev Zl(b:Bool):List V:= [.b b]
abbrev clsI(a:List Nat):List V:=a.map λk=>I (k:Nat)
structure MkI(n0 w:Nat)(cl:List Nat)(T N:List (List Int))(G:List Bool)(id8 id9 l9:Nat)(c9:Option Nat)(h:Heap):Prop where
 ex: ∃(an:Option (Nat×Nat)) (ln:Nat) (cn:Option Nat) (kn:Nat) (ag:Option (Nat×Nat)) (lg:Nat) (cg:Option Nat) (kg:Nat) (cells:List V),h.get id8=some (.arr (clsI cl++ [.sl an ln cn kn, .sl ag lg cg kg]) true)∧
  LN h an ln cn kn cells∧NestZ n0 w h cells N∧LN h ag lg cg kg (G.map V.b)
 li:LX (fun v:V=> [v]) 1 h (some (id9,0)) l9 c9 1 (nilC::T.map (lst encI))
 l8:id8<h.nx
 n0:n0<=h.nx
 cl:cl.length=256
 w:0<w∧w<=256
theorem Zl7(l:List V):row (λv:V=> [v]) l=l:=by
 induction l with
 |nil=>rfl
 |cons v r a=>
  have:row (λv:V=> [v]) (v::r)=v::row (λv:V=> [v]) r:=rfl;rw[this,a]
theorem Zl8{a:List Nat}(h:a.length=256)(x y:V):Za9 (clsI a++ [x,y])=5:=by
 cases a with
 |nil=>simp at h
 |cons k r=>
  simp only[clsI,qz,qs,Za9];rw[uE (by simp at h ⊢;omega)]
theorem Zh0(G:List Bool)(h:G.map V.b≠ []):Za9 (G.map V.b)=3:=by
 cases G with
 |nil=>exact absurd rfl h
 |cons b r=>rfl
theorem Zw9(T:List (List Int)):Za9 (nilC::T.map (lst encI))=1:=rfl
theorem LX.keepK{q n:Nat}{h a}{g l:Nat}{c}{T:List (List Int)}(o:LX (λv:V=> [v]) 1 h (some (g,0)) l c 1 (nilC::T.map (lst encI)))(f:FrK q n h a)(k:q≠1):LX (λv:V=> [v]) 1 a (some (g,0)) l c 1 (nilC::T.map (lst encI)):=by
 obtain⟨j,e,_,r,d,_⟩:=o.cells sm;cases e;refine o.fr f.nx λt e m=> ?_;cases e;rw[Zl7]at d;exact f.keep _ _ _ r d (.inl (by rw[Zw9];exact Ne.symm k))
theorem LN.kindne{h}{a}{l:Nat}{c}{k:Nat}{cells}{q p:Nat}(o:LN h a l c k cells)(e:cells≠ []->Za9 cells=p)(f:q≠p)(g:q≠0):Za9 cells≠q:=by
 by_cases d:cells= []
 .subst d;exact Ne.symm g
 .rw[e d];exact Ne.symm f
theorem MkI.row{d w:Nat}{k}{T N:List (List Int)}{G}{a c n:Nat}{c9}{h e}(s:MkI d w k T N G a c n c9 h)(f:FrK 4 d h e):MkI d w k T N G a c n c9 e:=by
 obtain⟨u,y,r,x,o,z,v,t,cells,l,j,g,m⟩:=s.ex;exact⟨⟨u,y,r,x,o,z,v,t,cells,by rw[f.keep _ _ _ s.l8 l (.inl (by rw[Zl8 s.cl];decide)),l],j.keep f (.inl (j.kindne g.kind dc dc)),g.keep f s.w (.inr (qnq _)),m.keep f (.inl (m.kindne (Zh0 G) dc dc))⟩,
  s.li.keepK f dc,qv s.l8 f.nx,uu s.n0 f.nx,s.cl,s.w⟩
theorem MkI.more{f w:Nat}{d}{T N:List (List Int)}{G}{a c e:Nat}{c9}{h:Heap}(s:MkI f w d T N G a c e c9 h):MkI h.nx w d T N G a c e c9 h:=by
 obtain⟨n,t,l,r,k,u,o,m,cells,h1,g,j,v⟩:=s.ex;exact⟨⟨n,t,l,r,k,u,o,m,cells,h1,g,j.more s.n0,v⟩,s.li,s.l8,qnq _,s.cl,s.w⟩
theorem MkI.list{E w:Nat}{L}{T N:List (List Int)}{G}{g t P:Nat}{c9}{h}(s:MkI E w L T N G g t P c9 h)(x:List Int)(hT:T.length<2 ^ 20){a}{l:Nat}{c}{k:Nat}{r:List Int}(hr:LN h a l c k (Xj r))(hrl:r.length<=256):
  ∃m y z d,Zk Tryd.Y h 33 33 (.sl (some (t,0)) P c9 1) (.ts [lst encI x] 1 (some 1))=some (.sl (some (m,0)) y z 1,d)/\MkI E w L (T++ [x]) N G g m y z d/\LN d a l c k (Xj r):=by
 obtain⟨j,e,_,hj,K,_⟩:=s.li.cells sm;cases e;rw[Zl7]at K;obtain⟨a',y,z,k',d,X,C,D,_⟩:=LX.app (Y:=Tryd.Y) (f:=λv:V=> [v]) (k:=1) (out:=nilC::T.map (lst encI)) (new:= [lst encI x]) (st:=33) (e:=32) (te:=⟨1,24, .slice 3,[.sl none 0 (some 0) 0]⟩) (lst encI x) rfl (λ_=>rfl) kr kr rfl dc rfl dc s.li (by simp;omega);have f:FrK 1 0 h d:=⟨D.1,λi cs wr hi n u=>D.2 i hi λo eo=>by
  cases eo;rw[K]at n;cases n;rcases u with u|u
  .exact u (Zw9 T)
  .omega⟩
 obtain⟨j',rfl,rfl,_⟩:=C.cells sm;obtain⟨Z,ln,W,kn,ag,lg,cg,kg,cells,O,F,H,B⟩:=s.ex;refine⟨j',y,z,d,X,⟨⟨Z,ln,W,kn,ag,lg,cg,kg,cells,by rw[f.keep _ _ _ s.l8 O (.inl (by rw[Zl8 s.cl];decide)),O],F.keep f (.inl (F.kindne H.kind dc dc)),H.keep f s.w (.inl dc),B.keep f (.inl (B.kindne (Zh0 G) dc dc))⟩,
  by have:=C;rwa [qs,<-List.map_singleton (f:=lst encI),<-uV]at this,qv s.l8 f.nx,uu s.n0 f.nx,s.cl,s.w⟩,hr.keep f (.inl (hr.kindne (p:=4) (λA=>Vx (λe=>A (by rw[e];rfl)) hrl) dc dc))⟩
end Go.Y
