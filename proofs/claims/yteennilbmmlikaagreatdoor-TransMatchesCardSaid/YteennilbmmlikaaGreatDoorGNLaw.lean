/- A part of the proof. -/
import Derived.Test.YteennilbmmlikaaGreatDoorGN0
import Derived.Test.YteennilbmmlikaaGreatDoorYAny3
import Derived.Test.YteennilbmmlikaaGreatDoorYLoop
import Derived.Test.YteennilbmmlikaaGreatDoorYFrz
import Derived.Test.YteennilbmmlikaaGreatDoorGTextE
import Derived.Test.YteennilbmmlikaaGreatDoorEE2
import Derived.Test.YteennilbmmlikaaGreatDoorEF8
import Derived.Test.YteennilbmmlikaaGreatDoorGTrO
import Derived.Test.YteennilbmmlikaaGreatDoorGDf5
namespace Go.Y
open Go.Proofs Gl
set_option maxRecDepth 100000
set_option maxHeartbeats 1000000
def Zah(r:Re):Au×Int:=if mayE r=false\/anchB r=true then(auZ,5)else if 300<spotN r then(auZ,2)else(Zr4 boS r,0)
theorem Zoq{l}{n:Nat}(h:Rz n l):risB (ints l) n=true:=by
 unfold risB;refine uP.2 λi c=> ?_;have c:i<(ints l).length:=List.mem_range.1 c;have a:i<l.length:=by simpa using c
 have m:=h.2 l[i] (qe a);have e:(ints l).getD i 0=(l[i]:Int):=by rw[JW c];simp
 rw[Zc5,e];have g:ltI (l[i]:Int) 0=false:=by simp[ltI]
 have k:leI (n:Int) (l[i]:Int)=false:=by simp[leI];omega
 rw[g,k];by_cases j:0<i
 .have hp:i-1<l.length:=om;have d:(ints l).getD (i-1) 0=(l[i-1]:Int):=by rw[JW (by simpa using hp)];simp
  have o:l[i-1]<l[i]:=List.pairwise_iff_getElem.1 h.1 _ _ hp a om;rw[d];have f:leI (l[i]:Int) (l[i-1]:Int)=false:=by simp[leI];omega
  rw[f];simp
 .simp[j]
end Go.Y
namespace Go.Y
open Go.Proofs Gl
set_option maxRecDepth 100000
set_option maxHeartbeats 1000000
def Jz(k:Int)(t:List UInt8):Re×Int:=
 if mayP k t=false then(Xs,5)
 else if(k==2)=true/\anchB (ereL t)=true then(Xs,5)
 else(Zly (sevS 4 (ZS::(Jy k t++ [ZS]))),fitE (sevS 4 (ZS::(Jy k t++ [ZS]))))
theorem Zsy(k:Int)(t:List UInt8):Zdh k t=Zsr (Jz k t).1 (Jz k t).2:=by
 unfold Zdh Jz;split
 .rfl
 .split
  .rfl
  .exact Zoc _
structure ReOk(r:Re):Prop where
 wf:wfRe 1000 r
 tx:(textF r).length<2 ^ 28
theorem Zgb:ReOk Xs:=by
 have a:=Vn Xs;have c:cntN Xs=1:=kr;exact⟨ZF2,om⟩
theorem ZAw{l}(h:FewL l):ReOk (Zly (sevS 4 l)):=by
 unfold Zly;split
 .exact⟨h.re,h.txt⟩
 .exact Zgb
theorem Zh5(k:Int)(t):ReOk (Jz k t).1:=by
 unfold Jz;by_cases a:mayP k t=false
 .rw[uF a];exact Zgb
 .rw[uE a];split
  .exact Zgb
  .exact ZAw (Zcc (by simpa using a))
theorem Zxi(d:ZY UY.P 75)(a:ZF UY.P 76){r}(hr:ReOk r):PCon UY 10 [.agg (Zd r)] (· = .tup [.agg (auC (Zah r).1),I (Zah r).2]):=by
 have h:=Zzs d a (B:=1000) dc hr.wf (Zn3 (B:=1000) dc hr.wf hr.tx);unfold ZEc at h;unfold Zah;split
 .rename_i g;rw[uF g]at h;exact h
 .rename_i g;rw[uE g]at h;split
  .rename_i c;rw[uF c]at h;exact h
  .rename_i c;rw[uE c]at h;exact h
theorem ZNa{B:Nat}{r:Re}(g:wfRe B r)(n:cntRe r<=300):OkA (Zr4 boS r):=by
 obtain⟨f,e,j⟩:=Zak r g ⟨[],[]⟩ ⟨rfl,λl a=>by cases a⟩;unfold Zr4 auF;generalize partF boS r ⟨[],[]⟩=S at f e j;have h:S.1.sets.length<=300:=by simp at j;omega
 have d:=f.wf;have c: ∀l∈S.1.fol.map ints,risB l S.1.sets.length=true/\l.length<=300:=λl a=>by
  obtain⟨m,k,rfl⟩:=uW.1 a;have:=(f.fo m k).len;exact⟨Zoq (f.fo m k),by simp;omega⟩
 have o:=e.fi.len;have t:=e.la.len;refine⟨?_,?_⟩
 .simp only[mayA,qC,h,d,Zoq e.fi,Zoq e.la,decide_true,uT];exact uP.2 λl a=>(c l a).1
 .simp only[Zln,qC,h,d,qrq,vJ];exact⟨⟨⟨⟨trivial,om⟩,om⟩,trivial⟩,uP.2 λl a=>by simpa using (c l a).2⟩
theorem ZAx{r:Re}(hr:ReOk r)(h:(Zah r).2=0):(Zah r).1=Zr4 boS r/\mayE r=true/\anchB r=false/\cntRe r<=300:=by
 unfold Zah at h ⊢;split at h
 .cases h
 .rename_i g;rw[uE g];split at h
  .cases h
  .rename_i c;rw[uE c];obtain⟨_,_,a⟩:=Zd9 r hr.wf;refine⟨rfl,?_,?_,?_⟩
   .cases d:mayE r
    .exact absurd (.inl d) g
    .rfl
   .cases e:anchB r
    .rfl
    .exact absurd (.inr e) g
   .rcases Nat.lt_or_ge 300 (cntRe r)with h4|h4
    .have:=a h4;omega
    .exact h4
theorem Zme{r}(hr:ReOk r)(h:(Zah r).2=0):OkA (Zah r).1:=by
 obtain⟨e,_,_,a⟩:=ZAx hr h;rw[e];exact ZNa hr.wf a
def tabW(a:Au)(most:Nat)(c le:List Nat):Option Dn:=match JZ a most le (most+1) 0 [] [] [] with
 |some (N,G)=>some ⟨c,N,G⟩
 |none=>none
def tabD(a:Au)(most:Nat):Option Dn:=tabW a most (srtS a.sets 256).1 (srtS a.sets 256).2
theorem Zh6{a:Au}{most:Nat}(h:tabD a most=none):Zsv a most= .tup [.agg zDfaF,I 9]:=by
 unfold tabD tabW at h;unfold Zsv Zma;revert h;generalize srtS a.sets 256=p;intro h
 cases c:JZ a most p.2 (most+1) 0 [] [] [] with
 |none=>rfl
 |some x=>rw[c]at h;cases h
theorem Zh7{a:Au}{most:Nat}{d:Dn}(h:tabD a most=some d):Zsv a most= .tup [.agg (dfaC d.cl d.N d.G),I 0]:=by
 unfold tabD tabW at h;unfold Zsv Zma;revert h;generalize srtS a.sets 256=p;intro h
 cases c:JZ a most p.2 (most+1) 0 [] [] [] with
 |none=>rw[c]at h;cases h
 |some x=>rw[c]at h;cases h;rfl
theorem Zgc{a:Au}(j:OkA a){most:Nat}(g:1<=most)(f:most<=300){d:Dn}(h:tabD a most=some d): ∃w,DOk d.cl d.N d.G w:=by
 have c:=λ{N:List (List Int)} {G:List Bool} =>ZGk j g f (N:=N) (G:=G);unfold tabD tabW at h;revert h c;generalize srtS a.sets 256=p;intro h c
 cases e:JZ a most p.2 (most+1) 0 [] [] [] with
 |none=>rw[e]at h;cases h
 |some x=>rw[e]at h;cases h;exact⟨_,c e⟩
/-! ### Sure -/
def ZNb(x y:Option Dn):Bool×Int:=match x,y with
 |none,_=>(false,9)
 |some _,none=>(false,9)
 |some d,some e=>(!Zan d e,0)
def Zor(most:Nat)(x y:Au×Int):Bool×Int:=if x.2=0 then if y.2=0 then ZNb (tabD x.1 most) (tabD y.1 most)else(false,y.2)else(false,x.2)
def Zos(most:Nat)(x y:Re×Int):Bool×Int:=if x.2=0 then if y.2=0 then Zor most (Zah x.1) (Zah y.1)else(false,y.2)else(false,x.2)
def Zsz(a:Int)(s1:List UInt8)(c:Int)(s2:List UInt8)(most:Nat):Bool×Int:=Zos most (Jz a s1) (Jz c s2)
theorem ZAy{d e:Dn}{w1 w:Nat}(o:DOk d.cl d.N d.G w1)(r:DOk e.cl e.N e.G w)(h):Con Trye.Y 39 [.agg (dfaC d.cl d.N d.G), .agg (dfaC e.cl e.N e.G)] h λv _=> ∃s,v= .tup [.s s, .b (Zan d e)]:=by
 have a:Xo [.agg (dfaC d.cl d.N d.G), .agg (dfaC e.cl e.N e.G)]=true:=by
  show(Xb (dfaC d.cl d.N d.G)&&(Xb (dfaC e.cl e.N e.G)&&true))=true;rw[WP,WP];rfl
 have n:=Zba d.cl d.N d.G;have l:=Zba e.cl e.N e.G;have j:=QW d.cl d.N d.G o.c256;have f:=QW e.cl e.N e.G r.c256;have k:=ZG0 o r;have hp:PCon Trye.Y 39 [.agg (dfaC d.cl d.N d.G), .agg (dfaC e.cl e.N e.G)] (λv=> ∃s,v= .tup [.s s, .b (Zan d e)]):=by
  revert k a n l j f;generalize dfaC d.cl d.N d.G=g;generalize dfaC e.cl e.N e.G=c;intro a n l j f k;refine Zw Trye.Yok (fn:=Tryz.f39) a ZMy rfl ?_;refine ifT (by rw[n];simp[j]) (ifT (by rw[l];simp[f]) ?_);have x:((Heap.empty.push (.arr g true)).push (.arr c true)).get Heap.empty.nx=some (.arr g true):=by rw[qk,uE sm,qk,uF rfl]
  have u:((Heap.empty.push (.arr g true)).push (.arr c true)).get (Heap.empty.nx+1)=some (.arr c true):=by rw[qk,uF sm]
  refine⟨g,by rw[Zs x,ql];exact ZD j.symm,c,by rw[Zs u,ql];exact ZD f.symm,?_⟩;refine(Con.ofP [] (FrzAL.refl _) k).mono λv t ⟨⟨s,m⟩,_⟩=>⟨s,_,m,?_⟩;exact⟨.inr rfl,_,rfl,_, .tup _ _ (.cons _ _ _ _ (.s _) (.cons _ _ _ _ (.b _) .nil)),s,rfl⟩
 exact(Con.ofP [] (FrzAL.refl _) hp).mono λv t m=>m.1
end Go.Y
namespace Go.Y
open Go.Proofs
set_option maxRecDepth 1000000
set_option maxHeartbeats 0
theorem ZNc{k1 s1 k2 s2 a h}(K):CP Trye.Y 13 (pre (flat (Za Tryz.f13))) (.agg [I k1, .s s1]::.agg [I k2, .s s2]::I a::Rp 88) h [2,8,9,10,27,28,29] K=(K .normal 91 [I a, .p (some (h.nx,0)), .p (some (h.nx+(1:Nat),0)), .p (some (h.nx+(1:Nat)+(1:Nat),0)),J [I k1, .s s1,I k2, .s s2] 2 (some 2),I (↑(2:Nat):Int),I 0] (((h.pushT (Trye.Y.tag (93:Nat)) (YObj.arr [I 0,U 0,U 0,U 0,U 0,S none (0:Nat) (some (0:Nat)) (0:Nat),I 0,I 0,I 0,I 0,U 0,U 0,U 0,U 0,S none (0:Nat) (some (0:Nat)) (0:Nat),I 0,I 0,I 0] true)).pushT (Trye.Y.tag (94:Nat)) (YObj.arr [S none (0:Nat) (some (0:Nat)) (0:Nat),S none (0:Nat) (some (0:Nat)) (0:Nat),S none (0:Nat) (some (0:Nat)) (0:Nat),S none (0:Nat) (some (0:Nat)) (0:Nat),.b false,S none (0:Nat) (some (0:Nat)) (0:Nat),S none (0:Nat) (some (0:Nat)) (0:Nat),S none (0:Nat) (some (0:Nat)) (0:Nat),S none (0:Nat) (some (0:Nat)) (0:Nat),.b false] true)).pushT (Trye.Y.tag (99:Nat)) (YObj.arr (zDfa++zDfa) true))):=kr
theorem Zxj{k1 s1 k2 s2 e d f g a h}(K):CP Trye.Y 13 (flat (Zx (post (flat (Za Tryz.f13))))) (MZ 91 [2,8,9,10,27,28,29] [I e,.p (some (d,0)),.p (some (f,0)),.p (some (g,0)),J [I k1,.s s1,I k2,.s s2] 2 (some 2),I 2,I a]) h [2,6,7,8,9,10,27,28,29] K=(If (ltI a 2) (((0:Int)<=a/\a<(↑(2:Nat):Int))/\ ∃c i,Zr 2 (List.drop (a.toNat*2) [I k1,.s s1,I k2,.s s2])=some [I c,.s i]/\ ∃j l m n o q r t u w x y,(PCon Trye.Y 20 [.agg [I c,.s i]] fun(v:V)=>v=.tup [.agg (R9 j l m n o q r t u w x),I y])/\If (y !=(0:Int)) (K .ret 91 [I e, .b false,I y, .p (some (d,0)), .p (some (f,0)), .p (some (g,0)),J [I k1, .s s1,I k2, .s s2] 2 (some 2),I 2,I a] h) (((0:Int)<=a/\a<(↑(2:Nat):Int))/\ ∃z,Zi h d ((0:Nat)+a.toNat*9) (R9 j l m n o q r t u w x)=some z/\K .normal 91 [I e,Ud,Ud, .p (some (d,0)), .p (some (f,0)), .p (some (g,0)),J [I k1, .s s1,I k2, .s s2] 2 (some 2),I 2,I (wW (a+(1:Int)))] z)) (K (.exit 0) 91 [I e,Ud,Ud, .p (some (d,0)), .p (some (f,0)), .p (some (g,0)),J [I k1, .s s1,I k2, .s s2] 2 (some 2),I 2,I a] h)):=kr
theorem ZNd{a b d e h}(K):CP Trye.Y 13 (pre ((post (flat (Za Tryz.f13))).drop 1)) (MZ 91 [2,8,9,10] [I a,.p (some (b,0)),.p (some (d,0)),.p (some (e,0))]) h [2,9,10,46,47] K=(∃c f g i j l m n o q r s t u v w x y z k B A,Zb h b 0 18=some [I c,U f,U g,U i,U j,J l m n,I o,I q,I r,I s,U t,U u,U v,U w,J x y z,I k,I B,I A]/\K .normal 91 [I a, .p (some (d,0)), .p (some (e,0)), .agg [I c,U f,U g,U i,U j,J l m n,I o,I q,I r,I s,U t,U u,U v,U w,J x y z,I k,I B,I A],I 0] h):=kr
theorem ZNe{g a j k0 p0 p1 p2 p3 d n0 e f m0 k3 q0 q1 q2 q3 m n1 o q m1 h}(K):CP Trye.Y 13 (flat (Zx (post ((post (flat (Za Tryz.f13))).drop 1)))) (MZ 91 [2,9,10,46,47] [I g,.p (some (a,0)),.p (some (j,0)),.agg [I k0,U p0,U p1,U p2,U p3,J d n0 none,I e,I f,I m0,I k3,U q0,U q1,U q2,U q3,J m n1 none,I o,I q,I m1],I 0]) h [2,6,7,9,10,46,47] K=(∃b c i l n r s t u w x y z k,(PCon Trye.Y 10 [.agg (R9 k0 p0 p1 p2 p3 d n0 none e f m0)] fun(v:V)=>v=.tup [.agg [J b c i,J l n r,J s t u,J w x y,.b z],I k])/\If (k !=(0:Int)) (K .ret 91 [I g, .b false,I k, .p (some (a,0)), .p (some (j,0)), .agg [I k0,U p0,U p1,U p2,U p3,J d n0 none,I e,I f,I m0,I k3,U q0,U q1,U q2,U q3,J m n1 none,I o,I q,I m1],I 0] h) (((0:Int)<=(0:Int)/\(0:Int)<(↑(2:Nat):Int))/\ ∃A,Zi h a 0 [J b c i,J l n r,J s t u,J w x y,.b z]=some A/\K .normal 91 [I g,Ud,Ud, .p (some (a,0)), .p (some (j,0)), .agg [I k0,U p0,U p1,U p2,U p3,J d n0 none,I e,I f,I m0,I k3,U q0,U q1,U q2,U q3,J m n1 none,I o,I q,I m1],I (wW ((0:Int)+(1:Int)))] A)):=kr
theorem ZNf{g a j k0 p0 p1 p2 p3 m n0 o q m0 k3 q0 q1 q2 q3 d n1 e f m1 h}(K):CP Trye.Y 13 (flat (Zx (post ((post (flat (Za Tryz.f13))).drop 1)))) (MZ 91 [2,9,10,46,47] [I g,.p (some (a,0)),.p (some (j,0)),.agg [I k0,U p0,U p1,U p2,U p3,J m n0 none,I o,I q,I m0,I k3,U q0,U q1,U q2,U q3,J d n1 none,I e,I f,I m1],I 1]) h [2,6,7,9,10,46,47] K=(∃b c i l n r s t u w x y z k,(PCon Trye.Y 10 [.agg (R9 k3 q0 q1 q2 q3 d n1 none e f m1)] fun(v:V)=>v=.tup [.agg [J b c i,J l n r,J s t u,J w x y,.b z],I k])/\If (k !=(0:Int)) (K .ret 91 [I g, .b false,I k, .p (some (a,0)), .p (some (j,0)), .agg [I k0,U p0,U p1,U p2,U p3,J m n0 none,I o,I q,I m0,I k3,U q0,U q1,U q2,U q3,J d n1 none,I e,I f,I m1],I 1] h) (((0:Int)<=(1:Int)/\(1:Int)<(↑(2:Nat):Int))/\ ∃A,Zi h a 5 [J b c i,J l n r,J s t u,J w x y,.b z]=some A/\K .normal 91 [I g,Ud,Ud, .p (some (a,0)), .p (some (j,0)), .agg [I k0,U p0,U p1,U p2,U p3,J m n0 none,I o,I q,I m0,I k3,U q0,U q1,U q2,U q3,J d n1 none,I e,I f,I m1],I (wW ((1:Int)+(1:Int)))] A)):=kr
theorem ZNg{a b c k0 p0 p1 p2 p3 d n0 e f m0 k3 q0 q1 q2 q3 g n1 j l m1 h}(K):CP Trye.Y 13 (flat (Zx (post ((post (flat (Za Tryz.f13))).drop 1)))) (MZ 91 [2,9,10,46,47] [I a,.p (some (b,0)),.p (some (c,0)),.agg [I k0,U p0,U p1,U p2,U p3,J d n0 none,I e,I f,I m0,I k3,U q0,U q1,U q2,U q3,J g n1 none,I j,I l,I m1],I 2]) h [2,6,7,9,10,46,47] K=(K (.exit 2) 91 [I a,Ud,Ud, .p (some (b,0)), .p (some (c,0)), .agg [I k0,U p0,U p1,U p2,U p3,J d n0 none,I e,I f,I m0,I k3,U q0,U q1,U q2,U q3,J g n1 none,I j,I l,I m1],I 2] h):=kr
theorem ZNh{a d e h}(K):CP Trye.Y 13 (pre ((post ((post (flat (Za Tryz.f13))).drop 1)).drop 1)) (MZ 91 [2,9,10] [I a,.p (some (d,0)),.p (some (e,0))]) h [2,10,63,64] K=(∃b c f g i j l m n o q r s t u v w x y z k C A E D B,Zb h d 0 10=some [J b c f,J g i j,J l m n,J o q r,.b s,J t u v,J w x y,J z k C,J A E D,.b B]/\K .normal 91 [I a, .p (some (e,0)), .agg [J b c f,J g i j,J l m n,J o q r, .b s,J t u v,J w x y,J z k C,J A E D, .b B],I 0] h):=kr
theorem ZNi{a c sa na fa d la e wa f ea sb nb fb g lb j wb l eb h}(K):CP Trye.Y 13 (flat (Zx (post ((post ((post (flat (Za Tryz.f13))).drop 1)).drop 1)))) (MZ 91 [2,10,63,64] [I a,.p (some (c,0)),.agg [J sa na none,J fa d none,J la e none,J wa f none,.b ea,J sb nb none,J fb g none,J lb j none,J wb l none,.b eb],I 2]) h [2,6,7,10,63,64] K=(K (.exit 4) 91 [I a,Ud,Ud, .p (some (c,0)), .agg [J sa na none,J fa d none,J la e none,J wa f none, .b ea,J sb nb none,J fb g none,J lb j none,J wb l none, .b eb],I 2] h):=kr
theorem ZNj{a h}(K):CP Trye.Y 13 ((post ((post ((post (flat (Za Tryz.f13))).drop 1)).drop 1)).drop 1) (MZ 91 [10] [.p (some (a,0))]) h [6,7] K=(((0:Int)<=(0:Int)/\(0:Int)<(↑(2:Nat):Int))/\ ∃b,Zb h a 0 258=some b/\((0:Int)<=(1:Int)/\(1:Int)<(↑(2:Nat):Int))/\ ∃c,Zb h a 258 258=some c/\Con Trye.Y 39 [.agg b,.agg c] h fun(v:V) (f:Heap)=> ∃d e,v=.tup [.s d,.b e]/\K .ret 91 [.b !e,I 0] f):=kr
theorem ZNk{a c sa na fa d la e wa f ea sb nb fb g lb j wb l eb h}(K):CP Trye.Y 13 (flat (Zx (post ((post ((post (flat (Za Tryz.f13))).drop 1)).drop 1)))) (MZ 91 [2,10,63,64] [I a,.p (some (c,0)),.agg [J sa na none,J fa d none,J la e none,J wa f none,.b ea,J sb nb none,J fb g none,J lb j none,J wb l none,.b eb],I 0]) h [2,6,7,10,63,64] K=(∃i m,(PCon Trye.Y 38 [.agg [J sa na none,J fa d none,J la e none,J wa f none,.b ea],I a] λv=>v=.tup [.agg i,I m])/\If (decide (i.length=(258:Nat))&&Zp i) (∃n,Zi (h.pushT (Trye.Y.tag (98:Nat)) (YObj.arr zDfa true)) h.nx 0 i=some n/\If (m !=(0:Int)) (K .ret 91 [I a, .b false,I m, .p (some (c,0)), .agg [J sa na none,J fa d none,J la e none,J wa f none, .b ea,J sb nb none,J fb g none,J lb j none,J wb l none, .b eb],I 0] n) (∃o,Zb n h.nx 0 258=some o/\((0:Int)<=(0:Int)/\(0:Int)<(↑(2:Nat):Int))/\If (decide (o.length=(258:Nat))&&Zp o) (∃q,Zi n c 0 o=some q/\K .normal 91 [I a,Ud,Ud, .p (some (c,0)), .agg [J sa na none,J fa d none,J la e none,J wa f none, .b ea,J sb nb none,J fb g none,J lb j none,J wb l none, .b eb],I (wW ((0:Int)+(1:Int)))] q) False)) False):=kr
theorem ZNl{a c sa na fa g la j wa l ea sb nb fb d lb e wb f eb h}(K):CP Trye.Y 13 (flat (Zx (post ((post ((post (flat (Za Tryz.f13))).drop 1)).drop 1)))) (MZ 91 [2,10,63,64] [I a,.p (some (c,0)),.agg [J sa na none,J fa g none,J la j none,J wa l none,.b ea,J sb nb none,J fb d none,J lb e none,J wb f none,.b eb],I 1]) h [2,6,7,10,63,64] K=(∃i m,(PCon Trye.Y 38 [.agg [J sb nb none,J fb d none,J lb e none,J wb f none,.b eb],I a] λv=>v=.tup [.agg i,I m])/\If (decide (i.length=(258:Nat))&&Zp i) (∃n,Zi (h.pushT (Trye.Y.tag (98:Nat)) (YObj.arr zDfa true)) h.nx 0 i=some n/\If (m !=(0:Int)) (K .ret 91 [I a, .b false,I m, .p (some (c,0)), .agg [J sa na none,J fa g none,J la j none,J wa l none, .b ea,J sb nb none,J fb d none,J lb e none,J wb f none, .b eb],I 1] n) (∃o,Zb n h.nx 0 258=some o/\((0:Int)<=(1:Int)/\(1:Int)<(↑(2:Nat):Int))/\If (decide (o.length=(258:Nat))&&Zp o) (∃q,Zi n c 258 o=some q/\K .normal 91 [I a,Ud,Ud, .p (some (c,0)), .agg [J sa na none,J fa g none,J la j none,J wa l none, .b ea,J sb nb none,J fb d none,J lb e none,J wb f none, .b eb],I (wW ((1:Int)+(1:Int)))] q) False)) False):=kr
end Go.Y
namespace Go.Y
open Go.Proofs Gl
set_option maxRecDepth 100000
set_option maxHeartbeats 2000000
theorem splA{a:Type} : ∀(l m new:List a),splice (l++m) l.length new=l++splice m 0 new
 | [],m,new=>rfl
 |x::l,m,new=>by
  show x::splice (l++m) l.length new=_;rw[splA l m new];rfl
structure SuI(id8 id9 id10:Nat)(c8 c9 c10:List V)(h:Heap):Prop where
 g8:h.get id8=some (.arr c8 true)
 g9:h.get id9=some (.arr c9 true)
 g10:h.get id10=some (.arr c10 true)
 ne:id8≠id9∧id8≠id10∧id9≠id10
 lt:id8<h.nx∧id9<h.nx∧id10<h.nx
theorem SuI.s8{c e a:Nat}{f g d:List V}{h}(s:SuI c e a f g d h){o:Nat}{new:List V}(k:o+new.length<=f.length): ∃j,Zi h c o new=some j/\SuI c e a (splice f o new) g d j:=
 ⟨_,ZM s.g8 k,by rw[qc,uF rfl],by rw[qc,uE (Ne.symm s.ne.1)];exact s.g9,by rw[qc,uE (Ne.symm s.ne.2.1)];exact s.g10,s.ne,s.lt⟩
theorem SuI.s9{e c a:Nat}{g f d:List V}{h}(s:SuI e c a g f d h){o:Nat}{new:List V}(k:o+new.length<=f.length): ∃j,Zi h c o new=some j/\SuI e c a g (splice f o new) d j:=
 ⟨_,ZM s.g9 k,by rw[qc,uE s.ne.1];exact s.g8,by rw[qc,uF rfl],by rw[qc,uE (Ne.symm s.ne.2.2)];exact s.g10,s.ne,s.lt⟩
theorem SuI.s10{d e a:Nat}{f g c:List V}{h}(s:SuI d e a f g c h){o:Nat}{new:List V}(k:o+new.length<=c.length): ∃j,Zi h a o new=some j/\SuI d e a f g (splice c o new) j:=
 ⟨_,ZM s.g10 k,by rw[qc,uE s.ne.2.1];exact s.g8,by rw[qc,uE s.ne.2.2];exact s.g9,by rw[qc,uF rfl],s.ne,s.lt⟩
theorem SuI.same{c d a:Nat}{c8 c9 c10}{h f:Heap}(s:SuI c d a c8 c9 c10 h)(g:h.nx<=f.nx)(e: ∀j,j<h.nx->f.get j=h.get j):SuI c d a c8 c9 c10 f:=
 ⟨by rw[e _ s.lt.1];exact s.g8,by rw[e _ s.lt.2.1];exact s.g9,by rw[e _ s.lt.2.2];exact s.g10,s.ne,by have:=s.lt;omega⟩
abbrev zRe9:List V:= [I 0,U 0,U 0,U 0,U 0, .sl none 0 (some 0) 0,I 0,I 0,I 0]
abbrev zAu5:List V:= [.sl none 0 (some 0) 0, .sl none 0 (some 0) 0, .sl none 0 (some 0) 0, .sl none 0 (some 0) 0, .b false]
def resB(x:Bool×Int):V:= .tup [.b x.1, .i .i64 x.2]
abbrev FinB(x:Bool×Int):Out->St->Prop:=FinS Trye.Y Tryz.f13 λv h=> ∃r,Frz h v r/\r=resB x
theorem finB{a:List Nat}{vs}{h}{n:Nat}{x:Bool×Int}{b:Bool}{e:Int}(d:Zbr (a.zip vs) 6=some (.b b))(f:Zbr (a.zip vs) 7=some (I e))(c:x=(b,e)):AtV a (FinB x) .ret n vs h:=by
 have hr:Tryz.f13.results.toList= [.tmp 6, .tmp 7]:=kr;refine ZZ (.inr rfl) (v:= .tup [.b b,I e]) ?_ ⟨_, .tup _ _ (.cons _ _ _ _ (.b _) (.cons _ _ _ _ (.i _ _) .nil)),by rw[c];rfl⟩;unfold resV;rw[hr];simp only[Zdw,Zdv,d,f]
 rfl
theorem Zxk{r}{e:Int}{f:FuncId}{args}(c:PCon Trye.Y f args (· =Zsr r e)){K:Int->Int->Int->Int->Int->List V->Nat->Option Nat->Int->Int->Int->Int->Prop}
  (D: ∀k w s1 s2 s3 o l y z x n e',Zd r= [I k,U w,U s1,U s2,U s3, .ts o l y,I z,I x,I n]->e'=e->K k w s1 s2 s3 o l y z x n e'):
  ∃n h m t a o l c u d g j,(PCon Trye.Y f args λv=>v= .tup [.agg [I n,U h,U m,U t,U a, .ts o l c,I u,I d,I g],I j])/\K n h m t a o l c u d g j:=by
 unfold Zsr at c;obtain⟨G,F,H,B,C,E⟩:=r;exact⟨_,_,_,_,_,_,_,_,_,_,_,_,c.mono λv A=>by rw[A,ZJ],D _ _ _ _ _ _ _ _ _ _ _ _ (Zm _ _ _ _ _ _) rfl⟩
theorem Zh8:zDfaF.length=258/\Zp zDfaF=true:=⟨by unfold zDfaF;simp,kr⟩
theorem Zxl:(zDfa++zDfa).length=516:=by rw[qf,Qb]
noncomputable abbrev L13a:List Code:=post (flat (Za Tryz.f13))
noncomputable abbrev L13b:List Code:=post (L13a.drop 1)
noncomputable abbrev L13c:List Code:=post (L13b.drop 1)
theorem ZNm{j k a:Nat}{c8 c9}{d e:Dn}{w1 o:Nat}(m:DOk d.cl d.N d.G w1)(n:DOk e.cl e.N e.G o){h}(s:SuI j k a c8 c9 (dfaC d.cl d.N d.G++dfaC e.cl e.N e.G) h){x:Bool×Int}(u:x=(!Zan d e,0)):
  TriL Trye.Y (L13c.drop 1) ⟨mk 91 ([10].zip [.p (some (a,0))]),[],h⟩ (FinB x):=by
 refine Zo Trye.Yok ZNj rfl ?_;have c:=QW d.cl d.N d.G m.c256;have l:=QW e.cl e.N e.G n.c256;have f:=ZAy m n h;have g:=s.g10;revert c l f g;generalize dfaC d.cl d.N d.G=t;generalize dfaC e.cl e.N e.G=r;intro c l f g;refine⟨⟨dc,dc⟩,t,?_,⟨dc,dc⟩,r,?_,f.mono λv y ⟨s,w⟩=>⟨s,_,w,?_⟩⟩
 .rw[Zs g,ql,WD (by simp;omega),List.take_left' c]
 .rw[Zs g,List.drop_left' c];exact ZD l.symm
 .exact⟨.inr rfl,_,rfl,_, .tup _ _ (.cons _ _ _ _ (.b _) (.cons _ _ _ _ (.i _ _) .nil)),by rw[u];rfl⟩
theorem ZNn(hs:ZY UY.P 75)(H:ZF UY.P 76){y t k:Nat}{c8}{a b:Au}(O:OkA a)(Z:OkA b){most:Nat}(n:1<=most)(D:most<=300){h}(s:SuI y t k c8 (auC a++auC b) (zDfa++zDfa) h){x:Bool×Int}(X:x=ZNb (tabD a most) (tabD b most)):
  TriL Trye.Y (L13b.drop 1) ⟨mk 91 ([2,9,10].zip [I most, .p (some (t,0)), .p (some (k,0))]),[],h⟩ (FinB x):=by
 have E:=PCon.ze (ZC2 hs H O most n D);have F:=PCon.ze (ZC2 hs H Z most n D);refine Zh Trye.Yok 91 ZNh rfl ?_;refine⟨_,_,_,_,_,_,_,_,_,_,_,_,_,_,_,_,_,_,_,_,_,_,_,_,_,_,(Zs s.g9 0 10).trans rfl,?_⟩;refine⟨rfl,ZN [2,10,63,64] [2,6,7,10,63,64] (λm vs g=> ∃(i:Nat) (c:List V),vs= [I most, .p (some (k,0)), .agg (auC a++auC b),I (i:Nat)]/\SuI y t k c8 (auC a++auC b) c g/\
  ((i=0/\m=2/\c=zDfa++zDfa)\/(i=1/\m=1/\ ∃d,tabD a most=some d/\c=dfaC d.cl d.N d.G++zDfa)\/(i=2/\m=0/\ ∃d e,tabD a most=some d/\tabD b most=some e/\c=dfaC d.cl d.N d.G++dfaC e.cl e.N e.G))) 2 ZA ⟨0,_,rfl,s, .inl ⟨rfl,rfl,rfl⟩⟩ ?_⟩
 rintro m vs g ⟨i,c,rfl,s1,⟨rfl,rfl,rfl⟩|⟨rfl,rfl,d,A,rfl⟩|⟨rfl,rfl,d,e,A,L,rfl⟩⟩
 .refine Zn Trye.Yok ZNk rfl ?_;have l: ∀f:List V,f.length=258->Zi (g.pushT (Trye.Y.tag 98) (.arr zDfa true)) g.nx 0 f=some ((g.pushT (Trye.Y.tag 98) (.arr zDfa true)).set g.nx (some (.arr f true))):=λf hl=>by
   have:=ZM (h:=g.pushT (Trye.Y.tag 98) (.arr zDfa true)) (id:=g.nx) (off:=0) (cs:=zDfa) (new:=f) (by rw[qj,uF rfl]) (by rw[Qb];omega);rw[this,Qy,qB (by rw[Qb];omega),qi]
  obtain⟨o,v⟩: ∃o,tabD a most=o:=⟨_,rfl⟩
  cases o with
  |none=>
   rw[Zh6 v]at E;refine⟨zDfaF,9,E,ifT (by rw[Zh8.2];simp[Zh8.1]) ⟨_,l zDfaF Zh8.1,ifT rfl ?_⟩⟩;exact finB rfl rfl (by rw[X,v];rfl)
  |some d=>
   rw[Zh7 v]at E;obtain⟨w,A⟩:=Zgc O n D v;have r:=QW d.cl d.N d.G A.c256;have z:=Zba d.cl d.N d.G;have u:splice (zDfa++zDfa) 0 (dfaC d.cl d.N d.G)=dfaC d.cl d.N d.G++zDfa:=by rw[Qy,List.drop_left' (by rw[Qb,r])]
   revert E r z u;generalize hD:dfaC d.cl d.N d.G=f;intro E r z u;have s2:SuI y t k c8 (auC a++auC b) (zDfa++zDfa) ((g.pushT (Trye.Y.tag 98) (.arr zDfa true)).set g.nx (some (.arr f true))):=s1.same sm (λj hj=>by rw[qc,uE om,qj,uE om]);obtain⟨W,K,B⟩:=s2.s10 (o:=0) (new:=f) (by rw[Zxl];omega);refine⟨f,0,E,ifT (by rw[z];simp[r]) ⟨_,l f r,ifF rfl ⟨f,?_,⟨dc,dc⟩,ifT (by rw[z];simp[r]) ⟨W,K,?_⟩⟩⟩⟩
   .rw[Zs (by rw[qc,uF rfl]),ql];exact ZD r.symm
   .rw[u]at B;exact⟨rfl,1,dc,1,_,rfl,B, .inr (.inl ⟨rfl,rfl,d,v,by rw[hD]⟩)⟩
 .refine Zn Trye.Yok ZNl rfl ?_;have l: ∀f:List V,f.length=258->Zi (g.pushT (Trye.Y.tag 98) (.arr zDfa true)) g.nx 0 f=some ((g.pushT (Trye.Y.tag 98) (.arr zDfa true)).set g.nx (some (.arr f true))):=λf hl=>by
   have:=ZM (h:=g.pushT (Trye.Y.tag 98) (.arr zDfa true)) (id:=g.nx) (off:=0) (cs:=zDfa) (new:=f) (by rw[qj,uF rfl]) (by rw[Qb];omega);rw[this,Qy,qB (by rw[Qb];omega),qi]
  obtain⟨w,C⟩:=Zgc O n D A;have l0:=QW d.cl d.N d.G C.c256;obtain⟨o,v⟩: ∃o,tabD b most=o:=⟨_,rfl⟩
  cases o with
  |none=>
   rw[Zh6 v]at F;refine⟨zDfaF,9,F,ifT (by rw[Zh8.2];simp[Zh8.1]) ⟨_,l zDfaF Zh8.1,ifT rfl ?_⟩⟩;exact finB rfl rfl (by rw[X,v,A];rfl)
  |some e=>
   rw[Zh7 v]at F;obtain⟨w2,L⟩:=Zgc Z n D v;have r:=QW e.cl e.N e.G L.c256;have z:=Zba e.cl e.N e.G;have u:splice (dfaC d.cl d.N d.G++zDfa) 258 (dfaC e.cl e.N e.G)=dfaC d.cl d.N d.G++dfaC e.cl e.N e.G:=by
    have:=splA (dfaC d.cl d.N d.G) zDfa (dfaC e.cl e.N e.G);rw[l0]at this;rw[this,Qy,qB (by rw[Qb];omega),qi]
   have a1:(dfaC d.cl d.N d.G++zDfa).length=516:=by rw[qf,l0,Qb]
   have s2:SuI y t k c8 (auC a++auC b) (dfaC d.cl d.N d.G++zDfa) ((g.pushT (Trye.Y.tag 98) (.arr zDfa true)).set g.nx (some (.arr (dfaC e.cl e.N e.G) true))):=s1.same sm (λj hj=>by rw[qc,uE om,qj,uE om]);obtain⟨W,K,B⟩:=s2.s10 (o:=258) (new:=dfaC e.cl e.N e.G) (by rw[a1];omega);rw[u]at B;have goal: ∀f,f=dfaC e.cl e.N e.G-> ∃m':Nat,m'=0/\ ∃(i:Nat) (c:List V),i=2/\SuI y t k c8 (auC a++auC b) c W/\ ∃d e,tabD a most=some d/\tabD b most=some e/\c=dfaC d.cl d.N d.G++dfaC e.cl e.N e.G:=λf _=>⟨0,rfl,2,_,rfl,B,d,e,A,v,rfl⟩;clear B s2 u;revert F r z K goal;generalize dfaC e.cl e.N e.G=f;intro F r z K goal;obtain⟨m',rfl,i,c,rfl,B,d',e',q1,q2,q3⟩:=goal f rfl;refine⟨f,0,F,ifT (by rw[z];simp[r]) ⟨_,l f r,ifF rfl ⟨f,?_,⟨dc,dc⟩,ifT (by rw[z];simp[r]) ⟨W,K,?_⟩⟩⟩⟩
   .rw[Zs (by rw[qc,uF rfl]),ql];exact ZD r.symm
   .exact⟨rfl,0,dc,2,_,rfl,B, .inr (.inr ⟨rfl,rfl,d',e',q1,q2,q3⟩)⟩
 .refine Zn Trye.Yok ZNi rfl ?_;obtain⟨w1,C⟩:=Zgc O n D A;obtain⟨w2,a0⟩:=Zgc Z n D L;refine Zj [10] ?_;exact ZNm C a0 s1 (by rw[X,A,L];rfl)
end Go.Y
namespace Go.Y
open Go.Proofs Gl
set_option maxRecDepth 100000
set_option maxHeartbeats 2000000
theorem ZNo(F:ZY UY.P 75)(r:ZF UY.P 76){t l f:Nat}{r1 B:Re}(h1:ReOk r1)(h2:ReOk B){most:Nat}(G:1<=most)(hm:most<=300){h}(s:SuI t l f (Zd r1++Zd B) (zAu5++zAu5) (zDfa++zDfa) h){x:Bool×Int}(y:x=Zor most (Zah r1) (Zah B)):
  TriL Trye.Y (L13a.drop 1) ⟨mk 91 ([2,8,9,10].zip [I most, .p (some (t,0)), .p (some (l,0)), .p (some (f,0))]),[],h⟩ (FinB x):=by
 have D:=PCon.ze (Zxi F r h1);have E:=PCon.ze (Zxi F r h2);have W:=Zme h1;have K:=Zme h2;revert D E W K y;generalize Zah r1=w;generalize Zah B=z;intro y D E W K;obtain⟨k,C,A,lo,hi,n⟩:=r1;obtain⟨k',j,u,H,N,n'⟩:=B;rw[Zm]at D E;rw[Zm,Zm]at s;refine Zh Trye.Yok 91 ZNd rfl ?_;refine⟨_,_,_,_,_,_,_,_,_,_,_,_,_,_,_,_,_,_,_,_,_,_,(Zs s.g8 0 18).trans rfl,?_⟩;refine⟨rfl,ZN [2,9,10,46,47] [2,6,7,9,10,46,47] (λm Z g=> ∃(i:Nat) (c:List V),Z= [I most, .p (some (l,0)), .p (some (f,0)), .agg ([I k,U C.1,U C.2.1,U C.2.2.1,U C.2.2.2,lst Zd A,I lo,I hi,I n]++ [I k',U j.1,U j.2.1,U j.2.2.1,U j.2.2.2,lst Zd u,I H,I N,I n']),I (i:Nat)]/\ ∃X,SuI t l f X c (zDfa++zDfa) g/\
  ((i=0/\m=2/\c=zAu5++zAu5)\/(i=1/\m=1/\w.2=0/\c=auC w.1++zAu5)\/(i=2/\m=0/\w.2=0/\z.2=0/\c=auC w.1++auC z.1))) 2 ZA ⟨0,_,rfl,_,s, .inl ⟨rfl,rfl,rfl⟩⟩ ?_⟩
 rintro m Z g ⟨i,c,rfl,X,s1,⟨rfl,rfl,rfl⟩|⟨rfl,rfl,d,rfl⟩|⟨rfl,rfl,d,e,rfl⟩⟩
 .refine Zn Trye.Yok ZNe rfl ?_;refine⟨_,_,_,_,_,_,_,_,_,_,_,_,_,_,D,Zf (λa=> ?_) (λa=> ?_)⟩
  .have a: ¬w.2=0:=by simpa using a
   exact finB rfl rfl (by rw[y,Zor,uE a])
  .have a:w.2=0:=by simpa using a
   obtain⟨v,O,L⟩:=s1.s9 (o:=0) (new:=auC w.1) sm;exact⟨⟨dc,dc⟩,v,O,rfl,1,dc,1,_,rfl,_,L, .inr (.inl ⟨rfl,rfl,a,rfl⟩)⟩
 .refine Zn Trye.Yok ZNf rfl ?_;refine⟨_,_,_,_,_,_,_,_,_,_,_,_,_,_,E,Zf (λa=> ?_) (λa=> ?_)⟩
  .have a: ¬z.2=0:=by simpa using a
   exact finB rfl rfl (by rw[y,Zor,uF d,uE a])
  .have a:z.2=0:=by simpa using a
   obtain⟨v,O,L⟩:=s1.s9 (o:=5) (new:=auC z.1) sm;exact⟨⟨dc,dc⟩,v,O,rfl,0,dc,2,_,rfl,_,L, .inr (.inr ⟨rfl,rfl,d,a,rfl⟩)⟩
 .refine Zn Trye.Yok ZNg rfl ?_;refine Zj [2,9,10] ?_;exact ZNn F r (W d) (K e) G hm s1 (by rw[y,Zor,uF d,uF e])
theorem ZC6(Z:ZY UY.P 75)(G:ZF UY.P 76)(t:Int)(u:List UInt8)(A:Int)(y:List UInt8){most:Nat}(H:1<=most)(hm:most<=300):
  PCon UY 13 [.agg [I t, .s u], .agg [I A, .s y],I most] (· =resB (Zsz t u A y most)):=by
 refine PCon.ez ?_;refine ZG Trye.Yok (fn:=Tryz.f13) rfl ?_;have c1:=PCon.ze (Zdi t u);have c2:=PCon.ze (Zdi A y);rw[Zsy]at c1 c2;have O:=Zh5 t u;have K:=Zh5 A y;unfold Zsz;revert c1 c2 O K;generalize Jz t u=j;generalize Jz A y=z;intro c1 c2 O K;obtain⟨x,F⟩: ∃x,x=Zos most j z:=⟨_,rfl⟩;rw[<-F];refine Zh Trye.Yok 91 ZNc rfl ?_;obtain⟨L,W⟩: ∃L,L=((Heap.empty.pushT (Trye.Y.tag 93) (.arr (zRe9++zRe9) true)).pushT (Trye.Y.tag 94) (.arr (zAu5++zAu5) true)).pushT (Trye.Y.tag 99) (.arr (zDfa++zDfa) true):=⟨_,rfl⟩;have E:SuI Heap.empty.nx (Heap.empty.nx+1) (Heap.empty.nx+1+1) (zRe9++zRe9) (zAu5++zAu5) (zDfa++zDfa) L:=by
  rw[W];refine⟨?_,?_,?_,om,by simp;omega⟩
  .rw[qj,uE (by simp<;>omega),qj,uE (by simp<;>omega),qj,uF rfl]
  .rw[qj,uE (by simp<;>omega),qj,uF sm]
  .rw[qj,uF sm]
 show _/\TriL Trye.Y _ ⟨_,[],((Heap.empty.pushT (Trye.Y.tag 93) (.arr (zRe9++zRe9) true)).pushT (Trye.Y.tag 94) (.arr (zAu5++zAu5) true)).pushT (Trye.Y.tag 99) (.arr (zDfa++zDfa) true)⟩ _;rw[<-W];generalize Heap.empty.nx=v at E ⊢;generalize v+1=B at E ⊢;generalize B+1=r at E ⊢;refine⟨rfl,ZN [2,8,9,10,27,28,29] [2,6,7,8,9,10,27,28,29] (λm X g=> ∃(i:Nat) (c:List V),X= [I most, .p (some (v,0)), .p (some (B,0)), .p (some (r,0)), .ts [I t, .s u,I A, .s y] 2 (some 2),I 2,I (i:Nat)]/\SuI v B r c (zAu5++zAu5) (zDfa++zDfa) g/\
  ((i=0/\m=2/\c=zRe9++zRe9)\/(i=1/\m=1/\j.2=0/\c=Zd j.1++zRe9)\/(i=2/\m=0/\j.2=0/\z.2=0/\c=Zd j.1++Zd z.1))) 2 ZA ⟨0,_,rfl,E, .inl ⟨rfl,rfl,rfl⟩⟩ ?_⟩
 rintro m X g ⟨i,c,rfl,s1,⟨rfl,rfl,rfl⟩|⟨rfl,rfl,d,rfl⟩|⟨rfl,rfl,d,e,rfl⟩⟩
 .refine Zn Trye.Yok Zxj rfl ?_;refine ifT rfl ⟨⟨dc,dc⟩,t,u,rfl,Zxk c1 λk u0 u1 u2 u3 cs l cc lo hi n e' f h=> ?_⟩;refine Zf (λa=> ?_) (λa=> ?_)
  .have a: ¬j.2=0:=by rw[<-h];simpa using a
   exact finB rfl rfl (by rw[F,Zos,uE a,h])
  .have a:j.2=0:=by rw[<-h];simpa using a
   obtain⟨w,D,N⟩:=s1.s8 (o:=0) (new:=Zd j.1) (by rw[f];simp);refine⟨⟨dc,dc⟩,w,by rw[f]at D;exact D,rfl,1,dc,1,_,rfl,N, .inr (.inl ⟨rfl,rfl,a,?_⟩)⟩;rw[f];rfl
 .refine Zn Trye.Yok Zxj rfl ?_;refine ifT rfl ⟨⟨dc,dc⟩,A,y,rfl,Zxk c2 λk u0 u1 u2 u3 cs l cc lo hi n e' f h=> ?_⟩;have C:(Zd j.1).length=9:=by
   obtain⟨⟨_,_,_,_,_,_⟩,_⟩:=j;rw[Zm];rfl
  refine Zf (λa=> ?_) (λa=> ?_)
  .have a: ¬z.2=0:=by rw[<-h];simpa using a
   exact finB rfl rfl (by rw[F,Zos,uF d,uE a,h])
  .have a:z.2=0:=by rw[<-h];simpa using a
   obtain⟨w,D,N⟩:=s1.s8 (o:=9) (new:=Zd z.1) (by rw[f,qf,C];simp);refine⟨⟨dc,dc⟩,w,by rw[f]at D;exact D,rfl,0,dc,2,_,rfl,N, .inr (.inr ⟨rfl,rfl,d,a,?_⟩)⟩;have:=splA (Zd j.1) zRe9 (Zd z.1);rw[C]at this;rw[this,Qy,qB (by rw[f];simp),qi]
 .refine Zn Trye.Yok Zxj rfl ?_;refine ifF rfl (Zj [2,8,9,10] ?_);exact ZNo Z G O K H hm s1 (by rw[F,Zos,uF d,uF e])
end Go.Y
