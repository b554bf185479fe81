/- A part of the proof. -/
import Derived.Test.YteennilbmmlikaaGreatDoorGN5
import Derived.Test.YteennilbmmlikaaGreatDoorYTryzP
import Derived.Test.YteennilbmmlikaaGreatDoorYLoop
import Derived.Test.YteennilbmmlikaaGreatDoorYFrz
import Derived.Test.YteennilbmmlikaaGreatDoorGTextE
import Derived.Test.YteennilbmmlikaaGreatDoorEE2
import Derived.Test.YteennilbmmlikaaGreatDoorEF8
import Derived.Test.YteennilbmmlikaaGreatDoorGTrQ
import Derived.Test.YteennilbmmlikaaGreatDoorGDf5
import Derived.Test.YteennilbmmlikaaGreatDoorGTrN
import Derived.Test.YteennilbmmlikaaGreatDoorGSortK
import Derived.Shelf.Sort.Plain
import Derived.Shelf.Slices.CompactI
import Derived.Shelf.Slices.In.SortNone
import Derived.Test.YteennilbmmlikaaGreatDoorGTShp
import Derived.Test.YteennilbmmlikaaGreatDoorRows
import Derived.ProofKit
import Derived.LaidMore
import Derived.OpenShut
import Derived.Stop.Joined
namespace Go.Y
open Go.Proofs Gl
set_option maxRecDepth 100000
set_option maxHeartbeats 1000000

def Vh(r:Re):Au×Int:=if mayE r=false∨anchB r=true then(auZ,5)else if 300<spotN r then(auZ,2)else(Zoe boS r,0)
theorem Zlq{l:List Nat}{n:Nat}(h:Rz n l):risB (ints l) n=true:=by
 unfold risB
 refine List.all_eq_true.2 fun i hi=> ?_
 have hi:i<(ints l).length:=List.mem_range.1 hi
 have hi':i<l.length:=by simpa using hi
 have hx:=h.2 l[i] (qe hi')
 have e1:(ints l).getD i 0=(l[i]:Int):=by rw[Jq hi];simp
 rw[Zbp,e1]
 have a1:ltI (l[i]:Int) 0=false:=by simp[ltI]
 have a2:leI (n:Int) (l[i]:Int)=false:=by simp[leI];omega
 rw[a1,a2]
 by_cases h0:0<i
 ·have hp:i-1<l.length:=by omega
  have e2:(ints l).getD (i-1) 0=(l[i-1]:Int):=by rw[Jq (by simpa using hp)];simp
  have h3:l[i-1]<l[i]:=List.pairwise_iff_getElem.1 h.1 _ _ hp hi' (by omega)
  rw[e2]
  have a3:leI (l[i]:Int) (l[i-1]:Int)=false:=by simp[leI];omega
  rw[a3];simp
 ·simp[h0]
end Go.Y
namespace Go.Y
open Go.Proofs Gl
set_option maxRecDepth 100000
set_option maxHeartbeats 1000000

def Je(k:Int)(t:List UInt8):Re×Int:=
 if mayP k t=false then(Xs,5)
 else if(k==2)=true∧anchB (ereL t)=true then(Xs,5)
 else(Za1 (sevS 4 (ZJ::(WJ k t++ [ZJ]))),fitE (sevS 4 (ZJ::(WJ k t++ [ZJ]))))
theorem Zo8(k:Int)(t:List UInt8):Js k t=Zjr (Je k t).1 (Je k t).2:=by
 unfold Js Je
 split
 ·rfl
 ·split
  ·rfl
  ·exact Zd9 _
structure ReOk(r:Re):Prop where
 wf:wfRe 1000 r
 tx:(textF r).length<2 ^ 28
theorem Zej:ReOk Xs:=by
 have h1:=WD Xs
 have h2:cntN Xs=1:=by kernel_rfl
 exact⟨Zeg,by omega⟩
theorem Zv8{l:List Re}(h:FewL l):ReOk (Za1 (sevS 4 l)):=by
 unfold Za1
 split
 ·exact⟨h.re,h.txt⟩
 ·exact Zej
theorem Zf3(k:Int)(t:List UInt8):ReOk (Je k t).1:=by
 unfold Je
 by_cases hm:mayP k t=false
 ·rw[if_pos hm];exact Zej
 ·rw[if_neg hm]
  split
  ·exact Zej
  ·exact Zv8 (Za3 (by simpa using hm))
theorem Ztj(hs:ZO UY.P 75)(hcm:ZC UY.P 76){r:Re}(hr:ReOk r):PCon UY 10 [.agg (Zd r)] (· = .tup [.agg (auC (Vh r).1),I (Vh r).2]):=by
 have h:=Zuw hs hcm (B:=1000) (by decide) hr.wf (Zk4 (B:=1000) (by decide) hr.wf hr.tx)
 unfold Zyw at h
 unfold Vh
 split
 ·rename_i g;rw[if_pos g]at h;exact h
 ·rename_i g
  rw[if_neg g]at h
  split
  ·rename_i g2;rw[if_pos g2]at h;exact h
  ·rename_i g2;rw[if_neg g2]at h;exact h
theorem ZHi{B:Nat}{r:Re}(hwf:wfRe B r)(hn:cntRe r<=300):OkA (Zoe boS r):=by
 obtain⟨h1,h2,h3⟩:=Vl r hwf ⟨[],[]⟩ ⟨rfl,fun l hl=>by cases hl⟩
 unfold Zoe auF
 generalize partF boS r ⟨[],[]⟩=S at h1 h2 h3
 have hs:S.1.sets.length<=300:=by simp at h3;omega
 have hfl:=h1.wf
 have hfo: ∀l∈S.1.fol.map ints,risB l S.1.sets.length=true∧l.length<=300:=fun l hl=>by
  obtain⟨m,hm,rfl⟩:=List.mem_map.1 hl
  have:=(h1.fo m hm).len
  exact⟨Zlq (h1.fo m hm),by simp;omega⟩
 have h4:=h2.fi.len
 have h5:=h2.la.len
 refine⟨?_,?_⟩
 ·simp only[mayA,List.length_map,hs,hfl,Zlq h2.fi,Zlq h2.la,decide_true,Bool.true_and]
  exact List.all_eq_true.2 fun l hl=>(hfo l hl).1
 ·simp only[Zi8,List.length_map,hs,hfl,qrq,decide_eq_true_eq]
  exact⟨⟨⟨⟨trivial,by omega⟩,by omega⟩,trivial⟩,List.all_eq_true.2 fun l hl=>by simpa using (hfo l hl).2⟩
theorem Zv9{r:Re}(hr:ReOk r)(h:(Vh r).2=0):(Vh r).1=Zoe boS r∧mayE r=true∧anchB r=false∧cntRe r<=300:=by
 unfold Vh at h ⊢
 split at h
 ·cases h
 ·rename_i g
  rw[if_neg g]
  split at h
  ·cases h
  ·rename_i g2
   rw[if_neg g2]
   obtain⟨_,_,h3⟩:=Zcl r hr.wf
   refine⟨rfl,?_,?_,?_⟩
   ·cases hm:mayE r
    ·exact absurd (.inl hm) g
    ·rfl
   ·cases ha:anchB r
    ·rfl
    ·exact absurd (.inr ha) g
   ·rcases Nat.lt_or_ge 300 (cntRe r)with h4|h4
    ·have:=h3 h4;omega
    ·exact h4
theorem Zj0{r:Re}(hr:ReOk r)(h:(Vh r).2=0):OkA (Vh r).1:=by
 obtain⟨e,_,_,h2⟩:=Zv9 hr h
 rw[e];exact ZHi hr.wf h2

def tabW(a:Au)(most:Nat)(cl le:List Nat):Option Dn:=match Jt a most le (most+1) 0 [] [] [] with
 |some (N,G)=>some ⟨cl,N,G⟩
 |none=>none
def tabD(a:Au)(most:Nat):Option Dn:=tabW a most (srtS a.sets 256).1 (srtS a.sets 256).2
theorem Zf4{a:Au}{most:Nat}(h:tabD a most=none):Zo5 a most= .tup [.agg zDfaF,I 9]:=by
 unfold tabD tabW at h
 unfold Zo5 Zjw
 revert h
 generalize srtS a.sets 256=p
 intro h
 cases hl:Jt a most p.2 (most+1) 0 [] [] [] with
 |none=>rfl
 |some x=>rw[hl]at h;cases h
theorem Zf5{a:Au}{most:Nat}{d:Dn}(h:tabD a most=some d):Zo5 a most= .tup [.agg (dfaC d.cl d.N d.G),I 0]:=by
 unfold tabD tabW at h
 unfold Zo5 Zjw
 revert h
 generalize srtS a.sets 256=p
 intro h
 cases hl:Jt a most p.2 (most+1) 0 [] [] [] with
 |none=>rw[hl]at h;cases h
 |some x=>rw[hl]at h;cases h;rfl
theorem Zek{a:Au}(ha:OkA a){most:Nat}(h1:1<=most)(hm:most<=300){d:Dn}(h:tabD a most=some d): ∃w,DOk d.cl d.N d.G w:=by
 have hmk:=fun {N:List (List Int)} {G:List Bool} =>ZA8 ha h1 hm (N:=N) (G:=G)
 unfold tabD tabW at h
 revert h hmk
 generalize srtS a.sets 256=p
 intro h hmk
 cases hl:Jt a most p.2 (most+1) 0 [] [] [] with
 |none=>rw[hl]at h;cases h
 |some x=>rw[hl]at h;cases h;exact⟨_,hmk hl⟩

/-! ### Sure -/
def ZHj(x y:Option Dn):Bool×Int:=match x,y with
 |none,_=>(false,9)
 |some _,none=>(false,9)
 |some d,some e=>(!Vp d e,0)
def Zlr(most:Nat)(x y:Au×Int):Bool×Int:=if x.2=0 then if y.2=0 then ZHj (tabD x.1 most) (tabD y.1 most)else(false,y.2)else(false,x.2)
def Zls(most:Nat)(x y:Re×Int):Bool×Int:=if x.2=0 then if y.2=0 then Zlr most (Vh x.1) (Vh y.1)else(false,y.2)else(false,x.2)
def Zo9(k1:Int)(s1:List UInt8)(k2:Int)(s2:List UInt8)(most:Nat):Bool×Int:=Zls most (Je k1 s1) (Je k2 s2)

theorem Zwa{d e:Dn}{w1 w2:Nat}(hd:DOk d.cl d.N d.G w1)(he:DOk e.cl e.N e.G w2)(h:Heap):Con Trye.Y 39 [.agg (dfaC d.cl d.N d.G), .agg (dfaC e.cl e.N e.G)] h fun v _=> ∃s,v= .tup [.s s, .b (Vp d e)]:=by
 have hcold:Xc [.agg (dfaC d.cl d.N d.G), .agg (dfaC e.cl e.N e.G)]=true:=by
  show(ZQ (dfaC d.cl d.N d.G)&&(ZQ (dfaC e.cl e.N e.G)&&true))=true
  rw[Wg,Wg];rfl
 have a3:=VM d.cl d.N d.G
 have a4:=VM e.cl e.N e.G
 have l3:=Qy d.cl d.N d.G hd.c256
 have l4:=Qy e.cl e.N e.G he.c256
 have hf:=ZBo hd he
 have hp:PCon Trye.Y 39 [.agg (dfaC d.cl d.N d.G), .agg (dfaC e.cl e.N e.G)] (fun v=> ∃s,v= .tup [.s s, .b (Vp d e)]):=by
  revert hf hcold a3 a4 l3 l4
  generalize dfaC d.cl d.N d.G=cs
  generalize dfaC e.cl e.N e.G=ds
  intro hcold a3 a4 l3 l4 hf
  refine Zt Trye.Yok (fn:=Tryz.f39) hcold ZG6 rfl ?_
  refine ifT (by rw[a3];simp[l3]) (ifT (by rw[a4];simp[l4]) ?_)
  have g3:((Heap.empty.push (.arr cs true)).push (.arr ds true)).get Heap.empty.nx=some (.arr cs true):=by rw[qk,if_neg (by simp),qk,if_pos rfl]
  have g4:((Heap.empty.push (.arr cs true)).push (.arr ds true)).get (Heap.empty.nx+1)=some (.arr ds true):=by rw[qk,if_pos (by simp)]
  refine⟨cs,by rw[Zr g3,ql];exact ZA l3.symm,ds,by rw[Zr g4,ql];exact ZA l4.symm,?_⟩
  refine(Con.ofP [] (FrzAL.refl _) hf).mono fun v h' ⟨⟨s,hv⟩,_⟩=>⟨s,_,hv,?_⟩
  exact⟨.inr rfl,_,rfl,_, .tup _ _ (.cons _ _ _ _ (.s _) (.cons _ _ _ _ (.b _) .nil)),s,rfl⟩
 exact(Con.ofP [] (FrzAL.refl _) hp).mono fun v h' hv=>hv.1
end Go.Y
namespace Go.Y
open Go.Proofs
set_option maxRecDepth 1000000
set_option maxHeartbeats 0
theorem ZHk{k1 s1 k2 s2 a h}(K):CP Trye.Y 13 (pre (flat (Za Tryz.f13))) (.agg [I k1, .s s1]::.agg [I k2, .s s2]::I a::Rp 88) h [2,8,9,10,27,28,29] K=(K .normal 91 [I a, .p (some (h.nx,0)), .p (some (h.nx+(1:Nat),0)), .p (some (h.nx+(1:Nat)+(1:Nat),0)),J [I k1, .s s1,I k2, .s s2] 2 (some 2),I (↑(2:Nat):Int),I 0] (((h.pushT (Trye.Y.tag (93:Nat)) (YObj.arr [I 0,U 0,U 0,U 0,U 0,S none (0:Nat) (some (0:Nat)) (0:Nat),I 0,I 0,I 0,I 0,U 0,U 0,U 0,U 0,S none (0:Nat) (some (0:Nat)) (0:Nat),I 0,I 0,I 0] true)).pushT (Trye.Y.tag (94:Nat)) (YObj.arr [S none (0:Nat) (some (0:Nat)) (0:Nat),S none (0:Nat) (some (0:Nat)) (0:Nat),S none (0:Nat) (some (0:Nat)) (0:Nat),S none (0:Nat) (some (0:Nat)) (0:Nat),.b false,S none (0:Nat) (some (0:Nat)) (0:Nat),S none (0:Nat) (some (0:Nat)) (0:Nat),S none (0:Nat) (some (0:Nat)) (0:Nat),S none (0:Nat) (some (0:Nat)) (0:Nat),.b false] true)).pushT (Trye.Y.tag (99:Nat)) (YObj.arr (zDfa++zDfa) true))):=by kernel_rfl
theorem Ztk{k1 s1 k2 s2 e d f g a h}(K):CP Trye.Y 13 (flat (Zx (post (flat (Za Tryz.f13))))) (MZ 91 [2,8,9,10,27,28,29] [I e,.p (some (d,0)),.p (some (f,0)),.p (some (g,0)),J [I k1,.s s1,I k2,.s s2] 2 (some 2),I 2,I a]) h [2,6,7,8,9,10,27,28,29] K=(If (ltI a 2) (((0:Int)<=a∧a<(↑(2:Nat):Int))∧ ∃c i,Zo 2 (List.drop (a.toNat*2) [I k1,.s s1,I k2,.s s2])=some [I c,.s i]∧ ∃j l m n o q r t u w x y,(PCon Trye.Y 20 [.agg [I c,.s i]] fun(v:V)=>v=.tup [.agg (R9 j l m n o q r t u w x),I y])∧If (y !=(0:Int)) (K .ret 91 [I e, .b false,I y, .p (some (d,0)), .p (some (f,0)), .p (some (g,0)),J [I k1, .s s1,I k2, .s s2] 2 (some 2),I 2,I a] h) (((0:Int)<=a∧a<(↑(2:Nat):Int))∧ ∃z,Zj h d ((0:Nat)+a.toNat*9) (R9 j l m n o q r t u w x)=some z∧K .normal 91 [I e,Ud,Ud, .p (some (d,0)), .p (some (f,0)), .p (some (g,0)),J [I k1, .s s1,I k2, .s s2] 2 (some 2),I 2,I (IntKind.i64.wrap (a+(1:Int)))] z)) (K (.exit 0) 91 [I e,Ud,Ud, .p (some (d,0)), .p (some (f,0)), .p (some (g,0)),J [I k1, .s s1,I k2, .s s2] 2 (some 2),I 2,I a] h)):=by kernel_rfl
theorem ZHl{a b d e h}(K):CP Trye.Y 13 (pre ((post (flat (Za Tryz.f13))).drop 1)) (MZ 91 [2,8,9,10] [I a,.p (some (b,0)),.p (some (d,0)),.p (some (e,0))]) h [2,9,10,46,47] K=(∃c f g i j l m n o q r s t u v w x y z a0 a1 a2,Zb h b 0 18=some [I c,U f,U g,U i,U j,J l m n,I o,I q,I r,I s,U t,U u,U v,U w,J x y z,I a0,I a1,I a2]∧K .normal 91 [I a, .p (some (d,0)), .p (some (e,0)), .agg [I c,U f,U g,U i,U j,J l m n,I o,I q,I r,I s,U t,U u,U v,U w,J x y z,I a0,I a1,I a2],I 0] h):=by kernel_rfl
theorem ZHm{g a j k0 p0 p1 p2 p3 d n0 e f m0 k3 q0 q1 q2 q3 m n1 o q m1 h}(K):CP Trye.Y 13 (flat (Zx (post ((post (flat (Za Tryz.f13))).drop 1)))) (MZ 91 [2,9,10,46,47] [I g,.p (some (a,0)),.p (some (j,0)),.agg [I k0,U p0,U p1,U p2,U p3,J d n0 none,I e,I f,I m0,I k3,U q0,U q1,U q2,U q3,J m n1 none,I o,I q,I m1],I 0]) h [2,6,7,9,10,46,47] K=(∃b c i l n r s t u w x y z a0,(PCon Trye.Y 10 [.agg (R9 k0 p0 p1 p2 p3 d n0 none e f m0)] fun(v:V)=>v=.tup [.agg [J b c i,J l n r,J s t u,J w x y,.b z],I a0])∧If (a0 !=(0:Int)) (K .ret 91 [I g, .b false,I a0, .p (some (a,0)), .p (some (j,0)), .agg [I k0,U p0,U p1,U p2,U p3,J d n0 none,I e,I f,I m0,I k3,U q0,U q1,U q2,U q3,J m n1 none,I o,I q,I m1],I 0] h) (((0:Int)<=(0:Int)∧(0:Int)<(↑(2:Nat):Int))∧ ∃a1,Zj h a 0 [J b c i,J l n r,J s t u,J w x y,.b z]=some a1∧K .normal 91 [I g,Ud,Ud, .p (some (a,0)), .p (some (j,0)), .agg [I k0,U p0,U p1,U p2,U p3,J d n0 none,I e,I f,I m0,I k3,U q0,U q1,U q2,U q3,J m n1 none,I o,I q,I m1],I (IntKind.i64.wrap ((0:Int)+(1:Int)))] a1)):=by kernel_rfl
theorem ZHn{g a j k0 p0 p1 p2 p3 m n0 o q m0 k3 q0 q1 q2 q3 d n1 e f m1 h}(K):CP Trye.Y 13 (flat (Zx (post ((post (flat (Za Tryz.f13))).drop 1)))) (MZ 91 [2,9,10,46,47] [I g,.p (some (a,0)),.p (some (j,0)),.agg [I k0,U p0,U p1,U p2,U p3,J m n0 none,I o,I q,I m0,I k3,U q0,U q1,U q2,U q3,J d n1 none,I e,I f,I m1],I 1]) h [2,6,7,9,10,46,47] K=(∃b c i l n r s t u w x y z a0,(PCon Trye.Y 10 [.agg (R9 k3 q0 q1 q2 q3 d n1 none e f m1)] fun(v:V)=>v=.tup [.agg [J b c i,J l n r,J s t u,J w x y,.b z],I a0])∧If (a0 !=(0:Int)) (K .ret 91 [I g, .b false,I a0, .p (some (a,0)), .p (some (j,0)), .agg [I k0,U p0,U p1,U p2,U p3,J m n0 none,I o,I q,I m0,I k3,U q0,U q1,U q2,U q3,J d n1 none,I e,I f,I m1],I 1] h) (((0:Int)<=(1:Int)∧(1:Int)<(↑(2:Nat):Int))∧ ∃a1,Zj h a 5 [J b c i,J l n r,J s t u,J w x y,.b z]=some a1∧K .normal 91 [I g,Ud,Ud, .p (some (a,0)), .p (some (j,0)), .agg [I k0,U p0,U p1,U p2,U p3,J m n0 none,I o,I q,I m0,I k3,U q0,U q1,U q2,U q3,J d n1 none,I e,I f,I m1],I (IntKind.i64.wrap ((1:Int)+(1:Int)))] a1)):=by kernel_rfl
theorem ZHo{a b c k0 p0 p1 p2 p3 d n0 e f m0 k3 q0 q1 q2 q3 g n1 j l m1 h}(K):CP Trye.Y 13 (flat (Zx (post ((post (flat (Za Tryz.f13))).drop 1)))) (MZ 91 [2,9,10,46,47] [I a,.p (some (b,0)),.p (some (c,0)),.agg [I k0,U p0,U p1,U p2,U p3,J d n0 none,I e,I f,I m0,I k3,U q0,U q1,U q2,U q3,J g n1 none,I j,I l,I m1],I 2]) h [2,6,7,9,10,46,47] K=(K (.exit 2) 91 [I a,Ud,Ud, .p (some (b,0)), .p (some (c,0)), .agg [I k0,U p0,U p1,U p2,U p3,J d n0 none,I e,I f,I m0,I k3,U q0,U q1,U q2,U q3,J g n1 none,I j,I l,I m1],I 2] h):=by kernel_rfl
theorem ZHp{a d e h}(K):CP Trye.Y 13 (pre ((post ((post (flat (Za Tryz.f13))).drop 1)).drop 1)) (MZ 91 [2,9,10] [I a,.p (some (d,0)),.p (some (e,0))]) h [2,10,63,64] K=(∃b c f g i j l m n o q r s t u v w x y z a0 a1 a2 a3 a4 a5,Zb h d 0 10=some [J b c f,J g i j,J l m n,J o q r,.b s,J t u v,J w x y,J z a0 a1,J a2 a3 a4,.b a5]∧K .normal 91 [I a, .p (some (e,0)), .agg [J b c f,J g i j,J l m n,J o q r, .b s,J t u v,J w x y,J z a0 a1,J a2 a3 a4, .b a5],I 0] h):=by kernel_rfl
theorem ZHq{a c sa na fa d la e wa f ea sb nb fb g lb j wb l eb h}(K):CP Trye.Y 13 (flat (Zx (post ((post ((post (flat (Za Tryz.f13))).drop 1)).drop 1)))) (MZ 91 [2,10,63,64] [I a,.p (some (c,0)),.agg [J sa na none,J fa d none,J la e none,J wa f none,.b ea,J sb nb none,J fb g none,J lb j none,J wb l none,.b eb],I 2]) h [2,6,7,10,63,64] K=(K (.exit 4) 91 [I a,Ud,Ud, .p (some (c,0)), .agg [J sa na none,J fa d none,J la e none,J wa f none, .b ea,J sb nb none,J fb g none,J lb j none,J wb l none, .b eb],I 2] h):=by kernel_rfl
theorem ZHr{a h}(K):CP Trye.Y 13 ((post ((post ((post (flat (Za Tryz.f13))).drop 1)).drop 1)).drop 1) (MZ 91 [10] [.p (some (a,0))]) h [6,7] K=(((0:Int)<=(0:Int)∧(0:Int)<(↑(2:Nat):Int))∧ ∃b,Zb h a 0 258=some b∧((0:Int)<=(1:Int)∧(1:Int)<(↑(2:Nat):Int))∧ ∃c,Zb h a 258 258=some c∧Con Trye.Y 39 [.agg b,.agg c] h fun(v:V) (h':Heap)=> ∃d e,v=.tup [.s d,.b e]∧K .ret 91 [.b !e,I 0] h'):=by kernel_rfl
theorem ZHs{a c sa na fa d la e wa f ea sb nb fb g lb j wb l eb h}(K):CP Trye.Y 13 (flat (Zx (post ((post ((post (flat (Za Tryz.f13))).drop 1)).drop 1)))) (MZ 91 [2,10,63,64] [I a,.p (some (c,0)),.agg [J sa na none,J fa d none,J la e none,J wa f none,.b ea,J sb nb none,J fb g none,J lb j none,J wb l none,.b eb],I 0]) h [2,6,7,10,63,64] K=(∃i m,(PCon Trye.Y 38 [.agg [J sa na none,J fa d none,J la e none,J wa f none,.b ea],I a] fun v=>v=.tup [.agg i,I m])∧If (decide (i.length=(258:Nat))&&Zk i) (∃n,Zj (h.pushT (Trye.Y.tag (98:Nat)) (YObj.arr zDfa true)) h.nx 0 i=some n∧If (m !=(0:Int)) (K .ret 91 [I a, .b false,I m, .p (some (c,0)), .agg [J sa na none,J fa d none,J la e none,J wa f none, .b ea,J sb nb none,J fb g none,J lb j none,J wb l none, .b eb],I 0] n) (∃o,Zb n h.nx 0 258=some o∧((0:Int)<=(0:Int)∧(0:Int)<(↑(2:Nat):Int))∧If (decide (o.length=(258:Nat))&&Zk o) (∃q,Zj n c 0 o=some q∧K .normal 91 [I a,Ud,Ud, .p (some (c,0)), .agg [J sa na none,J fa d none,J la e none,J wa f none, .b ea,J sb nb none,J fb g none,J lb j none,J wb l none, .b eb],I (IntKind.i64.wrap ((0:Int)+(1:Int)))] q) False)) False):=by kernel_rfl
theorem ZHt{a c sa na fa g la j wa l ea sb nb fb d lb e wb f eb h}(K):CP Trye.Y 13 (flat (Zx (post ((post ((post (flat (Za Tryz.f13))).drop 1)).drop 1)))) (MZ 91 [2,10,63,64] [I a,.p (some (c,0)),.agg [J sa na none,J fa g none,J la j none,J wa l none,.b ea,J sb nb none,J fb d none,J lb e none,J wb f none,.b eb],I 1]) h [2,6,7,10,63,64] K=(∃i m,(PCon Trye.Y 38 [.agg [J sb nb none,J fb d none,J lb e none,J wb f none,.b eb],I a] fun v=>v=.tup [.agg i,I m])∧If (decide (i.length=(258:Nat))&&Zk i) (∃n,Zj (h.pushT (Trye.Y.tag (98:Nat)) (YObj.arr zDfa true)) h.nx 0 i=some n∧If (m !=(0:Int)) (K .ret 91 [I a, .b false,I m, .p (some (c,0)), .agg [J sa na none,J fa g none,J la j none,J wa l none, .b ea,J sb nb none,J fb d none,J lb e none,J wb f none, .b eb],I 1] n) (∃o,Zb n h.nx 0 258=some o∧((0:Int)<=(1:Int)∧(1:Int)<(↑(2:Nat):Int))∧If (decide (o.length=(258:Nat))&&Zk o) (∃q,Zj n c 258 o=some q∧K .normal 91 [I a,Ud,Ud, .p (some (c,0)), .agg [J sa na none,J fa g none,J la j none,J wa l none, .b ea,J sb nb none,J fb d none,J lb e none,J wb f none, .b eb],I (IntKind.i64.wrap ((1:Int)+(1:Int)))] q) False)) False):=by kernel_rfl
end Go.Y
namespace Go.Y
open Go.Proofs Gl
set_option maxRecDepth 100000
set_option maxHeartbeats 2000000

theorem splA{α:Type} : ∀(l m new:List α),splice (l++m) l.length new=l++splice m 0 new
 | [],m,new=>rfl
 |x::l,m,new=>by
  show x::splice (l++m) l.length new=_
  rw[splA l m new];rfl

structure SuI(id8 id9 id10:Nat)(c8 c9 c10:List V)(h:Heap):Prop where
 g8:h.get id8=some (.arr c8 true)
 g9:h.get id9=some (.arr c9 true)
 g10:h.get id10=some (.arr c10 true)
 ne:id8≠id9∧id8≠id10∧id9≠id10
 lt:id8<h.nx∧id9<h.nx∧id10<h.nx
theorem SuI.s8{id8 id9 id10:Nat}{c8 c9 c10:List V}{h:Heap}(s:SuI id8 id9 id10 c8 c9 c10 h){o:Nat}{new:List V}(hl:o+new.length<=c8.length): ∃h1,Zj h id8 o new=some h1∧SuI id8 id9 id10 (splice c8 o new) c9 c10 h1:=
 ⟨_,Xl s.g8 hl,by rw[qc,if_pos rfl],by rw[qc,if_neg (Ne.symm s.ne.1)];exact s.g9,by rw[qc,if_neg (Ne.symm s.ne.2.1)];exact s.g10,s.ne,s.lt⟩
theorem SuI.s9{id8 id9 id10:Nat}{c8 c9 c10:List V}{h:Heap}(s:SuI id8 id9 id10 c8 c9 c10 h){o:Nat}{new:List V}(hl:o+new.length<=c9.length): ∃h1,Zj h id9 o new=some h1∧SuI id8 id9 id10 c8 (splice c9 o new) c10 h1:=
 ⟨_,Xl s.g9 hl,by rw[qc,if_neg s.ne.1];exact s.g8,by rw[qc,if_pos rfl],by rw[qc,if_neg (Ne.symm s.ne.2.2)];exact s.g10,s.ne,s.lt⟩
theorem SuI.s10{id8 id9 id10:Nat}{c8 c9 c10:List V}{h:Heap}(s:SuI id8 id9 id10 c8 c9 c10 h){o:Nat}{new:List V}(hl:o+new.length<=c10.length): ∃h1,Zj h id10 o new=some h1∧SuI id8 id9 id10 c8 c9 (splice c10 o new) h1:=
 ⟨_,Xl s.g10 hl,by rw[qc,if_neg s.ne.2.1];exact s.g8,by rw[qc,if_neg s.ne.2.2];exact s.g9,by rw[qc,if_pos rfl],s.ne,s.lt⟩
theorem SuI.same{id8 id9 id10:Nat}{c8 c9 c10}{h h1:Heap}(s:SuI id8 id9 id10 c8 c9 c10 h)(hn:h.nx<=h1.nx)(hk: ∀j,j<h.nx->h1.get j=h.get j):SuI id8 id9 id10 c8 c9 c10 h1:=
 ⟨by rw[hk _ s.lt.1];exact s.g8,by rw[hk _ s.lt.2.1];exact s.g9,by rw[hk _ s.lt.2.2];exact s.g10,s.ne,by have:=s.lt;omega⟩

abbrev zRe9:List V:= [I 0,U 0,U 0,U 0,U 0, .sl none 0 (some 0) 0,I 0,I 0,I 0]
abbrev zAu5:List V:= [.sl none 0 (some 0) 0, .sl none 0 (some 0) 0, .sl none 0 (some 0) 0, .sl none 0 (some 0) 0, .b false]
def resB(x:Bool×Int):V:= .tup [.b x.1, .i .i64 x.2]
abbrev FinB(x:Bool×Int):Out->St->Prop:=FinS Trye.Y Tryz.f13 fun v h=> ∃r,Frz h v r∧r=resB x
theorem finB{so:List Nat}{vs}{h:Heap}{n:Nat}{x:Bool×Int}{b:Bool}{e:Int}(h6:Zae (so.zip vs) 6=some (.b b))(h7:Zae (so.zip vs) 7=some (I e))(hx:x=(b,e)):AtV so (FinB x) .ret n vs h:=by
 have hr:Tryz.f13.results.toList= [.tmp 6, .tmp 7]:=by kernel_rfl
 refine Xv (.inr rfl) (v:= .tup [.b b,I e]) ?_ ⟨_, .tup _ _ (.cons _ _ _ _ (.b _) (.cons _ _ _ _ (.i _ _) .nil)),by rw[hx];rfl⟩
 unfold resV
 rw[hr]
 simp only[Zcb,Zca,h6,h7]
 rfl
theorem Ztl{r:Re}{e:Int}{f:FuncId}{args}(c:PCon Trye.Y f args (· =Zjr r e)){K:Int->Int->Int->Int->Int->List V->Nat->Option Nat->Int->Int->Int->Int->Prop}
  (hk: ∀k s0 s1 s2 s3 cs l cc lo hi n e',Zd r= [I k,U s0,U s1,U s2,U s3, .ts cs l cc,I lo,I hi,I n]->e'=e->K k s0 s1 s2 s3 cs l cc lo hi n e'):
  ∃n n_1 n_2 n_3 n_4 cs l c n_5 n_6 n_7 n_8,(PCon Trye.Y f args fun v=>v= .tup [.agg [I n,U n_1,U n_2,U n_3,U n_4, .ts cs l c,I n_5,I n_6,I n_7],I n_8])∧K n n_1 n_2 n_3 n_4 cs l c n_5 n_6 n_7 n_8:=by
 unfold Zjr at c
 obtain⟨xk,xs,xl,xlo,xhi,xn⟩:=r
 exact⟨_,_,_,_,_,_,_,_,_,_,_,_,c.mono fun v hv=>by rw[hv,ZD],hk _ _ _ _ _ _ _ _ _ _ _ _ (Zp _ _ _ _ _ _) rfl⟩

theorem Zf6:zDfaF.length=258∧Zk zDfaF=true:=⟨by unfold zDfaF;simp,by kernel_rfl⟩
theorem Ztm:(zDfa++zDfa).length=516:=by rw[qf,XM]

noncomputable abbrev L13a:List Code:=post (flat (Za Tryz.f13))
noncomputable abbrev L13b:List Code:=post (L13a.drop 1)
noncomputable abbrev L13c:List Code:=post (L13b.drop 1)
theorem ZHu{id8 id9 id10:Nat}{c8 c9}{d e:Dn}{w1 w2:Nat}(hd:DOk d.cl d.N d.G w1)(he:DOk e.cl e.N e.G w2){h:Heap}(s:SuI id8 id9 id10 c8 c9 (dfaC d.cl d.N d.G++dfaC e.cl e.N e.G) h){x:Bool×Int}(hx:x=(!Vp d e,0)):
  TriL Trye.Y (L13c.drop 1) ⟨mk 91 ([10].zip [.p (some (id10,0))]),[],h⟩ (FinB x):=by
 refine Zn Trye.Yok ZHr rfl ?_
 have l3:=Qy d.cl d.N d.G hd.c256
 have l4:=Qy e.cl e.N e.G he.c256
 have hw:=Zwa hd he h
 have g:=s.g10
 revert l3 l4 hw g
 generalize dfaC d.cl d.N d.G=cs
 generalize dfaC e.cl e.N e.G=ds
 intro l3 l4 hw g
 refine⟨⟨by decide,by decide⟩,cs,?_,⟨by decide,by decide⟩,ds,?_,hw.mono fun v h' ⟨s,hv⟩=>⟨s,_,hv,?_⟩⟩
 ·rw[Zr g,ql,JW (by simp;omega),List.take_left' l3]
 ·rw[Zr g,List.drop_left' l3];exact ZA l4.symm
 ·exact⟨.inr rfl,_,rfl,_, .tup _ _ (.cons _ _ _ _ (.b _) (.cons _ _ _ _ (.i _ _) .nil)),by rw[hx];rfl⟩

theorem ZHv(hs:ZO UY.P 75)(hcm:ZC UY.P 76){id8 id9 id10:Nat}{c8}{a b:Au}(ha:OkA a)(hb:OkA b){most:Nat}(hm1:1<=most)(hm:most<=300){h:Heap}(s:SuI id8 id9 id10 c8 (auC a++auC b) (zDfa++zDfa) h){x:Bool×Int}(hx:x=ZHj (tabD a most) (tabD b most)):
  TriL Trye.Y (L13b.drop 1) ⟨mk 91 ([2,9,10].zip [I most, .p (some (id9,0)), .p (some (id10,0))]),[],h⟩ (FinB x):=by
 have ma:=PCon.ze (Zxu hs hcm ha most hm1 hm)
 have mb:=PCon.ze (Zxu hs hcm hb most hm1 hm)
 refine Zl Trye.Yok 91 ZHp rfl ?_
 refine⟨_,_,_,_,_,_,_,_,_,_,_,_,_,_,_,_,_,_,_,_,_,_,_,_,_,_,(Zr s.g9 0 10).trans rfl,?_⟩
 refine⟨rfl,ZL [2,10,63,64] [2,6,7,10,63,64] (fun m vs g=> ∃(i:Nat) (c:List V),vs= [I most, .p (some (id10,0)), .agg (auC a++auC b),I (i:Nat)]∧SuI id8 id9 id10 c8 (auC a++auC b) c g∧
  ((i=0∧m=2∧c=zDfa++zDfa)∨(i=1∧m=1∧ ∃d,tabD a most=some d∧c=dfaC d.cl d.N d.G++zDfa)∨(i=2∧m=0∧ ∃d e,tabD a most=some d∧tabD b most=some e∧c=dfaC d.cl d.N d.G++dfaC e.cl e.N e.G))) 2 Zy ⟨0,_,rfl,s, .inl ⟨rfl,rfl,rfl⟩⟩ ?_⟩
 rintro m vs g ⟨i,c,rfl,s1,⟨rfl,rfl,rfl⟩|⟨rfl,rfl,d,hd,rfl⟩|⟨rfl,rfl,d,e,hd,he,rfl⟩⟩
 ·refine Zs Trye.Yok ZHs rfl ?_
  have hput: ∀cs:List V,cs.length=258->Zj (g.pushT (Trye.Y.tag 98) (.arr zDfa true)) g.nx 0 cs=some ((g.pushT (Trye.Y.tag 98) (.arr zDfa true)).set g.nx (some (.arr cs true))):=fun cs hl=>by
   have:=Xl (h:=g.pushT (Trye.Y.tag 98) (.arr zDfa true)) (id:=g.nx) (off:=0) (cs:=zDfa) (new:=cs) (by rw[qj,if_pos rfl]) (by rw[XM];omega)
   rw[this,Qq,List.drop_of_length_le (by rw[XM];omega),qi]
  obtain⟨o,ht⟩: ∃o,tabD a most=o:=⟨_,rfl⟩
  cases o with
  |none=>
   rw[Zf4 ht]at ma
   refine⟨zDfaF,9,ma,ifT (by rw[Zf6.2];simp[Zf6.1]) ⟨_,hput zDfaF Zf6.1,ifT rfl ?_⟩⟩
   exact finB rfl rfl (by rw[hx,ht];rfl)
  |some d=>
   rw[Zf5 ht]at ma
   obtain⟨w,hd⟩:=Zek ha hm1 hm ht
   have l3:=Qy d.cl d.N d.G hd.c256
   have a3:=VM d.cl d.N d.G
   have hsp:splice (zDfa++zDfa) 0 (dfaC d.cl d.N d.G)=dfaC d.cl d.N d.G++zDfa:=by rw[Qq,List.drop_left' (by rw[XM,l3])]
   revert ma l3 a3 hsp
   generalize hD:dfaC d.cl d.N d.G=cs
   intro ma l3 a3 hsp
   have s2:SuI id8 id9 id10 c8 (auC a++auC b) (zDfa++zDfa) ((g.pushT (Trye.Y.tag 98) (.arr zDfa true)).set g.nx (some (.arr cs true))):=s1.same (by simp) (fun j hj=>by rw[qc,if_neg (by omega),qj,if_neg (by omega)])
   obtain⟨h2,p1,p2⟩:=s2.s10 (o:=0) (new:=cs) (by rw[Ztm];omega)
   refine⟨cs,0,ma,ifT (by rw[a3];simp[l3]) ⟨_,hput cs l3,ifF rfl ⟨cs,?_,⟨by decide,by decide⟩,ifT (by rw[a3];simp[l3]) ⟨h2,p1,?_⟩⟩⟩⟩
   ·rw[Zr (by rw[qc,if_pos rfl]),ql];exact ZA l3.symm
   ·rw[hsp]at p2
    exact⟨rfl,1,by decide,1,_,rfl,p2, .inr (.inl ⟨rfl,rfl,d,ht,by rw[hD]⟩)⟩
 ·refine Zs Trye.Yok ZHt rfl ?_
  have hput: ∀cs:List V,cs.length=258->Zj (g.pushT (Trye.Y.tag 98) (.arr zDfa true)) g.nx 0 cs=some ((g.pushT (Trye.Y.tag 98) (.arr zDfa true)).set g.nx (some (.arr cs true))):=fun cs hl=>by
   have:=Xl (h:=g.pushT (Trye.Y.tag 98) (.arr zDfa true)) (id:=g.nx) (off:=0) (cs:=zDfa) (new:=cs) (by rw[qj,if_pos rfl]) (by rw[XM];omega)
   rw[this,Qq,List.drop_of_length_le (by rw[XM];omega),qi]
  obtain⟨w,hdk⟩:=Zek ha hm1 hm hd
  have l0:=Qy d.cl d.N d.G hdk.c256
  obtain⟨o,ht⟩: ∃o,tabD b most=o:=⟨_,rfl⟩
  cases o with
  |none=>
   rw[Zf4 ht]at mb
   refine⟨zDfaF,9,mb,ifT (by rw[Zf6.2];simp[Zf6.1]) ⟨_,hput zDfaF Zf6.1,ifT rfl ?_⟩⟩
   exact finB rfl rfl (by rw[hx,ht,hd];rfl)
  |some e=>
   rw[Zf5 ht]at mb
   obtain⟨w2,he⟩:=Zek hb hm1 hm ht
   have l3:=Qy e.cl e.N e.G he.c256
   have a3:=VM e.cl e.N e.G
   have hsp:splice (dfaC d.cl d.N d.G++zDfa) 258 (dfaC e.cl e.N e.G)=dfaC d.cl d.N d.G++dfaC e.cl e.N e.G:=by
    have:=splA (dfaC d.cl d.N d.G) zDfa (dfaC e.cl e.N e.G)
    rw[l0]at this
    rw[this,Qq,List.drop_of_length_le (by rw[XM];omega),qi]
   have hl0:(dfaC d.cl d.N d.G++zDfa).length=516:=by rw[qf,l0,XM]
   have s2:SuI id8 id9 id10 c8 (auC a++auC b) (dfaC d.cl d.N d.G++zDfa) ((g.pushT (Trye.Y.tag 98) (.arr zDfa true)).set g.nx (some (.arr (dfaC e.cl e.N e.G) true))):=s1.same (by simp) (fun j hj=>by rw[qc,if_neg (by omega),qj,if_neg (by omega)])
   obtain⟨h2,p1,p2⟩:=s2.s10 (o:=258) (new:=dfaC e.cl e.N e.G) (by rw[hl0];omega)
   rw[hsp]at p2
   have goal: ∀cs,cs=dfaC e.cl e.N e.G-> ∃m':Nat,m'=0∧ ∃(i:Nat) (c:List V),i=2∧SuI id8 id9 id10 c8 (auC a++auC b) c h2∧ ∃d e,tabD a most=some d∧tabD b most=some e∧c=dfaC d.cl d.N d.G++dfaC e.cl e.N e.G:=fun cs _=>⟨0,rfl,2,_,rfl,p2,d,e,hd,ht,rfl⟩
   clear p2 s2 hsp
   revert mb l3 a3 p1 goal
   generalize dfaC e.cl e.N e.G=cs
   intro mb l3 a3 p1 goal
   obtain⟨m',rfl,i,c,rfl,p2,d',e',q1,q2,q3⟩:=goal cs rfl
   refine⟨cs,0,mb,ifT (by rw[a3];simp[l3]) ⟨_,hput cs l3,ifF rfl ⟨cs,?_,⟨by decide,by decide⟩,ifT (by rw[a3];simp[l3]) ⟨h2,p1,?_⟩⟩⟩⟩
   ·rw[Zr (by rw[qc,if_pos rfl]),ql];exact ZA l3.symm
   ·exact⟨rfl,0,by decide,2,_,rfl,p2, .inr (.inr ⟨rfl,rfl,d',e',q1,q2,q3⟩)⟩
 ·refine Zs Trye.Yok ZHq rfl ?_
  obtain⟨w1,hdk⟩:=Zek ha hm1 hm hd
  obtain⟨w2,hek⟩:=Zek hb hm1 hm he
  refine Zi [10] ?_
  exact ZHu hdk hek s1 (by rw[hx,hd,he];rfl)
end Go.Y
namespace Go.Y
open Go.Proofs Gl
set_option maxRecDepth 100000
set_option maxHeartbeats 2000000

theorem ZHw(hs:ZO UY.P 75)(hcm:ZC UY.P 76){id8 id9 id10:Nat}{r1 r2:Re}(h1:ReOk r1)(h2:ReOk r2){most:Nat}(hm1:1<=most)(hm:most<=300){h:Heap}(s:SuI id8 id9 id10 (Zd r1++Zd r2) (zAu5++zAu5) (zDfa++zDfa) h){x:Bool×Int}(hx:x=Zlr most (Vh r1) (Vh r2)):
  TriL Trye.Y (L13a.drop 1) ⟨mk 91 ([2,8,9,10].zip [I most, .p (some (id8,0)), .p (some (id9,0)), .p (some (id10,0))]),[],h⟩ (FinB x):=by
 have m1:=PCon.ze (Ztj hs hcm h1)
 have m2:=PCon.ze (Ztj hs hcm h2)
 have o1:=Zj0 h1
 have o2:=Zj0 h2
 revert m1 m2 o1 o2 hx
 generalize Vh r1=y1
 generalize Vh r2=y2
 intro hx m1 m2 o1 o2
 obtain⟨k,sr,kids,lo,hi,n⟩:=r1
 obtain⟨k',sr',kids',lo',hi',n'⟩:=r2
 rw[Zp]at m1 m2
 rw[Zp,Zp]at s
 refine Zl Trye.Yok 91 ZHl rfl ?_
 refine⟨_,_,_,_,_,_,_,_,_,_,_,_,_,_,_,_,_,_,_,_,_,_,(Zr s.g8 0 18).trans rfl,?_⟩
 refine⟨rfl,ZL [2,9,10,46,47] [2,6,7,9,10,46,47] (fun m vs g=> ∃(i:Nat) (c:List V),vs= [I most, .p (some (id9,0)), .p (some (id10,0)), .agg ([I k,U sr.1,U sr.2.1,U sr.2.2.1,U sr.2.2.2,lst Zd kids,I lo,I hi,I n]++ [I k',U sr'.1,U sr'.2.1,U sr'.2.2.1,U sr'.2.2.2,lst Zd kids',I lo',I hi',I n']),I (i:Nat)]∧ ∃c8,SuI id8 id9 id10 c8 c (zDfa++zDfa) g∧
  ((i=0∧m=2∧c=zAu5++zAu5)∨(i=1∧m=1∧y1.2=0∧c=auC y1.1++zAu5)∨(i=2∧m=0∧y1.2=0∧y2.2=0∧c=auC y1.1++auC y2.1))) 2 Zy ⟨0,_,rfl,_,s, .inl ⟨rfl,rfl,rfl⟩⟩ ?_⟩
 rintro m vs g ⟨i,c,rfl,c8,s1,⟨rfl,rfl,rfl⟩|⟨rfl,rfl,d,rfl⟩|⟨rfl,rfl,d,e,rfl⟩⟩
 ·refine Zs Trye.Yok ZHm rfl ?_
  refine⟨_,_,_,_,_,_,_,_,_,_,_,_,_,_,m1,Zg (fun he=> ?_) (fun he=> ?_)⟩
  ·have he: ¬y1.2=0:=by simpa using he
   exact finB rfl rfl (by rw[hx,Zlr,if_neg he])
  ·have he:y1.2=0:=by simpa using he
   obtain⟨h2',p1,p2⟩:=s1.s9 (o:=0) (new:=auC y1.1) (by simp)
   exact⟨⟨by decide,by decide⟩,h2',p1,rfl,1,by decide,1,_,rfl,_,p2, .inr (.inl ⟨rfl,rfl,he,rfl⟩)⟩
 ·refine Zs Trye.Yok ZHn rfl ?_
  refine⟨_,_,_,_,_,_,_,_,_,_,_,_,_,_,m2,Zg (fun he=> ?_) (fun he=> ?_)⟩
  ·have he: ¬y2.2=0:=by simpa using he
   exact finB rfl rfl (by rw[hx,Zlr,if_pos d,if_neg he])
  ·have he:y2.2=0:=by simpa using he
   obtain⟨h2',p1,p2⟩:=s1.s9 (o:=5) (new:=auC y2.1) (by simp)
   exact⟨⟨by decide,by decide⟩,h2',p1,rfl,0,by decide,2,_,rfl,_,p2, .inr (.inr ⟨rfl,rfl,d,he,rfl⟩)⟩
 ·refine Zs Trye.Yok ZHo rfl ?_
  refine Zi [2,9,10] ?_
  exact ZHv hs hcm (o1 d) (o2 e) hm1 hm s1 (by rw[hx,Zlr,if_pos d,if_pos e])

theorem Zxy(hs:ZO UY.P 75)(hcm:ZC UY.P 76)(k1:Int)(t1:List UInt8)(k2:Int)(t2:List UInt8){most:Nat}(hm1:1<=most)(hm:most<=300):
  PCon UY 13 [.agg [I k1, .s t1], .agg [I k2, .s t2],I most] (· =resB (Zo9 k1 t1 k2 t2 most)):=by
 refine PCon.ez ?_
 refine ZE Trye.Yok (fn:=Tryz.f13) rfl ?_
 have c1:=PCon.ze (Zbz k1 t1)
 have c2:=PCon.ze (Zbz k2 t2)
 rw[Zo8]at c1 c2
 have o1:=Zf3 k1 t1
 have o2:=Zf3 k2 t2
 unfold Zo9
 revert c1 c2 o1 o2
 generalize Je k1 t1=y1
 generalize Je k2 t2=y2
 intro c1 c2 o1 o2
 obtain⟨x,hx⟩: ∃x,x=Zls most y1 y2:=⟨_,rfl⟩
 rw[<-hx]
 refine Zl Trye.Yok 91 ZHk rfl ?_
 obtain⟨h0,e0⟩: ∃h0,h0=((Heap.empty.pushT (Trye.Y.tag 93) (.arr (zRe9++zRe9) true)).pushT (Trye.Y.tag 94) (.arr (zAu5++zAu5) true)).pushT (Trye.Y.tag 99) (.arr (zDfa++zDfa) true):=⟨_,rfl⟩
 have s0:SuI Heap.empty.nx (Heap.empty.nx+1) (Heap.empty.nx+1+1) (zRe9++zRe9) (zAu5++zAu5) (zDfa++zDfa) h0:=by
  rw[e0]
  refine⟨?_,?_,?_,by omega,by simp;omega⟩
  ·rw[qj,if_neg (by simp<;>omega),qj,if_neg (by simp<;>omega),qj,if_pos rfl]
  ·rw[qj,if_neg (by simp<;>omega),qj,if_pos (by simp)]
  ·rw[qj,if_pos (by simp)]
 show _∧TriL Trye.Y _ ⟨_,[],((Heap.empty.pushT (Trye.Y.tag 93) (.arr (zRe9++zRe9) true)).pushT (Trye.Y.tag 94) (.arr (zAu5++zAu5) true)).pushT (Trye.Y.tag 99) (.arr (zDfa++zDfa) true)⟩ _
 rw[<-e0]
 generalize Heap.empty.nx=id8 at s0 ⊢
 generalize id8+1=id9 at s0 ⊢
 generalize id9+1=id10 at s0 ⊢
 refine⟨rfl,ZL [2,8,9,10,27,28,29] [2,6,7,8,9,10,27,28,29] (fun m vs g=> ∃(i:Nat) (c:List V),vs= [I most, .p (some (id8,0)), .p (some (id9,0)), .p (some (id10,0)), .ts [I k1, .s t1,I k2, .s t2] 2 (some 2),I 2,I (i:Nat)]∧SuI id8 id9 id10 c (zAu5++zAu5) (zDfa++zDfa) g∧
  ((i=0∧m=2∧c=zRe9++zRe9)∨(i=1∧m=1∧y1.2=0∧c=Zd y1.1++zRe9)∨(i=2∧m=0∧y1.2=0∧y2.2=0∧c=Zd y1.1++Zd y2.1))) 2 Zy ⟨0,_,rfl,s0, .inl ⟨rfl,rfl,rfl⟩⟩ ?_⟩
 rintro m vs g ⟨i,c,rfl,s1,⟨rfl,rfl,rfl⟩|⟨rfl,rfl,d,rfl⟩|⟨rfl,rfl,d,e,rfl⟩⟩
 ·refine Zs Trye.Yok Ztk rfl ?_
  refine ifT rfl ⟨⟨by decide,by decide⟩,k1,t1,rfl,Ztl c1 fun k u0 u1 u2 u3 cs l cc lo hi n e' he1 he2=> ?_⟩
  refine Zg (fun he=> ?_) (fun he=> ?_)
  ·have he: ¬y1.2=0:=by rw[<-he2];simpa using he
   exact finB rfl rfl (by rw[hx,Zls,if_neg he,he2])
  ·have he:y1.2=0:=by rw[<-he2];simpa using he
   obtain⟨h2',p1,p2⟩:=s1.s8 (o:=0) (new:=Zd y1.1) (by rw[he1];simp)
   refine⟨⟨by decide,by decide⟩,h2',by rw[he1]at p1;exact p1,rfl,1,by decide,1,_,rfl,p2, .inr (.inl ⟨rfl,rfl,he,?_⟩)⟩
   rw[he1];rfl
 ·refine Zs Trye.Yok Ztk rfl ?_
  refine ifT rfl ⟨⟨by decide,by decide⟩,k2,t2,rfl,Ztl c2 fun k u0 u1 u2 u3 cs l cc lo hi n e' he1 he2=> ?_⟩
  have hl1:(Zd y1.1).length=9:=by
   obtain⟨⟨_,_,_,_,_,_⟩,_⟩:=y1
   rw[Zp];rfl
  refine Zg (fun he=> ?_) (fun he=> ?_)
  ·have he: ¬y2.2=0:=by rw[<-he2];simpa using he
   exact finB rfl rfl (by rw[hx,Zls,if_pos d,if_neg he,he2])
  ·have he:y2.2=0:=by rw[<-he2];simpa using he
   obtain⟨h2',p1,p2⟩:=s1.s8 (o:=9) (new:=Zd y2.1) (by rw[he1,qf,hl1];simp)
   refine⟨⟨by decide,by decide⟩,h2',by rw[he1]at p1;exact p1,rfl,0,by decide,2,_,rfl,p2, .inr (.inr ⟨rfl,rfl,d,he,?_⟩)⟩
   have:=splA (Zd y1.1) zRe9 (Zd y2.1)
   rw[hl1]at this
   rw[this,Qq,List.drop_of_length_le (by rw[he1];simp),qi]
 ·refine Zs Trye.Yok Ztk rfl ?_
  refine ifF rfl (Zi [2,8,9,10] ?_)
  exact ZHw hs hcm o1 o2 hm1 hm s1 (by rw[hx,Zls,if_pos d,if_pos e])
end Go.Y
namespace Go.Y
open Go.Proofs Gl
set_option maxRecDepth 100000
set_option maxHeartbeats 4000000

abbrev Zpa:S4:=(18446744073709551615,18446744073709551615,18446744073709551615,18446744073709551615)
abbrev anyA:Re:= .mk 1 Zpa [] 0 0 0
abbrev Zwb:Re:= .mk 6 (0,0,0,0) [anyA] 0 (-1) 0
abbrev byA:Re:= .mk 1 (0,8589934592,0,0) [] 0 0 0
abbrev byB:Re:= .mk 1 (0,17179869184,0,0) [] 0 0 0
abbrev reX:Re:= .mk 4 (0,0,0,0) [byA,byB] 0 0 0
abbrev reA:Re:= .mk 4 (0,0,0,0) [Zwb,byA,byB,Zwb] 0 0 0
abbrev reB:Re:= .mk 4 (0,0,0,0) [Zwb,byA,anyA,Zwb] 0 0 0
abbrev auA:Au:=⟨[Zpa,(0,8589934592,0,0),(0,17179869184,0,0),Zpa],[0,1],[2,3],[[0,1],[2],[3],[3]],false⟩
abbrev auB:Au:=⟨[Zpa,(0,8589934592,0,0),Zpa,Zpa],[0,1],[2,3],[[0,1],[2],[3],[3]],false⟩
abbrev clA:List Nat:=List.replicate 97 0++(1::2::List.replicate 157 0)
abbrev clB:List Nat:=List.replicate 97 0++(1::List.replicate 158 0)
abbrev daA:Dn:=⟨clA,[[1,2,1],[1,2,1],[1,2,3],[4,5,4],[4,5,4],[4,5,6],[4,5,4]],[false,false,false,true,true,true,true]⟩
abbrev daB:Dn:=⟨clB,[[1,2],[1,2],[3,4],[5,6],[7,8],[5,6],[7,8],[5,6],[7,8]],[false,false,false,true,true,true,true,true,true]⟩

theorem wX:sevS 4 (ZZ [97,98])=reX∧mayE reX=true∧textF reX= [97,98]:=by refine⟨?_,?_,?_⟩<;>kernel_rfl
theorem wA:Je 0 [97,98]=(reA,0):=by kernel_rfl
theorem wB:Je 1 [97,63]=(reB,0):=by kernel_rfl
theorem pA2:Vh reA=(auA,0):=by kernel_rfl
theorem pB2:Vh reB=(auB,0):=by kernel_rfl
theorem sA:srtS auA.sets 256=(clA,[0,97,98]):=by kernel_rfl
theorem sB:srtS auB.sets 256=(clB,[0,97]):=by kernel_rfl
theorem tA:tabD auA 50=some daA:=by
 unfold tabD
 rw[sA]
 kernel_rfl
theorem tB:tabD auB 50=some daB:=by
 unfold tabD
 rw[sB]
 kernel_rfl
theorem fAB:Vp daA daB=false:=by kernel_rfl
theorem fBA:Vp daB daA=true:=by kernel_rfl
theorem ZHx:Zo9 0 [97,98] 1 [97,63] 50=(true,0):=by
 unfold Zo9 Zls
 rw[wA,wB,if_pos rfl,if_pos rfl,pA2,pB2]
 unfold Zlr
 rw[if_pos rfl,if_pos rfl,tA,tB]
 show((!Vp daA daB),(0:Int))=_
 rw[fAB];rfl
theorem ZHy:Zo9 1 [97,63] 0 [97,98] 50=(false,0):=by
 unfold Zo9 Zls
 rw[wA,wB,if_pos rfl,if_pos rfl,pA2,pB2]
 unfold Zlr
 rw[if_pos rfl,if_pos rfl,tA,tB]
 show((!Vp daB daA),(0:Int))=_
 rw[fBA];rfl
end Go.Y
namespace Go.Y
open Go.Proofs
set_option maxRecDepth 1000000
set_option maxHeartbeats 0
theorem ZL5{h}(K):CP UY 12 (flat (Za Tryz.f12)) (Rp 45) h [0] K=(∃a b c d e f g i j l m n,(PCon UY 16 [.s #[(97:UInt8),(98:UInt8)].toList] fun(v:V)=>v=.tup [.agg (R9 a b c d e f g i j l m),I n])∧ ∃o p,(PCon UY 13 [.agg [I 0,.s #[(97:UInt8),(98:UInt8)].toList],.agg [I 1,.s #[(97:UInt8),(63:UInt8)].toList],I 50] fun v=>v=.tup [.b o,I p])∧ ∃q r,(PCon UY 13 [.agg [I 1,.s #[(97:UInt8),(63:UInt8)].toList],.agg [I 0,.s #[(97:UInt8),(98:UInt8)].toList],I 50] fun v=>v=.tup [.b q,I r])∧If (n==(0:Int)) (∃s,(PCon UY 37 [.agg (R9 a b c d e f g i j l m)] fun v=>v=.s s)∧If (s== #[(97:UInt8),(98:UInt8)].toList) (If o (If (p==(0:Int)) (If (!q) (K .ret 45 [.b (r==(0:Int))] h) (K .ret 45 [.b false] h)) (K .ret 45 [.b false] h)) (K .ret 45 [.b false] h)) (K .ret 45 [.b false] h)) (K .ret 45 [.b false] h)):=by kernel_rfl
end Go.Y
namespace Go.Y
open Go.Proofs Gl
set_option maxRecDepth 100000
set_option maxHeartbeats 4000000

theorem ZBp(hs:ZO UY.P 75)(hcm:ZC UY.P 76):PCon UY 12 [] (· = .b true):=by
 have c0:=Zxf [97,98] (by decide)
 have c1:=Zxy hs hcm 0 [97,98] 1 [97,63] (most:=50) (by decide) (by decide)
 have c2:=Zxy hs hcm 1 [97,63] 0 [97,98] (most:=50) (by decide) (by decide)
 have c3:TxR reX:=Zhe (B:=1000) (by decide) reX ?_ ?_ ?_
 rw[ZHx]at c1
 rw[ZHy]at c2
 rw[wX.1]at c0
 unfold fitV at c0
 rw[if_pos wX.2.1]at c0
 unfold TxR at c3
 rw[wX.2.2]at c3
 rw[Zp]at c0 c3
 refine Zt UK (fn:=Tryz.f12) rfl ZL5 rfl ?_
 exact⟨_,_,_,_,_,_,_,_,_,_,_,_,c0,_,_,c1,_,_,c2,ifT rfl ⟨_,c3,ifT rfl (ifT rfl (ifT rfl (ifT rfl (Zv (.inr rfl) rfl (.b _) rfl))))⟩⟩
 ·have:=(WF (s:= [97,98]) (by decide)).re
  rwa [wX.1]at this
 ·have:=Zjn (k:=4) (Za4 [97,98])
  rwa [wX.1]at this
 ·have h1:=Zbq 4 (ZZ [97,98])
  have h2:=(WF (s:= [97,98]) (by decide)).cnt
  rw[wX.1]at h1
  omega
end Go.Y
namespace Go.Proofs
open Go.Shelf
def Tryz.lays189_ren:Go.Shelf.Ren:=⟨fun|189=>75|125=>121|257=>120|128=>159|129=>160|294=>150|295=>151|296=>152|297=>153|298=>154|299=>155|216=>156|300=>157|301=>158|328=>179|329=>180|330=>181|331=>182|332=>183|215=>184|343=>192|n=>n,fun|28=>32|3=>3|46=>132|0=>0|51=>235|53=>23|4=>4|183=>228|182=>227|131=>199|5=>5|9=>9|218=>248|222=>252|228=>257|229=>217|n=>n,fun|n=>n⟩
theorem Tryz.lays189:Go.Proofs.Lays.n189 Tryz.prog Tryz.lays189_ren:= {
 mixed:=by kernel_rfl
 f125:=Tryz.func121.trans (congrArg some (by kernel_rfl))
 f128:=Tryz.func159.trans (congrArg some (by kernel_rfl))
 f129:=Tryz.func160.trans (congrArg some (by kernel_rfl))
 f189:=Tryz.func75.trans (congrArg some (by kernel_rfl))
 f215:=Tryz.func184.trans (congrArg some (by kernel_rfl))
 f216:=Tryz.func156.trans (congrArg some (by kernel_rfl))
 f257:=Tryz.func120.trans (congrArg some (by kernel_rfl))
 f294:=Tryz.func150.trans (congrArg some (by kernel_rfl))
 f295:=Tryz.func151.trans (congrArg some (by kernel_rfl))
 f296:=Tryz.func152.trans (congrArg some (by kernel_rfl))
 f297:=Tryz.func153.trans (congrArg some (by kernel_rfl))
 f298:=Tryz.func154.trans (congrArg some (by kernel_rfl))
 f299:=Tryz.func155.trans (congrArg some (by kernel_rfl))
 f300:=Tryz.func157.trans (congrArg some (by kernel_rfl))
 f301:=Tryz.func158.trans (congrArg some (by kernel_rfl))
 f328:=Tryz.func179.trans (congrArg some (by kernel_rfl))
 f329:=Tryz.func180.trans (congrArg some (by kernel_rfl))
 f330:=Tryz.func181.trans (congrArg some (by kernel_rfl))
 f331:=Tryz.func182.trans (congrArg some (by kernel_rfl))
 f332:=Tryz.func183.trans (congrArg some (by kernel_rfl))
 f343:=Tryz.func192.trans (congrArg some (by kernel_rfl))
 t0:=Tryz.underlying0
 a0:=Tryz.isAgg0
 z0:=Tryz.sizeOf0
 v0:=Tryz.zeroValue0
 t3:=Tryz.underlying3
 a3:=Tryz.isAgg3
 z3:=Tryz.sizeOf3
 v3:=Tryz.zeroValue3
 t4:=Tryz.underlying4
 a4:=Tryz.isAgg4
 z4:=Tryz.sizeOf4
 v4:=Tryz.zeroValue4
 t5:=Tryz.underlying5
 a5:=Tryz.isAgg5
 z5:=Tryz.sizeOf5
 v5:=Tryz.zeroValue5
 t9:=Tryz.underlying9
 a9:=Tryz.isAgg9
 z9:=Tryz.sizeOf9
 v9:=Tryz.zeroValue9
 t28:=Tryz.underlying32
 a28:=Tryz.isAgg32
 z28:=Tryz.sizeOf32
 v28:=Tryz.zeroValue32
 t46:=Tryz.underlying132
 a46:=Tryz.isAgg132
 z46:=Tryz.sizeOf132
 v46:=Tryz.zeroValue132
 t51:=Tryz.underlying235
 a51:=Tryz.isAgg235
 z51:=Tryz.sizeOf235
 v51:=Tryz.zeroValue235
 t53:=Tryz.underlying23
 a53:=Tryz.isAgg23
 z53:=Tryz.sizeOf23
 v53:=Tryz.zeroValue23
 t131:=Tryz.underlying199
 a131:=Tryz.isAgg199
 z131:=Tryz.sizeOf199
 v131:=Tryz.zeroValue199
 t182:=Tryz.underlying227
 a182:=Tryz.isAgg227
 z182:=Tryz.sizeOf227
 v182:=Tryz.zeroValue227
 t183:=Tryz.underlying228
 a183:=Tryz.isAgg228
 z183:=Tryz.sizeOf228
 v183:=Tryz.zeroValue228
 t218:=Tryz.underlying248
 a218:=Tryz.isAgg248
 z218:=Tryz.sizeOf248
 v218:=Tryz.zeroValue248
 t222:=Tryz.underlying252
 a222:=Tryz.isAgg252
 z222:=Tryz.sizeOf252
 v222:=Tryz.zeroValue252
 t228:=Tryz.underlying257
 a228:=Tryz.isAgg257
 z228:=Tryz.sizeOf257
 v228:=Tryz.zeroValue257
 t229:=Tryz.underlying217
 a229:=Tryz.isAgg217
 z229:=Tryz.sizeOf217
 v229:=Tryz.zeroValue217}
def Tryz.laysNm220_ren:Go.Shelf.Ren:=⟨fun|20=>76|n=>n,fun|22=>32|3=>3|4=>4|0=>0|n=>n,fun|n=>n⟩
theorem Tryz.laysNm220:Go.Proofs.Lays2.n20 Tryz.prog Tryz.laysNm220_ren:= {
 mixed:=by kernel_rfl
 f20:=Tryz.func76.trans (congrArg some (by kernel_rfl))
 t0:=Tryz.underlying0
 a0:=Tryz.isAgg0
 z0:=Tryz.sizeOf0
 v0:=Tryz.zeroValue0
 t3:=Tryz.underlying3
 a3:=Tryz.isAgg3
 z3:=Tryz.sizeOf3
 v3:=Tryz.zeroValue3
 t4:=Tryz.underlying4
 a4:=Tryz.isAgg4
 z4:=Tryz.sizeOf4
 v4:=Tryz.zeroValue4
 t22:=Tryz.underlying32
 a22:=Tryz.isAgg32
 z22:=Tryz.sizeOf32
 v22:=Tryz.zeroValue32
 i3:=by kernel_rfl}
end Go.Proofs
namespace Go.Y
open Go.Proofs
theorem ZBq:ZO UY.P 75:=⟨fun blk off cap zs w h1 h2 h3=>Any.slices_Sort_int Tryz.lays189 blk off cap zs w h1 h2 h3,fun w=>Any.slices_Sort_int_none Tryz.lays189 none 0 w⟩
theorem Zpb:ZC UY.P 76:=⟨fun blk off cap zs w h1 h2 h3=>Any.slices_Compact_int Tryz.laysNm220 blk off cap zs w h1 h2 h3,fun w=>Any.slices_Compact_int_empty Tryz.laysNm220 none 0 w⟩
end Go.Y
namespace Go.Proofs.YteennilbmmlikaaGreatDoor
open Go.ChangeShapes Go.WideShapes Go.ChangeAt Go.RowKit Go.Y
open Go.Proofs
set_option linter.unusedVariables false
set_option maxRecDepth 100000

theorem ZBr(s:List UInt8)(l:List Glob)(hb: ∀g∈l,(0<=g.b∧g.b<256)∧ ∀x∈g.sp,(0<=x.lo∧x.lo<256)∧(0<=x.hi∧x.hi<256))(k:Int)(t:List UInt8):PCon UY 5 [.s s,lst encG l, .agg [I k, .s t]] (· = .b true):=
 ZF7 (ZBp ZBq Zpb) s l (fun h1 h2=>⟨⟨by omega,fun x hx=>by have:=h2 x hx;omega⟩,hb⟩) k t

theorem Zwc(os:Os)(args:Array Value):laidMetH Tryz.prog Rows.transMakesRow.laid ((World.doorLaid Tryz.prog 400 os).forCall (fun _ _=>0) ⟨#[],args,[]⟩).memory:=
 laidMetH_of_parts3 (fuel:=8) (laidMet_of_run' 8 (by kernel_rfl) (by kernel_rfl)) (by kernel_rfl) (by kernel_rfl)

theorem ZBs(os:Os)(started:os.Started)(H:Type)(enc:TypeId×Value->H):
  ReturnsInHanded {} Tryz.checked os 5 .any (fun w args=>(Rows.transMakesSpec.pre enc Tryz.prog Tryz.f5 [] false w args∧laidMetH Tryz.prog Rows.transMakesRow.laid w)∧sizedMet enc Tryz.prog Tryz.f5 (OpenSpec.ofChange Rows.transMakesSpec) false w args)
   (Rows.transMakesSpec.post enc Tryz.prog Tryz.f5 false true false false):=by
 refine returnsInHanded_of_change_and (C:=Tryz.checked) (X:=fun w _=>laidMetH Tryz.prog Rows.transMakesRow.laid w) (fun _ _ _ hh h=>h.of_heap hh) own started (by kernel_rfl) Tryz.func5
  (ChangeSpec.witness_shaped (enc:=enc) (C:=Tryz.checked) (os:=os) (X:=fun w _=>laidMetH Tryz.prog Rows.transMakesRow.laid w) false (World.doorLaid Tryz.prog 400 os) #[.string ⟨#[]⟩, .slice none 0 0, .agg #[.int .i64 0, .string ⟨#[]⟩]] 8 rfl (World.shaped_of_RefB (by kernel_rfl) (by kernel_rfl)) (by kernel_rfl) (by kernel_rfl) (by kernel_rfl) (Zwc os _)) ?_
 intro W base args ds gs before hval0 hW hcnd _ hlaid _
 have hval: ∀(j:Nat) t v,Tryz.f5.params[j]? =some t->args[j]? =some v->Value.okWide Tryz.prog W .any base t v:=hval0
 have hW':=hW
 obtain⟨p,q,hA0,hV,rfl,hfz,hnd⟩:=hW
 have hA:DataW.TrodAll enc Tryz.prog W 0 (fun _=>true) true Tryz.f5.params.toList args.toList ds p:=hA0
 rw[Tryz.params5]at hA hval
 obtain⟨v0,vs0,d0,ds0,p0,q0,hargs,rfl,rfl,h0,r0⟩:=trodAll_cons hA
 obtain⟨v1,vs1,d1,ds1,p1,q1,rfl,rfl,rfl,h1,r1⟩:=trodAll_cons r0
 obtain⟨v2,vs2,d2,ds2,p2,q2,rfl,rfl,rfl,h2,r2⟩:=trodAll_cons r1
 obtain⟨rfl,rfl,rfl⟩:=trodAll_nil r2
 obtain rfl:args= #[v0,v1,v2]:=by cases args;simp_all
 obtain⟨rfl,rfl⟩:=trodVars_none hV
 obtain⟨z0,rfl⟩:=okWide_string Tryz.underlying9 (hval 0 9 v0 rfl rfl)
 obtain⟨a1,len1,cap1,rfl⟩:=okWide_slice Tryz.underlying56 (hval 1 56 v1 rfl rfl)
 obtain⟨z2,rfl,-⟩:=okWide_struct Tryz.underlying44 (hval 2 44 v2 rfl rfl)
 have k0:=h0
 have lt0: ∀x∈p0,x.block<W.heap.size:=by obtain⟨m,hm⟩:=k0;exact DataW.trod_lt m _ _ _ hm
 have k1:=h1
 have lt1: ∀x∈p1,x.block<W.heap.size:=by obtain⟨m,hm⟩:=k1;exact DataW.trod_lt m _ _ _ hm
 have k2:=h2
 have lt2: ∀x∈p2,x.block<W.heap.size:=by obtain⟨m,hm⟩:=k2;exact DataW.trod_lt m _ _ _ hm
 obtain⟨x0,hl0⟩: ∃x:List UInt8,VR (inW W) (V.s x) (.string z0):=by
  obtain⟨fuel,hf⟩:=h0
  obtain⟨vs,h1,h2⟩:=Zbl UK fuel 9 _ _ (ZAq fuel) hf
  obtain⟨x,rfl⟩:=shp9 h2
  cases h1 with|cons _ _ _ _ h3 h4=>exact⟨x,h3⟩
 obtain⟨x1,hl1,hb1⟩: ∃x:List Glob,VR (inW W) (lst encG x) (.slice a1 len1 cap1)∧ ∀g∈x,(0<=g.b∧g.b<256)∧ ∀x∈g.sp,(0<=x.lo∧x.lo<256)∧(0<=x.hi∧x.hi<256):=by
  obtain⟨fuel,hf⟩:=h1
  obtain⟨vs,h1,h2⟩:=Zbl UK fuel 56 _ _ (Zvz fuel) hf
  obtain⟨x,rfl,hm⟩:=ZLu h2
  cases h1 with|cons _ _ _ _ h3 h4=>exact⟨x,h3,hm⟩
 obtain⟨x2,hl2⟩: ∃x:Int×List UInt8,VR (inW W) (V.agg [I x.1, .s x.2]) (.agg z2):=by
  obtain⟨fuel,hf⟩:=h2
  obtain⟨vs,h1,h2⟩:=Zbl UK fuel 44 _ _ (Zv0 fuel) hf
  obtain⟨x,rfl⟩:=ZLv h2
  exact⟨x,by have:=VR.agg _ _ h1;simpa[Value.cells]using this⟩
 clear hA0 hval0
 refine((ZBr x0 x1 hb1 x2.1 x2.2).calls (fun p hp=>by cases hp) (.cons _ _ _ _ hl0 (.cons _ _ _ _ hl1 (.cons _ _ _ _ hl2 .nil)))).mono fun e W' ⟨he,bel⟩=> ?_
 subst he
 exact⟨_,rfl,_,_,_,[],_,[],hW',trodAll_mk1 (shut_bool Tryz.underlying4 _),(trodAll_cons_mk (Below.trod Zlj (by kernel_rfl) (of_decide_eq_true (by kernel_rfl)) k0 bel lt0) (trodAll_cons_mk (Below.trod Zlj (by kernel_rfl) (of_decide_eq_true (by kernel_rfl)) k1 bel lt1) (trodAll_cons_mk (Below.trod Zlj (by kernel_rfl) (of_decide_eq_true (by kernel_rfl)) k2 bel lt2) trodAll_mk0))),rfl,bel.frame _,fun h=>by cases h⟩

theorem Vi:Rows.TransMakesSaid:=
 OpenClaim.holds_of_wide 5 Tryz.f5 rfl rfl rfl rfl rfl rfl rfl ⟨rfl,rfl,rfl,rfl,rfl⟩ rfl rfl rfl rfl rfl (by kernel_rfl) Tryz.func5 (by kernel_rfl)
  (of_decide_eq_true (by kernel_rfl)) (by unfold Func.isWrapper;first|(rw[if_pos (by decide+kernel)];kernel_rfl)|(rw[if_neg (by decide+kernel)];exact⟨rfl,rfl⟩))
  (fun os started H enc _=>ZBs os started H enc)
end Go.Proofs.YteennilbmmlikaaGreatDoor
