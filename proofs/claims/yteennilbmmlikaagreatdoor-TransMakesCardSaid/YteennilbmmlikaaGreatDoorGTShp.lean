/- A part of the proof. -/
import Derived.Test.YteennilbmmlikaaGreatDoorGTrQ
import Derived.Test.YteennilbmmlikaaGreatDoorYLoop
import Derived.Test.YteennilbmmlikaaGreatDoorYTryzP
import Derived.Test.YteennilbmmlikaaGreatDoorGLX
import Derived.Test.YteennilbmmlikaaGreatDoorYMap
import Derived.Test.YteennilbmmlikaaGreatDoorGN0
import Derived.Test.YteennilbmmlikaaGreatDoorGN5
namespace Go.Proofs.YteennilbmmlikaaGreatDoor
open Go.Y Go.RowKit
open Go.Proofs
set_option maxRecDepth 100000

theorem own:ownKnob Tryz.prog.godebug=none:=by kernel_rfl
theorem Zlj:laidOutB Tryz.prog=true:=by kernel_rfl
theorem shp9{n:Nat}{vs}(h:Shp UY n 9 vs): ∃s:List UInt8,vs= [.s s]:=by
 obtain⟨s,h,_⟩:=Zyk (by kernel_rfl) h
 exact⟨s,h⟩
theorem shp5{n:Nat}{vs}(h:Shp UY n 5 vs): ∃x:Int,vs= [.i .u8 x]∧0<=x∧x<256:=by
 obtain⟨x,rfl,hw⟩:=Zks (show UY.kd 5=some (.int .u8) by kernel_rfl) h
 refine⟨x,rfl,?_⟩
 simp only[Lit.wf,qrq,decide_eq_true_eq]at hw
 have h1:IntKind.u8.min=0:=rfl
 have h2:IntKind.u8.max=255:=rfl
 omega
abbrev ZAo:Type:= {x:Span // (0<=x.lo∧x.lo<256)∧(0<=x.hi∧x.hi<256)}
abbrev ZAp:Type:= {g:Glob // (0<=g.b∧g.b<256)∧ ∀x∈g.sp,(0<=x.lo∧x.lo<256)∧(0<=x.hi∧x.hi<256)}
theorem Zlk{α:Type}{p:α->Prop}(f:α->List V): ∀l:List {x:α // p x},(l.map fun x=>f x.1).flatten=row f (l.map (·.1))
 | []=>rfl
 |x::l=>by
  rw[qz,List.flatten_cons,Zlk f l];rfl
theorem ZF8{n:Nat}{vs}(h:Shp UY n 155 vs): ∃x:ZAo,vs=encS x.1:=by
 obtain⟨m,rfl,h⟩:=Zbm (show UY.kd 155=some (.struct [(0,5),(1,5)]) by kernel_rfl) h
 obtain⟨a,b,rfl,ha,c,d,rfl,hc,rfl⟩:=h
 obtain⟨k,rfl,hk⟩:=shp5 ha
 obtain⟨p,rfl,hp⟩:=shp5 hc
 exact⟨⟨⟨k,p⟩,hk,hp⟩,rfl⟩
theorem ZLs{n:Nat}{vs}(h:Shp UY n 57 vs): ∃l:List Span,vs= [lst encS l]∧ ∀x∈l,(0<=x.lo∧x.lo<256)∧(0<=x.hi∧x.hi<256):=by
 obtain⟨m,es,rfl,rfl,h,_⟩:=Zim (show UY.kd 57=some (.slice 155) by kernel_rfl) h
 obtain⟨l,hl⟩:=Zkt (f:=fun x:ZAo=>encS x.1) fun x hx=>ZF8 (h x hx)
 have e:es=l.map fun x:ZAo=>encS x.1:=by simpa using hl
 subst e
 refine⟨l.map (·.1),?_,fun x hx=> ?_⟩
 ·rw[Zlk];simp
 ·obtain⟨y,_,rfl⟩:=List.mem_map.1 hx
  exact y.2
theorem ZLt{n:Nat}{vs}(h:Shp UY n 59 vs): ∃x:ZAp,vs=encG x.1:=by
 obtain⟨m,rfl,h⟩:=Zbm (show UY.kd 59=some (.struct [(0,3),(1,5),(2,57)]) by kernel_rfl) h
 obtain⟨a,b,rfl,ha,c,d,rfl,hc,e,f,rfl,he,rfl⟩:=h
 obtain⟨k,rfl,_⟩:=Zks (show UY.kd 3=some (.int .i64) by kernel_rfl) ha
 obtain⟨p,rfl,hp⟩:=shp5 hc
 obtain⟨l,rfl,hl⟩:=ZLs he
 exact⟨⟨⟨k,p,l⟩,hp,hl⟩,rfl⟩
theorem ZLu{n:Nat}{vs}(h:Shp UY n 56 vs): ∃l:List Glob,vs= [lst encG l]∧ ∀g∈l,(0<=g.b∧g.b<256)∧ ∀x∈g.sp,(0<=x.lo∧x.lo<256)∧(0<=x.hi∧x.hi<256):=by
 obtain⟨m,es,rfl,rfl,h,_⟩:=Zim (show UY.kd 56=some (.slice 59) by kernel_rfl) h
 obtain⟨l,hl⟩:=Zkt (f:=fun x:ZAp=>encG x.1) fun x hx=>ZLt (h x hx)
 have e:es=l.map fun x:ZAp=>encG x.1:=by simpa using hl
 subst e
 refine⟨l.map (·.1),?_,fun x hx=> ?_⟩
 ·rw[Zlk];simp
 ·obtain⟨y,_,rfl⟩:=List.mem_map.1 hx
  exact y.2
theorem ZLv{n:Nat}{vs}(h:Shp UY n 44 vs): ∃x:Int×List UInt8,vs= [I x.1, .s x.2]:=by
 obtain⟨m,rfl,h⟩:=Zbm (show UY.kd 44=some (.struct [(0,3),(1,9)]) by kernel_rfl) h
 obtain⟨a,b,rfl,ha,c,d,rfl,hc,rfl⟩:=h
 obtain⟨k,rfl,_⟩:=Zks (show UY.kd 3=some (.int .i64) by kernel_rfl) ha
 obtain⟨p,rfl⟩:=shp9 hc
 exact⟨(k,p),rfl⟩
theorem ZAq: ∀n,Wz UY n 9=true
 |0=>by kernel_rfl
 |n+1=>by kernel_rfl
theorem Zvz: ∀n,Wz UY n 56=true
 |0=>by kernel_rfl
 |1=>by kernel_rfl
 |2=>by kernel_rfl
 |3=>by kernel_rfl
 |4=>by kernel_rfl
 |n+5=>by kernel_rfl
theorem Zv0: ∀n,Wz UY n 44=true
 |0=>by kernel_rfl
 |1=>by kernel_rfl
 |n+2=>by kernel_rfl
end Go.Proofs.YteennilbmmlikaaGreatDoor
namespace Go.Y
open Go.Proofs
set_option maxRecDepth 1000000
set_option maxHeartbeats 0
def Tryd.locs:List (List Nat):=Tryz.locs.set 38 [2,4,30,81]
noncomputable def Tryd.Y:YP:=⟨Go.Proofs.Tryz.prog,Tryz.tys,Tryd.locs,Tryz.modes,[182,5],[(185,1),(197,2)],[26,27,28,32]⟩
theorem Tryd.Yok:YOK Tryd.Y:=Zc3 (by kernel_rfl) Tryz.extok
theorem ZF9{a o0 n0 c0 b h}(K):CP Tryd.Y 85 (pre (flat (Za Tryz.f85))) (S (some (a,o0)) n0 c0 1::V.fn (.func 86) [] [.p (some (b,0))]::Rp 17) h [0,1,7,8] K=(K .normal 19 [S (some (a,o0)) n0 c0 1, .fn (Fn.func 86) [] [.p (some (b,0))],I (n0:Int),I 0] h):=by kernel_rfl
theorem ZGa{a o0 n0 c0 d x8 h}(K):CP Tryd.Y 85 (flat (Zx (post (flat (Za Tryz.f85))))) (MZ 19 [0,1,7,8] [S (some (a,o0)) n0 c0 1,V.fn (Fn.func 86) [] [.p (some (d,0))],I (n0:Int),I x8]) h [0,1,4,7,8] K=(If (ltI x8 n0) ((0<=x8∧x8<n0)∧1=1∧ ∃b c e,Zb h a (o0+x8.toNat*1) 1=some [J b c e]∧ ∃f,RCon Tryd.Y 86 [J b c e,.p (some (d,0))] h (.b f)∧If f (K .ret 19 [S (some (a,o0)) n0 c0 1, .fn (Fn.func 86) [] [.p (some (d,0))],I x8,I (n0:Int),I x8] h) (K .normal 19 [S (some (a,o0)) n0 c0 1, .fn (Fn.func 86) [] [.p (some (d,0))],Ud,I (n0:Int),I (IntKind.i64.wrap (x8+(1:Int)))] h)) (K (.exit 0) 19 [S (some (a,o0)) n0 c0 1, .fn (Fn.func 86) [] [.p (some (d,0))],Ud,I (n0:Int),I x8] h)):=by kernel_rfl
theorem ZGb{h}(K):CP Tryd.Y 85 ((post (flat (Za Tryz.f85))).drop 1) (MZ 19 [] []) h [4] K=(K .ret 19 [I (-1)] h):=by kernel_rfl
theorem ZGc{a n0 d h}(K):CP Tryd.Y 86 (flat (Za Tryz.f86)) (J a n0 none::.p (some (d,0))::Rp 5) h [3] K=(∃b c e,Zb h d 0 1=some [J b c e]∧ ∃f,(PCon Tryd.Y 87 [J a n0 none,J b c e] fun v=>v=.b f)∧K .ret 7 [.b f] h):=by kernel_rfl
theorem ZLw{e f a d g j m n o x1 h}(K):CP UY 83 (flat (Za Tryz.f83)) (.agg [J e f none,J a d none,J g j none,J m n none,.b o]::.i .u8 x1::Rp 11) h [4] K=(∃c,(PCon UY 26 [.agg [J e f none,J a d none,J g j none,J m n none,.b o]] fun v=>v=.b c)∧If (!c) (K .ret 13 [S0] h) (∃l p q,(PCon UY 34 [.agg [J e f none,J a d none,J g j none,J m n none,.b o],J a d none,.i .u8 x1] fun v=>v=J l p q)∧K .ret 13 [J l p q] h)):=by kernel_rfl
theorem ZLx{a d e f g j m n o p n1 x2 h}(K):CP UY 84 (flat (Za Tryz.f84)) (.agg [J a d none,J e f none,J g j none,J m n none,.b o]::J p n1 none::.i .u8 x2::Rp 11) h [6] K=(∃c,(PCon UY 26 [.agg [J a d none,J e f none,J g j none,J m n none,.b o]] fun v=>v=.b c)∧If (!c) (K .ret 14 [S0] h) (∃l q r,(PCon UY 35 [.agg [J a d none,J e f none,J g j none,J m n none,.b o],J p n1 none,.i .u8 x2] fun v=>v=J l q r)∧K .ret 14 [J l q r] h)):=by kernel_rfl
theorem ZLy{a c d e f g i j l m n1 h}(K):CP UY 88 (flat (Za Tryz.f88)) (.agg [J a c none,J d e none,J f g none,J i j none,.b l]::J m n1 none::Rp 10) h [4] K=(∃n,(PCon UY 26 [.agg [J a c none,J d e none,J f g none,J i j none,.b l]] fun v=>v=.b n)∧If n (∃o,(PCon UY 36 [.agg [J a c none,J d e none,J f g none,J i j none,.b l],J m n1 none] fun v=>v=.b o)∧K .ret 12 [.b o] h) (K .ret 12 [.b false] h)):=by kernel_rfl
theorem ZAr{a n0 h}(K):CP UY 163 (pre (flat (Za Tryz.f163))) (J a n0 none::Rp 24) h [0,3,4] K=(If (ltI (n0:Int) (1:Int)) False (((0:Int)<=(0:Int)∧(0:Int)<(n0:Int))∧ ∃b,Zo 1 a=some [I b]∧K .normal 25 [J a n0 none,I b,I 1] h)):=by kernel_rfl
theorem ZAs{a n0 x3 x4 h}(K):CP UY 163 (flat (Zx (post (flat (Za Tryz.f163))))) (MZ 25 [0,3,4] [J a n0 none,I x3,I x4]) h [0,3,4] K=(If (ltI x4 n0) ((0<=x4∧x4<n0)∧ ∃b,Zo 1 (List.drop (x4.toNat*1) a)=some [I b]∧K .normal 25 [J a n0 none,I ((fun(x y:Int)=>if y>x then y else x) x3 b),I (IntKind.i64.wrap (x4+(1:Int)))] h) (K (.exit 0) 25 [J a n0 none,I x3,I x4] h)):=by kernel_rfl
theorem ZAt{x3 h}(K):CP UY 163 ((post (flat (Za Tryz.f163))).drop 1) (MZ 25 [3] [I x3]) h [2] K=(K .ret 25 [I x3] h):=by kernel_rfl
theorem ZAu{a n0 h}(K):CP UY 164 (pre (flat (Za Tryz.f164))) (J a n0 none::Rp 24) h [0,3,4] K=(If (ltI (n0:Int) (1:Int)) False (((0:Int)<=(0:Int)∧(0:Int)<(n0:Int))∧ ∃b,Zo 1 a=some [I b]∧K .normal 25 [J a n0 none,I b,I 1] h)):=by kernel_rfl
theorem ZAv{a n0 x3 x4 h}(K):CP UY 164 (flat (Zx (post (flat (Za Tryz.f164))))) (MZ 25 [0,3,4] [J a n0 none,I x3,I x4]) h [0,3,4] K=(If (ltI x4 n0) ((0<=x4∧x4<n0)∧ ∃b,Zo 1 (List.drop (x4.toNat*1) a)=some [I b]∧K .normal 25 [J a n0 none,I ((fun(x y:Int)=>if y<x then y else x) x3 b),I (IntKind.i64.wrap (x4+(1:Int)))] h) (K (.exit 0) 25 [J a n0 none,I x3,I x4] h)):=by kernel_rfl
theorem ZAw{x3 h}(K):CP UY 164 ((post (flat (Za Tryz.f164))).drop 1) (MZ 25 [3] [I x3]) h [2] K=(K .ret 25 [I x3] h):=by kernel_rfl
theorem ZGd{a n0 c n1 h}(K):CP UY 87 (pre (flat (Za Tryz.f87))) (J a n0 none::J c n1 none::Rp 24) h [0,1,4,12,13] K=(If ((↑n0:Int) !=(n1:Int)) (K .ret 26 [J a n0 none,J c n1 none, .b false,Ud,Ud] h) (K .normal 26 [J a n0 none,J c n1 none, .b false,I (n0:Int),I 0] h)):=by kernel_rfl
theorem ZGe{c n0 d n1 a h}(K):CP UY 87 (flat (Zx (post (flat (Za Tryz.f87))))) (MZ 26 [0,1,12,13] [J c n0 none,J d n1 none,I (n0:Int),I a]) h [0,1,4,12,13] K=(If (ltI a n0) ((0<=a∧a<n0)∧ ∃e,Zo 1 (List.drop (a.toNat*1) c)=some [I e]∧(0<=a∧a<n1)∧ ∃f,Zo 1 (List.drop (a.toNat*1) d)=some [I f]∧If (e !=f) (K .ret 26 [J c n0 none,J d n1 none, .b false,I (n0:Int),I a] h) (K .normal 26 [J c n0 none,J d n1 none,Ud,I (n0:Int),I (IntKind.i64.wrap (a+(1:Int)))] h)) (K (.exit 0) 26 [J c n0 none,J d n1 none,Ud,I (n0:Int),I a] h)):=by kernel_rfl
theorem ZGf{h}(K):CP UY 87 ((post (flat (Za Tryz.f87))).drop 1) (MZ 26 [] []) h [4] K=(K .ret 26 [.b true] h):=by kernel_rfl
end Go.Y
namespace Go.Y
set_option maxRecDepth 1000000
set_option maxHeartbeats 0
def keyN(sets:List Set4)(c:Nat):List UInt8:=sets.map fun s=>if hasN s c then 1 else 0
def srtS(sets:List Set4):Nat->List Nat×List Nat
 |0=>([],[])
 |c+1=>
  let p:=srtS sets c
  match p.2.findIdx? fun d=>keyN sets c==keyN sets d with
  |some k=>(p.1++ [k],p.2)
  |none=>(p.1++ [p.2.length],p.2++ [c])
theorem Wf(sets:List Set4): ∀c,(srtS sets c).1.length=c∧(srtS sets c).2.length<=c
 |0=>⟨rfl,Nat.le_refl _⟩
 |c+1=>by
  obtain⟨h1,h2⟩:=Wf sets c
  rw[srtS]
  split
  ·simp only[List.length_append,List.length_cons,List.length_nil];omega
  ·simp only[List.length_append,List.length_cons,List.length_nil];omega
theorem Zs4(sets:List Set4): ∀c,∀d∈(srtS sets c).2,d<c
 |0=>fun d h=>by cases h
 |c+1=>fun d h=>by
  have ih:=Zs4 sets c
  rw[srtS]at h
  split at h
  ·have:=ih d h;omega
  ·rcases List.mem_append.1 h with h|h
   ·have:=ih d h;omega
   ·simp at h;omega
theorem Znk(sets:List Set4): ∀c,0<(srtS sets (c+1)).2.length
 |0=>by rw[srtS];simp[srtS]
 |c+1=>by
  have ih:=Znk sets c
  rw[srtS]
  split
  ·exact ih
  ·simp
theorem Zjs(sets:List Set4)(c:Nat)(h:0<c):0<(srtS sets c).2.length:=by
 cases c with
 |zero=>omega
 |succ c=>exact Znk sets c
def esM(sets:List Set4)(le:List Nat):List (V×V):=le.zipIdx.map fun x=>(V.s (keyN sets x.1),V.i .i64 (x.2:Nat))
theorem Zv1(sets:List Set4)(le:List Nat)(c:Nat):esM sets (le++ [c])=esM sets le++ [(V.s (keyN sets c),V.i .i64 (le.length:Nat))]:=by
 unfold esM
 rw[List.zipIdx_append,List.map_append]
 simp
theorem ZAx(k x:List UInt8)(v:V):QM .str (.s k) (.s x,v)=(k==x):=rfl
theorem Zs5(sets:List Set4)(k:List UInt8): ∀(le:List Nat) (n:Nat),XF .str (.s k) ((le.zipIdx n).map fun x=>(V.s (keyN sets x.1),V.i .i64 (x.2:Nat)))=(le.findIdx? fun d=>k==keyN sets d).map fun i=>V.i .i64 ((i+n:Nat):Int)
 | [],n=>rfl
 |d::le,n=>by
  rw[List.zipIdx_cons,List.map_cons,XF,ZAx,List.findIdx?_cons]
  by_cases h:(k==keyN sets d)=true
  ·rw[if_pos h,if_pos h];simp
  ·rw[if_neg h,if_neg h,Zs5 sets k le (n+1)]
   cases le.findIdx? fun d=>k==keyN sets d with
   |none=>rfl
   |some i=>simp;omega
theorem Zhh(sets:List Set4)(k:List UInt8): ∀(le:List Nat) (n:Nat),ZP .str (.s k) ((le.zipIdx n).map fun x=>(V.s (keyN sets x.1),V.i .i64 (x.2:Nat)))=true
 | [],n=>rfl
 |d::le,n=>by
  rw[List.zipIdx_cons,List.map_cons,ZP,Zhh sets k le (n+1)];rfl
theorem Zxo(k:List UInt8)(v:V): ∀(es:List (V×V)),XF .str (.s k) es=none->Xh .str (.s k) v es=es++ [(.s k,v)]
 | [],_=>rfl
 |e::es,h=>by
  rw[XF]at h
  split at h
  ·cases h
  ·rename_i hn
   rw[Xh,if_neg hn,Zxo k v es h];rfl
def clsC(cl:List Nat):List V:=cl.map (fun k=>V.i .i64 (k:Nat))++List.replicate (256-cl.length) (V.i .i64 0)
theorem Zhi(cl:List Nat)(h:cl.length<=256):(clsC cl).length=256:=by unfold clsC;simp;omega
theorem Zhj{α:Type} : ∀(l:List α) (x y:α) (m:List α),splice (l++x::m) l.length [y]=l++y::m
 | [],x,y,m=>rfl
 |v::l,x,y,m=>by
  show v::splice (l++x::m) l.length [y]=_
  rw[Zhj l x y m];rfl
theorem Znl(cl:List Nat)(k:Nat)(h:cl.length<256):splice (clsC cl) cl.length [V.i .i64 (k:Nat)]=clsC (cl++ [k]):=by
 unfold clsC
 have e:256-cl.length=(256-(cl++ [k]).length)+1:=by simp;omega
 rw[e,List.replicate_succ]
 have l1:cl.length=(cl.map fun k=>V.i .i64 ((k:Nat):Int)).length:=by simp
 rw[l1,Zhj]
 simp
def Za5(T:List (List Int))(l:List Int):Option Nat:=T.findIdx? fun x=>x==l
def stD(a:Au)(at_:Nat)(T:List (List Int))(c:Nat):List Int:=if 0<at_ then Zep a (T.getD (at_-1) []) c else havL a.sets a.first c
def rowD(a:Au)(most at_:Nat):List Nat->List (List Int)->List Int->Option (List (List Int)×List Int)
 | [],T,r=>some (T,r)
 |c::cs,T,r=>match Za5 T (stD a at_ T c) with
  |some i=>rowD a most at_ cs T (r++ [((i+1:Nat):Int)])
  |none=>if most<=T.length+1 then none else rowD a most at_ cs (T++ [stD a at_ T c]) (r++ [((T.length+1:Nat):Int)])
def Zll(a:Au)(at_:Nat)(T:List (List Int)):Bool:=if at_=0 then a.empty else Zdp a (T.getD (at_-1) [])
def Jt(a:Au)(most:Nat)(le:List Nat):Nat->Nat->List (List Int)->List (List Int)->List Bool->Option (List (List Int)×List Bool)
 |0,_,_,N,G=>some (N,G)
 |f+1,at_,T,N,G=>if at_<T.length+1 then match rowD a most at_ le T [] with
   |none=>none
   |some (T',r)=>Jt a most le f (at_+1) T' (N++ [r]) (G++ [Zll a at_ T'])
  else some (N,G)

theorem Zs6{a:Au}(ha:OkA a)(at_:Nat)(T:List (List Int))(c:Nat):(stD a at_ T c).length<=300:=by
 unfold stD
 split
 ·exact Zru ha c _
 ·exact Nat.le_trans (Zco _ _ _) ha.nfirst
structure TOk(most:Nat)(T:List (List Int)):Prop where
 len:T.length+1<=most
 el: ∀x∈T,x.length<=300
theorem Zlm{a:Au}(ha:OkA a){most at_:Nat} : ∀ {cs:List Nat} {T:List (List Int)} {r:List Int} {T':List (List Int)} {r':List Int},TOk most T->rowD a most at_ cs T r=some (T',r')->
  TOk most T'∧r'.length=r.length+cs.length∧T.length<=T'.length∧ ∃X,T'=T++X
 | [],T,r,T',r',hT,h=>by
  rw[rowD]at h;cases h
  exact⟨hT,rfl,qnq _,[],by simp⟩
 |c::cs,T,r,T',r',hT,h=>by
  rw[rowD]at h
  split at h
  ·obtain⟨h1,h2,h3,X,h4⟩:=Zlm ha hT h
   exact⟨h1,by simp at h2 ⊢;omega,h3,X,h4⟩
  ·split at h
   ·cases h
   ·rename_i hm
    obtain⟨h1,h2,h3,X,h4⟩:=Zlm ha (T:=T++ [stD a at_ T c]) ⟨by simp;omega,fun x hx=>by
     rcases qA.1 hx with hx|hx
     ·exact hT.el x hx
     ·simp at hx;subst hx;exact Zs6 ha _ _ _⟩ h
    exact⟨h1,by simp at h2 ⊢;omega,by simp at h3;omega,_,by rw[h4,List.append_assoc]⟩
end Go.Y
namespace Go.Y
open Go.Proofs
set_option maxRecDepth 1000000
set_option maxHeartbeats 0
theorem PCon.dz{f:FuncId}{args}{Q:V->Prop}(c:PCon Tryd.Y f args Q):PCon UY f args Q:=⟨c.body,c.tr⟩
theorem PCon.zd{f:FuncId}{args}{Q:V->Prop}(c:PCon UY f args Q):PCon Tryd.Y f args Q:=⟨c.body,c.tr⟩
/-! ### nfa's -/
theorem ZAy{a:Au}(ha:OkA a)(c:Nat)(hc:c<256):PCon UY 83 [.agg (auC a), .i .u8 (c:Nat)] (· =lst encI (havL a.sets a.first c)):=by
 refine Zt UK (fn:=Tryz.f83) rfl ZLw rfl ?_
 have hm:=may7 a ha.small
 rw[ha.may]at hm
 exact⟨true,hm,ifF rfl ⟨_,_,_,Zmx a a.first c hc ha.first (by have:=ha.nfirst;omega),Zv (.inr rfl) rfl (.ts _ _ _ none (fun x hx=>by cases hx)) rfl⟩⟩
theorem ZGg(hs:ZO UY.P 75)(hcm:ZC UY.P 76){a:Au}(ha:OkA a)(ps:List Int)(c:Nat)(hc:c<256)(hl:ps.length<=2 ^ 10):PCon UY 84 [.agg (auC a),lst encI ps, .i .u8 (c:Nat)] (· =lst encI (Zep a ps c)):=by
 refine Zt UK (fn:=Tryz.f84) rfl ZLx rfl ?_
 have hm:=may7 a ha.small
 rw[ha.may]at hm
 exact⟨true,hm,ifF rfl ⟨_,_,_,ZDe hs hcm ha ps c hc hl,Zv (.inr rfl) rfl (.ts _ _ _ none (fun x hx=>by cases hx)) rfl⟩⟩
theorem ZGh{a:Au}(ha:OkA a)(ps:List Int)(hl:ps.length<=2 ^ 10):PCon UY 88 [.agg (auC a),lst encI ps] (· = .b (Zdp a ps)):=by
 refine Zt UK (fn:=Tryz.f88) rfl ZLy rfl ?_
 have hm:=may7 a ha.small
 rw[ha.may]at hm
 exact⟨true,hm,ifT rfl ⟨_,ZDm ha.nlast ps hl,Zv (.inr rfl) rfl (.b _) rfl⟩⟩

/-! ### slices.Equal -/
theorem ZAz{x y:List Int}{i:Nat}(hx:i<x.length)(hy:i<y.length):(x.take (i+1)==y.take (i+1))=((x.take i==y.take i)&&(x[i]==y[i])):=by
 rw[qa hx,qa hy,Bool.eq_iff_iff]
 simp only[beq_iff_eq,qrq]
 constructor
 ·intro h
  have hl:(x.take i).length=(y.take i).length:=by simp;omega
  obtain⟨h1,h2⟩:=List.append_inj h hl
  exact⟨h1,by simpa using h2⟩
 ·rintro⟨h1,h2⟩;rw[h1,h2]
theorem ZA0(x y:List Int)(hl:x.length<2 ^ 20):PCon UY 87 [lst encI x,lst encI y] (· = .b (x==y)):=by
 refine ZE UK (fn:=Tryz.f87) rfl ?_
 refine Zl UK 26 ZGd rfl ?_
 refine Zg (fun hne=> ?_) (fun heq=> ?_)
 ·have hne:x.length≠y.length:=by
   intro e;rw[e]at hne;simp at hne
  refine Xv (.inr rfl) rfl ⟨_, .b _,?_⟩
  have:(x==y)=false:=by
   rw[Bool.eq_false_iff];intro h;rw[eq_of_beq h]at hne;exact hne rfl
  rw[this]
 have heq:x.length=y.length:=by
  have:((x.length:Nat):Int)=(y.length:Nat):=by simpa using heq
  omega
 refine⟨rfl,ZL [0,1,12,13] [0,1,4,12,13] (fun m vs _=> ∃i:Nat,vs= [lst encI x,lst encI y,I x.length,I (i:Nat)]∧i<=x.length∧(x.take i==y.take i)=true∧m=x.length-i) x.length Zy ⟨0,rfl,by omega,rfl,by omega⟩ ?_⟩
 rintro m vs h ⟨i,rfl,hi,hyes,rfl⟩
 refine Zs UK ZGe rfl ?_
 refine Zm (fun hlt=> ?_) (fun hge=> ?_)
 ·have hlt2:i<y.length:=by omega
  have ht:=ZAz hlt hlt2
  refine⟨Zz hlt,_,getI x hlt,Zz hlt2,_,getI y hlt2,Zg (fun hc=> ?_) (fun hc=> ?_)⟩
  ·refine Xv (.inr rfl) rfl ⟨_, .b _,?_⟩
   have:(x==y)=false:=by
    rw[Bool.eq_false_iff];intro h
    have h:=eq_of_beq h
    subst h
    simp at hc
   rw[this]
  ·refine⟨rfl,x.length-(i+1),by omega,i+1,by rw[Zh (by omega)];rfl,by omega,?_,rfl⟩
   rw[ht,hyes]
   simpa using hc
 ·have he:i=x.length:=by omega
  subst he
  refine Zi [] ?_
  refine Zn UK ZGf rfl ?_
  rw[qm,heq,qm]at hyes
  exact Zv (.inr rfl) rfl (.b _) (by rw[hyes])

/-! ### a list among lists -/
theorem ZA1(x l:List Int)(hx:x.length<2 ^ 20){h:Heap}{id:Nat}(hg:h.get id=some (.arr [lst encI l] true)):Con Tryd.Y 86 [lst encI x, .p (some (id,0))] h fun v h'=>v= .b (x==l)∧h'=h:=by
 refine Zu Tryd.Yok (fn:=Tryz.f86) (Zn Tryd.Yok ZGc rfl ?_)
 exact⟨_,_,_,by rw[Zr hg];rfl,_,PCon.zd (ZA0 x l hx),finC (.inr rfl) rfl (.now ⟨rfl,rfl⟩)⟩
theorem ZGi(x l:List Int)(hx:x.length<2 ^ 20){h:Heap}{id:Nat}(hg:h.get id=some (.arr [lst encI l] true)):RCon Tryd.Y 86 [lst encI x, .p (some (id,0))] h (.b (x==l)):=
 ⟨h,ZA1 x l hx hg,fun _ _=>rfl,fun _ hp=>hp⟩
theorem ZA2(T:List (List Int))(l:List Int)(hT: ∀x∈T,x.length<2 ^ 20)(hTl:T.length<2 ^ 20){h:Heap}{id0 o0 id:Nat}{pre:List V}{c:Option Nat}(h0:h.get id0=some (.arr (pre++T.map (lst encI)) true))(ho:o0=pre.length)(hg:h.get id=some (.arr [lst encI l] true)):
  Con Tryd.Y 85 [.sl (some (id0,o0)) T.length c 1, .fn (.func 86) [] [.p (some (id,0))]] h fun v h'=>v= I (match Za5 T l with|some i=>((i:Nat):Int)|none=> -1)∧h'=h:=by
 refine Zu Tryd.Yok (fn:=Tryz.f85) ?_
 refine Zl Tryd.Yok 19 ZF9 rfl ?_
 refine⟨rfl,ZL [0,1,7,8] [0,1,4,7,8] (fun m vs h'=> ∃i:Nat,vs= [.sl (some (id0,o0)) T.length c 1, .fn (.func 86) [] [.p (some (id,0))],I T.length,I (i:Nat)]∧i<=T.length∧Za5 (T.take i) l=none∧m=T.length-i∧h'=h) T.length Zy ⟨0,rfl,by omega,rfl,by omega,rfl⟩ ?_⟩
 rintro m vs h' ⟨i,rfl,hi,hno,rfl,rfl⟩
 refine Zs Tryd.Yok ZGa rfl ?_
 refine Zm (fun hlt=> ?_) (fun hge=> ?_)
 ·have hcell:Zb h' id0 (o0+((i:Nat):Int).toNat*1) 1=some [lst encI T[i]]:=by
   rw[Zr h0,qdq,ho,Nat.mul_one,List.drop_append,List.drop_of_length_le (by omega),qy,show pre.length+i-pre.length=i by omega,List.drop_eq_getElem_cons (by simpa using hlt)]
   simp[Zo]
  have htk:T.take (i+1)=T.take i++ [T[i]]:=qa hlt
  have hf:Za5 (T.take (i+1)) l=if T[i]==l then some i else none:=by
   unfold Za5 at hno ⊢
   rw[htk,List.findIdx?_append,hno]
   simp only[List.findIdx?_cons,List.findIdx?_nil,List.length_take]
   by_cases hc:(T[i]==l)=true
   ·rw[if_pos hc,if_pos hc];simp;omega
   ·rw[if_neg hc,if_neg hc];rfl
  refine⟨Zz hlt,rfl,_,_,_,hcell,_,ZGi T[i] l (hT _ (qe hlt)) hg,Zg (fun hc=> ?_) (fun hc=> ?_)⟩
  ·refine Xv (.inr rfl) rfl (.now ⟨?_,rfl⟩)
   rw[if_pos hc]at hf
   have:Za5 T l=some i:=by
    unfold Za5 at hf ⊢
    rw[<-List.take_append_drop (i+1) T,List.findIdx?_append,hf];rfl
   rw[this];rfl
  ·refine⟨rfl,T.length-(i+1),by omega,i+1,by rw[Zh (by omega)];rfl,by omega,?_,rfl,rfl⟩
   rw[hf,if_neg (by rw[hc];decide)]
 ·refine Zi [] ?_
  refine Zn Tryd.Yok ZGb rfl ?_
  rw[qt hge]at hno
  exact finC (.inr rfl) rfl (.now ⟨by rw[hno];rfl,rfl⟩)

/-! ### slices.Max, Min -/
def maxZ:List Int->Int
 | []=>0
 |x::r=>r.foldl (fun x y=>if y>x then y else x) x
def minZ:List Int->Int
 | []=>0
 |x::r=>r.foldl (fun x y=>if y<x then y else x) x
theorem Zs7{l:List Int}{i:Nat}(h0:0<i)(hi:i<l.length):maxZ (l.take (i+1))=if l[i]>maxZ (l.take i)then l[i]else maxZ (l.take i):=by
 rw[qa hi]
 cases l with
 |nil=>simp at hi
 |cons x r=>
  obtain⟨j,rfl⟩: ∃j,i=j+1:=⟨i-1,by omega⟩
  simp only[List.take_succ_cons,qs,maxZ,List.foldl_append,List.foldl_cons,List.foldl_nil];rfl
theorem Zs8{l:List Int}{i:Nat}(h0:0<i)(hi:i<l.length):minZ (l.take (i+1))=if l[i]<minZ (l.take i)then l[i]else minZ (l.take i):=by
 rw[qa hi]
 cases l with
 |nil=>simp at hi
 |cons x r=>
  obtain⟨j,rfl⟩: ∃j,i=j+1:=⟨i-1,by omega⟩
  simp only[List.take_succ_cons,qs,minZ,List.foldl_append,List.foldl_cons,List.foldl_nil];rfl
theorem Zxp(l:List Int)(h1:l≠ [])(hl:l.length<2 ^ 20):PCon UY 163 [lst encI l] (· = I (maxZ l)):=by
 have h0:0<l.length:=List.length_pos_iff.2 h1
 refine ZE UK (fn:=Tryz.f163) rfl ?_
 refine Zl UK 25 ZAr rfl ?_
 refine Zm (b:=1) (fun h=>by omega) (fun _=>⟨⟨by omega,by omega⟩,l[0],(getI l h0:_),?_⟩)
 refine⟨rfl,ZL [0,3,4] [0,3,4] (fun m vs _=> ∃i:Nat,vs= [lst encI l,I (maxZ (l.take i)),I (i:Nat)]∧0<i∧i<=l.length∧l.length<=m+i) l.length Zy ⟨1,?_,by omega,by omega,by omega⟩ ?_⟩
 ·cases l with
  |nil=>simp at h0
  |cons x r=>rfl

 rintro m vs h ⟨i,rfl,hi0,hi,hm⟩
 refine Zs UK ZAs rfl ?_
 refine Zm (fun hlt=> ?_) (fun hge=> ?_)
 ·refine⟨Zz hlt,_,getI l hlt,rfl,l.length-(i+1),by omega,i+1,?_,by omega,by omega,by omega⟩
  rw[Zh (by omega),Zs7 hi0 hlt];rfl
 ·refine Zi [3] ?_
  refine Zn UK ZAt rfl ?_
  rw[qt hge]
  exact Zv (.inr rfl) rfl (.i _ _) rfl
theorem Zxq(l:List Int)(h1:l≠ [])(hl:l.length<2 ^ 20):PCon UY 164 [lst encI l] (· = I (minZ l)):=by
 have h0:0<l.length:=List.length_pos_iff.2 h1
 refine ZE UK (fn:=Tryz.f164) rfl ?_
 refine Zl UK 25 ZAu rfl ?_
 refine Zm (b:=1) (fun h=>by omega) (fun _=>⟨⟨by omega,by omega⟩,l[0],(getI l h0:_),?_⟩)
 refine⟨rfl,ZL [0,3,4] [0,3,4] (fun m vs _=> ∃i:Nat,vs= [lst encI l,I (minZ (l.take i)),I (i:Nat)]∧0<i∧i<=l.length∧l.length<=m+i) l.length Zy ⟨1,?_,by omega,by omega,by omega⟩ ?_⟩
 ·cases l with
  |nil=>simp at h0
  |cons x r=>rfl
 rintro m vs h ⟨i,rfl,hi0,hi,hm⟩
 refine Zs UK ZAv rfl ?_
 refine Zm (fun hlt=> ?_) (fun hge=> ?_)
 ·refine⟨Zz hlt,_,getI l hlt,rfl,l.length-(i+1),by omega,i+1,?_,by omega,by omega,by omega⟩
  rw[Zh (by omega),Zs8 hi0 hlt];rfl
 ·refine Zi [3] ?_
  refine Zn UK ZAw rfl ?_
  rw[qt hge]
  exact Zv (.inr rfl) rfl (.i _ _) rfl
end Go.Y
