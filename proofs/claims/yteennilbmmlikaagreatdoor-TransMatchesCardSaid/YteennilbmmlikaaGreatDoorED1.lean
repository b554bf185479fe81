/- A part of the proof. -/
import Derived.Test.YteennilbmmlikaaGreatDoorYAny3
import Derived.Test.YteennilbmmlikaaGreatDoorYLoop
import Derived.Test.YteennilbmmlikaaGreatDoorGSortK
import Derived.Test.YteennilbmmlikaaGreatDoorGReD
import Derived.Test.YteennilbmmlikaaGreatDoorYFrz
namespace Go.Y
open Go.Proofs
set_option maxRecDepth 1000000
set_option maxHeartbeats 0
theorem ZO1{id x h}(K):CP UY 28 (flat (Za Tryz.f28)) (.p (some (id,0))::I x::Rp 11) h [] K=(∃a,Zb h id 3 1=some [I a]/\If (a==(0:Int)) (∃b,Zi h id 3 [I x]=some b/\K .normal 13 [] b) (K .normal 13 [] h)):=kr
theorem ZO2{id x h}(K):CP UY 68 (flat (Za Tryz.f68)) (.p (some (id,0))::.i .u8 x::Rp 33) h [4] K=(∃a,Zb h id 3 1=some [I a]/\If (a==(0:Int)) (∃c,Zb h id 1 1=some [I c]/\ ∃d,Zb h id 0 1=some [.s d]/\If (ltI c (↑d.length:Int)) (∃e,Zb h id 0 1=some [.s e]/\ ∃f,Zb h id 1 1=some [I f]/\ ∃g,((0:Int)<=f/\e[f.toNat]? =some g)/\K .ret 35 [.b ((↑g.toNat:Int)==x)] h) (K .ret 35 [.b false] h)) (K .ret 35 [.b false] h)):=kr
theorem ZIn{id h}(K):CP UY 142 (flat (Za Tryz.f142)) (.p (some (id,0))::Rp 44) h [2,3] K=(Con UY 174 [.p (some (id,0)),I 0] h fun(v:V) (k:Heap)=> ∃a,v=I a/\ ∃b,RCon UY (68:Nat) [.p (some (id,0)),.i .u8 44] k (.b b)/\If b (∃c,Zb k id 1 1=some [I c]/\ ∃d,Zi k id 1 [I (wW (c+(1:Int)))]=some d/\ ∃e,RCon UY (68:Nat) [.p (some (id,0)),.i .u8 125] d (.b e)/\If (!e) (∃f,Zb d id 3 1=some [I f]/\If (f==(0:Int)) (Con UY 174 [.p (some (id,0)),I a] d fun(v:V) (k:Heap)=> ∃g,v=I g/\ ∃j,RCon UY (68:Nat) [.p (some (id,0)),.i .u8 125] k (.b j)/\If (!j) (Con UY 28 [.p (some (id,0)),I 1] k fun(v:V) (k:Heap)=>v=.tup []/\K .ret 45 [I 0,I 0] k) (∃l,Zb k id 1 1=some [I l]/\ ∃m,Zi k id 1 [I (wW (l+(1:Int)))]=some m/\K .ret 45 [I a,I g] m)) (∃g,RCon UY (68:Nat) [.p (some (id,0)),.i .u8 125] d (.b g)/\If (!g) (Con UY 28 [.p (some (id,0)),I 1] d fun(v:V) (k:Heap)=>v=.tup []/\K .ret 45 [I 0,I 0] k) (∃j,Zb d id 1 1=some [I j]/\ ∃l,Zi d id 1 [I (wW (j+(1:Int)))]=some l/\K .ret 45 [I a,I (-1)] l))) (∃f,RCon UY (68:Nat) [.p (some (id,0)),.i .u8 125] d (.b f)/\If (!f) (Con UY 28 [.p (some (id,0)),I 1] d fun(v:V) (k:Heap)=>v=.tup []/\K .ret 45 [I 0,I 0] k) (∃g,Zb d id 1 1=some [I g]/\ ∃j,Zi d id 1 [I (wW (g+(1:Int)))]=some j/\K .ret 45 [I a,I (-1)] j))) (∃c,RCon UY (68:Nat) [.p (some (id,0)),.i .u8 125] k (.b c)/\If (!c) (Con UY 28 [.p (some (id,0)),I 1] k fun(v:V) (k:Heap)=>v=.tup []/\K .ret 45 [I 0,I 0] k) (∃d,Zb k id 1 1=some [I d]/\ ∃e,Zi k id 1 [I (wW (d+(1:Int)))]=some e/\K .ret 45 [I a,I a] e))):=kr
theorem ZIo{id x h}(K):CP UY 174 (flat (Za Tryz.f174)) (.p (some (id,0))::I x::Rp 73) h [4] K=(∃a,Zb h id 1 1=some [I a]/\ ∃b,Zb h id 0 1=some [.s b]/\If (ltI a (↑b.length:Int)) (∃c,Zb h id 0 1=some [.s c]/\ ∃d,Zb h id 1 1=some [I d]/\ ∃e,((0:Int)<=d/\c[d.toNat]? =some e)/\If (leI 48 (↑e.toNat:Int)) (∃f,Zb h id 0 1=some [.s f]/\ ∃g,Zb h id 1 1=some [I g]/\ ∃i,((0:Int)<=g/\f[g.toNat]? =some i)/\If (leI (↑i.toNat:Int) (56:Int)) (∃j,Zb h id 0 1=some [.s j]/\ ∃l,Zb h id 1 1=some [I l]/\ ∃m,((0:Int)<=l/\j[l.toNat]? =some m)/\If (leI x (wW (wW (↑m.toNat:Int)-(48:Int)))) (∃n,Zb h id 1 1=some [I n]/\ ∃o,Zi h id 1 [I (wW (n+(1:Int)))]=some o/\ ∃q,Zb o id 0 1=some [.s q]/\ ∃r,Zb o id 1 1=some [I r]/\ ∃s,((0:Int)<=wW (r-(1:Int))/\q[(wW (r-(1:Int))).toNat]? =some s)/\K .ret 75 [I (wW (wW (↑s.toNat:Int)-(48:Int)))] o) (Con UY 28 [.p (some (id,0)),I 1] h fun(v:V) (k:Heap)=>v=.tup []/\K .ret 75 [I (-1)] k)) (Con UY 28 [.p (some (id,0)),I 1] h fun(v:V) (k:Heap)=>v=.tup []/\K .ret 75 [I (-1)] k)) (Con UY 28 [.p (some (id,0)),I 1] h fun(v:V) (k:Heap)=>v=.tup []/\K .ret 75 [I (-1)] k)) (Con UY 28 [.p (some (id,0)),I 1] h fun(v:V) (k:Heap)=>v=.tup []/\K .ret 75 [I (-1)] k)):=kr
theorem ZIp{id h}(K):CP UY 173 (flat (Za Tryz.f173)) (.p (some (id,0))::Rp 46) h [2] K=(∃a,RCon UY (68:Nat) [.p (some (id,0)),.i .u8 94] h (.b a)/\If a (∃b,Zb h id 1 1=some [I b]/\ ∃c,Zi h id 1 [I (wW (b+(1:Int)))]=some c/\ ∃d,Zb c id 0 1=some [.s d]/\ ∃e,Zb c id 1 1=some [I e]/\ ∃f g j l m,(PCon UY 62 [.s d,I e] fun(v:V)=>v=.tup [J f g j,I l,I m])/\If (ltI l 0) (∃n,Zi c id 1 [I m]=some n/\Con UY 28 [.p (some (id,0)),I 1] n fun(v:V) (k:Heap)=>v=.tup []/\K .ret 47 [.lb R0] k) (∃n,Zi c id 1 [I l]=some n/\ ∃o q r s,(PCon UY 103 [J f g j,.b a] fun(v:V)=>v=.agg [U o,U q,U r,U s])/\K .ret 47 [.lb [I 1,U o,U q,U r,U s,S0,I 0,I 0,I 0]] n)) (∃b,Zb h id 0 1=some [.s b]/\ ∃c,Zb h id 1 1=some [I c]/\ ∃d e f g j,(PCon UY 62 [.s b,I c] fun(v:V)=>v=.tup [J d e f,I g,I j])/\If (ltI g 0) (∃l,Zi h id 1 [I j]=some l/\Con UY 28 [.p (some (id,0)),I 1] l fun(v:V) (k:Heap)=>v=.tup []/\K .ret 47 [.lb R0] k) (∃l,Zi h id 1 [I g]=some l/\ ∃m n o q,(PCon UY 103 [J d e f,.b a] fun(v:V)=>v=.agg [U m,U n,U o,U q])/\K .ret 47 [.lb [I 1,U m,U n,U o,U q,S0,I 0,I 0,I 0]] l))):=kr
theorem ZIq{id x h}(K):CP UY 141 (flat (Za Tryz.f141)) (.p (some (id,0))::I x::Rp 138) h [4] K=(∃a,Zb h id 0 1=some [.s a]/\ ∃b,Zb h id 1 1=some [I b]/\ ∃c,((0:Int)<=b/\a[b.toNat]? =some c)/\If ((↑c.toNat:Int)==(42:Int)) (Con UY 28 [.p (some (id,0)),I 1] h fun(v:V) (k:Heap)=>v=.tup []/\K .ret 140 [.lb R0] k) (If ((↑c.toNat:Int)==(43:Int)) (Con UY 28 [.p (some (id,0)),I 1] h fun(v:V) (k:Heap)=>v=.tup []/\K .ret 140 [.lb R0] k) (If ((↑c.toNat:Int)==(63:Int)) (Con UY 28 [.p (some (id,0)),I 1] h fun(v:V) (k:Heap)=>v=.tup []/\K .ret 140 [.lb R0] k) (If ((↑c.toNat:Int)==(123:Int)) (Con UY 28 [.p (some (id,0)),I 1] h fun(v:V) (k:Heap)=>v=.tup []/\K .ret 140 [.lb R0] k) (If ((↑c.toNat:Int)==(40:Int)) (If (leI 64 x) (Con UY 28 [.p (some (id,0)),I 8] h fun(v:V) (k:Heap)=>v=.tup []/\K .ret 140 [.lb R0] k) (∃d,Zb h id 1 1=some [I d]/\ ∃e,Zi h id 1 [I (wW (d+(1:Int)))]=some e/\ ∃f,Zb e id 2 1=some [I f]/\ ∃g,Zi e id 2 [I (wW (f+(1:Int)))]=some g/\ ∃j,Zb g id 2 1=some [I j]/\If (leI j 9) (∃l,Zb g id 2 1=some [I l]/\Con UY 27 [.p (some (id,0)),I (wW (x+(1:Int)))] g fun(v:V) (k:Heap)=> ∃m n o q r s t u w y z,v=.agg (R9 m n o q r s t u w y z)/\ ∃A,RCon UY (68:Nat) [.p (some (id,0)),.i .u8 41] k (.b A)/\If (!A) (Con UY 28 [.p (some (id,0)),I 1] k fun(v:V) (k:Heap)=>v=.tup []/\K .ret 140 [.lb [I 0,U 0,U 0,U 0,U 0,S0,I 0,I 0,I (0:Int)]] k) (∃B,Zb k id 1 1=some [I B]/\ ∃C,Zi k id 1 [I (wW (B+(1:Int)))]=some C/\K .ret 140 [.lb [I (7:Int),U (0:Int),U (0:Int),U (0:Int),U (0:Int),J (R9 m n o q r s t u w y z) 1 (some 1),I (0:Int),I (0:Int),I l]] C)) (Con UY 27 [.p (some (id,0)),I (wW (x+(1:Int)))] g fun(v:V) (k:Heap)=> ∃l m n o q r s t u w y,v=.agg (R9 l m n o q r s t u w y)/\ ∃z,RCon UY (68:Nat) [.p (some (id,0)),.i .u8 41] k (.b z)/\If (!z) (Con UY 28 [.p (some (id,0)),I 1] k fun(v:V) (k:Heap)=>v=.tup []/\K .ret 140 [.lb R0] k) (∃A,Zb k id 1 1=some [I A]/\ ∃B,Zi k id 1 [I (wW (A+(1:Int)))]=some B/\K .ret 140 [.lb [I 7,U 0,U 0,U 0,U 0,J (R9 l m n o q r s t u w y) 1 (some 1),I 0,I 0,I (0:Int)]] B)))) (∃d,Zb h id 1 1=some [I d]/\ ∃e,Zi h id 1 [I (wW (d+(1:Int)))]=some e/\If ((↑c.toNat:Int)==(91:Int)) (Con UY 173 [.p (some (id,0))] e fun(v:V) (k:Heap)=> ∃f g j l m n o q r s t,v=.agg (R9 f g j l m n o q r s t)/\K .ret 140 [.lb (R9 f g j l m n o q r s t)] k) (If ((↑c.toNat:Int)==(46:Int)) (∃f g j l,(PCon UY 103 [S0,.b true] fun(v:V)=>v=.agg [U f,U g,U j,U l])/\K .ret 140 [.lb [I 1,U f,U g,U j,U l,S0,I 0,I 0,I 0]] e) (If ((↑c.toNat:Int)==(94:Int)) (K .ret 140 [.lb [I 2,U 0,U 0,U 0,U 0,S0,I 0,I 0,I 0]] e) (If ((↑c.toNat:Int)==(36:Int)) (K .ret 140 [.lb [I 3,U 0,U 0,U 0,U 0,S0,I 0,I 0,I 0]] e) (If ((↑c.toNat:Int)==(92:Int)) (∃f,Zb e id 1 1=some [I f]/\ ∃g,Zb e id 0 1=some [.s g]/\If (leI (↑g.length:Int) f) (Con UY 28 [.p (some (id,0)),I 1] e fun(v:V) (k:Heap)=>v=.tup []/\K .ret 140 [.lb R0] k) (∃j,Zb e id 0 1=some [.s j]/\ ∃l,Zb e id 1 1=some [I l]/\ ∃m,((0:Int)<=l/\j[l.toNat]? =some m)/\ ∃n,Zb e id 1 1=some [I n]/\ ∃o,Zi e id 1 [I (wW (n+(1:Int)))]=some o/\ ∃q r s t,(PCon UY 96 [.i .u8 (↑m.toNat:Int)] fun(v:V)=>v=.agg [U q,U r,U s,U t])/\K .ret 140 [.lb [I 1,U q,U r,U s,U t,S0,I 0,I 0,I 0]] o)) (∃f g j l,(PCon UY 96 [.i .u8 (↑c.toNat:Int)] fun(v:V)=>v=.agg [U f,U g,U j,U l])/\K .ret 140 [.lb [I 1,U f,U g,U j,U l,S0,I 0,I 0,I 0]] e))))))))))):=kr
theorem ZO3{j l c k h}(K):CP UY 27 ((post (flat (Za Tryz.f27))).drop 1) (MZ 33 [4,5] [.lb R0,S (some (j,0)) l c k]) h [4] K=(If ((↑l:Int)==(1:Int)) (((0:Int)<=(0:Int)/\(0:Int)<(l:Int))/\k=9/\ ∃a b d e f g i m n o p,Zb h j (0) (9)=some (R9 a b d e f g i m n o p)/\K .ret (33) [.lb (R9 a b d e f g i m n o p)] h) (K .ret (33) [.lb [I 5,U 0,U 0,U 0,U 0,S (some (j,0)) l c k,I 0,I 0,I 0]] h)):=kr
theorem ZO4{j l c k h}(K):CP UY 67 ((post (flat (Za Tryz.f67))).drop 1) (MZ 65 [4,5] [.lb R0,S (some (j,0)) l c k]) h [4] K=(If ((↑l:Int)==(0:Int)) (K .ret (65) [.lb [I 0,U 0,U 0,U 0,U 0,S none (0) (some (0)) (0),I 0,I 0,I 0]] h) (If ((↑l:Int)==(1:Int)) (((0:Int)<=(0:Int)/\(0:Int)<(l:Int))/\k=9/\ ∃a b d e f g i m n o p,Zb h j (0) (9)=some (R9 a b d e f g i m n o p)/\K .ret (65) [.lb (R9 a b d e f g i m n o p)] h) (K .ret (65) [.lb [I 4,U 0,U 0,U 0,U 0,S (some (j,0)) l c k,I 0,I 0,I 0]] h))):=kr
theorem ZD7{c k h}(K):CP UY 67 ((post (flat (Za Tryz.f67))).drop 1) (MZ 65 [4,5] [.lb R0,S none 0 c k]) h [4] K=(K .ret (65) [.lb [I 0,U 0,U 0,U 0,U 0,S none (0) (some (0)) (0),I 0,I 0,I 0]] h):=kr
structure RdE(h:Heap)(id:Nat)(s:List UInt8)(i g:Nat)(e:Int):Prop where
 get:h.get id=some (.arr [.s s,I i,I g,I e] true)
 lt:id<h.nx
section
variable {h:Heap} {id:Nat} {s:List UInt8} {i g:Nat} {e:Int}
theorem RdE.c0(r:RdE h id s i g e):Zb h id 0 1=some [.s s]:=by simp[Zb,r.get,Zr]
theorem RdE.c1(r:RdE h id s i g e):Zb h id 1 1=some [I i]:=by simp[Zb,r.get,Zr]
theorem RdE.c2(r:RdE h id s i g e):Zb h id 2 1=some [I g]:=by simp[Zb,r.get,Zr]
theorem RdE.c3(r:RdE h id s i g e):Zb h id 3 1=some [I e]:=by simp[Zb,r.get,Zr]
theorem RdE.s1(r:RdE h id s i g e)(j:Nat): ∃a,Zi h id 1 [I j]=some a/\RdE a id s j g e/\FrO h id a:=by
 refine⟨h.set id (some (.arr [.s s,I j,I g,I e] true)),?_,⟨sm,r.lt⟩, .set _ _ _⟩;simp[Zi,r.get,splice]
theorem RdE.s2(r:RdE h id s i g e)(j:Nat): ∃a,Zi h id 2 [I j]=some a/\RdE a id s i j e/\FrO h id a:=by
 refine⟨h.set id (some (.arr [.s s,I i,I j,I e] true)),?_,⟨sm,r.lt⟩, .set _ _ _⟩;simp[Zi,r.get,splice]
theorem RdE.s3(r:RdE h id s i g e)(x:Int): ∃a,Zi h id 3 [I x]=some a/\RdE a id s i g x/\FrO h id a:=by
 refine⟨h.set id (some (.arr [.s s,I i,I g,I x] true)),?_,⟨sm,r.lt⟩, .set _ _ _⟩;simp[Zi,r.get,splice]
end
theorem Za1{s:List UInt8}{i:Nat}(h:i<s.length):(0:Int)<=(i:Nat)/\s[(i:Int).toNat]? =some s[i]:=⟨om,by simp[h]⟩
theorem Jv{h}{id:Nat}{s}{i g:Nat}{e:Int}(r:RdE h id s i g e)(c:UInt8):
  RCon UY 68 [.p (some (id,0)), .i .u8 (c.toNat:Nat)] h (.b (e==0&&s[i]? ==some c)):=by
 refine⟨h,?_,λ_ _=>rfl,λ_ h=>h⟩;refine Zv UK (fn:=Tryz.f68) (Zo UK ZO2 rfl ?_);refine⟨_,r.c3,Zf (λd=> ?_) (λd=> ?_)⟩
 .refine⟨_,r.c1,_,r.c0,Zq (λa=> ?_) (λf=> ?_)⟩
  .refine⟨_,r.c0,_,r.c1,s[i],Za1 a,finC rr rfl (.now ⟨?_,rfl⟩)⟩;rw[Zuo,d];simp[a,V.plain]
  .have:s[i]? =none:=qq om;refine finC rr rfl (.now ⟨?_,rfl⟩);simp[this,V.plain]
 .refine finC rr rfl (.now ⟨?_,rfl⟩);rw[d];rfl
theorem Zfl{h}{id:Nat}{s}{i g:Nat}{e:Int}(r:RdE h id s i g e)(x:Int):
  Con UY 28 [.p (some (id,0)),I x] h λv c=>v= .tup []/\RdE c id s i g (if e=0 then x else e)/\FrO h id c:=by
 refine Zv UK (fn:=Tryz.f28) (Zo UK ZO1 rfl ?_);refine⟨_,r.c3,Zf (λa=> ?_) (λa=> ?_)⟩
 .have a:e=0:=by simpa using a
  obtain⟨j,f,d,k⟩:=r.s3 x;exact⟨j,f,finC (.inl rfl) rfl (.now ⟨rfl,by rw[uF a];exact d,k⟩)⟩
 .have a:e≠0:=by simpa using a
  exact finC (.inl rfl) rfl (.now ⟨rfl,by rw[uE a];exact r, .refl _ _⟩)
theorem Zp2{h}{id:Nat}{s}{i g:Nat}(r:RdE h id s i g 0)(x:Int){Q:V->Heap->Prop}(c: ∀a,RdE a id s i g x->FrO h id a->Q (.tup []) a):
  Con UY 28 [.p (some (id,0)),I x] h Q:=(Zfl r x).mono λv a ⟨f,d,j⟩=>by
 subst f;exact c a (by simpa using d) j
def ZB1(R:Except Nat (Int×Nat))(h:Heap)(id:Nat)(s:List UInt8)(g:Nat)(v:V)(a:Heap):Prop:=match R with
 | .error e=>v= .i .i64 (-1)/\RdE a id s e g 1/\FrO h id a
 | .ok (x,j)=>v= .i .i64 x/\RdE a id s j g 0/\FrO h id a
theorem Zhk{h}{id:Nat}{s:List UInt8}{i g:Nat}(r:RdE h id s i g 0)(a:Int)(y:s.length<2 ^ 28):
  Con UY 174 [.p (some (id,0)),I a] h (ZB1 (XU s i a) h id s g):=by
 refine Zv UK (fn:=Tryz.f174) (Zo UK ZIo rfl ?_);have f:XU s i a= .error i->Con UY 28 [.p (some (id,0)),I 1] h λv j=>v= .tup []/\Go.Y.Fin UY Tryz.f174 [4] (AfterZ (ZB1 (XU s i a) h id s g)) .ret 75 [I (-1)] j:=λw=>
  Zp2 r 1 λj l m=>⟨rfl,finC rr rfl (.now (by rw[w];exact⟨rfl,l,m⟩))⟩
 refine⟨_,r.c1,_,r.c0,Zq (λc=> ?_) (λt=>f ?_)⟩
 .have d:s[i]? =some s[i]:=by simp[c]
  refine⟨_,r.c0,_,r.c1,s[i],Za1 c,JT (λl=>⟨_,r.c0,_,r.c1,s[i],Za1 c,JT (λm=>⟨_,r.c0,_,r.c1,s[i],Za1 c,?_⟩) (λm=>f ?_)⟩) (λl=>f ?_)⟩
  .have z:s[i].toNat<256:=s[i].toNat_lt;have w1:wW (s[i].toNat:Int)=s[i].toNat:=ZI om om;have o:wW ((s[i].toNat:Int)-48)=(s[i].toNat:Int)-48:=ZI om om;rw[w1,o];refine JT (λn=> ?_) (λn=>f ?_)
   .obtain⟨j,u,k,x⟩:=r.s1 (i+1);refine⟨_,r.c1,j,by rw[Ze om];exact u,_,k.c0,_,k.c1,s[i],?_,?_⟩
    .rw[ZI om om,show((i+1:Nat):Int)-1=(i:Int) from om];exact Za1 c
    rw[w1,o];refine finC rr rfl (.now ?_);have:XU s i a= .ok ((s[i].toNat:Int)-48,i+1):=by unfold XU;rw[d];simp only[];rw[uF ⟨om,om,n⟩]
    rw[this];exact⟨rfl,k,x⟩
   .unfold XU;rw[d];simp only[];rw[uE om]
  .unfold XU;rw[d];simp only[];rw[uE om]
  .unfold XU;rw[d];simp only[];rw[uE om]
 .unfold XU;rw[qq om]
def Znx(R:Except Nat (Int×Int×Nat))(h:Heap)(id:Nat)(s:List UInt8)(g:Nat)(v:V)(a:Heap):Prop:=match R with
 | .error e=>v= .tup [.i .i64 0, .i .i64 0]/\RdE a id s e g 1/\FrO h id a
 | .ok (x,y,j)=>v= .tup [.i .i64 x, .i .i64 y]/\RdE a id s j g 0/\FrO h id a
theorem Zlj{s:List UInt8}{i j:Nat}{l x:Int}(h:XU s i l= .ok (x,j)):j=i+1/\i<s.length:=by
 unfold XU at h;split at h
 .rename_i c a;split at h
  .cases h;exact⟨rfl,(qb.1 a).1⟩
  .cases h
 .cases h
theorem Zny{h}{id:Nat}{s:List UInt8}{i g:Nat}(r:RdE h id s i g 0)(hs:s.length<2 ^ 28):
  Con UY 142 [.p (some (id,0))] h (Znx (Xk s i) h id s g):=by
 refine Zv UK (fn:=Tryz.f142) (Zo UK ZIn rfl ?_);have u: ∀(e:Nat) (l:Heap) (x:Int),Xk s i= .error e->RdE l id s e g x->(x=0\/x=1)->FrO h id l->
   Con UY 28 [.p (some (id,0)),I 1] l λv O=>v= .tup []/\Go.Y.Fin UY Tryz.f142 [2,3] (AfterZ (Znx (Xk s i) h id s g)) .ret 45 [I 0,I 0] O:=λe l x Z hr hx P=>
  (Zfl hr 1).mono λv O ⟨hv,G,L⟩=>⟨hv,finC rr rfl (.now (by
   rw[Z];have G:RdE O id s e g 1:=by rcases hx with rfl|rfl<;>simpa using G
   exact⟨rfl,G,P.trans L⟩))⟩
 have n: ∀(D K:Int) (j:Nat) (l:Heap),Xk s i= .ok (D,K,j)->RdE l id s j g 0->FrO h id l->Go.Y.Fin UY Tryz.f142 [2,3] (AfterZ (Znx (Xk s i) h id s g)) .ret 45 [I D,I K] l:=λD K j l Z hr P=>
  finC rr rfl (.now (by rw[Z];exact⟨rfl,hr,P⟩))
 refine(Zhk r 0 hs).mono λv l w=> ?_
 cases o:XU s i 0 with
 |error e=>
  rw[o]at w;obtain⟨rfl,m,z⟩:=w;have W:Xk s i= .error e:=by unfold Xk;rw[o]
  refine⟨_,rfl,_,Jv m 44,Zf (λt=>by simp at t) (λ_=>⟨_,Jv m 125,Zf (λ_=>u e l 1 W m (.inr rfl) z) (λt=>by simp at t)⟩)⟩
 |ok y=>
  obtain⟨D,j⟩:=y;rw[o]at w;obtain⟨rfl,m,z⟩:=w;obtain⟨rfl,a3⟩:=Zlj o;refine⟨_,rfl,_,Jv m 44,Zf (λc=> ?_) (λc=> ?_)⟩
  .have c:s[i+1]? =some 44:=by simpa using c
   have a1:=(qb.1 c).1;obtain⟨G,g1,C,N⟩:=m.s1 (i+2);refine⟨_,m.c1,G,by rw[Ze om];exact g1,_,Jv C 125,Zf (λa=> ?_) (λa=> ?_)⟩
   .have a:s[i+2]? ≠some 125:=by simpa using a
    refine⟨_,C.c3,Zf (λ_=> ?_) (λt=>by simp at t)⟩;refine(Zhk C D hs).mono λv L w=> ?_
    cases f:XU s (i+2) D with
    |error e=>
     rw[f]at w;obtain⟨rfl,B,H⟩:=w;have W:Xk s i= .error e:=by unfold Xk;rw[o];simp only[];rw[uF c,uE a,f]
     exact⟨_,rfl,_,Jv B 125,Zf (λ_=>u e L 1 W B (.inr rfl) ((z.trans N).trans H)) (λt=>by simp at t)⟩
    |ok y=>
     obtain⟨K,k⟩:=y;rw[f]at w;obtain⟨rfl,B,H⟩:=w;obtain⟨rfl,a0⟩:=Zlj f;refine⟨_,rfl,_,Jv B 125,Zf (λd=> ?_) (λd=> ?_)⟩
     .have d:s[i+3]? ≠some 125:=by simpa using d
      exact u (i+3) L 0 (by unfold Xk;rw[o];simp only[];rw[uF c,uE a,f];simp only[];rw[uE d]) B (.inl rfl) ((z.trans N).trans H)
     .have d:s[i+3]? =some 125:=by simpa using d
      have X:=(qb.1 d).1;obtain⟨A,w1,F,E⟩:=B.s1 (i+4);exact⟨_,B.c1,A,by rw[Ze om];exact w1,n _ _ (i+4) A (by unfold Xk;rw[o];simp only[];rw[uF c,uE a,f];simp only[];rw[uF d]) F (((z.trans N).trans H).trans E)⟩
   .have a:s[i+2]? =some 125:=by simpa using a
    have a2:=(qb.1 a).1;refine⟨_,Jv C 125,Zf (λt=>by rw[a]at t;simp at t) (λ_=> ?_)⟩;obtain⟨A,w1,F,E⟩:=C.s1 (i+3);exact⟨_,C.c1,A,by rw[Ze om];exact w1,n _ _ (i+3) A (by unfold Xk;rw[o];simp only[];rw[uF c,uF a]) F ((z.trans N).trans E)⟩
  .have c:s[i+1]? ≠some 44:=by simpa using c
   refine⟨_,Jv m 125,Zf (λd=> ?_) (λd=> ?_)⟩
   .have d:s[i+1]? ≠some 125:=by simpa using d
    exact u (i+1) l 0 (by unfold Xk;rw[o];simp only[];rw[uE c,uE d]) m (.inl rfl) z
   .have d:s[i+1]? =some 125:=by simpa using d
    have X:=(qb.1 d).1;obtain⟨A,w1,F,E⟩:=m.s1 (i+2);exact⟨_,m.c1,A,by rw[Ze om];exact w1,n _ _ (i+2) A (by unfold Xk;rw[o];simp only[];rw[uE c,uF d]) F (z.trans E)⟩
theorem ZIr{id x h}(K):CP UY 112 (flat (Za Tryz.f112)) (.p (some (id,0))::I x::Rp 86) h [4] K=(Con UY 141 [.p (some (id,0)),I x] h fun(v:V) (k:Heap)=> ∃a b c d e f g i j l m,v=.agg (R9 a b c d e f g i j l m)/\ ∃n,(λA=>Zb k id 3 1=some [I n]/\If (n !=(0:Int)) A (∃o,Zb k id 1 1=some [I o]/\ ∃q,Zb k id 0 1=some [.s q]/\If (leI (↑q.length:Int) o) A (∃r,Zb k id 0 1=some [.s r]/\ ∃s,Zb k id 1 1=some [I s]/\ ∃t,(λB=>((0:Int)<=s/\r[s.toNat]? =some t)/\If ((↑t.toNat:Int) !=(42:Int)) (If ((↑t.toNat:Int) !=(43:Int)) (If ((↑t.toNat:Int) !=(63:Int)) (If ((↑t.toNat:Int) !=(123:Int)) A (If (a==(2:Int)) (Con UY 28 [.p (some (id,0)),I 1] k fun(v:V) (k:Heap)=>v=.tup []/\K .ret 88 [.lb (R9 a b c d e f g i j l m)] k) (If (a==(3:Int)) (Con UY 28 [.p (some (id,0)),I 1] k fun(v:V) (k:Heap)=>v=.tup []/\K .ret 88 [.lb (R9 a b c d e f g i j l m)] k) (∃u,Zb k id 1 1=some [I u]/\ ∃w,Zi k id 1 [I (wW (u+(1:Int)))]=some w/\If ((↑t.toNat:Int)==(43:Int)) (If ((↑t.toNat:Int)==(63:Int)) (If ((↑t.toNat:Int)==(123:Int)) (Con UY 142 [.p (some (id,0))] w fun(v:V) (k:Heap)=> ∃y z,v=.tup [I y,I z]/\K .ret 88 [.lb [I (6:Int),U (0:Int),U (0:Int),U (0:Int),U (0:Int),J (R9 a b c d e f g i j l m) 1 (some 1),I y,I z,I (0:Int)]] k) (K .ret 88 [.lb [I 6,U 0,U 0,U 0,U 0,J (R9 a b c d e f g i j l m) 1 (some 1),I 1,I 1,I 0]] w)) (If ((↑t.toNat:Int)==(123:Int)) (Con UY 142 [.p (some (id,0))] w fun(v:V) (k:Heap)=> ∃y z,v=.tup [I y,I z]/\K .ret 88 [.lb [I (6:Int),U (0:Int),U (0:Int),U (0:Int),U (0:Int),J (R9 a b c d e f g i j l m) 1 (some 1),I y,I z,I (0:Int)]] k) (K .ret 88 [.lb [I 6,U 0,U 0,U 0,U 0,J (R9 a b c d e f g i j l m) 1 (some 1),I 1,I (-1),I 0]] w))) (If ((↑t.toNat:Int)==(63:Int)) (If ((↑t.toNat:Int)==(123:Int)) (Con UY 142 [.p (some (id,0))] w fun(v:V) (k:Heap)=> ∃y z,v=.tup [I y,I z]/\K .ret 88 [.lb [I (6:Int),U (0:Int),U (0:Int),U (0:Int),U (0:Int),J (R9 a b c d e f g i j l m) 1 (some 1),I y,I z,I (0:Int)]] k) (K .ret 88 [.lb [I 6,U 0,U 0,U 0,U 0,J (R9 a b c d e f g i j l m) 1 (some 1),I 0,I 1,I 0]] w)) (If ((↑t.toNat:Int)==(123:Int)) (Con UY 142 [.p (some (id,0))] w fun(v:V) (k:Heap)=> ∃y z,v=.tup [I y,I z]/\K .ret 88 [.lb [I (6:Int),U (0:Int),U (0:Int),U (0:Int),U (0:Int),J (R9 a b c d e f g i j l m) 1 (some 1),I y,I z,I (0:Int)]] k) (K .ret 88 [.lb [I 6,U 0,U 0,U 0,U 0,J (R9 a b c d e f g i j l m) 1 (some 1),I 0,I (-1),I 0]] w))))))) (If (a==(2:Int)) (Con UY 28 [.p (some (id,0)),I 1] k fun(v:V) (k:Heap)=>v=.tup []/\K .ret 88 [.lb (R9 a b c d e f g i j l m)] k) (If (a==(3:Int)) (Con UY 28 [.p (some (id,0)),I 1] k fun(v:V) (k:Heap)=>v=.tup []/\K .ret 88 [.lb (R9 a b c d e f g i j l m)] k) (∃u,Zb k id 1 1=some [I u]/\ ∃w,Zi k id 1 [I (wW (u+(1:Int)))]=some w/\If ((↑t.toNat:Int)==(43:Int)) (If ((↑t.toNat:Int)==(63:Int)) (If ((↑t.toNat:Int)==(123:Int)) (Con UY 142 [.p (some (id,0))] w fun(v:V) (k:Heap)=> ∃y z,v=.tup [I y,I z]/\K .ret 88 [.lb [I 6,U 0,U 0,U 0,U 0,J (R9 a b c d e f g i j l m) 1 (some 1),I y,I z,I (0:Int)]] k) (K .ret 88 [.lb [I 6,U 0,U 0,U 0,U 0,J (R9 a b c d e f g i j l m) 1 (some 1),I 1,I 1,I 0]] w)) (If ((↑t.toNat:Int)==(123:Int)) (Con UY 142 [.p (some (id,0))] w fun(v:V) (k:Heap)=> ∃y z,v=.tup [I y,I z]/\K .ret 88 [.lb [I 6,U 0,U 0,U 0,U 0,J (R9 a b c d e f g i j l m) 1 (some 1),I y,I z,I (0:Int)]] k) (K .ret 88 [.lb [I 6,U 0,U 0,U 0,U 0,J (R9 a b c d e f g i j l m) 1 (some 1),I 1,I (-1),I 0]] w))) (If ((↑t.toNat:Int)==(63:Int)) (If ((↑t.toNat:Int)==(123:Int)) (Con UY 142 [.p (some (id,0))] w fun(v:V) (k:Heap)=> ∃y z,v=.tup [I y,I z]/\K .ret 88 [.lb [I 6,U 0,U 0,U 0,U 0,J (R9 a b c d e f g i j l m) 1 (some 1),I y,I z,I (0:Int)]] k) (K .ret 88 [.lb [I 6,U 0,U 0,U 0,U 0,J (R9 a b c d e f g i j l m) 1 (some 1),I 0,I 1,I 0]] w)) (If ((↑t.toNat:Int)==(123:Int)) (Con UY 142 [.p (some (id,0))] w fun(v:V) (k:Heap)=> ∃y z,v=.tup [I y,I z]/\K .ret 88 [.lb [I 6,U 0,U 0,U 0,U 0,J (R9 a b c d e f g i j l m) 1 (some 1),I y,I z,I (0:Int)]] k) (K .ret 88 [.lb [I 6,U 0,U 0,U 0,U 0,J (R9 a b c d e f g i j l m) 1 (some 1),I 0,I (-1),I 0]] w))))))) B) B) (If (a==(2:Int)) (Con UY 28 [.p (some (id,0)),I 1] k fun(v:V) (k:Heap)=>v=.tup []/\K .ret 88 [.lb (R9 a b c d e f g i j l m)] k) (If (a==(3:Int)) (Con UY 28 [.p (some (id,0)),I 1] k fun(v:V) (k:Heap)=>v=.tup []/\K .ret 88 [.lb (R9 a b c d e f g i j l m)] k) (∃u,Zb k id 1 1=some [I u]/\ ∃w,Zi k id 1 [I (wW (u+(1:Int)))]=some w/\If ((↑t.toNat:Int)==(43:Int)) (If ((↑t.toNat:Int)==(63:Int)) (If ((↑t.toNat:Int)==(123:Int)) (Con UY 142 [.p (some (id,0))] w fun(v:V) (k:Heap)=> ∃y z,v=.tup [I y,I z]/\K .ret 88 [.lb [I 6,U 0,U 0,U 0,U 0,J (R9 a b c d e f g i j l m) 1 (some 1),I y,I z,I 0]] k) (K .ret 88 [.lb [I 6,U 0,U 0,U 0,U 0,J (R9 a b c d e f g i j l m) 1 (some 1),I 1,I 1,I 0]] w)) (If ((↑t.toNat:Int)==(123:Int)) (Con UY 142 [.p (some (id,0))] w fun(v:V) (k:Heap)=> ∃y z,v=.tup [I y,I z]/\K .ret 88 [.lb [I 6,U 0,U 0,U 0,U 0,J (R9 a b c d e f g i j l m) 1 (some 1),I y,I z,I 0]] k) (K .ret 88 [.lb [I 6,U 0,U 0,U 0,U 0,J (R9 a b c d e f g i j l m) 1 (some 1),I 1,I (-1),I 0]] w))) (If ((↑t.toNat:Int)==(63:Int)) (If ((↑t.toNat:Int)==(123:Int)) (Con UY 142 [.p (some (id,0))] w fun(v:V) (k:Heap)=> ∃y z,v=.tup [I y,I z]/\K .ret 88 [.lb [I 6,U 0,U 0,U 0,U 0,J (R9 a b c d e f g i j l m) 1 (some 1),I y,I z,I 0]] k) (K .ret 88 [.lb [I 6,U 0,U 0,U 0,U 0,J (R9 a b c d e f g i j l m) 1 (some 1),I 0,I 1,I 0]] w)) (If ((↑t.toNat:Int)==(123:Int)) (Con UY 142 [.p (some (id,0))] w fun(v:V) (k:Heap)=> ∃y z,v=.tup [I y,I z]/\K .ret 88 [.lb [I 6,U 0,U 0,U 0,U 0,J (R9 a b c d e f g i j l m) 1 (some 1),I y,I z,I 0]] k) (K .ret 88 [.lb [I 6,U 0,U 0,U 0,U 0,J (R9 a b c d e f g i j l m) 1 (some 1),I 0,I (-1),I 0]] w))))))))) (K .ret 88 [.lb (R9 a b c d e f g i j l m)] k)):=kr
theorem ZO5{id x h}(K):CP UY 27 (pre (flat (Za Tryz.f27))) (.p (some (id,0))::I x::Rp 31) h [0,1,4,5] K=(Con UY 67 [.p (some (id,0)),I x] h fun(v:V) (k:Heap)=> ∃a b c d e f g i j l m,v=.agg (R9 a b c d e f g i j l m)/\K .normal 33 [.p (some (id,0)),I x, .lb R0,S (some (k.nx,0)) 1 (some 1) 9] (k.push (YObj.arr (R9 a b c d e f g i j l m) true))):=kr
theorem ZO6{id x j l c k h}(K):CP UY 27 (flat (Zx (post (flat (Za Tryz.f27))))) (MZ 33 [0,1,4,5] [.p (some (id,0)),I x,.lb R0,S (some (j,0)) l c k]) h [0,1,4,5] K=(∃a,RCon UY (68:Nat) [.p (some (id,0)),.i .u8 124] h (.b a)/\If a (∃b,Zb h id 1 1=some [I b]/\ ∃d,Zi h id 1 [I (wW (b+(1:Int)))]=some d/\Con UY 67 [.p (some (id,0)),I x] d fun(v:V) (C:Heap)=> ∃e f g m n o q r s t u,v=.agg (R9 e f g m n o q r s t u)/\ ∃w y z A B,Zk UY C 26 26 (S (some (j,0)) l c k) (J (R9 e f g m n o q r s t u) 1 (some 1))=some (S w y z A,B)/\K .normal 33 [.p (some (id,0)),I x, .lb R0,S w y z A] B) (K (.exit 0) 33 [.p (some (id,0)),I x, .lb R0,S (some (j,0)) l c k] h)):=kr
theorem ZO7{id x h}(K):CP UY 67 (pre (flat (Za Tryz.f67))) (.p (some (id,0))::I x::Rp 63) h [0,1,4,5] K=(K .normal 65 [.p (some (id,0)),I x, .lb R0,S0] h):=kr
theorem ZO8{id x a5 l5 c5 k5 h}(K):CP UY 67 (flat (Zx (post (flat (Za Tryz.f67))))) (MZ 65 [0,1,4,5] [.p (some (id,0)),I x,.lb R0,S a5 l5 c5 k5]) h [0,1,4,5] K=(∃a,(λk=>Zb h id 3 1=some [I a]/\If (a==(0:Int)) (∃b,Zb h id 1 1=some [I b]/\ ∃c,Zb h id 0 1=some [.s c]/\If (ltI b (↑c.length:Int)) (∃d,Zb h id 0 1=some [.s d]/\ ∃e,Zb h id 1 1=some [I e]/\ ∃f,((0:Int)<=e/\d[e.toNat]? =some f)/\If ((↑f.toNat:Int) !=(124:Int)) (∃g,Zb h id 0 1=some [.s g]/\ ∃i,Zb h id 1 1=some [I i]/\ ∃j,((0:Int)<=i/\g[i.toNat]? =some j)/\If ((↑j.toNat:Int) !=(41:Int)) (Con UY 112 [.p (some (id,0)),I x] h fun(v:V) (E:Heap)=> ∃l m n o q r s t u w y,v=.agg (R9 l m n o q r s t u w y)/\ ∃z A C B D,Zk UY E 26 26 (S a5 l5 c5 k5) (J (R9 l m n o q r s t u w y) 1 (some 1))=some (S z A C B,D)/\K .normal 65 [.p (some (id,0)),I x, .lb R0,S z A C B] D) k) k) k) k) (K (.exit 0) 65 [.p (some (id,0)),I x, .lb R0,S a5 l5 c5 k5] h)):=kr
theorem f8_0{s0 h}(K):CP UY 8 (flat (Za Tryz.f8)) (.s s0::Rp 46) h [2,3,4] K=(If (ltI 200 (↑s0.length:Int)) (K .ret 47 [.lb R0,I 200,I 2] h) (Con UY 27 [.p (some (h.nx,0)),I 0] (h.push (YObj.arr [.s s0,I 0,I 0,I 0] true)) fun(v:V) (k:Heap)=> ∃a b c d e f g i j l m,v=.agg (R9 a b c d e f g i j l m)/\ ∃n,Zb k h.nx 3 1=some [I n]/\If (n==(0:Int)) (∃o,Zb k h.nx 1 1=some [I o]/\If (ltI o (↑s0.length:Int)) (Con UY 28 [.p (some (h.nx,0)),I 1] k fun(v:V) (k:Heap)=>v=.tup []/\ ∃q,Zb k h.nx 3 1=some [I q]/\If (q !=(0:Int)) (∃r,Zb k h.nx 1 1=some [I r]/\ ∃t,Zb k h.nx 3 1=some [I t]/\K .ret 47 [.lb R0,I r,I t] k) (K .ret 47 [.lb (R9 a b c d e f g i j l m),I 0,I 0] k)) (∃q,Zb k h.nx 3 1=some [I q]/\If (q !=(0:Int)) (∃r,Zb k h.nx 1 1=some [I r]/\ ∃t,Zb k h.nx 3 1=some [I t]/\K .ret 47 [.lb R0,I r,I t] k) (K .ret 47 [.lb (R9 a b c d e f g i j l m),I 0,I 0] k))) (∃o,Zb k h.nx 3 1=some [I o]/\If (o !=(0:Int)) (∃q,Zb k h.nx 1 1=some [I q]/\ ∃r,Zb k h.nx 3 1=some [I r]/\K .ret 47 [.lb R0,I q,I r] k) (K .ret 47 [.lb (R9 a b c d e f g i j l m),I 0,I 0] k)))):=kr
theorem ifT{x:Bool}{a b:Prop}(h:x=true)(c:a):If x a b:=by subst h;exact c
theorem ifF{x:Bool}{a b:Prop}(h:x=false)(c:b):If x a b:=by subst h;exact c
theorem ZJ(k:Int)(st:S4)(a)(c d n:Int):V.agg (Zd (.mk k st a c d n))= .agg [I k,U st.1,U st.2.1,U st.2.2.1,U st.2.2.2,lst Zd a,I c,I d,I n]:=by rw[Zm]
theorem Znz(x):lst Zd [x]= .ts (Zd x) 1 none:=by
 have:row Zd [x]=Zd x:=by simp[row]
 show V.ts (row Zd [x]) 1 none=_;rw[this]
theorem Wn(h)(c)(k:Nat):FrzA h (.sl none 0 c k) (lst Zd []):= .frz _ _ (.sln _ _ none (λx a=>by cases a))
theorem Zbx(h)(x:Re){cs}(a:Zd x=cs)(c):FrzA h (.ts cs 1 c) (lst Zd [x]):=by
 rw[Znz,a];exact .frz _ _ (.ts _ _ _ none (λx d=>by cases d))
theorem Wo{h}(k e c n:Int)(st)(a){f}{D}{Q:V->Heap->Prop}(g:FrzA (Ve h D) f (lst Zd a))(d:Q (.agg (Zd (.mk k st a e c n))) (XO h D)):
  AfterZ Q (.agg [I k,U st.1,U st.2.1,U st.2.2.1,U st.2.2.2,f,I e,I c,I n]) h:=by
 rw[ZJ]at d;exact⟨D,_, .inl (.agg _ _ (.cons _ _ _ _ (.same _) (.cons _ _ _ _ (.same _) (.cons _ _ _ _ (.same _) (.cons _ _ _ _ (.same _) (.cons _ _ _ _ (.same _) (.cons _ _ _ _ g (.cons _ _ _ _ (.same _) (.cons _ _ _ _ (.same _) (.cons _ _ _ _ (.same _) .nil)))))))))),d⟩
theorem Zby{h}{Q}(a:Q (.agg (Zd Xs)) h):AfterZ Q (.agg [I 0,U 0,U 0,U 0,U 0, .sl none 0 (some 0) 0,I 0,I 0,I 0]) h:=
 Wo (D:= []) 0 0 0 0 (0,0,0,0) [] (Wn _ _ _) a
theorem Za2{h}(s:S4){Q}(a:Q (.agg (Zd (Qk s))) h):AfterZ Q (.agg [I 1,U s.1,U s.2.1,U s.2.2.1,U s.2.2.2, .sl none 0 (some 0) 0,I 0,I 0,I 0]) h:=
 Wo (D:= []) 1 0 0 0 s [] (Wn _ _ _) a
theorem RdE.kill{h}{a c:Nat}{s}{i g:Nat}{e:Int}{D:List Nat}(r:RdE h a s i g e)(k: ∀j,j∈D->c<=j)(f:a<c):RdE (XO h D) a s i g e:=
 ⟨by rw[Xw,uE (λd=>by have:=k a d;omega)];exact r.get,by rw[Qt];exact r.lt⟩
theorem RdE.app{h f}{c:Nat}{s}{i g:Nat}{e:Int}{a}(r:RdE h c s i g e)(q:Fr h a f)(d: ∀o,a≠some (c,o)):RdE f c s i g e:=
 ⟨by rw[q.2 c r.lt d];exact r.get,qv r.lt q.1⟩
def reQ(R:PR Re)(h:Heap)(c:Nat)(s:List UInt8)(v:V)(a:Heap):Prop:=
 ∃(x:Re) (j g:Nat) (e:Int),v= .agg (Zd x)/\RdE a c s j g e/\FrO h c a/\((e=0/\R= .ok (x,j,g))\/(e≠0/\R= .error (e,j)))
theorem Zhl{h}{a}{l:Nat}{c}{k:Nat}{d:List Re}(x:Re){new}(n:Zd x=new)(t:LX Zd 9 h a l c k d)(u:d.length<2 ^ 29):
  ∃g m r o f,Zk UY h 26 26 (.sl a l c k) (.ts new 1 (some 1))=some (.sl g m r o,f)/\LX Zd 9 f g m r o (d++ [x])/\Fr h a f/\ ∃j,g=some (j,0)/\h.nx<=j:=
 LX.app (Y:=UY) (e:=28) (te:=⟨9,88, .struct [(0,3),(1,25),(5,26),(6,3),(7,3),(8,3)],[I 0,U 0,U 0,U 0,U 0, .sl none 0 (some 0) 0,I 0,I 0,I 0]⟩) x n ZW kr kr rfl dc (by rw[<-n];exact Zfd x) dc t u
/-! ### A class -/
def ZB2(R:Except Nat (S4×Nat))(h:Heap)(c:Nat)(s:List UInt8)(g:Nat)(v:V)(a:Heap):Prop:=match R with
 | .error e=>v= .agg (Zd Xs)/\RdE a c s e g 1/\FrO h c a
 | .ok (x,j)=>v= .agg (Zd (Qk x))/\RdE a c s j g 0/\FrO h c a
theorem Zr6{h}{k:Nat}{s:List UInt8}{i g:Nat}(r:RdE h k s i g 0)(hs:s.length<2 ^ 27)(hi:i<=s.length):
  Con UY 173 [.p (some (k,0))] h (ZB2 (QN s i) h k s g):=by
 refine Zv UK (fn:=Tryz.f173) (Zo UK ZIp rfl ?_);have o: ∀(t:Heap) (z:Nat) (d:Bool),RdE t k s z g 0->FrO h k t->z<=s.length->(QN s i=match setS (s.length+1) s z []with| .error e=> .error e| .ok (l,j)=> .ok (ZC (ofP l d),j))->
   ∀K:KT,K=Go.Y.Fin UY Tryz.f173 [2] (AfterZ (ZB2 (QN s i) h k s g))->
   ∃(X:List V) (l:Nat) (c:Option Nat) (w C:Int),(PCon UY 62 [.s s,I (z:Nat)] λv=>v= .tup [.ts X l c,I w,I C])/\
    If (ltI w 0)
     (∃f,Zi t k 1 [I C]=some f/\Con UY 28 [.p (some (k,0)),I 1] f λv Z=>v= .tup []/\K .ret 47 [.lb [I 0,U 0,U 0,U 0,U 0, .sl none 0 (some 0) 0,I 0,I 0,I 0]] Z)
     (∃f,Zi t k 1 [I w]=some f/\ ∃n F A B:Int,(PCon UY 103 [.ts X l c, .b d] λv=>v= .agg [U n,U F,U A,U B])/\K .ret 47 [.lb [I 1,U n,U F,U A,U B, .sl none 0 (some 0) 0,I 0,I 0,I 0]] f):=by
  rintro t z d W P N m K rfl;have a:=Zli s z om N
  cases G:setS (s.length+1) s z [] with
  |error e=>
   rw[G]at a m;obtain⟨O,D,u,E⟩:=W.s1 e;refine⟨_,_,_,_,_,a,Xr (λ_=>⟨O,D,Zp2 u 1 λh3 u1 u2=>⟨rfl,finC rr rfl (Zby ?_)⟩⟩) (λh=>om)⟩;rw[m];exact⟨rfl,u1,(P.trans E).trans u2⟩
  |ok y=>
   obtain⟨l,j⟩:=y;rw[G]at a m;obtain⟨r1,r2⟩:=Zi9 G (λx hx=>by cases hx);have hj:=Zay G;have H:l.length<2 ^ 40:=by simp at r2;omega
   obtain⟨O,D,u,E⟩:=W.s1 j;refine⟨_,_,_,_,_,a,Xr (λh=>om) (λ_=>⟨O,D,_,_,_,_,ZB0 l d H r1,finC rr rfl (Za2 (ZC (ofP l d)) ?_)⟩)⟩;rw[m];exact⟨rfl,u,P.trans E⟩
 refine⟨_,Jv r 94,Zf (λa=> ?_) (λa=> ?_)⟩
 .have a:s[i]? =some 94:=by simpa using a
  have hl:=(qb.1 a).1;obtain⟨t,D,u,E⟩:=r.s1 (i+1);have L:(0==(0:Int)&&s[i]? ==some (94:UInt8))=true:=by rw[a];rfl
  rw[L];refine⟨_,r.c1,t,by rw[Ze om];exact D,_,u.c0,_,u.c1,o t (i+1) true u E hl ?_ _ rfl⟩;unfold QN;simp only[a,vG,decide_true];rfl
 .have a:s[i]? ≠some 94:=by simpa using a
  have L:(0==(0:Int)&&s[i]? ==some (94:UInt8))=false:=by simpa using a
  rw[L];refine⟨_,r.c0,_,r.c1,o h i false r (.refl _ _) hi ?_ _ rfl⟩;unfold QN;simp only[a,vF,decide_false];rfl
/-! ### All of it -/
structure AllC(n:Nat):Prop where
 alt: ∀ {h:Heap} {id:Nat} {s:List UInt8} {i g d:Nat},RdE h id s i g 0->s.length<2 ^ 27->i<=s.length->g<=i->d<=64->6*(s.length-i)+6<=n->Con UY 27 [.p (some (id,0)),I (d:Nat)] h (reQ (altE n d s i g) h id s)
 row: ∀ {h:Heap} {id:Nat} {s:List UInt8} {i g d:Nat},RdE h id s i g 0->s.length<2 ^ 27->i<=s.length->g<=i->d<=64->6*(s.length-i)+5<=n->Con UY 67 [.p (some (id,0)),I (d:Nat)] h (reQ (rowE n d s i g []) h id s)
 piece: ∀ {h:Heap} {id:Nat} {s:List UInt8} {i g d:Nat},RdE h id s i g 0->s.length<2 ^ 27->i<s.length->g<=i->d<=64->6*(s.length-i)+4<=n->Con UY 112 [.p (some (id,0)),I (d:Nat)] h (reQ (Qg n d s i g) h id s)
 atom: ∀ {h:Heap} {id:Nat} {s:List UInt8} {i g d:Nat},RdE h id s i g 0->s.length<2 ^ 27->i<s.length->g<=i->d<=64->6*(s.length-i)+3<=n->Con UY 141 [.p (some (id,0)),I (d:Nat)] h (reQ (JV n d s i g) h id s)
theorem ZO{c d:UInt8}(h:(((c.toNat:Nat):Int)==((d.toNat:Nat):Int))=true):c=d:=by rw[Ju]at h;simpa using h
theorem ZH{c d:UInt8}(h:(((c.toNat:Nat):Int)==((d.toNat:Nat):Int))=false):c≠d:=by rw[Ju]at h;simpa using h
theorem ZO9{n:Nat}(ih: ∀m,m<n->AllC m){h}{u:Nat}{s:List UInt8}{i g d:Nat}(r:RdE h u s i g 0)(hs:s.length<2 ^ 27)(hi:i<s.length)(hg:g<=i)(hd:d<=64)(hn:6*(s.length-i)+3<=n):
  Con UY 141 [.p (some (u,0)),I d] h (reQ (JV n d s i g) h u s):=by
 obtain⟨n,rfl⟩: ∃m,n=m+1:=⟨n-1,om⟩;refine Zv UK (fn:=Tryz.f141) (Zo UK ZIq rfl ?_);have b2:s[i]? =some s[i]:=by simp[hi]
 generalize f:JV (n+1) d s i g=R;rw[JV,b2]at f;simp only[]at f;have t: ∀(z:Heap) (j g1:Nat) (e x:Int),RdE z u s j g1 e->FrO h u z->x≠0->R= .error (if e=0 then x else e,j)->
   Con UY 28 [.p (some (u,0)),I x] z λv o=>v= .tup []/\Go.Y.Fin UY Tryz.f141 [4] (AfterZ (reQ R h u s)) .ret 140 [.lb [I 0,U 0,U 0,U 0,U 0, .sl none 0 (some 0) 0,I 0,I 0,I 0]] o:=λz j g1 e x q1 q2 hx hr=>
  (Zfl q1 x).mono λv o ⟨hv,E,G⟩=>⟨hv,finC rr rfl (Zby ⟨Xs,j,g1,_,rfl,E,q2.trans G, .inr ⟨by split<;>assumption,hr⟩⟩)⟩
 have C:Zi8 s[i]=true->R= .error (1,i):=λhc=>by rw[uF hc]at f;exact f.symm
 refine⟨_,r.c0,_,r.c1,s[i],Za1 hi,Zf (λc1=>t h i g 0 1 r (.refl _ _) dc (C (by rw[ZO (d:=42) c1];rfl))) (λc1=>Zf (λc2=>t h i g 0 1 r (.refl _ _) dc (C (by rw[ZO (d:=43) c2];rfl))) (λc2=>Zf (λc3=>t h i g 0 1 r (.refl _ _) dc (C (by rw[ZO (d:=63) c3];rfl))) (λc3=>Zf (λc4=>t h i g 0 1 r (.refl _ _) dc (C (by rw[ZO (d:=123) c4];rfl))) (λc4=> ?_))))⟩;have c1:=ZH (d:=42) c1;have c2:=ZH (d:=43) c2;have c3:=ZH (d:=63) c3;have c4:=ZH (d:=123) c4;rw[uE (by simp[Zi8,c1,c2,c3,c4])]at f;clear C;refine Zf (λX=> ?_) (λX=> ?_)
 ·-- a group
  have X:=ZO (d:=40) X;rw[uF X]at f;refine JT (λb4=> ?_) (λb4=> ?_)
  .rw[uF om]at f;exact t h i g 0 8 r (.refl _ _) dc f.symm
  rw[uE om]at f;obtain⟨z,g1,w,A⟩:=r.s1 (i+1);obtain⟨B,k1,k2,k3⟩:=w.s2 (g+1);refine⟨_,r.c1,z,by rw[Ze om];exact g1,_,w.c2,B,by rw[Ze om];exact k1,_,k2.c2,?_⟩;rw[Ze om];have hc:=(ih n om).alt k2 hs (show i+1<=s.length from om) (show g+1<=i+1 from om) (show d+1<=64 from om) om;have go: ∀(N:Int),N=(if g+1<=9 then((g+1:Nat):Int)else 0)-> ∀(v:V) (o:Heap),reQ (altE n (d+1) s (i+1) (g+1)) B u s v o-> ∃(a6 a1 a3 a0 b1:Int) (cs:List V) (l:Nat) (c:Option Nat) (a4 a5 a7:Int),v= .agg [I a6,U a1,U a3,U a0,U b1, .ts cs l c,I a4,I a5,I a7]/\
    ∃b,RCon UY 68 [.p (some (u,0)), .i .u8 41] o (.b b)/\If (!b)
     (Con UY 28 [.p (some (u,0)),I 1] o λv o=>v= .tup []/\Go.Y.Fin UY Tryz.f141 [4] (AfterZ (reQ R h u s)) .ret 140 [.lb [I 0,U 0,U 0,U 0,U 0, .sl none 0 (some 0) 0,I 0,I 0,I 0]] o)
     (∃b0:Int,Zb o u 1 1=some [I b0]/\ ∃a9,Zi o u 1 [I (wW (b0+1))]=some a9/\Go.Y.Fin UY Tryz.f141 [4] (AfterZ (reQ R h u s)) .ret 140 [.lb [I 7,U 0,U 0,U 0,U 0, .ts [I a6,U a1,U a3,U a0,U b1, .ts cs l c,I a4,I a5,I a7] 1 (some 1),I 0,I 0,I N]] a9):=by
   rintro N hN v o ⟨x,j,gg,e,rfl,E,G,u3⟩;obtain⟨xk,xs,xl,b3,b6,xn⟩:=x;refine⟨_,_,_,_,_,_,_,_,_,_,_,ZJ _ _ _ _ _ _,_,Jv E 41,Zf (λF=> ?_) (λF=> ?_)⟩
   .rcases u3 with ⟨rfl,hr⟩|⟨he,hr⟩
    .have F:s[j]? ≠some 41:=by simpa using F
     rw[hr]at f;simp only[]at f;rw[uE F]at f;exact t o j gg 0 1 E ((A.trans k3).trans G) dc f.symm
    .rw[hr]at f;exact t o j gg e 1 E ((A.trans k3).trans G) dc (by rw[uE he];exact f.symm)
   .rcases u3 with ⟨rfl,hr⟩|⟨he,hr⟩
    .have F:s[j]? =some 41:=by simpa using F
     rw[hr]at f;simp only[]at f;rw[uF F]at f;have hl:=(qb.1 F).1;obtain⟨h4,w1,w2,w3⟩:=E.s1 (j+1);refine⟨_,E.c1,h4,by rw[Ze om];exact w1,finC rr rfl (Wo (D:= []) 7 0 0 N (0,0,0,0) [.mk xk xs xl b3 b6 xn] (Zbx _ _ (Zm _ _ _ _ _ _) _) ⟨_,j+1,gg,0,rfl,w2,(((A.trans k3).trans G).trans w3), .inl ⟨rfl,?_⟩⟩)⟩;rw[<-f,hN]
    .exfalso;have:(e==0)=false:=by simpa using he
     rw[this]at F;simp at F
  refine JT (λh9=>⟨_,k2.c2,?_⟩) (λh9=> ?_)
  .exact hc.mono λv o H=>go _ (by rw[uF om]) v o H
  .exact hc.mono λv o H=>go _ (by rw[uE om]) v o H
 have X:=ZH (d:=40) X;rw[uE X]at f;obtain⟨z,g1,w,A⟩:=r.s1 (i+1);refine⟨_,r.c1,z,by rw[Ze om];exact g1,?_⟩;have k: ∀(B:Heap) (x:Re) (j:Nat),RdE B u s j g 0->FrO h u B->R= .ok (x,j,g)->reQ R h u s (.agg (Zd x)) B:=λB x j q1 q2 hr=>⟨x,j,g,0,rfl,q1,q2, .inl ⟨rfl,hr⟩⟩;refine Zf (λP=> ?_) (λP=> ?_)
 .have P:=ZO (d:=91) P;rw[uF P]at f;refine(Zr6 w hs om).mono λv B H=> ?_
  cases a2:QN s (i+1) with
  |error e=>
   rw[a2]at H f;obtain⟨rfl,E,G⟩:=H;refine⟨_,_,_,_,_,_,_,_,_,_,_,ZJ _ _ _ _ _ _,finC rr rfl (.now ?_)⟩;rw[<-ZJ];exact⟨Xs,e,g,1,rfl,E,A.trans G, .inr ⟨dc,f.symm⟩⟩
  |ok y=>
   obtain⟨x,j⟩:=y;rw[a2]at H f;obtain⟨rfl,E,G⟩:=H;refine⟨_,_,_,_,_,_,_,_,_,_,_,ZJ _ _ _ _ _ _,finC rr rfl (.now ?_)⟩;rw[<-ZJ];exact k B _ j E (A.trans G) f.symm
 have P:=ZH (d:=91) P;rw[uE P]at f;refine Zf (λL=> ?_) (λL=> ?_)
 .have L:=ZO (d:=46) L;rw[uF L]at f;have b5:=ZB0 [] true dc (λx hx=>by cases hx);have a8:PCon UY 103 [.sl none 0 (some 0) 0, .b true] (· = .agg (setC (ZC (ofP [] true)))):=PCon.wk (.one _ _ _ _ (.inr (.inl ⟨_,_,_,rfl,rfl,λx hx=>by cases hx⟩)) (.one _ _ _ _ (.refl _) .nil)) b5;exact⟨_,_,_,_,a8,finC rr rfl (Za2 (ZC (ofP [] true)) (k z _ (i+1) w A f.symm))⟩
 have L:=ZH (d:=46) L;rw[uE L]at f;refine Zf (λK=> ?_) (λK=> ?_)
 .have K:=ZO (d:=94) K;rw[uF K]at f;exact finC rr rfl (Wo (D:= []) 2 0 0 0 (0,0,0,0) [] (Wn _ _ _) (k z _ (i+1) w A f.symm))
 have K:=ZH (d:=94) K;rw[uE K]at f;refine Zf (λW=> ?_) (λW=> ?_)
 .have W:=ZO (d:=36) W;rw[uF W]at f;exact finC rr rfl (Wo (D:= []) 3 0 0 0 (0,0,0,0) [] (Wn _ _ _) (k z _ (i+1) w A f.symm))
 have W:=ZH (d:=36) W;rw[uE W]at f;refine Zf (λO=> ?_) (λO=> ?_)
 .have O:=ZO (d:=92) O;rw[uF O]at f;refine⟨_,w.c1,_,w.c0,JT (λb7=> ?_) (λb8=> ?_)⟩
  .have Z:s[i+1]? =none:=qq om;rw[Z]at f;exact t z (i+1) g 0 1 w A dc f.symm
  .have hl:i+1<s.length:=om;have Z:s[i+1]? =some s[i+1]:=by simp[hl]
   rw[Z]at f;obtain⟨B,k1,k2,k3⟩:=w.s1 (i+2);exact⟨_,w.c0,_,w.c1,s[i+1],Za1 hl,_,w.c1,B,by rw[Ze om];exact k1,_,_,_,_,Zu7 s[i+1],finC rr rfl (Za2 (ZC λx=>x==s[i+1].toNat) (k B _ (i+2) k2 (A.trans k3) f.symm))⟩
 have O:=ZH (d:=92) O;rw[uE O]at f;exact⟨_,_,_,_,Zu7 s[i],finC rr rfl (Za2 (ZC λx=>x==s[i].toNat) (k z _ (i+1) w A f.symm))⟩
end Go.Y
