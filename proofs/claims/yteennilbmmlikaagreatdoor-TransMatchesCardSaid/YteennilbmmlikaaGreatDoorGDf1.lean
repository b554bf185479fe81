/- A part of the proof. -/
import Derived.Test.YteennilbmmlikaaGreatDoorGSpanE
import Derived.Test.YteennilbmmlikaaGreatDoorYAny3
import Derived.Test.YteennilbmmlikaaGreatDoorYLoop
import Derived.Test.YteennilbmmlikaaGreatDoorGTrO
import Derived.Test.YteennilbmmlikaaGreatDoorGN0
import Derived.Test.YteennilbmmlikaaGreatDoorEE3
namespace Go.Y
open Go.Proofs
set_option maxRecDepth 1000000
set_option maxHeartbeats 0
structure Bk(n:Nat)(h0 h:Heap)(id:Nat)(bs:List UInt8):Prop where
 ex: ∃(a s:Option (Nat×Nat)) (m:Nat) (c:Option Nat) (k:Nat),h.get id=some (.arr [.p a, .sl s m c k] true)∧(a=none∨a=some (id,0))∧IsL h 1 s m c k (bs.map WK)∧
  (∀j o,s=some (j,o)->h.tagOf j=some 5∧j≠id∧n<=j)∧(m=0->s=none)
 tag:h.tagOf id=some 182
 lt:id<h.nx
 lo:n<=id
 keep: ∀i,i<n->h.get i=h0.get i
theorem Bk.more{n:Nat}{u h h1:Heap}{t:Nat}{bs}(b:Bk n u h t bs)(D:h.nx<=h1.nx)(f: ∀i,i<h.nx->h1.get i=h.get i)(r: ∀i,i<h.nx->h1.tagOf i=h.tagOf i):Bk n u h1 t bs:=by
 obtain⟨a,s,m,c,k,g,E,v,w,hz⟩:=b.ex;have d:=b.lt;have l:=b.lo;refine⟨⟨a,s,m,c,k,by rw[f _ d];exact g,E,v.fr D (λj _ C=>f j C),λj o e=> ?_,hz⟩,by rw[r _ d];exact b.tag,om,l,λi x=>by rw[f _ om];exact b.keep i x⟩;obtain⟨A,B,z⟩:=w j o e;refine⟨?_,B,z⟩;rcases v.2 with ⟨rfl,_,_⟩|⟨F,rfl,_,_,y,_⟩
 .cases e
 .cases e;rw[r _ y];exact A
theorem ZGf{n:Nat}{A h:Heap}{d:Nat}{bs}(b:Bk n A h d bs):Con UY 162 [.p (some (d,0))] h λv x=>v= .tup []/\Bk n A x d bs/\x.nx=h.nx:=by
 obtain⟨a,s,m,c,k,l,u,F,w,hz⟩:=b.ex;have t:=b.lo;refine Zv UK (fn:=Tryz.f162) (ZE UK (loc:=UY.loc 162) 100 [] ?_);refine Eq.mpr (ZCb d h _) ?_;have y:Zb h d 0 1=some [.p a]:=by simp[Zb,l,Zr]
 have g:(UY.ty 182).isSome=true:=kr;refine⟨a,y,g,Zf (λC=> ?_) (λC=> ?_)⟩
 .have B: ∃(f:Nat) (z:List V) (wr:Bool) (r:TI),some (d,0)=some (f,0)/\h.get f=some (YObj.arr z wr)/\h.tagOf f=some 182/\some (⟨2,32,Kd.struct [(0,180),(1,138)],[.p none, .sl none 0 (some 0) 0]⟩:TI)=some r/\(r.size=0->False)/\r.size<=z.length:=
   ⟨d,_,_,_,rfl,l,b.tag,rfl,sm,sm⟩
  refine⟨B,B,h.set d (some (.arr [.p (some (d,0)), .sl s m c k] true)),by simp[Zi,l,splice],finC (.inl rfl) rfl (.now ⟨rfl,⟨⟨some (d,0),s,m,c,k,sm, .inr rfl,?_,w,hz⟩,b.tag,b.lt,t,λi D=> ?_⟩,rfl⟩)⟩
  .exact F.fr (qnq _) λj E _=>by rw[qc,uE (λe=>(w j 0 E).2.1 e)]
  .rw[qc,uE om];exact b.keep i D
 .have o:a=some (d,0):=by
   rcases u with rfl|u
   .simp at C
   .exact u
  subst o;exact⟨_,y,g,⟨(d,0),rfl,rfl,by simp[l]⟩,finC (.inl rfl) rfl (.now ⟨rfl,b,rfl⟩)⟩
theorem Zst{n:Nat}{B h:Heap}{d:Nat}{bs:List UInt8}(b:Bk n B h d bs)(c:UInt8)(X:bs.length<2 ^ 29):Con UY 126 [.p (some (d,0)), .i .u8 (c.toNat:Nat)] h λv z=>v= .nilifc/\Bk n B z d (bs++ [c])/\h.nx<=z.nx:=by
 refine Zv UK (fn:=Tryz.f126) (ZE UK (loc:=UY.loc 126) 100 [4] ?_);refine Eq.mpr (ZCc d (c.toNat:Nat) h _) ?_;refine(ZGf b).mono λv r ⟨W,f,hnx⟩=>⟨W,?_⟩;obtain⟨a,s,m,D,k,E,K,C,t,hz⟩:=f.ex;have P:=C.1;simp at P;have l:=f.lt;have x:=f.lo;have g:XI UY ⟨[],[],r⟩ te8 138 (.ts [WK c] 1 (some 1))=some (1,[WK c]):=by
  have O:UY.kd 138=some (.slice 5):=kr;simp[XI,O,QT,XQ,te8,Zr]
 obtain⟨y,H,G,u,L,A,F⟩:=ZE8 (cells:=bs.map WK) g om rfl rfl C (λj o e=>(t j o e).1) om;have w:y.get d=some (.arr [.p a, .sl s m D k] true):=by rw[A d l (λo e=>(t d o e).2.1 rfl)];exact E
 refine⟨s,m,D,k,by simp[Zb,E,Zr],_,_,_,_,y,H,y.set d (some (.arr [.p a, .sl (some (r.nx,0)) (m+1) none 1] true)),by simp[Zi,w,splice],finC rr rfl (.now ⟨rfl,⟨⟨a,some (r.nx,0),m+1,none,1,sm,K,⟨by simp;omega, .inr ⟨r.nx,rfl,rfl,rfl,by simp[u],?_⟩⟩,?_,om⟩,?_,?_,x,λi N=> ?_⟩,?_⟩)⟩
 .rw[qc,uE om,G,uV];rfl
 .rintro j o e;cases e;exact⟨by rw[Zb7];exact L,om,om⟩
 .rw[Zb7,F d l];exact f.tag
 .rw[Heap.nx_set,u];omega
 .rw[qc,uE om,A i om (λo e=>by have:=(t i o e).2.2;omega)];exact f.keep i N
 .rw[Heap.nx_set,u];omega
structure Bs(n:Nat)(h0 h:Heap)(id:Nat)(bs:List UInt8):Prop where
 ex: ∃(a s:Option (Nat×Nat)) (m:Nat) (c:Option Nat) (k:Nat),h.get id=some (.arr [.p a, .sl s m c k] true)∧((s=none∧m=0∧bs= [])∨(m≠0∧m=bs.length∧ ∃i2 wr,s=some (i2,0)∧h.get i2=some (.arr (bs.map WK) wr)∧h.tagOf i2=some 5∧n<=i2∧i2≠id))
 lo:n<=id
 keep: ∀i,i<n->h.get i=h0.get i
theorem Bk.bs{n:Nat}{f h}{j:Nat}{bs}(b:Bk n f h j bs):Bs n f h j bs:=by
 obtain⟨a,s,m,c,k,o,v,l,g,hz⟩:=b.ex;refine⟨⟨a,s,m,c,k,o,?_⟩,b.lo,b.keep⟩;rcases l.2 with ⟨rfl,rfl,f⟩|⟨d,rfl,rfl,rfl,u,r⟩
 .exact .inl ⟨rfl,rfl,by simpa using f⟩
 .have t:m≠0:=λe=>by have:=hz e;cases this
  have:=l.1;simp at this;exact .inr ⟨t,this,d,true,rfl,r,(g d 0 rfl).1,(g d 0 rfl).2.2,(g d 0 rfl).2.1⟩
theorem Zl9{n:Nat}{w h:Heap}{d:Nat}{bs:List UInt8}(b:Bs n w h d bs)(D:bs.length<2 ^ 30):Con UY 116 [.p (some (d,0))] h λv o=>v= .s bs/\Bs n w o d bs/\o.nx=h.nx:=by
 obtain⟨a,s,m,c,k,t,y⟩:=b.ex;have f:Zb h d 1 1=some [.sl s m c k]:=by simp[Zb,t,Zr]
 refine Zv UK (fn:=Tryz.f116) (ZE UK (loc:=UY.loc 116) 100 [2] ?_);refine Eq.mpr (ZCa d h _) ?_;have l:most=1099511627776:=dc;rcases y with ⟨rfl,rfl,rfl⟩|⟨u,j,g,wr,rfl,B,x,A,r⟩
 .refine⟨_,_,_,_,f,λ_=>rfl,_,_,_,_,f,[],h,by simp[strH],finC rr rfl (.now ⟨rfl,b,rfl⟩)⟩
 .refine⟨_,_,_,_,f,λe=>absurd e u,_,_,_,_,f,bs,h.set g (some (.arr (bs.map WK) false)),?_,finC rr rfl (.now ⟨rfl,⟨⟨a,some (g,0),m,c,k,?_, .inr ⟨u,j,g,false,rfl,sm,x,A,r⟩⟩,b.lo,λi z=> ?_⟩,rfl⟩)⟩
  .have C:UY.kd 5=some (.int .u8):=kr;have hp:Zep UY 224 5=true:=kr;simp only[strH,B,x,C];rw[uE om,uF ⟨hp,by simp;omega,by simp;omega⟩,WL]
   rfl
  .rw[qc,uE (Ne.symm r)];exact t
  .rw[qc,uE om];exact b.keep i z
theorem ZMb{a c d e f g j l m h}(K):CP UY 82 (pre (flat (Za Tryz.f82))) (.agg [J a c none,J d e none,J f g none,J j l none,.b m]::Rp 58) h [1,2,4,5,6,14] K=(K .normal 59 [.lb [J a c none,J d e none,J f g none,J j l none, .b m], .lb [I 0,I 0,I 0,I 0,I 0,I 0,I 0,I 0,I 0,I 0,I 0,I 0,I 0,I 0,I 0,I 0,I 0,I 0,I 0,I 0,I 0,I 0,I 0,I 0,I 0,I 0,I 0,I 0,I 0,I 0,I 0,I 0,I 0,I 0,I 0,I 0,I 0,I 0,I 0,I 0,I 0,I 0,I 0,I 0,I 0,I 0,I 0,I 0,I 0,I 0,I 0,I 0,I 0,I 0,I 0,I 0,I 0,I 0,I 0,I 0,I 0,I 0,I 0,I 0,I 0,I 0,I 0,I 0,I 0,I 0,I 0,I 0,I 0,I 0,I 0,I 0,I 0,I 0,I 0,I 0,I 0,I 0,I 0,I 0,I 0,I 0,I 0,I 0,I 0,I 0,I 0,I 0,I 0,I 0,I 0,I 0,I 0,I 0,I 0,I 0,I 0,I 0,I 0,I 0,I 0,I 0,I 0,I 0,I 0,I 0,I 0,I 0,I 0,I 0,I 0,I 0,I 0,I 0,I 0,I 0,I 0,I 0,I 0,I 0,I 0,I 0,I 0,I 0,I 0,I 0,I 0,I 0,I 0,I 0,I 0,I 0,I 0,I 0,I 0,I 0,I 0,I 0,I 0,I 0,I 0,I 0,I 0,I 0,I 0,I 0,I 0,I 0,I 0,I 0,I 0,I 0,I 0,I 0,I 0,I 0,I 0,I 0,I 0,I 0,I 0,I 0,I 0,I 0,I 0,I 0,I 0,I 0,I 0,I 0,I 0,I 0,I 0,I 0,I 0,I 0,I 0,I 0,I 0,I 0,I 0,I 0,I 0,I 0,I 0,I 0,I 0,I 0,I 0,I 0,I 0,I 0,I 0,I 0,I 0,I 0,I 0,I 0,I 0,I 0,I 0,I 0,I 0,I 0,I 0,I 0,I 0,I 0,I 0,I 0,I 0,I 0,I 0,I 0,I 0,I 0,I 0,I 0,I 0,I 0,I 0,I 0,I 0,I 0,I 0,I 0,I 0,I 0,I 0,I 0,I 0,I 0,I 0,I 0,I 0,I 0,I 0,I 0,I 0,I 0,I 0,I 0,I 0,I 0,I 0,I 0,I 0,I 0,I 0,I 0,I 0,I 0], .p (some (h.nx,0)),S0,.mp (some (h.nx+(1:Nat))),I 0] ((h.pushT (UY.tag (95:Nat)) (YObj.arr (List.replicate (256:Nat) (I 0)) true)).push (YObj.map []))):=kr
theorem ZMc{c d e f g j l m n o z2 a5 l5 c5 k5 q a h}(K):CP UY 82 (pre (flat (Zx (post (flat (Za Tryz.f82)))))) (MZ 59 [1,2,4,5,6,14] [.lb [J c d none,J e f none,J g j none,J l m none,.b n],.lb z2,.p (some (o,0)),S a5 l5 c5 k5,.mp (some q),I a]) h [1,2,4,5,6,14] K=(If (ltI a 256) (K .normal 59 [.lb [J c d none,J e f none,J g j none,J l m none, .b n], .lb z2, .p (some (o,0)),S a5 l5 c5 k5,.mp (some q),I a] h) (K (.exit 0) 59 [.lb [J c d none,J e f none,J g j none,J l m none, .b n], .lb z2, .p (some (o,0)),S a5 l5 c5 k5,.mp (some q),I a] h)):=kr
theorem ZMd{c a e f g j l m n o z2 a5 l5 c5 k5 q d h}(K):CP UY 82 (pre (flat (ZL (post (flat (Zx (post (flat (Za Tryz.f82))))))))) (MZ 59 [1,2,4,5,6,14] [.lb [J c a none,J e f none,J g j none,J l m none,.b n],.lb z2,.p (some (o,0)),S a5 l5 c5 k5,.mp (some q),I d]) h [1,2,4,5,6,7,8,14,18,19,20] K=(K .normal 59 [.lb [J c a none,J e f none,J g j none,J l m none, .b n], .lb z2, .p (some (o,0)),S a5 l5 c5 k5,.mp (some q),I d, .p (some (h.nx,0)),I d,J c a none,I (a:Int),I 0] (h.pushT (UY.tag (182:Nat)) (YObj.arr [.p none,S none (0:Nat) (some (0:Nat)) (0:Nat)] true))):=kr
theorem ZMe{d a g j l m o q r s z2 a5 l5 c5 k5 u c f e h}(K):CP UY 82 (flat (Zx (post (flat (ZL (post (flat (Zx (post (flat (Za Tryz.f82))))))))))) (MZ 59 [1,2,4,5,6,7,8,14,18,19,20] [.lb [J d a none,J g j none,J l m none,J o q none,.b r],.lb z2,.p (some (s,0)),S a5 l5 c5 k5,.mp (some u),I c,.p (some (f,0)),I c,J d a none,I (a:Int),I e]) h [1,2,4,5,6,7,8,14,18,19,20] K=(If (ltI e a) ((0<=e/\e<a)/\ ∃n t w x,Zr 4 (List.drop (e.toNat*4) d)=some [U n,U t,U w,U x]/\ ∃y,Zi (h.pushT (UY.tag (25:Nat)) (YObj.arr [U 0,U 0,U 0,U 0] true)) h.nx 0 [U n,U t,U w,U x]=some y/\(0:Int)<=(6:Int)/\((0:Int)<=c.fdiv ((2:Int) ^ min (Int.toNat (6:Int)) IntKind.i64.bits)/\c.fdiv ((2:Int) ^ min (Int.toNat (6:Int)) IntKind.i64.bits)<(↑(4:Nat):Int))/\ ∃z,Zb y h.nx ((0:Nat)+(c.fdiv ((2:Int) ^ min (Int.toNat (6:Int)) IntKind.i64.bits)).toNat*1) 1=some [U z]/\(0:Int)<=wW (↑(BitVec.ofInt IntKind.i64.bits c&&&BitVec.ofInt IntKind.i64.bits (63:Int)).toNat:Int)/\Con UY 126 [.p (some (f,0)),.i IntKind.u8 (IntKind.u8.wrap (IntKind.u64.wrap (↑(BitVec.ofInt IntKind.u64.bits (z.fdiv ((2:Int) ^ min (wW (↑(BitVec.ofInt IntKind.i64.bits c&&&BitVec.ofInt IntKind.i64.bits (63:Int)).toNat:Int)).toNat IntKind.u64.bits))&&&BitVec.ofInt IntKind.u64.bits (1:Int)).toNat:Int)))] y fun(v:V) (k:Heap)=>v=V.nilifc/\K .normal 59 [.lb [J d a none,J g j none,J l m none,J o q none, .b r], .lb z2, .p (some (s,0)),S a5 l5 c5 k5,.mp (some u),I c, .p (some (f,0)),I c,J d a none,I (a:Int),I (wW (e+(1:Int)))] k\/ ∃A B,v=V.ifc A B/\K .normal 59 [.lb [J d a none,J g j none,J l m none,J o q none, .b r], .lb z2, .p (some (s,0)),S a5 l5 c5 k5,.mp (some u),I c, .p (some (f,0)),I c,J d a none,I (a:Int),I (wW (e+(1:Int)))] k) (K (.exit 2) 59 [.lb [J d a none,J g j none,J l m none,J o q none, .b r], .lb z2, .p (some (s,0)),S a5 l5 c5 k5,.mp (some u),I c, .p (some (f,0)),I c,J d a none,I (a:Int),I e] h)):=kr
theorem ZMf{g j m o q r t u w e z2 a5 z c5 k5 f d x h}(K):CP UY 82 ((post (flat (ZL (post (flat (Zx (post (flat (Za Tryz.f82))))))))).drop 1) (MZ 59 [1,2,4,5,6,7,8,14] [.lb [J g j none,J m o none,J q r none,J t u none,.b w],.lb z2,.p (some (e,0)),S a5 z c5 k5,.mp (some f),I d,.p (some (x,0)),I d]) h [1,2,4,5,6,14] K=(Con UY 116 [.p (some (x,0))] h fun(v:V) (y:Heap)=> ∃s,v=.s s/\ ∃n b,Ziz UY y 9 3 (some f) (.s s)=some (I n,b)/\If (!b) (Con UY 116 [.p (some (x,0))] y fun(v:V) (y:Heap)=> ∃s,v=.s s/\ ∃h,updM UY y 9 (some f) (.s s) (I (z:Int))=some h/\ ∃a l c k A,Zk UY h 138 138 (S a5 z c5 k5) (J [.i .u8 (IntKind.u8.wrap d)] 1 (some 1))=some (S a l c k,A)/\((0:Int)<=d/\d<(↑(256:Nat):Int))/\ ∃h,Zi A e ((0:Nat)+d.toNat*1) [I (z:Int)]=some h/\K .normal 59 [.lb [J g j none,J m o none,J q r none,J t u none, .b w], .lb z2, .p (some (e,0)),S a l c k,.mp (some f),I d] h) (((0:Int)<=d/\d<(↑(256:Nat):Int))/\ ∃h,Zi y e ((0:Nat)+d.toNat*1) [I n]=some h/\K .normal 59 [.lb [J g j none,J m o none,J q r none,J t u none, .b w], .lb z2, .p (some (e,0)),S a5 z c5 k5,.mp (some f),I d] h)):=kr
theorem ZMg{a c d e f g j l m z2 n o q r s t u h}(K):CP UY 82 ((post (flat (Zx (post (flat (Za Tryz.f82)))))).drop 1) (MZ 59 [1,2,4,5,6,14] [.lb [J a c none,J d e none,J f g none,J j l none,.b q],.lb z2,.p (some (m,0)),S r s t u,.mp (some n),I o]) h [1,2,4,5,6,14] K=(K .normal 59 [.lb [J a c none,J d e none,J f g none,J j l none, .b q], .lb z2, .p (some (m,0)),S r s t u,.mp (some n),I (wW (o+(1:Int)))] h):=kr
theorem ZMh{a z2 a5 l5 c5 k5 h}(K):CP UY 82 ((post (flat (Za Tryz.f82))).drop 1) (MZ 59 [2,4,5] [.lb z2,.p (some (a,0)),S a5 l5 c5 k5]) h [2,3] K=(∃b,Zb h a 0 256=some b/\If (decide ((ev (((mk (59:Nat) ([(2:Nat),(4:Nat),(5:Nat)].zip [.lb z2,.p (some (a,(0:Nat))),S a5 l5 c5 k5])).set (57:Nat) (.agg b)).set (58:Nat) (ev ((mk (59:Nat) ([(2:Nat),(4:Nat),(5:Nat)].zip [.lb z2,.p (some (a,(0:Nat))),S a5 l5 c5 k5])).set (57:Nat) (.agg b)) (Operand.tmp (5:Nat)))) (Operand.tmp (57:Nat))).cells.length=(256:Nat))&&Zp (ev (((mk (59:Nat) ([(2:Nat),(4:Nat),(5:Nat)].zip [.lb z2,.p (some (a,(0:Nat))),S a5 l5 c5 k5])).set (57:Nat) (.agg b)).set (58:Nat) (ev ((mk (59:Nat) ([(2:Nat),(4:Nat),(5:Nat)].zip [.lb z2,.p (some (a,(0:Nat))),S a5 l5 c5 k5])).set (57:Nat) (.agg b)) (Operand.tmp (5:Nat)))) (Operand.tmp (57:Nat))).cells&&decide ((0:Nat)+(ev (((mk (59:Nat) ([(2:Nat),(4:Nat),(5:Nat)].zip [.lb z2,.p (some (a,(0:Nat))),S a5 l5 c5 k5])).set (57:Nat) (.agg b)).set (58:Nat) (ev ((mk (59:Nat) ([(2:Nat),(4:Nat),(5:Nat)].zip [.lb z2,.p (some (a,(0:Nat))),S a5 l5 c5 k5])).set (57:Nat) (.agg b)) (Operand.tmp (5:Nat)))) (Operand.tmp (57:Nat))).cells.length<=z2.length)) (K .ret 59 [.lb (splice z2 (0:Nat) (ev (((mk (59:Nat) ([(2:Nat),(4:Nat),(5:Nat)].zip [.lb z2, .p (some (a,(0:Nat))),S a5 l5 c5 k5])).set (57:Nat) (.agg b)).set (58:Nat) (ev ((mk (59:Nat) ([(2:Nat),(4:Nat),(5:Nat)].zip [.lb z2, .p (some (a,(0:Nat))),S a5 l5 c5 k5])).set (57:Nat) (.agg b)) (Operand.tmp (5:Nat)))) (Operand.tmp (57:Nat))).cells),S a5 l5 c5 k5] h) False):=kr
abbrev encU(c:Nat):List V:= [.i .u8 (c:Nat)]
theorem Zek(x:Nat):(encU x).length=1:=rfl
def Zf9(a:List Set4):V:= .tup [.agg (clsC (srtS a 256).1),lst encU (srtS a 256).2]
theorem Zqz(a:List Set4)(c:Nat):(keyN a c).length=a.length:=qC _
theorem Zxa(a:List Set4)(c:Nat){j:Nat}(h:j<a.length):keyN (a.take (j+1)) c=keyN (a.take j) c++ [if hasN a[j] c then 1 else 0]:=by
 unfold keyN;rw[qa h,uV];rfl
theorem bitU(x)(c:Nat):IntKind.u8.wrap (((Zgu x (c / 64)).fdiv ((2:Int) ^ (c % 64))) % 2)=(((if hasN x c then 1 else 0:UInt8).toNat:Nat):Int):=by
 unfold hasN;generalize (Zgu x (c / 64)).fdiv ((2:Int) ^ (c % 64))=y;have:y % 2=0\/y % 2=1:=om;rcases this with e|e<;>rw[e]<;>rfl
theorem ZR4{h:Heap}{f:Nat}{a:List Set4}{le}(m:h.get f=some (.map (esM a le)))(k:List UInt8):
  Ziz UY h 9 3 (some f) (.s k)=match le.findIdx? λd=>k==keyN a d with|some i=>some (I (i:Nat),true)|none=>some (I 0,false):=by
 have n:UY.kd 9=some .str:=kr;have hp:QF UY 9=true:=kr;have l:(UY.ty 3).isSome=true:=kr;have hz:Zm2 UY 3= I 0:=kr;have o:Zbg h (some f)=some (esM a le):=by simp[Zbg,m]
 have g:=Zw5 a k le 0;have j:=Zjo a k le 0;unfold Ziz;rw[n,o];simp only[hp,l,uT,Bool.and_true];have c:Xa .str (.s k) (esM a le)=true:=j;have e:XT .str (.s k) (esM a le)=(le.findIdx? λd=>k==keyN a d).map λi=>I ((i+0:Nat):Int):=g;rw[uF c,e]
 cases le.findIdx? λd=>k==keyN a d with
 |none=>simp[hz]
 |some i=>rfl
theorem updE{h:Heap}{g:Nat}{a:List Set4}{le:List Nat}(j:h.get g=some (.map (esM a le)))(c:Nat)(l:(le.findIdx? λd=>keyN a c==keyN a d)=none):
  updM UY h 9 (some g) (.s (keyN a c)) (I (le.length:Nat))=some (h.set g (some (.map (esM a (le++ [c]))))):=by
 have k:UY.kd 9=some .str:=kr;have hp:QF UY 9=true:=kr;have e:Xa .str (.s (keyN a c)) (esM a le)=true:=Zjo a _ le 0;have f:XT .str (.s (keyN a c)) (esM a le)=none:=by
  have:=Zw5 a (keyN a c) le 0;rw[l]at this;exact this
 unfold updM;simp only[k,j,hp,uT];rw[uF e,ZCw _ _ _ f,ZAp]
theorem ZR5{h}{a}{l:Nat}{c}{k:Nat}{d:List Nat}(x:Nat)(r:Lst encU 1 h a l c k d)(t:d.length<2 ^ 29):
  ∃f m o n g,Zk UY h 138 138 (.sl a l c k) (.ts [.i .u8 (x:Nat)] 1 (some 1))=some (.sl f m o n,g)/\Lst encU 1 g f m o n (d++ [x])/\Fr h a g/\ ∃j,f=some (j,0)/\h.nx<=j:=
 Lst.app1 (Y:=UY) (e:=5) (te:=⟨1,1, .int .u8,[.i .u8 0]⟩) x kr kr rfl dc r (.cons _ _ _ _ (.i _ _) .nil) rfl rfl rfl dc t
structure SrI(sets:List Set4)(i id4 id6:Nat)(a:Option (Nat×Nat))(l:Nat)(c:Option Nat)(k:Nat)(h:Heap):Prop where
 cls:h.get id4=some (.arr (clsC (srtS sets i).1) true)
 mp:h.get id6=some (.map (esM sets (srtS sets i).2))
 le:Lst encU 1 h a l c k (srtS sets i).2
 ap: ∀j o,a=some (j,o)->j≠id4∧j≠id6
 l4:id4<h.nx
 l6:id6<h.nx
 ne:id4≠id6
theorem SrI.same{d:List Set4}{i f e:Nat}{a}{l:Nat}{c}{k:Nat}{h g:Heap}(s:SrI d i f e a l c k h)(n:h.nx<=g.nx)(m: ∀j,j<h.nx->g.get j=h.get j):SrI d i f e a l c k g:=
 ⟨by rw[m _ s.l4];exact s.cls,by rw[m _ s.l6];exact s.mp,s.le.fr n (λj _ o=>m j o),s.ap,qv s.l4 n,qv s.l6 n,s.ne⟩
theorem ZMi{c:Nat}(h:c<256):IntKind.u8.wrap (c:Int)=(c:Nat):=by
 unfold IntKind.wrap;have e:(2:Int) ^ IntKind.u8.bits=256:=dc;simp only[e,IntKind.signed,Bool.false_and];simp only[uI,vF];omega
theorem allI: ∀l:List Nat,Zp (l.map λk=>I (k:Nat))=true
 | []=>rfl
 |k::l=>by simp only[qz,Zp,allI l,Bool.and_true];rfl
theorem frzN(h): ∀l:List Nat,FrzL h (l.map λk=>I (k:Nat)) (l.map λk=>I (k:Nat))
 | []=> .nil
 |k::l=> .cons _ _ _ _ (.i _ _) (frzN h l)
theorem Qy{a:Type}(l new:List a):splice l 0 new=new++l.drop new.length:=by cases l<;>rfl
theorem ZAq(a:List Set4)(t:Option TypeId):SrI a 0 Heap.empty.nx (Heap.empty.nx+1) none 0 (some 0) 0 ((Heap.empty.pushT t (.arr (List.replicate 256 (I 0)) true)).push (.map [])):=by
 refine⟨?_,?_,Lst.nil _ _ _ _ _,(λj o e=>by cases e),?_,?_,sm⟩
 .rw[qk,uE sm,qj,uF rfl]
  rfl
 .rw[qk,uF sm];rfl
 .simp;omega
 .simp
theorem ZGg{f:List Set4}{i g m:Nat}{a}{l:Nat}{c}{k:Nat}{h}(w:i<256)(s:SrI f i g m a l c k h){j:Nat}(r:((srtS f i).2.findIdx? λd=>keyN f i==keyN f d)=some j):
  ∃o,Zi h g (0+(i:Int).toNat*1) [I j]=some o/\SrI f (i+1) g m a l c k o:=by
 have u:=(WO f i).1;have e:srtS f (i+1)=((srtS f i).1++ [j],(srtS f i).2):=by rw[srtS];simp only[r]
 refine⟨h.set g (some (.arr (clsC ((srtS f i).1++ [j])) true)),?_,?_⟩
 .simp only[Zi,s.cls];have t:0+(i:Int).toNat*1=(srtS f i).1.length:=by rw[u,qdq];omega
  rw[uF (by rw[Zjp _ om];simp;omega),t,Zqy _ _ om]
 .refine⟨by rw[qc,uF rfl,e],by rw[qc,uE (Ne.symm s.ne),e];exact s.mp,by rw[e];exact s.le.fr (qnq _) (λv n _=>by rw[qc,uE (s.ap v 0 n).1]),s.ap,s.l4,s.l6,s.ne⟩
theorem ZGh{f:List Set4}{i m g:Nat}{a}{l:Nat}{c}{k:Nat}{h}(Z:i<256)(s:SrI f i m g a l c k h)(y:((srtS f i).2.findIdx? λd=>keyN f i==keyN f d)=none):
  ∃C,updM UY h 9 (some g) (.s (keyN f i)) (I l)=some C/\ ∃v u x w r,Zk UY C 138 138 (.sl a l c k) (.ts [.i .u8 (i:Nat)] 1 (some 1))=some (.sl v u x w,r)/\
  ∃B,Zi r m (0+(i:Int).toNat*1) [I l]=some B/\SrI f (i+1) m g v u x w B:=by
 have G:=(WO f i).1;have P:=(WO f i).2;have e:srtS f (i+1)=((srtS f i).1++ [(srtS f i).2.length],(srtS f i).2++ [i]):=by rw[srtS];simp only[y]
 have t:=s.le.len;subst t;refine⟨_,updE s.mp i y,?_⟩;have A:Lst encU 1 (h.set g (some (.map (esM f ((srtS f i).2++ [i]))))) a (srtS f i).2.length c k (srtS f i).2:=s.le.fr (qnq _) (λj y _=>by rw[qc,uE (s.ap j 0 y).2]);obtain⟨v,u,x,w,r,E,D,z,j,L,H⟩:=ZR5 i A om;have O:r.get m=some (.arr (clsC (srtS f i).1) true):=by
  rw[z.2 m s.l4 (λo e=>(s.ap _ _ e).1 rfl),qc,uE s.ne];exact s.cls
 have N:r.get g=some (.map (esM f ((srtS f i).2++ [i]))):=by
  rw[z.2 g s.l6 (λo e=>(s.ap _ _ e).2 rfl),qc,uF rfl]
 have W:=z.1;rw[Heap.nx_set]at W H;have l4:=s.l4;have X:=s.l6;refine⟨v,u,x,w,r,E,r.set m (some (.arr (clsC ((srtS f i).1++ [(srtS f i).2.length])) true)),?_,?_⟩
 .simp only[Zi,O];have F:0+(i:Int).toNat*1=(srtS f i).1.length:=by rw[G,qdq];omega
  rw[uF (by rw[Zjp _ om];simp;omega),F,Zqy _ _ om]
 .subst L;refine⟨by rw[qc,uF rfl,e],by rw[qc,uE (Ne.symm s.ne),e];exact N,by rw[e];exact D.fr (qnq _) (λK n _=>by cases n;rw[qc,uE om]),λK o n=>by cases n;omega,by rw[Heap.nx_set];omega,by rw[Heap.nx_set];omega,s.ne⟩
theorem Zsu(a:Au)(hs:a.sets.length<=300):PCon UY 82 [.agg (auC a)] (· =Zf9 a.sets):=by
 refine ZG UK (fn:=Tryz.f82) rfl ?_;refine Zh UK 59 ZMb rfl ?_;refine⟨rfl,ZN [1,2,4,5,6,14] [1,2,4,5,6,14] (λm L h=> ∃(i f c:Nat) (z:List V) (q:Option (Nat×Nat)) (n:Nat) (l:Option Nat) (g:Nat),L= [.lb (auC a), .lb z, .p (some (f,0)), .sl q n l g, .mp (some c),I (i:Nat)]/\z.length=256/\i<=256/\m=256-i/\SrI a.sets i f c q n l g h) 256 ZA ⟨0,_,_,_,_,_,_,_,rfl,rfl,om,om,ZAq _ _⟩ ?_⟩;rintro m L h ⟨i,f,c,z,q,n,l,g,rfl,hz,hi,rfl,P⟩;refine Zh UK 59 ZMc rfl ?_;refine Zq (b:=256) (λB=>⟨rfl,QZ (n:=59) [1,2,4,5,6,14] kr ?_⟩) (λa3=> ?_)
 .refine Zh UK 59 ZMd rfl ?_;have N:UY.tag 182=some 182:=kr;have b0:Bk h.nx h (h.pushT (UY.tag 182) (.arr [.p none, .sl none 0 (some 0) 0] true)) h.nx []:=by
   refine⟨⟨none,none,0,some 0,0,by rw[qj,uF rfl], .inl rfl,IsL.nil _ _ _ _,(λj o e=>by cases e),λ_=>rfl⟩,?_,sm,qnq _,λj hj=>by rw[qj,uE om]⟩;rw[N];show((h.push _).tagIf h.nx (some 182)).tagOf h.nx=some 182;rw[QE];simp
  refine⟨rfl,ZN [1,2,4,5,6,7,8,14,18,19,20] [1,2,4,5,6,7,8,14,18,19,20] (λm L h'=> ∃j:Nat,L= [.lb (auC a), .lb z, .p (some (f,0)), .sl q n l g, .mp (some c),I (i:Nat), .p (some (h.nx,0)),I (i:Nat),lst setC a.sets,I (a.sets.length:Nat),I (j:Nat)]/\j<=a.sets.length/\m=a.sets.length-j/\Bk h.nx h h' h.nx (keyN (a.sets.take j) i)) a.sets.length ZA ⟨0,rfl,om,om,b0⟩ ?_⟩;rintro m2 a8 h2 ⟨j,rfl,hj,rfl,X⟩;refine Zn UK ZMe rfl ?_;refine Zq (λw=> ?_) (λa7=> ?_)
  .have O:Zr 4 (List.drop (((j:Nat):Int).toNat*4) (row setC a.sets))=some (setC a.sets[j]):=by rw[qdq];exact getS a.sets w
   refine⟨Zu w,_,_,_,_,O,?_⟩;have D:UY.tag 25=none:=kr;rw[D];have a6:((h2.pushT none (YObj.arr [U 0,U 0,U 0,U 0] true))).get h2.nx=some (YObj.arr [U 0,U 0,U 0,U 0] true):=by rw[qj,uF rfl]
   refine⟨_,by simp only[Zi,a6];rfl,om,?_⟩;rw[Zzt,Zzu B];refine⟨⟨om,om⟩,Zgu a.sets[j] (i / 64),?_,om,?_⟩
   .rw[Zs (h:=Heap.set _ _ _) (cs:=setC a.sets[j]) (wr:=true) (by rw[qc,uF rfl];rfl)];have:i / 64=0\/i / 64=1\/i / 64=2\/i / 64=3:=om;rcases this with e|e|e|e<;>rw[e]<;>rfl
   have e4:min (((i % 64:Nat):Int)).toNat IntKind.u64.bits=i % 64:=by
    have:IntKind.u64.bits=64:=rfl;rw[this,qdq];omega
   rw[e4,ZEg,bitU];have a4:=X.more (h1:=(h2.pushT none (YObj.arr [U 0,U 0,U 0,U 0] true)).set h2.nx (some (.arr (setC a.sets[j]) true))) sm (λi hi=>by rw[qc,uE om,qj,uE om]) (λi hi=>rfl);refine(Zst a4 _ (by rw[Zqz,uO];omega)).mono λv h3 ⟨F,a1,_⟩=> .inl ⟨F,rfl,a.sets.length-(j+1),om,j+1,by rw[Ze om];rfl,om,rfl,?_⟩;rw[Zxa _ _ w];exact a1
  .have he:j=a.sets.length:=om;subst he;rw[qm]at X;refine Zj [1,2,4,5,6,7,8,14] ?_;refine Zn UK ZMf rfl ?_;have W:(keyN a.sets i).length<2 ^ 30:=by rw[Zqz];omega
   refine(Zl9 X.bs W).mono λv h3 ⟨F,b3,n3⟩=>⟨_,F,?_⟩;have a0:SrI a.sets i f c q n l g h3:=P.same (by have:=X.lt;omega) b3.keep;have x: ∀q n l g E,SrI a.sets (i+1) f c q n l g E->Zdx UY 59 [1,2,4,5,6,14] (JU (post (flat (Zx (post (flat (Za Tryz.f82))))))) ((post (flat (Zx (post (flat (Za Tryz.f82)))))).drop 1) (VQ [1,2,4,5,6,14] (XE UY 59 [1,2,4,5,6,14] [1,2,4,5,6,14] (λm L h=> ∃(i f c:Nat) (z:List V) (q:Option (Nat×Nat)) (n:Nat) (l:Option Nat) (g:Nat),L= [.lb (auC a), .lb z, .p (some (f,0)), .sl q n l g, .mp (some c),I (i:Nat)]/\z.length=256/\i<=256/\m=256-i/\SrI a.sets i f c q n l g h) (256-i) (Xd (post (flat (Za Tryz.f82)))) ((post (flat (Za Tryz.f82))).drop 1) (FinS UY Tryz.f82 (λv h=> ∃r,Frz h v r/\r=Zf9 a.sets)))) .normal 59 [.lb (auC a), .lb z, .p (some (f,0)), .sl q n l g, .mp (some c),I (i:Nat)] E:=by
    intro q n l g E G;refine⟨rfl,[1,2,4,5,6,14],rfl,?_⟩;refine Zn UK ZMg rfl ?_;exact⟨rfl,256-(i+1),om,i+1,f,c,z,q,n,l,g,by rw[Ze om];rfl,hz,om,rfl,G⟩
   rw[ZR4 a0.mp]
   cases hf:(srtS a.sets i).2.findIdx? λd=>keyN a.sets i==keyN a.sets d with
   |some jj=>
    obtain⟨E,p1,p2⟩:=ZGg B a0 hf;exact⟨_,_,rfl,ifF rfl ⟨⟨om,om⟩,E,p1,x _ _ _ _ _ p2⟩⟩
   |none=>
    refine⟨_,_,rfl,ifT rfl ((Zl9 b3 W).mono λv E ⟨F,b4,n4⟩=>⟨_,F,?_⟩)⟩;have G:SrI a.sets i f c q n l g E:=P.same (by have:=X.lt;omega) b4.keep;obtain⟨h5,p1,a',l',c',k',h6,p2,h7,p3,p4⟩:=ZGh B G hf;rw[ZMi B];exact⟨h5,p1,_,_,_,_,h6,p2,⟨om,om⟩,h7,p3,x _ _ _ _ _ p4⟩
 .have he:i=256:=om;subst he;have hl:=(WO a.sets 256).1;have u:=P.cls;have A:=P.le;have K:Zf9 a.sets= .tup [.agg (clsC (srtS a.sets 256).1),lst encU (srtS a.sets 256).2]:=rfl;clear P a3;revert K hl u A;generalize Zf9 a.sets=R;generalize srtS a.sets 256=p;obtain⟨H,le⟩:=p;intro hl u A K;simp only[]at hl u A K;refine ZU rfl (Zj [2,4,5] ?_);refine Zo UK ZMh rfl ?_;have a2:clsC H=H.map (λk=>I (k:Nat)):=by unfold clsC;rw[hl];simp
  have t:=Zjp H om;rw[a2]at t u K;have C:=allI H;have Z:=frzN h H;generalize H.map (λk=>I (k:Nat))=y at t u C Z K;refine⟨y,(by rw[Zs u,ql];exact ZD t.symm),ifT ?_ ?_⟩
  .simp only[qrq,vJ];exact⟨⟨t,C⟩,by show 0+y.length<=z.length;omega⟩
  .have a5:splice z 0 y=y:=by
    rw[Qy,t,qB om,qi]
   refine Zk2 (v1:= .agg y) (.inr rfl) ?_ (.agg _ _ Z) (A.frz dc Zek) K.symm;show resV UY Tryz.f82 ([2,3].zip [.lb (splice z 0 y), .sl q n l g])=_;rw[a5];have hr:Tryz.f82.results.toList= [.cell 2 95, .tmp 3]:=kr;have ht:UY.ty 95=some (TI.mk 256 2048 (.arr 256 3) (List.replicate 256 (I 0))):=kr;have F:Zdv UY ([2,3].zip [V.lb y,V.sl q n l g]) (.cell 2 95)=some (.agg y):=by
    simp only[Zdv,ht];show(Zr 256 y).bind _=_;rw[ZD t.symm];rfl
   have e2:Zdv UY ([2,3].zip [V.lb y,V.sl q n l g]) (.tmp 3)=some (.sl q n l g):=rfl;unfold resV;rw[hr,Zdw,Zdw,Zdw,F,e2]
theorem ZMj{a d e f g j m n o x1 h}(K):CP Tryd.Y 38 (pre (flat (Za Tryz.f38))) (.agg [J a d none,J e f none,J g j none,J m n none,.b o]::I x1::Rp 106) h [1,2,4,5,7,8,9,10] K=(∃c,(PCon Tryd.Y 26 [.agg [J a d none,J e f none,J g j none,J m n none,.b o]] λv=>v=.b c)/\If (!c) (K .ret 108 [I x1, .lb [J a d none,J e f none,J g j none,J m n none, .b o], .lb zDfa,I 5,Ud,Ud,Ud,Ud] h) (∃i l q r,(PCon Tryd.Y 82 [.agg [J a d none,J e f none,J g j none,J m n none,.b o]] λv=>v=.tup [.agg i,J l q r])/\If (decide (i.length=(256:Nat))&&Zp i) (∃s,Zi (h.pushT (Tryd.Y.tag (95:Nat)) (YObj.arr (List.replicate (256:Nat) (I 0)) true)) h.nx 0 i=some s/\ ∃t,Zb s h.nx 0 256=some t/\ ∃u,Zug Tryd.Y 98 0 256 t=some u/\If (decide (u.length=(258:Nat))&&Zp u) (∃w,Zi (s.pushT (Tryd.Y.tag (98:Nat)) (YObj.arr zDfa true)) s.nx 0 u=some w/\K .normal 108 [I ((fun(x y:Int)=>if y<x then y else x) ((fun(x y:Int)=>if y>x then y else x) x1 (1:Int)) (300:Int)), .lb [J a d none,J e f none,J g j none,J m n none, .b o], .lb zDfa,I 0,J l q r, .p (some (s.nx,0)),S (some (w.nx,0)) 1 (some 1) 1,I 0] (w.push (YObj.arr [S0] true))) False) False)):=kr
theorem ZMk{c d e f g j l m n o n7 q r l9 c9 m1 a h}(K):CP Tryd.Y 38 (pre (flat (Zx (post (flat (Za Tryz.f38)))))) (MZ 108 [1,2,4,7,8,9,10] [I m1,.lb [J c d none,J e f none,J g j none,J l m none,.b n],.lb zDfa,J o n7 none,.p (some (q,0)),S (some (r,0)) l9 c9 1,I a]) h [1,2,4,7,8,9,10] K=(If (ltI a l9) (K .normal 108 [I m1, .lb [J c d none,J e f none,J g j none,J l m none, .b n], .lb zDfa,J o n7 none, .p (some (q,0)),S (some (r,0)) l9 c9 1,I a] h) (K (.exit 0) 108 [I m1, .lb [J c d none,J e f none,J g j none,J l m none, .b n], .lb zDfa,J o n7 none, .p (some (q,0)),S (some (r,0)) l9 c9 1,I a] h)):=kr
theorem ZMl{c d e f g j l m n a k o q l9 c9 m1 r h}(K):CP Tryd.Y 38 (pre (flat (ZL (post (flat (Zx (post (flat (Za Tryz.f38))))))))) (MZ 108 [1,2,4,7,8,9,10] [I m1,.lb [J c d none,J e f none,J g j none,J l m none,.b n],.lb zDfa,J a k none,.p (some (o,0)),S (some (q,0)) l9 c9 1,I r]) h [1,2,4,7,8,9,10,11,37,38,39] K=(K .normal 108 [I m1, .lb [J c d none,J e f none,J g j none,J l m none, .b n], .lb zDfa,J a k none, .p (some (o,0)),S (some (q,0)) l9 c9 1,I r,S0,J a k none,I (k:Int),I 0] h):=kr
theorem ZMm{j m o q r s t u w d D y g E c9 m1 e z A B C f h}(K):CP Tryd.Y 38 (flat (Zx (post (flat (ZL (post (flat (Zx (post (flat (Za Tryz.f38))))))))))) (MZ 108 [1,2,4,7,8,9,10,11,37,38,39] [I m1,.lb [J j m none,J o q none,J r s none,J t u none,.b w],.lb zDfa,J d D none,.p (some (y,0)),S (some (g,0)) E c9 1,I e,S z A B C,J d D none,I (D:Int),I f]) h [1,2,4,5,7,8,9,10,11,37,38,39] K=(If (ltI f D) ((0<=f/\f<D)/\ ∃n,Zr 1 (List.drop (f.toNat*1) d)=some [.i .u8 n]/\ ∃L l c,(PCon Tryd.Y 83 [.agg [J j m none,J o q none,J r s none,J t u none,.b w],.i .u8 n] λv=>v=J L l c)/\ ∃W,Zi (h.pushT (Tryd.Y.tag (32:Nat)) (YObj.arr [S none (0:Nat) (some (0:Nat)) (0:Nat)] true)) h.nx 0 [J L l c]=some W/\If (ltI 0 e) ((0<=e/\e<E)/\1=1/\ ∃L l c,Zb W g ((0:Nat)+e.toNat*1) 1=some [J L l c]/\ ∃X G O,(PCon Tryd.Y 84 [.agg [J j m none,J o q none,J r s none,J t u none,.b w],J L l c,.i .u8 n] λv=>v=J X G O)/\ ∃H,Zi W h.nx 0 [J X G O]=some H/\1=1/\((0:Int)<=(1:Int)/\(1:Int)<=(E:Int))/\Con Tryd.Y 85 [S (some (g,1)) (E-Int.toNat (1:Int)) (Option.map (fun(x:Nat)=>x-Int.toNat (1:Int)) c9) 1,V.fn (Fn.func (86:Nat)) [] [.p (some (h.nx,0))]] H fun(v:V) (P:Heap)=> ∃n,v=I n/\If (wW ((1:Int)+n)==(0:Int)) (If (leI m1 E) (K .ret 108 [I m1, .lb [J j m none,J o q none,J r s none,J t u none, .b w], .lb zDfa,I 9,J d D none, .p (some (y,0)),S (some (g,0)) E c9 1,I e,S z A B C,J d D none,I (D:Int),I f] P) (∃L l c,Zb P h.nx 0 1=some [J L l c]/\ ∃a Z a1 k h,Zk Tryd.Y P 33 33 (S (some (g,0)) E c9 1) (J [J L l c] 1 (some 1))=some (S a Z a1 k,h)/\ ∃F l c N a0,Zk Tryd.Y h 32 32 (S z A B C) (J [I (E:Int)] 1 (some 1))=some (S F l c N,a0)/\K .normal 108 [I m1, .lb [J j m none,J o q none,J r s none,J t u none, .b w], .lb zDfa,Ud,J d D none, .p (some (y,0)),S a Z a1 k,I e,S F l c N,J d D none,I (D:Int),I (wW (f+(1:Int)))] a0)) (∃a l c k h,Zk Tryd.Y P 32 32 (S z A B C) (J [I (wW ((1:Int)+n))] 1 (some 1))=some (S a l c k,h)/\K .normal 108 [I m1, .lb [J j m none,J o q none,J r s none,J t u none, .b w], .lb zDfa,Ud,J d D none, .p (some (y,0)),S (some (g,0)) E c9 1,I e,S a l c k,J d D none,I (D:Int),I (wW (f+(1:Int)))] h)) (1=1/\((0:Int)<=(1:Int)/\(1:Int)<=(E:Int))/\Con Tryd.Y 85 [S (some (g,1)) (E-Int.toNat (1:Int)) (Option.map (fun(x:Nat)=>x-Int.toNat (1:Int)) c9) 1,V.fn (Fn.func (86:Nat)) [] [.p (some (h.nx,0))]] W fun(v:V) (P:Heap)=> ∃n,v=I n/\If (wW ((1:Int)+n)==(0:Int)) (If (leI m1 E) (K .ret 108 [I m1, .lb [J j m none,J o q none,J r s none,J t u none, .b w], .lb zDfa,I 9,J d D none, .p (some (y,0)),S (some (g,0)) E c9 1,I e,S z A B C,J d D none,I (D:Int),I f] P) (∃L l c,Zb P h.nx 0 1=some [J L l c]/\ ∃a G O k h,Zk Tryd.Y P 33 33 (S (some (g,0)) E c9 1) (J [J L l c] 1 (some 1))=some (S a G O k,h)/\ ∃F l c N H,Zk Tryd.Y h 32 32 (S z A B C) (J [I (E:Int)] 1 (some 1))=some (S F l c N,H)/\K .normal 108 [I m1, .lb [J j m none,J o q none,J r s none,J t u none, .b w], .lb zDfa,Ud,J d D none, .p (some (y,0)),S a G O k,I e,S F l c N,J d D none,I (D:Int),I (wW (f+(1:Int)))] H)) (∃a l c k h,Zk Tryd.Y P 32 32 (S z A B C) (J [I (wW ((1:Int)+n))] 1 (some 1))=some (S a l c k,h)/\K .normal 108 [I m1, .lb [J j m none,J o q none,J r s none,J t u none, .b w], .lb zDfa,Ud,J d D none, .p (some (y,0)),S (some (g,0)) E c9 1,I e,S a l c k,J d D none,I (D:Int),I (wW (f+(1:Int)))] h))) (K (.exit 2) 108 [I m1, .lb [J j m none,J o q none,J r s none,J t u none, .b w], .lb zDfa,Ud,J d D none, .p (some (y,0)),S (some (g,0)) E c9 1,I e,S z A B C,J d D none,I (D:Int),I f] h)):=kr
theorem ZMn{g j m n o q r s f u n7 e t l9 c9 m1 d w x y z h}(K):CP Tryd.Y 38 ((post (flat (ZL (post (flat (Zx (post (flat (Za Tryz.f38))))))))).drop 1) (MZ 108 [1,2,4,7,8,9,10,11] [I m1,.lb [J g j none,J m n none,J o q none,J r s none,.b f],.lb zDfa,J u n7 none,.p (some (e,0)),S (some (t,0)) l9 c9 1,I d,S w x y z]) h [1,2,4,7,8,9,10] K=(∃a c i l,Zb h e 256 1=some [S a c i l]/\ ∃W a1 a2 a3 a4,Zk Tryd.Y (h.push (YObj.arr [S w x y z] true)) 33 33 (S a c i l) (S (some (h.nx,0)) 1 (some 1) 1)=some (S W a1 a2 a3,a4)/\ ∃F,Zi a4 e 256 [S W a1 a2 a3]=some F/\ ∃N G H L,(λP0=>Zb F e 257 1=some [S N G H L]/\If (d==(0:Int)) (If f (∃B E D A k,Zk Tryd.Y F 96 96 (S N G H L) (J [.b true] 1 (some 1))=some (S B E D A,k)/\ ∃C,Zi k e 257 [S B E D A]=some C/\K .normal 108 [I m1, .lb [J g j none,J m n none,J o q none,J r s none, .b f], .lb zDfa,J u n7 none, .p (some (e,0)),S (some (t,0)) l9 c9 1,I d] C) P0) P0) (If (ltI 0 d) ((0<=d/\d<l9)/\1=1/\ ∃B E D,Zb F t ((0:Nat)+d.toNat*1) 1=some [J B E D]/\ ∃A,(PCon Tryd.Y 88 [.agg [J g j none,J m n none,J o q none,J r s none,.b f],J B E D] λv=>v=.b A)/\ ∃k C O P Z,Zk Tryd.Y F 96 96 (S N G H L) (J [.b A] 1 (some 1))=some (S k C O P,Z)/\ ∃X,Zi Z e 257 [S k C O P]=some X/\K .normal 108 [I m1, .lb [J g j none,J m n none,J o q none,J r s none, .b f], .lb zDfa,J u n7 none, .p (some (e,0)),S (some (t,0)) l9 c9 1,I d] X) (∃B E D A k,Zk Tryd.Y F 96 96 (S N G H L) (J [.b false] 1 (some 1))=some (S B E D A,k)/\ ∃C,Zi k e 257 [S B E D A]=some C/\K .normal 108 [I m1, .lb [J g j none,J m n none,J o q none,J r s none, .b f], .lb zDfa,J u n7 none, .p (some (e,0)),S (some (t,0)) l9 c9 1,I d] C))):=kr
theorem ZMo{a c d e f g j l m n7 n o l9 c9 m1 q r h}(K):CP Tryd.Y 38 ((post (flat (Zx (post (flat (Za Tryz.f38)))))).drop 1) (MZ 108 [1,2,4,7,8,9,10] [I m1,.lb [J a c none,J d e none,J f g none,J j l none,.b r],.lb zDfa,J m n7 none,.p (some (n,0)),S (some (o,0)) l9 c9 1,I q]) h [1,2,4,7,8,9,10] K=(K .normal 108 [I m1, .lb [J a c none,J d e none,J f g none,J j l none, .b r], .lb zDfa,J m n7 none, .p (some (n,0)),S (some (o,0)) l9 c9 1,I (wW (q+(1:Int)))] h):=kr
theorem ZMp{a h}(K):CP Tryd.Y 38 ((post (flat (Za Tryz.f38))).drop 1) (MZ 108 [4,8] [.lb zDfa,.p (some (a,0))]) h [4,5] K=(∃b,Zb h a 0 258=some b/\If (decide (b.length=(258:Nat))&&Zp b&&decide ((0:Nat)+b.length<=zDfa.length)) (K .ret 108 [.lb (splice zDfa (0:Nat) b),I 0] h) False):=kr
end Go.Y
