/- A part of the proof. -/
import Derived.Test.YteennilbmmlikaaGreatDoorYAny3
import Derived.Test.YteennilbmmlikaaGreatDoorYLoop
import Derived.Test.YteennilbmmlikaaGreatDoorYFrz
import Derived.Test.YteennilbmmlikaaGreatDoorGSortK
namespace Go.Y
set_option maxRecDepth 1000000
set_option maxHeartbeats 0
noncomputable def Tryh.Y:YP:=⟨Go.Proofs.Tryz.prog,Tryz.tys,Tryz.locs.set 124 [],Tryz.modes,[182,5],[(185,1),(197,2)],[]⟩
theorem Tryh.Yok:YOK Tryh.Y:=Vg kr Tryz.extok
end Go.Y
namespace Go.Y
open Go.Proofs
set_option maxRecDepth 1000000
set_option maxHeartbeats 0
theorem ZQg{a k h}(K):CP UY 43 (flat (Za Tryz.f43)) (J a k none::Rp 21) h [2,3] K=(If ((↑k:Int)==(0:Int)) (∃b,(PCon UY 29 [.agg R0] λv=>v=.b b)/\If (!b) (K .ret 22 [.lb R0,I 2] h) (K .ret 22 [.lb R0,I 0] h)) (If ((↑k:Int)==(1:Int)) (((0:Int)<=(0:Int)/\(0:Int)<(k:Int))/\ ∃b c d e f g i j l m n,Zr 9 a=some (R9 b c d e f g i j l m n)/\ ∃o,(PCon UY 29 [.agg (R9 b c d e f g i j l m n)] λv=>v=.b o)/\If (!o) (K .ret 22 [.lb R0,I 2] h) (K .ret 22 [.lb (R9 b c d e f g i j l m n),I 0] h)) (∃b,(PCon UY 29 [.agg (R9 4 0 0 0 0 a k none 0 0 0)] λv=>v=.b b)/\If (!b) (K .ret 22 [.lb R0,I 2] h) (K .ret 22 [.lb (R9 4 0 0 0 0 a k none 0 0 0),I 0] h)))):=kr
theorem ZQh{s0 h}(K):CP UY 44 (pre (flat (Za Tryz.f44))) (.s s0::Rp 23) h [0,3,6,7] K=(K .normal 24 [.s s0,S0,I (↑s0.length:Int),I 0] h):=kr
theorem ZQi{s0 a3 l3 c3 k3 x7 h}(K):CP UY 44 (flat (Zx (post (flat (Za Tryz.f44))))) (MZ 24 [0,3,6,7] [.s s0,S a3 l3 c3 k3,I (↑s0.length:Int),I x7]) h [0,3,6,7] K=(If (ltI x7 (↑s0.length:Int)) (∃a,((0:Int)<=x7/\s0[x7.toNat]? =some a)/\ ∃b,((0:Int)<=x7/\s0[x7.toNat]? =some b)/\ ∃c d e f g j l m n o p,(PCon UY 94 [J [.i .u8 (↑a.toNat:Int),.i .u8 (↑b.toNat:Int)] 1 (some 1)] fun(v:V)=>v=.agg (R9 c d e f g j l m n o p))/\ ∃q r t u w,Zk UY h 26 26 (S a3 l3 c3 k3) (J (R9 c d e f g j l m n o p) 1 (some 1))=some (S q r t u,w)/\K .normal 24 [.s s0,S q r t u,I (↑s0.length:Int),I (wW (x7+(1:Int)))] w) (K (.exit 0) 24 [.s s0,S a3 l3 c3 k3,I (↑s0.length:Int),I x7] h)):=kr
theorem ZQj{a3 l3 c3 k3 h}(K):CP UY 44 ((post (flat (Za Tryz.f44))).drop 1) (MZ 24 [3] [S a3 l3 c3 k3]) h [2] K=(K .ret 24 [S a3 l3 c3 k3] h):=kr
theorem ZQk{a c h}(K):CP UY 49 (pre (flat (Za Tryz.f49))) (J a c none::Rp 47) h [3,6,7,8] K=(K .normal 48 [S0,J a c none,I (c:Int),I 0] h):=kr
theorem ZQl{d k e f g j b h}(K):CP UY 49 (flat (Zx (post (flat (Za Tryz.f49))))) (MZ 48 [3,6,7,8] [S e f g j,J d k none,I (k:Int),I b]) h [3,6,7,8] K=(If (ltI b k) ((0<=b/\b<k)/\ ∃a c l m n,Zr 3 (List.drop (b.toNat*3) d)=some [I a,.i .u8 c,J l m n]/\If (a==(0:Int)) (∃o p q r s t u w x y z,(PCon UY 94 [J [.i .u8 c,.i .u8 c] 1 (some 1)] fun(v:V)=>v=.agg (R9 o p q r s t u w x y z))/\ ∃A B C E D,Zk UY h 26 26 (S e f g j) (J (R9 o p q r s t u w x y z) 1 (some 1))=some (S A B C E,D)/\K .normal 48 [S A B C E,J d k none,I (k:Int),I (wW (b+(1:Int)))] D) (If (a==(1:Int)) (∃o p q r s t u w x y z,(PCon UY 100 [] fun(v:V)=>v=.agg (R9 o p q r s t u w x y z))/\ ∃A B C E D,Zk UY h 26 26 (S e f g j) (J (R9 o p q r s t u w x y z) 1 (some 1))=some (S A B C E,D)/\K .normal 48 [S A B C E,J d k none,I (k:Int),I (wW (b+(1:Int)))] D) (If (a==(2:Int)) (∃o p q r s t u w x y z,(PCon UY 53 [] fun(v:V)=>v=.agg (R9 o p q r s t u w x y z))/\ ∃A B C E D,Zk UY h 26 26 (S e f g j) (J (R9 o p q r s t u w x y z) 1 (some 1))=some (S A B C E,D)/\K .normal 48 [S A B C E,J d k none,I (k:Int),I (wW (b+(1:Int)))] D) (If (a==(3:Int)) (∃o p q r s t u w x y z,(PCon UY 94 [J l m n] fun(v:V)=>v=.agg (R9 o p q r s t u w x y z))/\ ∃A B C E D,Zk UY h 26 26 (S e f g j) (J (R9 o p q r s t u w x y z) 1 (some 1))=some (S A B C E,D)/\K .normal 48 [S A B C E,J d k none,I (k:Int),I (wW (b+(1:Int)))] D) (K .normal 48 [S e f g j,J d k none,I (k:Int),I (wW (b+(1:Int)))] h))))) (K (.exit 0) 48 [S e f g j,J d k none,I (k:Int),I b] h)):=kr
theorem ZQm{a b c d h}(K):CP UY 49 ((post (flat (Za Tryz.f49))).drop 1) (MZ 48 [3] [S a b c d]) h [2] K=(K .ret 48 [S a b c d] h):=kr
theorem ZQn{h}(K):CP UY 53 (flat (Za Tryz.f53)) (Rp 4) h [0] K=(∃a b c d e f g i j l m,(PCon UY 100 [] fun(v:V)=>v=.agg (R9 a b c d e f g i j l m))/\K .ret 4 [.lb [I 6,U 0,U 0,U 0,U 0,J (R9 a b c d e f g i j l m) 1 (some 1),I 0,I (-1),I 0]] h):=kr
theorem ZKp{h}(K):CP UY 100 (flat (Za Tryz.f100)) (Rp 4) h [0] K=(∃a b c d e f g j l m n,(PCon UY 94 [J [.i .u8 0,.i .u8 255] 1 (some 1)] fun(v:V)=>v=.agg (R9 a b c d e f g j l m n))/\K .ret 4 [.lb (R9 a b c d e f g j l m n)] h):=kr
theorem ZQo{s0 h}(K):CP UY 16 (flat (Za Tryz.f16)) (.s s0::Rp 8) h [2,3] K=(∃a b c,(PCon UY 44 [.s s0] λv=>v=J a b c)/\Con UY 43 [J a b c] h fun(v:V) (k:Heap)=> ∃d e f g i j l m n o p q,v=.tup [.agg (R9 d e f g i j l m n o p),I q]/\K .ret 9 [.lb (R9 d e f g i j l m n o p),I q] k):=kr
theorem ZQp{a k h}(K):CP UY 18 (flat (Za Tryz.f18)) (J a k none::Rp 12) h [2,3] K=(∃b,(PCon UY 48 [J a k none] λv=>v=.b b)/\If (!b) (K .ret 13 [.lb R0,I 5] h) (∃c d e,(PCon UY 49 [J a k none] λv=>v=J c d e)/\Con UY 43 [J c d e] h fun(v:V) (t:Heap)=> ∃f g i j l m n o p q r s,v=.tup [.agg (R9 f g i j l m n o p q r),I s]/\K .ret 13 [.lb (R9 f g i j l m n o p q r),I s] t)):=kr
theorem ZQq{d e h}(K):CP UY 20 (flat (Za Tryz.f20)) (.agg [I d,.s e]::Rp 64) h [2,3] K=(∃a,(PCon UY 52 [.agg [I d,.s e]] λv=>v=.b a)/\If (!a) (K .ret 65 [.lb R0,I 5] h) (∃b c f g i j l m n o p,(PCon UY 53 [] fun(v:V)=>v=.agg (R9 b c f g i j l m n o p))/\If (d==(0:Int)) (∃q r t,(PCon UY 44 [.s e] λv=>v=J q r t)/\ ∃u w x y z,Zk UY (h.push (YObj.arr (R9 b c f g i j l m n o p) true)) 26 26 (S (some (h.nx,0)) 1 (some 1) 9) (J q r t)=some (S u w x y,z)/\ ∃k B A a3 a4 F O Z G C E,(PCon UY 53 [] fun(v:V)=>v=.agg (R9 k B A a3 a4 F O Z G C E))/\ ∃W P b3 D b5,Zk UY z 26 26 (S u w x y) (J (R9 k B A a3 a4 F O Z G C E) 1 (some 1))=some (S W P b3 D,b5)/\Con UY 43 [S W P b3 D] b5 fun(v:V) (h':Heap)=> ∃X N L H c0 c1 c2,∃c3,∃c4,∃c5,∃c6,∃c7,v=.tup [.agg (R9 X N L H c0 c1 c2 c3 c4 c5 c6),I c7]/\K Out.ret 65 [.lb (R9 X N L H c0 c1 c2 c3 c4 c5 c6),I c7] h') (If (d==(1:Int)) (∃q r t u w,(PCon UY 54 [.s e] fun(v:V)=>v=.tup [J q r t,I u,I w])/\ ∃x y z,(PCon UY 49 [J q r t] fun(v:V)=>v=J x y z)/\ ∃k B A a3 a4,Zk UY (h.push (YObj.arr (R9 b c f g i j l m n o p) true)) 26 26 (S (some (h.nx,0)) 1 (some 1) 9) (J x y z)=some (S k B A a3,a4)/\ ∃F O Z G C E W P b3 D b5,(PCon UY 53 [] fun(v:V)=>v=.agg (R9 F O Z G C E W P b3 D b5))/\ ∃X N L H c0,Zk UY a4 26 26 (S k B A a3) (J (R9 F O Z G C E W P b3 D b5) 1 (some 1))=some (S X N L H,c0)/\Con UY (43:Nat) [S X N L H] c0 fun(v:V) (h':Heap)=> ∃c1,∃c2,∃c3,∃c4,∃c5,∃c6,∃c7,∃c8,∃c9,∃d0,∃d1,∃d2,v=.tup [.agg (R9 c1 c2 c3 c4 c5 c6 c7 c8 c9 d0 d1),I d2]/\K Out.ret 65 [.lb (R9 c1 c2 c3 c4 c5 c6 c7 c8 c9 d0 d1),I d2] h') (If (d==(2:Int)) (∃q r t u w x y z k B A a3 a4,(PCon UY 55 [.s e] fun(v:V)=>v=.tup [.agg (R9 q r t u w x y z k B A),I a3,I a4])/\ ∃F,(PCon UY 56 [.agg (R9 q r t u w x y z k B A)] λv=>v=.b F)/\If F (K .ret 65 [.lb R0,I 5] (h.push (YObj.arr (R9 b c f g i j l m n o p) true))) (∃O Z G C E W P b3 D b5 X,(PCon UY 57 [.agg (R9 q r t u w x y z k B A)] fun(v:V)=>v=.agg (R9 O Z G C E W P b3 D b5 X))/\ ∃N,∃L H c0 c1,Zk UY (h.push (YObj.arr (R9 b c f g i j l m n o p) true)) 26 26 (S (some (h.nx,0)) 1 (some 1) 9) (J [I (7:Int),U (0:Int),U (0:Int),U (0:Int),U (0:Int),J (R9 O Z G C E W P b3 D b5 X) 1 (some 1),I (0:Int),I (0:Int),I (1:Int)] 1 (some 1))=some (S N L H c0,c1)/\ ∃c2,∃c3,∃c4,∃c5,∃c6,∃c7,∃c8,∃c9,∃d0,∃d1,∃d2,(PCon UY (53:Nat) [] fun(v:V)=>v=.agg (R9 c2 c3 c4 c5 c6 c7 c8 c9 d0 d1 d2))/\ ∃d3,∃d4,∃d5,∃d6,∃d7,Zk UY c1 26 26 (S N L H c0) (J (R9 c2 c3 c4 c5 c6 c7 c8 c9 d0 d1 d2) 1 (some 1))=some (S d3 d4 d5 d6,d7)/\Con UY (43:Nat) [S d3 d4 d5 d6] d7 fun(v:V) (h':Heap)=> ∃d8,∃d9,∃e0,∃e1,∃e2,∃e3,∃e4,∃e5,∃e6,∃e7,∃e8,∃e9,v=.tup [.agg (R9 d8 d9 e0 e1 e2 e3 e4 e5 e6 e7 e8),I e9]/\K Out.ret 65 [.lb (R9 d8 d9 e0 e1 e2 e3 e4 e5 e6 e7 e8),I e9] h')) (∃q r t u w x y z k B A,(PCon UY 53 [] fun(v:V)=>v=.agg (R9 q r t u w x y z k B A))/\ ∃a3 a4 F O Z,Zk UY (h.push (YObj.arr (R9 b c f g i j l m n o p) true)) 26 26 (S (some (h.nx,0)) 1 (some 1) 9) (J (R9 q r t u w x y z k B A) 1 (some 1))=some (S a3 a4 F O,Z)/\Con UY 43 [S a3 a4 F O] Z fun(v:V) (h':Heap)=> ∃G C E W P b3 D b5 X N L H,v=.tup [.agg (R9 G C E W P b3 D b5 X N L),I H]/\K Out.ret 65 [.lb (R9 G C E W P b3 D b5 X N L),I H] h'))))):=kr
theorem ZKq{a c h}(K):CP Tryh.Y 94 (pre (flat (Za Tryz.f94))) (J a c none::Rp 36) h [2,3,8,9,10] K=(∃b,Zi (h.pushT (Tryh.Y.tag (28:Nat)) (YObj.arr [I 0,U 0,U 0,U 0,U 0,S none (0:Nat) (some (0:Nat)) (0:Nat),I 0,I 0,I 0] true)) h.nx 0 [I 1,U 0,U 0,U 0,U 0,S0,I 0,I 0,I 0]=some b/\K .normal 37 [.lb R0, .p (some (h.nx,0)),J a c none,I (c:Int),I 0] b):=kr
theorem ZKr{b d c a h}(K):CP Tryh.Y 94 (pre (flat (Zx (post (flat (Za Tryz.f94)))))) (MZ 37 [2,3,8,9,10] [.lb R0,.p (some (c,0)),J b d none,I (d:Int),I a]) h [2,3,8,9,10] K=(If (ltI a d) (K .normal 37 [.lb R0, .p (some (c,0)),J b d none,I (d:Int),I a] h) (K (.exit 0) 37 [.lb R0, .p (some (c,0)),J b d none,I (d:Int),I a] h)):=kr
theorem ZKs{b f c a h}(K):CP Tryh.Y 94 (pre (flat (ZL (post (flat (Zx (post (flat (Za Tryz.f94))))))))) (MZ 37 [2,3,8,9,10] [.lb R0,.p (some (c,0)),J b f none,I (f:Int),I a]) h [2,3,5,6,8,9,10] K=((0<=a/\a<f)/\ ∃d e,Zr 2 (List.drop (a.toNat*2) b)=some [.i .u8 d,.i .u8 e]/\K .normal 37 [.lb R0, .p (some (c,0)), .lb [.i .u8 d, .i .u8 e],I (wW d),J b f none,I (f:Int),I a] h):=kr
theorem ZKt{d k b e f c a h}(K):CP Tryh.Y 94 (flat (Zx (post (flat (ZL (post (flat (Zx (post (flat (Za Tryz.f94))))))))))) (MZ 37 [2,3,5,6,8,9,10] [.lb R0,.p (some (b,0)),.lb [.i .u8 f,.i .u8 c],I a,J d k none,I (k:Int),I e]) h [2,3,5,6,8,9,10] K=(If (leI a (wW c)) ((0:Int)<=(6:Int)/\((0:Int)<=a.fdiv ((2:Int) ^ min (Int.toNat (6:Int)) IntKind.i64.bits)/\a.fdiv ((2:Int) ^ min (Int.toNat (6:Int)) IntKind.i64.bits)<(↑(4:Nat):Int))/\ ∃g,Zb h b ((0:Nat)+(1:Nat)+(a.fdiv ((2:Int) ^ min (Int.toNat (6:Int)) IntKind.i64.bits)).toNat*1) 1=some [U g]/\(0:Int)<=wW (↑(BitVec.ofInt IntKind.i64.bits a&&&BitVec.ofInt IntKind.i64.bits (63:Int)).toNat:Int)/\((0:Int)<=a.fdiv ((2:Int) ^ min (Int.toNat (6:Int)) IntKind.i64.bits)/\a.fdiv ((2:Int) ^ min (Int.toNat (6:Int)) IntKind.i64.bits)<(↑(4:Nat):Int))/\ ∃j,Zi h b ((0:Nat)+(1:Nat)+(a.fdiv ((2:Int) ^ min (Int.toNat (6:Int)) IntKind.i64.bits)).toNat*1) [U (IntKind.u64.wrap (↑(BitVec.ofInt IntKind.u64.bits g|||BitVec.ofInt IntKind.u64.bits (IntKind.u64.wrap ((1:Int)*(2:Int) ^ min (wW (↑(BitVec.ofInt IntKind.i64.bits a&&&BitVec.ofInt IntKind.i64.bits (63:Int)).toNat:Int)).toNat IntKind.u64.bits))).toNat:Int))]=some j/\K .normal 37 [.lb R0, .p (some (b,0)), .lb [.i .u8 f, .i .u8 c],I (wW (a+(1:Int))),J d k none,I (k:Int),I e] j) (K (.exit 2) 37 [.lb R0, .p (some (b,0)), .lb [.i .u8 f, .i .u8 c],I a,J d k none,I (k:Int),I e] h)):=kr
theorem ZKu{a d b c h}(K):CP Tryh.Y 94 ((post (flat (Zx (post (flat (Za Tryz.f94)))))).drop 1) (MZ 37 [2,3,8,9,10] [.lb R0,.p (some (b,0)),J a d none,I (d:Int),I c]) h [2,3,8,9,10] K=(K .normal 37 [.lb R0, .p (some (b,0)),J a d none,I (d:Int),I (wW (c+(1:Int)))] h):=kr
theorem ZKv{b h}(K):CP Tryh.Y 94 ((post (flat (Za Tryz.f94))).drop 1) (MZ 37 [2,3] [.lb R0,.p (some (b,0))]) h [2] K=(∃a c d e f g i j l m n o,Zb h b 0 9=some [I a,U c,U d,U e,U f,S g i j l,I m,I n,I o]/\K .ret 37 [.lb [I a,U c,U d,U e,U f,S g i j l,I m,I n,I o]] h):=kr
theorem ZKw(d:Nat)(h)(K:KT):(Zc UY (UY.loc 133) 100 ((flat (Za Tryz.f133))) ⟨(.p (some (d,0))::List.replicate 32 .undef),[],h⟩ (VQ [2] K))=(∃n,Zb h d 1 1=some [I n]/\ ∃s,Zb h d 0 1=some [.s s]/\If (leI (↑s.length:Int) n) (∃a,Zi h d 2 [.b true]=some a/\K .ret 33 [.i .u8 0] a) (∃n,Zb h d 1 1=some [I n]/\ ∃a,Zi h d 1 [I (wW (n+1))]=some a/\ ∃s,Zb a d 0 1=some [.s s]/\ ∃n,Zb a d 1 1=some [I n]/\ ∃c,(0<=wW (n-1)/\s[(wW (n-1)).toNat]? =some c)/\K .ret 33 [.i .u8 (↑c.toNat:Int)] a)):=kr
theorem ZKx(a:Nat)(c:Int)(h)(K:KT):(Zc UY (UY.loc 168) 100 ((flat (Za Tryz.f168))) ⟨(.p (some (a,0))::.i .u8 c::List.replicate 26 .undef),[],h⟩ (VQ [4] K))=(∃n,Zb h a 1 1=some [I n]/\ ∃s,Zb h a 0 1=some [.s s]/\If (ltI n (↑s.length:Int)) (∃s,Zb h a 0 1=some [.s s]/\ ∃n,Zb h a 1 1=some [I n]/\ ∃d,(0<=n/\s[n.toNat]? =some d)/\K .ret 28 [.b ((↑d.toNat:Int)==c)] h) (K .ret 28 [.b false] h)):=kr
theorem ZKy(d:Nat)(h:Heap)(K:KT):(Zc UY (UY.loc 186) 100 ((flat (Za Tryz.f186))) ⟨(.p (some (d,0))::List.replicate 26 .undef),[],h⟩ (VQ [2] K))=(∃b,(∃e,(Con UY 168 [.p (some (d,0)),.i .u8 93] h fun(v:V) (c:Heap)=>v=.b b/\c=e)/\(∀(i:Nat),i<h.nx->e.get i=h.get i)/\ ∀(p:Nat×TypeId),List.Mem p h.tg->List.Mem p e.tg)/\If b (∃a,Zi h d 2 [.b true]=some a/\K .ret 27 [.i .u8 0] a) (∃b,(∃e,(Con UY 168 [.p (some (d,0)),.i .u8 45] h fun(v:V) (c:Heap)=>v=.b b/\c=e)/\(∀(i:Nat),i<h.nx->e.get i=h.get i)/\ ∀(p:Nat×TypeId),List.Mem p h.tg->List.Mem p e.tg)/\If b (∃a,Zi h d 2 [.b true]=some a/\K .ret 27 [.i .u8 0] a) (Con UY 133 [.p (some (d,0))] h fun(v:V) (c:Heap)=> ∃n,v=.i .u8 n/\If (n==92) (∃b,Zb c d 2 1=some [.b b]/\If (!b) (Con UY 133 [.p (some (d,0))] c fun(v:V) (c:Heap)=> ∃n,v=.i .u8 n/\K .ret 27 [.i .u8 n] c) (K .ret 27 [.i .u8 n] c)) (K .ret 27 [.i .u8 n] c)))):=kr
theorem ZKz(d:Nat)(h)(K:KT):(Zc UY (UY.loc 169) 100 ((flat (Za Tryz.f169))) ⟨(.p (some (d,0))::List.replicate 52 .undef),[],h⟩ (VQ [2] K))=(Con UY 186 [.p (some (d,0))] h fun(v:V) (a:Heap)=> ∃n,v=.i .u8 n/\ ∃b,Zb a d 2 1=some [.b b]/\If b (K .ret 53 [.lb [.i .u8 n, .i .u8 n]] a) (∃b,(∃j,(Con UY 168 [.p (some (d,0)),.i .u8 45] a fun(v:V) (a:Heap)=>v=.b b/\a=j)/\(∀(i:Nat),i<a.nx->j.get i=a.get i)/\ ∀(p:Nat×TypeId),List.Mem p a.tg->List.Mem p j.tg)/\If (!b) (K .ret 53 [.lb [.i .u8 n, .i .u8 n]] a) (∃e,Zb a d 1 1=some [I e]/\ ∃h,Zi a d 1 [I (wW (e+1))]=some h/\Con UY 186 [.p (some (d,0))] h fun(v:V) (a:Heap)=> ∃c,v=.i .u8 c/\ ∃b,Zb a d 2 1=some [.b b]/\If (!b) (If (ltI c n) (∃h,Zi a d 2 [.b true]=some h/\ ∃g,Zb h d 1 1=some [I g]/\ ∃f,Zi h d 1 [I (wW (g-1))]=some f/\K .ret 53 [.lb [.i .u8 n, .i .u8 c]] f) (K .ret 53 [.lb [.i .u8 n, .i .u8 c]] a)) (K .ret 53 [.lb [.i .u8 n, .i .u8 c]] a)))):=kr
theorem ZK0(a:Nat)(h)(K:KT):(Zc UY (UY.loc 134) 100 (pre (flat (Za Tryz.f134))) ⟨(.p (some (a,0))::List.replicate 28 .undef),[],h⟩ (VQ [0,3] K))=(K .normal 29 [.p (some (a,0)),S0] h):=kr
theorem ZK1(e:Nat)(m:Option (Nat×Nat))(g:Nat)(c3)(j:Nat)(h:Heap)(K:KT):(Zc UY (UY.loc 134) 100 ((flat (Zx (post (flat (Za Tryz.f134)))))) ⟨mk 29 (([0,3]:List Nat).zip [.p (some (e,0)),S m g c3 j]),[],h⟩ (VQ [0,2,3] K))=(If ((↑g:Int)==0) (Con UY 169 [.p (some (e,0))] h fun(v:V) (f:Heap)=> ∃n d,v=.agg [.i .u8 n,.i .u8 d]/\ ∃a l c k h,Zk UY f 57 57 (S m g c3 j) (J [.i .u8 n,.i .u8 d] 1 (some 1))=some (S a l c k,h)/\ ∃b,Zb h e 2 1=some [.b b]/\If b (K .ret 29 [.p (some (e,0)),S0,S a l c k] h) (K .normal 29 [.p (some (e,0)),Ud,S a l c k] h)) (∃b,(∃o,(Con UY 168 [.p (some (e,0)),.i .u8 93] h fun(v:V) (f:Heap)=>v=.b b/\f=o)/\(∀(i:Nat),i<h.nx->o.get i=h.get i)/\ ∀(p:Nat×TypeId),List.Mem p h.tg->List.Mem p o.tg)/\If (!b) (Con UY 169 [.p (some (e,0))] h fun(v:V) (f:Heap)=> ∃n d,v=.agg [.i .u8 n,.i .u8 d]/\ ∃a l c k h,Zk UY f 57 57 (S m g c3 j) (J [.i .u8 n,.i .u8 d] 1 (some 1))=some (S a l c k,h)/\ ∃b,Zb h e 2 1=some [.b b]/\If b (K .ret 29 [.p (some (e,0)),S0,S a l c k] h) (K .normal 29 [.p (some (e,0)),Ud,S a l c k] h)) (K (.exit 0) 29 [.p (some (e,0)),Ud,S m g c3 j] h))):=kr
theorem ZK2(c:Nat)(f:Option (Nat×Nat))(e:Nat)(c3)(d:Nat)(h)(K:KT):(Zc UY (UY.loc 134) 100 (((post (flat (Za Tryz.f134))).drop 1)) ⟨mk 29 (([0,3]:List Nat).zip [.p (some (c,0)),S f e c3 d]),[],h⟩ (VQ [2] K))=(∃n,Zb h c 1 1=some [I n]/\ ∃a,Zi h c 1 [I (wW (n+1))]=some a/\K .ret 29 [S f e c3 d] a):=kr
theorem ZK3(d:Nat)(h)(K:KT):(Zc UY (UY.loc 105) 100 ((flat (Za Tryz.f105))) ⟨(.p (some (d,0))::List.replicate 24 .undef),[],h⟩ (VQ [2] K))=(Con UY 133 [.p (some (d,0))] h fun(v:V) (a:Heap)=> ∃n,v=.i .u8 n/\If (n==42) (K .ret 25 [.lb [I 2, .i .u8 0,S0]] a) (If (n==63) (K .ret 25 [.lb [I 1, .i .u8 0,S0]] a) (If (n==91) (Con UY 134 [.p (some (d,0))] a fun(v:V) (a:Heap)=> ∃e l c,v=J e l c/\K .ret 25 [.lb [I 3, .i .u8 0,J e l c]] a) (If (n==92) (Con UY 133 [.p (some (d,0))] a fun(v:V) (a:Heap)=> ∃n,v=.i .u8 n/\K .ret 25 [.lb [I 0, .i .u8 n,S0]] a) (K .ret 25 [.lb [I 0, .i .u8 n,S0]] a))))):=kr
structure Rd(h:Heap)(id:Nat)(s:List UInt8)(i:Nat)(b:Bool):Prop where
 get:h.get id=some (.arr [.s s,I i, .b b] true)
 lt:id<h.nx
section
variable {h:Heap} {id:Nat} {s:List UInt8} {i:Nat} {b:Bool}
theorem Rd.c0(r:Rd h id s i b):Zb h id 0 1=some [.s s]:=by simp[Zb,r.get,Zr]
theorem Rd.c1(r:Rd h id s i b):Zb h id 1 1=some [I i]:=by simp[Zb,r.get,Zr]
theorem Rd.c2(r:Rd h id s i b):Zb h id 2 1=some [.b b]:=by simp[Zb,r.get,Zr]
theorem Rd.s1(r:Rd h id s i b)(j:Nat): ∃a,Zi h id 1 [I j]=some a/\Rd a id s j b/\FrO h id a:=by
 refine⟨h.set id (some (.arr [.s s,I j, .b b] true)),?_,⟨sm,r.lt⟩, .set _ _ _⟩;simp[Zi,r.get,splice]
theorem Rd.s2(r:Rd h id s i b)(c:Bool): ∃a,Zi h id 2 [.b c]=some a/\Rd a id s i c/\FrO h id a:=by
 refine⟨h.set id (some (.arr [.s s,I i, .b c] true)),?_,⟨sm,r.lt⟩, .set _ _ _⟩;simp[Zi,r.get,splice]
end
def RdQ(h:Heap)(id:Nat)(s:List UInt8)(d:V)(j:Nat)(c:Bool)(v:V)(a:Heap):Prop:=v=d/\Rd a id s j c/\FrO h id a
theorem Zef{h}{id:Nat}{s:List UInt8}{i:Nat}{b:Bool}(r:Rd h id s i b)(k:s.length<2 ^ 30)(l:i<=s.length):
  Con UY 133 [.p (some (id,0))] h (RdQ h id s (.i .u8 (Zbt s i b).1) (Zbt s i b).2.1 (Zbt s i b).2.2):=by
 refine Zv UK (fn:=Tryz.f133) (ZE UK (loc:=UY.loc 133) 100 [2] ?_);rw[show(⟨[.p (some (id,0))]++List.replicate (Tryz.f133.ntmps- [V.p (some (id,0))].length) .undef,[],h⟩:St)=⟨.p (some (id,0))::List.replicate 32 .undef,[],h⟩ by rfl,ZKw];refine⟨_,r.c1,_,r.c0,JT (λg=> ?_) (λj=> ?_)⟩
 .have:s[i]? =none:=qq om;obtain⟨e,d,c,f⟩:=r.s2 true;refine⟨e,d,finC rr rfl (.now ⟨?_,?_,f⟩)⟩
  .simp[Zbt,this,V.plain]
  .simpa[Zbt,this]using c
 .have a:i<s.length:=om;obtain⟨e,d,c,f⟩:=r.s1 (i+1);refine⟨_,r.c1,e,by rw[Ze om];exact d,_,c.c0,_,c.c1,s[i],?_,finC rr rfl (.now ⟨?_,?_,f⟩)⟩
  .rw[ZI om om];refine⟨om,?_⟩;rw[show(((i+1:Nat):Int)-1).toNat=i from om];simp[a]
  .simp[Zbt,a,V.plain]
  .simpa[Zbt,a]using c
theorem Zeg{h}{id:Nat}{s}{i:Nat}{b:Bool}(r:Rd h id s i b)(c:UInt8):
  RCon UY 168 [.p (some (id,0)), .i .u8 (c.toNat:Nat)] h (.b (s[i]? ==some c)):=by
 refine⟨h,?_,λ_ _=>rfl,λ_ h=>h⟩;refine Zv UK (fn:=Tryz.f168) (ZE UK (loc:=UY.loc 168) 100 [4] ?_);rw[show(⟨[.p (some (id,0)), .i .u8 (c.toNat:Nat)]++List.replicate (Tryz.f168.ntmps- [V.p (some (id,0)), .i .u8 (c.toNat:Nat)].length) .undef,[],h⟩:St)=⟨.p (some (id,0)):: .i .u8 (c.toNat:Nat)::List.replicate 26 .undef,[],h⟩ by rfl,ZKx];refine⟨_,r.c1,_,r.c0,Xr (λe=> ?_) (λd=> ?_)⟩
 .have a:i<s.length:=om;refine⟨_,r.c0,_,r.c1,s[i],⟨om,by simp[a]⟩,finC rr rfl (.now ⟨?_,rfl⟩)⟩;rw[Zuo];simp[a,V.plain]
 .have:s[i]? =none:=qq om;refine finC rr rfl (.now ⟨?_,rfl⟩);simp[this,V.plain]
def endQ(r:Except Nat (Int×Nat))(h:Heap)(id:Nat)(s:List UInt8)(b:Bool)(v:V)(a:Heap):Prop:=match r with
 | .error e=> ∃n,v= .i .u8 n/\Rd a id s e true/\FrO h id a
 | .ok (c,j)=>v= .i .u8 c/\Rd a id s j b/\FrO h id a
theorem Zwi{h}{id:Nat}{s:List UInt8}{i:Nat}(r:Rd h id s i false)(w:s.length<2 ^ 30)(B:i<=s.length):
  Con UY 186 [.p (some (id,0))] h (endQ (endS s i) h id s false):=by
 refine Zv UK (fn:=Tryz.f186) (ZE UK (loc:=UY.loc 186) 100 [2] ?_);rw[show(⟨[.p (some (id,0))]++List.replicate (Tryz.f186.ntmps- [V.p (some (id,0))].length) .undef,[],h⟩:St)=⟨.p (some (id,0))::List.replicate 26 .undef,[],h⟩ by rfl,ZKy];have m:(s[i]? =none\/s[i]? =some 93\/s[i]? =some 45)->endS s i= .error i:=by
  rintro(h|h|h)<;>simp[endS,h]
 have g:(s[i]? =none\/s[i]? =some 93\/s[i]? =some 45)-> ∃t,Zi h id 2 [.b true]=some t/\Fin UY Tryz.f186 [2] (AfterZ (endQ (endS s i) h id s false)) .ret 27 [.i .u8 0] t:=by
  intro A;obtain⟨t,j,k,C⟩:=r.s2 true;refine⟨t,j,finC rr rfl (.now ?_)⟩;rw[m A];exact⟨0,rfl,k,C⟩
 refine⟨_,Zeg r 93,Zf (λe=>g (.inr (.inl (by simpa using e)))) (λn=> ?_)⟩;refine⟨_,Zeg r 45,Zf (λe=>g (.inr (.inr (by simpa using e)))) (λl=> ?_)⟩;refine(Zef r w B).mono λv y ⟨u,j,k⟩=>⟨_,u,?_⟩
 cases a:s[i]? with
 |none=>
  simp only[Zbt,a]at j ⊢;refine Zf (λe=>by simp at e) (λ_=>finC rr rfl (.now ?_));rw[m (.inl a)];exact⟨0,rfl,j,k⟩
 |some c=>
  rw[a]at n l;have E:c≠93:=by simpa using n
  have z:c≠45:=by simpa using l
  simp only[Zbt,a]at j ⊢;have D:=(qb.1 a).1;rw[show(92:Int)=(((92:UInt8).toNat:Nat):Int) from dc,Zuo];refine Zf (λe=> ?_) (λe=> ?_)
  .have e:c=92:=by simpa using e
   refine⟨_,j.c2,?_⟩;show Con UY 133 [.p (some (id,0))] y _;refine(Zef j w om).mono λv F ⟨u,o,x⟩=>⟨_,u,finC rr rfl (.now ?_)⟩;subst e
   cases f:s[i+1]? with
   |none=>
    simp only[Zbt,f]at o ⊢;simp only[endS,a,f];exact⟨0,rfl,o,k.trans x⟩
   |some d=>
    simp only[Zbt,f]at o ⊢;simp only[endS,a,f];exact⟨rfl,o,k.trans x⟩
  .have e:c≠92:=by simpa using e
   refine finC rr rfl (.now ?_);simp only[endS,a,E,z,e,or_self,vF];exact⟨rfl,j,k⟩
def ZQr(r:Except Nat (Span×Nat))(h:Heap)(c:Nat)(s:List UInt8)(v:V)(a:Heap):Prop:=match r with
 | .error e=> ∃x:Span,v= .agg (encS x)/\Rd a c s e true/\FrO h c a
 | .ok (x,j)=>v= .agg (encS x)/\Rd a c s j false/\FrO h c a
theorem Zz4{h}{u:Nat}{s:List UInt8}{i:Nat}(r:Rd h u s i false)(F:s.length<2 ^ 30)(P:i<=s.length):
  Con UY 169 [.p (some (u,0))] h (ZQr (XS s i) h u s):=by
 refine Zv UK (fn:=Tryz.f169) (ZE UK (loc:=UY.loc 169) 100 [2] ?_);rw[show(⟨[.p (some (u,0))]++List.replicate (Tryz.f169.ntmps- [V.p (some (u,0))].length) .undef,[],h⟩:St)=⟨.p (some (u,0))::List.replicate 52 .undef,[],h⟩ by rfl,ZKz];refine(Zwi r F P).mono λv h1 f=> ?_
 cases g:endS s i with
 |error e=>
  rw[g]at f;obtain⟨n,D,l,z⟩:=f;refine⟨n,D,_,l.c2,Zf (λ_=>finC rr rfl (.now ?_)) (λc=>by cases c)⟩;simp only[XS,g];exact⟨⟨n,n⟩,rfl,l,z⟩
 |ok x=>
  obtain⟨B,j⟩:=x;rw[g]at f;obtain⟨D,l,z⟩:=f;have hj:=Vl g;refine⟨B,D,_,l.c2,Zf (λc=>by cases c) (λ_=> ?_)⟩;refine⟨_,Zeg l 45,Zf (λc=> ?_) (λc=> ?_)⟩
  .have C: ¬(s[j]? =some 45):=by simpa using c
   refine finC rr rfl (.now ?_);simp only[XS,g,C,vF];exact⟨rfl,l,z⟩
  .have d:s[j]? =some 45:=by simpa using c
   have a0:=(qb.1 d).1;obtain⟨h2,L,K,O⟩:=l.s1 (j+1);refine⟨_,l.c1,h2,by rw[Ze om];exact L,?_⟩;refine(Zwi K F om).mono λv h3 f=> ?_;have t:=z.trans O
   cases a:endS s (j+1) with
   |error e=>
    rw[a]at f;obtain⟨n,o,w,A⟩:=f;refine⟨n,o,_,w.c2,Zf (λc=>by cases c) (λ_=>finC rr rfl (.now ?_))⟩;simp only[XS,g,d,vG,a];exact⟨⟨B,n⟩,rfl,w,t.trans A⟩
   |ok y=>
    obtain⟨m,k⟩:=y;rw[a]at f;obtain⟨o,w,A⟩:=f;have hk:=Vl a;refine⟨m,o,_,w.c2,Zf (λ_=>Xr (λE=> ?_) (λW=> ?_)) (λc=>by cases c)⟩
    .obtain⟨h4,Z,G,H⟩:=w.s2 true;obtain⟨X,w1,w2,N⟩:=G.s1 (k-1);refine⟨h4,Z,_,G.c1,X,by rw[ZI om om,show((k:Int)-1)=((k-1:Nat):Int) from om];exact w1,finC rr rfl (.now ?_)⟩;simp only[XS,g,d,vG,a,E];exact⟨⟨B,m⟩,rfl,w2,((t.trans A).trans H).trans N⟩
    .refine finC rr rfl (.now ?_);have hn: ¬m<B:=om;simp only[XS,g,d,vG,a,hn,vF];exact⟨rfl,w,t.trans A⟩
def setQ(r:Except Nat (List Span×Nat))(h:Heap)(c:Nat)(s:List UInt8)(v:V)(a:Heap):Prop:=match r with
 | .error e=>v=lst encS []/\Rd a c s e true/\FrO h c a
 | .ok (l,j)=>v=lst encS l/\Rd a c s j false/\FrO h c a
def SetI(f:Heap)(e:Nat)(s:List UInt8)(R:Except Nat (List Span×Nat))(m:Nat)(g:List V)(h:Heap):Prop:=
 ∃(i:Nat) (d:List Span) (a:Option (Nat×Nat)) (l:Nat) (c:Option Nat) (k:Nat),g= [.p (some (e,0)), .sl a l c k]/\Lst encS 2 h a l c k d/\(∀j,a=some (j,0)->f.nx<=j)/\
  Rd h e s i false/\FrO f e h/\i<=s.length/\d.length<=i/\s.length-i<m/\setS m s i d=R
theorem ZFf{h}{d:Nat}{s:List UInt8}{i:Nat}(r:Rd h d s i false)(hs:s.length<2 ^ 28)(hi:i<=s.length):
  Con UY 134 [.p (some (d,0))] h (setQ (setS (s.length+1) s i []) h d s):=by
 refine Zv UK (fn:=Tryz.f134) ?_;refine Xg UK (n:=29) (loc:=UY.loc 134) 100 [0,3] kr ?_;rw[show(⟨[.p (some (d,0))]++List.replicate (Tryz.f134.ntmps- [V.p (some (d,0))].length) .undef,[],h⟩:St)=⟨.p (some (d,0))::List.replicate 28 .undef,[],h⟩ by rfl,ZK0];generalize hR:setS (s.length+1) s i []=R;refine⟨rfl,ZN [0,3] [0,2,3] (SetI h d s R) (s.length+1) ZA ⟨i,[],none,0,some 0,0,rfl,Lst.nil _ _ _ _ _,sm,r, .refl _ _,hi,sm,om,hR⟩ ?_⟩;rintro m vs N ⟨i,F,a,l,c,k,rfl,X,g,hr,G,hi,a7,hm,Z⟩;refine ZR UK (loc:=UY.loc 134) 100 [0,2,3] ?_;rw[ZK1];obtain⟨m,rfl⟩: ∃m',m=m'+1:=⟨m-1,om⟩;have a2:=X.len;have L: ∀(K:KT),K=XE UY 29 [0,2,3] [0,3] (SetI h d s R) (m+1) (Xd (post (flat (Za Tryz.f134)))) ((post (flat (Za Tryz.f134))).drop 1) (FinS UY Tryz.f134 (AfterZ (setQ R h d s)))->
   ¬(F≠ []/\s[i]? =some 93)->Con UY 169 [.p (some (d,0))] N λv h'=> ∃n a3,v= .agg [.i .u8 n, .i .u8 a3]/\ ∃O H W P A,Zk UY h' 57 57 (.sl a l c k) (.ts [.i .u8 n, .i .u8 a3] 1 (some 1))=some (.sl O H W P,A)/\
   ∃b:Bool,Zb A d 2 1=some [.b b]/\If b (K .ret 29 [.p (some (d,0)), .sl none 0 (some 0) 0, .sl O H W P] A) (K .normal 29 [.p (some (d,0)), .undef, .sl O H W P] A):=by
  rintro K rfl hn;refine(Zz4 hr om hi).mono λv h2 hq=> ?_;have t:FrO N d h2-> ∀j,a=some (j,0)->j<N.nx->h2.get j=N.get j:=λf j E hl=>f.2 j hl (λe=>by have:=g j E;have:=r.lt;omega);have B: ∀o,a≠some (d,o):=by
   intro o ho;have h0:=X.off ho;subst h0;have:=g d ho;have:=r.lt;omega
  simp only[setS,hn,vF]at Z
  cases he:XS s i with
  |error e=>
   rw[he]at hq Z;obtain⟨x,rfl,g1,u⟩:=hq;obtain⟨O,H,W,P,h3,q1,q2,z,j,q4,q5⟩:=Zje x (X.fr u.1 (t u)) om;have w:Rd h3 d s e true:=⟨by rw[z.2 d g1.lt B];exact g1.get,qv g1.lt z.1⟩;refine⟨_,_,rfl,O,H,W,P,h3,q1,true,w.c2,?_⟩;refine ZZ rr rfl ?_;subst Z;refine⟨[],_, .inl (.frz _ _ (.sln _ _ none (λx hx=>by cases hx))),rfl,w,?_⟩;exact(G.trans u).app (X.fr u.1 (t u)) g z
  |ok y=>
   obtain⟨x,j⟩:=y;rw[he]at hq Z;have E:=Zi5 he;obtain⟨rfl,g1,u⟩:=hq;obtain⟨O,H,W,P,h3,q1,q2,z,jj,q4,q5⟩:=Zje x (X.fr u.1 (t u)) om;have w:Rd h3 d s j false:=⟨by rw[z.2 d g1.lt B];exact g1.get,qv g1.lt z.1⟩;refine⟨_,_,rfl,O,H,W,P,h3,q1,false,w.c2,rfl,m,om,j,F++ [x],O,H,W,P,rfl,q2,?_,w,?_,E.2,by simp;omega,om,Z⟩
   .intro j' a1;rw[q4]at a1;cases a1;have:=(G.trans u).1;omega
   .exact(G.trans u).app (X.fr u.1 (t u)) g z
 refine Zf (λhc=>L _ rfl ?_) (λhc=> ?_)
 .rintro⟨N,_⟩;have:F.length=0:=by rw[<-a2];simpa using hc
  exact N (qg this)
 .have B:F≠ []:=by
   intro he;subst he;rw[a2]at hc;simp at hc
  refine⟨_,Zeg hr 93,Zf (λC=>L _ rfl ?_) (λC=> ?_)⟩
  .rintro⟨_,N⟩;rw[N]at C;simp at C
  .have a0:s[i]? =some 93:=by simpa using C
   have a6:=(qb.1 a0).1;simp only[setS,B,a0,ne_eq,not_false_eq_true,and_self,vG]at Z;refine Zj [0,3] ?_;refine ZE UK (loc:=UY.loc 134) 100 [2] ?_;rw[show pick [0,2,3] [0,3] [V.p (some (d,0)),V.undef,V.sl a l c k]= [V.p (some (d,0)),V.sl a l c k] by rfl,ZK2];obtain⟨h2,q1,q2,z⟩:=hr.s1 (i+1);refine⟨_,hr.c1,h2,by rw[Ze om];exact q1,finC rr rfl ?_⟩;subst Z;have a5:=X.fr (h':=h2) z.1 (λj E hl=>z.2 j hl (λe=>by have:=g j E;have:=r.lt;omega));obtain⟨D,hz,hD⟩:=a5.afterZ dc VO;have a4: ∀j,j∈D->h.nx<=j:=λj E=>g j (hD j E);refine⟨D,_, .inl (.frz _ _ hz),rfl,⟨?_,by rw[Qt];exact q2.lt⟩,?_⟩
   .rw[Xw,uE (λhm=>by have:=a4 d hm;have:=r.lt;omega)];exact q2.get
   .have f:=G.trans z;exact⟨by rw[Qt];exact f.1,λj E hn=>by rw[Xw,uE (λhm=>by have:=a4 j hm;omega)];exact f.2 j E hn⟩
end Go.Y
