/- A part of the proof. -/
import Derived.Test.YteennilbmmlikaaGreatDoorYTryzP
import Derived.Test.YteennilbmmlikaaGreatDoorYLoop
import Derived.Test.YteennilbmmlikaaGreatDoorYFrz
import Derived.Test.YteennilbmmlikaaGreatDoorGSortK
namespace Go.Y
set_option maxRecDepth 1000000
set_option maxHeartbeats 0
noncomputable def Tryh.Y:YP:=⟨Go.Proofs.Tryz.prog,Tryz.tys,Tryz.locs.set 124 [],Tryz.modes,[182,5],[(185,1),(197,2)],[]⟩
theorem Tryh.Yok:YOK Tryh.Y:=Zc3 (by kernel_rfl) Tryz.extok
end Go.Y
namespace Go.Y
open Go.Proofs
set_option maxRecDepth 1000000
set_option maxHeartbeats 0
theorem ZJn{a n0 h}(K):CP UY 43 (flat (Za Tryz.f43)) (J a n0 none::Rp 21) h [2,3] K=(If ((↑n0:Int)==(0:Int)) (∃b,(PCon UY 29 [.agg R0] fun v=>v=.b b)∧If (!b) (K .ret 22 [.lb R0,I 2] h) (K .ret 22 [.lb R0,I 0] h)) (If ((↑n0:Int)==(1:Int)) (((0:Int)<=(0:Int)∧(0:Int)<(n0:Int))∧ ∃b c d e f g i j l m n,Zo 9 a=some (R9 b c d e f g i j l m n)∧ ∃o,(PCon UY 29 [.agg (R9 b c d e f g i j l m n)] fun v=>v=.b o)∧If (!o) (K .ret 22 [.lb R0,I 2] h) (K .ret 22 [.lb (R9 b c d e f g i j l m n),I 0] h)) (∃b,(PCon UY 29 [.agg (R9 4 0 0 0 0 a n0 none 0 0 0)] fun v=>v=.b b)∧If (!b) (K .ret 22 [.lb R0,I 2] h) (K .ret 22 [.lb (R9 4 0 0 0 0 a n0 none 0 0 0),I 0] h)))):=by kernel_rfl
theorem ZJo{s0 h}(K):CP UY 44 (pre (flat (Za Tryz.f44))) (.s s0::Rp 23) h [0,3,6,7] K=(K .normal 24 [.s s0,S0,I (↑s0.length:Int),I 0] h):=by kernel_rfl
theorem ZJp{s0 a3 l3 c3 k3 x7 h}(K):CP UY 44 (flat (Zx (post (flat (Za Tryz.f44))))) (MZ 24 [0,3,6,7] [.s s0,S a3 l3 c3 k3,I (↑s0.length:Int),I x7]) h [0,3,6,7] K=(If (ltI x7 (↑s0.length:Int)) (∃a,((0:Int)<=x7∧s0[x7.toNat]? =some a)∧ ∃b,((0:Int)<=x7∧s0[x7.toNat]? =some b)∧ ∃c d e f g j l m n o p,(PCon UY 94 [J [.i .u8 (↑a.toNat:Int),.i .u8 (↑b.toNat:Int)] 1 (some 1)] fun(v:V)=>v=.agg (R9 c d e f g j l m n o p))∧ ∃q r t u w,Zf UY h 26 26 (S a3 l3 c3 k3) (J (R9 c d e f g j l m n o p) 1 (some 1))=some (S q r t u,w)∧K .normal 24 [.s s0,S q r t u,I (↑s0.length:Int),I (IntKind.i64.wrap (x7+(1:Int)))] w) (K (.exit 0) 24 [.s s0,S a3 l3 c3 k3,I (↑s0.length:Int),I x7] h)):=by kernel_rfl
theorem ZJq{a3 l3 c3 k3 h}(K):CP UY 44 ((post (flat (Za Tryz.f44))).drop 1) (MZ 24 [3] [S a3 l3 c3 k3]) h [2] K=(K .ret 24 [S a3 l3 c3 k3] h):=by kernel_rfl
theorem ZJr{a n0 h}(K):CP UY 49 (pre (flat (Za Tryz.f49))) (J a n0 none::Rp 47) h [3,6,7,8] K=(K .normal 48 [S0,J a n0 none,I (n0:Int),I 0] h):=by kernel_rfl
theorem ZJs{d n0 e f g j b h}(K):CP UY 49 (flat (Zx (post (flat (Za Tryz.f49))))) (MZ 48 [3,6,7,8] [S e f g j,J d n0 none,I (n0:Int),I b]) h [3,6,7,8] K=(If (ltI b n0) ((0<=b∧b<n0)∧ ∃a c l m n,Zo 3 (List.drop (b.toNat*3) d)=some [I a,.i .u8 c,J l m n]∧If (a==(0:Int)) (∃o p q r s t u w x y z,(PCon UY 94 [J [.i .u8 c,.i .u8 c] 1 (some 1)] fun(v:V)=>v=.agg (R9 o p q r s t u w x y z))∧ ∃a0 a1 a2 a3 a4,Zf UY h 26 26 (S e f g j) (J (R9 o p q r s t u w x y z) 1 (some 1))=some (S a0 a1 a2 a3,a4)∧K .normal 48 [S a0 a1 a2 a3,J d n0 none,I (n0:Int),I (IntKind.i64.wrap (b+(1:Int)))] a4) (If (a==(1:Int)) (∃o p q r s t u w x y z,(PCon UY 100 [] fun(v:V)=>v=.agg (R9 o p q r s t u w x y z))∧ ∃a0 a1 a2 a3 a4,Zf UY h 26 26 (S e f g j) (J (R9 o p q r s t u w x y z) 1 (some 1))=some (S a0 a1 a2 a3,a4)∧K .normal 48 [S a0 a1 a2 a3,J d n0 none,I (n0:Int),I (IntKind.i64.wrap (b+(1:Int)))] a4) (If (a==(2:Int)) (∃o p q r s t u w x y z,(PCon UY 53 [] fun(v:V)=>v=.agg (R9 o p q r s t u w x y z))∧ ∃a0 a1 a2 a3 a4,Zf UY h 26 26 (S e f g j) (J (R9 o p q r s t u w x y z) 1 (some 1))=some (S a0 a1 a2 a3,a4)∧K .normal 48 [S a0 a1 a2 a3,J d n0 none,I (n0:Int),I (IntKind.i64.wrap (b+(1:Int)))] a4) (If (a==(3:Int)) (∃o p q r s t u w x y z,(PCon UY 94 [J l m n] fun(v:V)=>v=.agg (R9 o p q r s t u w x y z))∧ ∃a0 a1 a2 a3 a4,Zf UY h 26 26 (S e f g j) (J (R9 o p q r s t u w x y z) 1 (some 1))=some (S a0 a1 a2 a3,a4)∧K .normal 48 [S a0 a1 a2 a3,J d n0 none,I (n0:Int),I (IntKind.i64.wrap (b+(1:Int)))] a4) (K .normal 48 [S e f g j,J d n0 none,I (n0:Int),I (IntKind.i64.wrap (b+(1:Int)))] h))))) (K (.exit 0) 48 [S e f g j,J d n0 none,I (n0:Int),I b] h)):=by kernel_rfl
theorem ZJt{a b c d h}(K):CP UY 49 ((post (flat (Za Tryz.f49))).drop 1) (MZ 48 [3] [S a b c d]) h [2] K=(K .ret 48 [S a b c d] h):=by kernel_rfl
theorem ZJu{h}(K):CP UY 53 (flat (Za Tryz.f53)) (Rp 4) h [0] K=(∃a b c d e f g i j l m,(PCon UY 100 [] fun(v:V)=>v=.agg (R9 a b c d e f g i j l m))∧K .ret 4 [.lb [I 6,U 0,U 0,U 0,U 0,J (R9 a b c d e f g i j l m) 1 (some 1),I 0,I (-1),I 0]] h):=by kernel_rfl
theorem ZEu{h}(K):CP UY 100 (flat (Za Tryz.f100)) (Rp 4) h [0] K=(∃a b c d e f g j l m n,(PCon UY 94 [J [.i .u8 0,.i .u8 255] 1 (some 1)] fun(v:V)=>v=.agg (R9 a b c d e f g j l m n))∧K .ret 4 [.lb (R9 a b c d e f g j l m n)] h):=by kernel_rfl
theorem ZJv{s0 h}(K):CP UY 16 (flat (Za Tryz.f16)) (.s s0::Rp 8) h [2,3] K=(∃a b c,(PCon UY 44 [.s s0] fun v=>v=J a b c)∧Con UY 43 [J a b c] h fun(v:V) (h':Heap)=> ∃d e f g i j l m n o p q,v=.tup [.agg (R9 d e f g i j l m n o p),I q]∧K .ret 9 [.lb (R9 d e f g i j l m n o p),I q] h'):=by kernel_rfl
theorem ZJw{a n0 h}(K):CP UY 18 (flat (Za Tryz.f18)) (J a n0 none::Rp 12) h [2,3] K=(∃b,(PCon UY 48 [J a n0 none] fun v=>v=.b b)∧If (!b) (K .ret 13 [.lb R0,I 5] h) (∃c d e,(PCon UY 49 [J a n0 none] fun v=>v=J c d e)∧Con UY 43 [J c d e] h fun(v:V) (h':Heap)=> ∃f g i j l m n o p q r s,v=.tup [.agg (R9 f g i j l m n o p q r),I s]∧K .ret 13 [.lb (R9 f g i j l m n o p q r),I s] h')):=by kernel_rfl
theorem ZJx{d e h}(K):CP UY 20 (flat (Za Tryz.f20)) (.agg [I d,.s e]::Rp 64) h [2,3] K=(∃a,(PCon UY 52 [.agg [I d,.s e]] fun v=>v=.b a)∧If (!a) (K .ret 65 [.lb R0,I 5] h) (∃b c f g i j l m n o p,(PCon UY 53 [] fun(v:V)=>v=.agg (R9 b c f g i j l m n o p))∧If (d==(0:Int)) (∃q r t,(PCon UY 44 [.s e] fun v=>v=J q r t)∧ ∃u w x y z,Zf UY (h.push (YObj.arr (R9 b c f g i j l m n o p) true)) 26 26 (S (some (h.nx,0)) 1 (some 1) 9) (J q r t)=some (S u w x y,z)∧ ∃a0 a1 a2 a3 a4 a5 a6 a7 a8 a9 b0,(PCon UY 53 [] fun(v:V)=>v=.agg (R9 a0 a1 a2 a3 a4 a5 a6 a7 a8 a9 b0))∧ ∃b1 b2 b3 b4 b5,Zf UY z 26 26 (S u w x y) (J (R9 a0 a1 a2 a3 a4 a5 a6 a7 a8 a9 b0) 1 (some 1))=some (S b1 b2 b3 b4,b5)∧Con UY 43 [S b1 b2 b3 b4] b5 fun(v:V) (h':Heap)=> ∃b6 b7 b8 b9 c0 c1 c2,∃c3,∃c4,∃c5,∃c6,∃c7,v=.tup [.agg (R9 b6 b7 b8 b9 c0 c1 c2 c3 c4 c5 c6),I c7]∧K Out.ret 65 [.lb (R9 b6 b7 b8 b9 c0 c1 c2 c3 c4 c5 c6),I c7] h') (If (d==(1:Int)) (∃q r t u w,(PCon UY 54 [.s e] fun(v:V)=>v=.tup [J q r t,I u,I w])∧ ∃x y z,(PCon UY 49 [J q r t] fun(v:V)=>v=J x y z)∧ ∃a0 a1 a2 a3 a4,Zf UY (h.push (YObj.arr (R9 b c f g i j l m n o p) true)) 26 26 (S (some (h.nx,0)) 1 (some 1) 9) (J x y z)=some (S a0 a1 a2 a3,a4)∧ ∃a5 a6 a7 a8 a9 b0 b1 b2 b3 b4 b5,(PCon UY 53 [] fun(v:V)=>v=.agg (R9 a5 a6 a7 a8 a9 b0 b1 b2 b3 b4 b5))∧ ∃b6 b7 b8 b9 c0,Zf UY a4 26 26 (S a0 a1 a2 a3) (J (R9 a5 a6 a7 a8 a9 b0 b1 b2 b3 b4 b5) 1 (some 1))=some (S b6 b7 b8 b9,c0)∧Con UY (43:Nat) [S b6 b7 b8 b9] c0 fun(v:V) (h':Heap)=> ∃c1,∃c2,∃c3,∃c4,∃c5,∃c6,∃c7,∃c8,∃c9,∃d0,∃d1,∃d2,v=.tup [.agg (R9 c1 c2 c3 c4 c5 c6 c7 c8 c9 d0 d1),I d2]∧K Out.ret 65 [.lb (R9 c1 c2 c3 c4 c5 c6 c7 c8 c9 d0 d1),I d2] h') (If (d==(2:Int)) (∃q r t u w x y z a0 a1 a2 a3 a4,(PCon UY 55 [.s e] fun(v:V)=>v=.tup [.agg (R9 q r t u w x y z a0 a1 a2),I a3,I a4])∧ ∃a5,(PCon UY 56 [.agg (R9 q r t u w x y z a0 a1 a2)] fun v=>v=.b a5)∧If a5 (K .ret 65 [.lb R0,I 5] (h.push (YObj.arr (R9 b c f g i j l m n o p) true))) (∃a6 a7 a8 a9 b0 b1 b2 b3 b4 b5 b6,(PCon UY 57 [.agg (R9 q r t u w x y z a0 a1 a2)] fun(v:V)=>v=.agg (R9 a6 a7 a8 a9 b0 b1 b2 b3 b4 b5 b6))∧ ∃b7,∃b8 b9 c0 c1,Zf UY (h.push (YObj.arr (R9 b c f g i j l m n o p) true)) 26 26 (S (some (h.nx,0)) 1 (some 1) 9) (J [I (7:Int),U (0:Int),U (0:Int),U (0:Int),U (0:Int),J (R9 a6 a7 a8 a9 b0 b1 b2 b3 b4 b5 b6) 1 (some 1),I (0:Int),I (0:Int),I (1:Int)] 1 (some 1))=some (S b7 b8 b9 c0,c1)∧ ∃c2,∃c3,∃c4,∃c5,∃c6,∃c7,∃c8,∃c9,∃d0,∃d1,∃d2,(PCon UY (53:Nat) [] fun(v:V)=>v=.agg (R9 c2 c3 c4 c5 c6 c7 c8 c9 d0 d1 d2))∧ ∃d3,∃d4,∃d5,∃d6,∃d7,Zf UY c1 26 26 (S b7 b8 b9 c0) (J (R9 c2 c3 c4 c5 c6 c7 c8 c9 d0 d1 d2) 1 (some 1))=some (S d3 d4 d5 d6,d7)∧Con UY (43:Nat) [S d3 d4 d5 d6] d7 fun(v:V) (h':Heap)=> ∃d8,∃d9,∃e0,∃e1,∃e2,∃e3,∃e4,∃e5,∃e6,∃e7,∃e8,∃e9,v=.tup [.agg (R9 d8 d9 e0 e1 e2 e3 e4 e5 e6 e7 e8),I e9]∧K Out.ret 65 [.lb (R9 d8 d9 e0 e1 e2 e3 e4 e5 e6 e7 e8),I e9] h')) (∃q r t u w x y z a0 a1 a2,(PCon UY 53 [] fun(v:V)=>v=.agg (R9 q r t u w x y z a0 a1 a2))∧ ∃a3 a4 a5 a6 a7,Zf UY (h.push (YObj.arr (R9 b c f g i j l m n o p) true)) 26 26 (S (some (h.nx,0)) 1 (some 1) 9) (J (R9 q r t u w x y z a0 a1 a2) 1 (some 1))=some (S a3 a4 a5 a6,a7)∧Con UY 43 [S a3 a4 a5 a6] a7 fun(v:V) (h':Heap)=> ∃a8 a9 b0 b1 b2 b3 b4 b5 b6 b7 b8 b9,v=.tup [.agg (R9 a8 a9 b0 b1 b2 b3 b4 b5 b6 b7 b8),I b9]∧K Out.ret 65 [.lb (R9 a8 a9 b0 b1 b2 b3 b4 b5 b6 b7 b8),I b9] h'))))):=by kernel_rfl
theorem ZEv{a n0 h}(K):CP Tryh.Y 94 (pre (flat (Za Tryz.f94))) (J a n0 none::Rp 36) h [2,3,8,9,10] K=(∃b,Zj (h.pushT (Tryh.Y.tag (28:Nat)) (YObj.arr [I 0,U 0,U 0,U 0,U 0,S none (0:Nat) (some (0:Nat)) (0:Nat),I 0,I 0,I 0] true)) h.nx 0 [I 1,U 0,U 0,U 0,U 0,S0,I 0,I 0,I 0]=some b∧K .normal 37 [.lb R0, .p (some (h.nx,0)),J a n0 none,I (n0:Int),I 0] b):=by kernel_rfl
theorem ZEw{b n0 c a h}(K):CP Tryh.Y 94 (pre (flat (Zx (post (flat (Za Tryz.f94)))))) (MZ 37 [2,3,8,9,10] [.lb R0,.p (some (c,0)),J b n0 none,I (n0:Int),I a]) h [2,3,8,9,10] K=(If (ltI a n0) (K .normal 37 [.lb R0, .p (some (c,0)),J b n0 none,I (n0:Int),I a] h) (K (.exit 0) 37 [.lb R0, .p (some (c,0)),J b n0 none,I (n0:Int),I a] h)):=by kernel_rfl
theorem ZEx{b n0 c a h}(K):CP Tryh.Y 94 (pre (flat (Xj (post (flat (Zx (post (flat (Za Tryz.f94))))))))) (MZ 37 [2,3,8,9,10] [.lb R0,.p (some (c,0)),J b n0 none,I (n0:Int),I a]) h [2,3,5,6,8,9,10] K=((0<=a∧a<n0)∧ ∃d e,Zo 2 (List.drop (a.toNat*2) b)=some [.i .u8 d,.i .u8 e]∧K .normal 37 [.lb R0, .p (some (c,0)), .lb [.i .u8 d, .i .u8 e],I (IntKind.i64.wrap d),J b n0 none,I (n0:Int),I a] h):=by kernel_rfl
theorem ZEy{d n0 b e f c a h}(K):CP Tryh.Y 94 (flat (Zx (post (flat (Xj (post (flat (Zx (post (flat (Za Tryz.f94))))))))))) (MZ 37 [2,3,5,6,8,9,10] [.lb R0,.p (some (b,0)),.lb [.i .u8 f,.i .u8 c],I a,J d n0 none,I (n0:Int),I e]) h [2,3,5,6,8,9,10] K=(If (leI a (IntKind.i64.wrap c)) ((0:Int)<=(6:Int)∧((0:Int)<=a.fdiv ((2:Int) ^ min (Int.toNat (6:Int)) IntKind.i64.bits)∧a.fdiv ((2:Int) ^ min (Int.toNat (6:Int)) IntKind.i64.bits)<(↑(4:Nat):Int))∧ ∃g,Zb h b ((0:Nat)+(1:Nat)+(a.fdiv ((2:Int) ^ min (Int.toNat (6:Int)) IntKind.i64.bits)).toNat*1) 1=some [U g]∧(0:Int)<=IntKind.i64.wrap (↑(BitVec.ofInt IntKind.i64.bits a&&&BitVec.ofInt IntKind.i64.bits (63:Int)).toNat:Int)∧((0:Int)<=a.fdiv ((2:Int) ^ min (Int.toNat (6:Int)) IntKind.i64.bits)∧a.fdiv ((2:Int) ^ min (Int.toNat (6:Int)) IntKind.i64.bits)<(↑(4:Nat):Int))∧ ∃j,Zj h b ((0:Nat)+(1:Nat)+(a.fdiv ((2:Int) ^ min (Int.toNat (6:Int)) IntKind.i64.bits)).toNat*1) [U (IntKind.u64.wrap (↑(BitVec.ofInt IntKind.u64.bits g|||BitVec.ofInt IntKind.u64.bits (IntKind.u64.wrap ((1:Int)*(2:Int) ^ min (IntKind.i64.wrap (↑(BitVec.ofInt IntKind.i64.bits a&&&BitVec.ofInt IntKind.i64.bits (63:Int)).toNat:Int)).toNat IntKind.u64.bits))).toNat:Int))]=some j∧K .normal 37 [.lb R0, .p (some (b,0)), .lb [.i .u8 f, .i .u8 c],I (IntKind.i64.wrap (a+(1:Int))),J d n0 none,I (n0:Int),I e] j) (K (.exit 2) 37 [.lb R0, .p (some (b,0)), .lb [.i .u8 f, .i .u8 c],I a,J d n0 none,I (n0:Int),I e] h)):=by kernel_rfl
theorem ZEz{a n0 b c h}(K):CP Tryh.Y 94 ((post (flat (Zx (post (flat (Za Tryz.f94)))))).drop 1) (MZ 37 [2,3,8,9,10] [.lb R0,.p (some (b,0)),J a n0 none,I (n0:Int),I c]) h [2,3,8,9,10] K=(K .normal 37 [.lb R0, .p (some (b,0)),J a n0 none,I (n0:Int),I (IntKind.i64.wrap (c+(1:Int)))] h):=by kernel_rfl
theorem ZE0{b h}(K):CP Tryh.Y 94 ((post (flat (Za Tryz.f94))).drop 1) (MZ 37 [2,3] [.lb R0,.p (some (b,0))]) h [2] K=(∃a c d e f g i j l m n o,Zb h b 0 9=some [I a,U c,U d,U e,U f,S g i j l,I m,I n,I o]∧K .ret 37 [.lb [I a,U c,U d,U e,U f,S g i j l,I m,I n,I o]] h):=by kernel_rfl
theorem ZE1(id:Nat)(h:Heap)(K:KT):(Zc UY (UY.loc 133) 100 ((flat (Za Tryz.f133))) ⟨(.p (some (id,0))::List.replicate 32 .undef),[],h⟩ (VQ [2] K))=(∃n,Zb h id 1 1=some [I n]∧ ∃s,Zb h id 0 1=some [.s s]∧If (leI (↑s.length:Int) n) (∃h_1,Zj h id 2 [.b true]=some h_1∧K .ret 33 [.i .u8 0] h_1) (∃n,Zb h id 1 1=some [I n]∧ ∃h_1,Zj h id 1 [I (IntKind.i64.wrap (n+1))]=some h_1∧ ∃s,Zb h_1 id 0 1=some [.s s]∧ ∃n,Zb h_1 id 1 1=some [I n]∧ ∃c,(0<=IntKind.i64.wrap (n-1)∧s[(IntKind.i64.wrap (n-1)).toNat]? =some c)∧K .ret 33 [.i .u8 (↑c.toNat:Int)] h_1)):=by kernel_rfl
theorem ZE2(id:Nat)(c:Int)(h:Heap)(K:KT):(Zc UY (UY.loc 168) 100 ((flat (Za Tryz.f168))) ⟨(.p (some (id,0))::.i .u8 c::List.replicate 26 .undef),[],h⟩ (VQ [4] K))=(∃n,Zb h id 1 1=some [I n]∧ ∃s,Zb h id 0 1=some [.s s]∧If (ltI n (↑s.length:Int)) (∃s,Zb h id 0 1=some [.s s]∧ ∃n,Zb h id 1 1=some [I n]∧ ∃c_1,(0<=n∧s[n.toNat]? =some c_1)∧K .ret 28 [.b ((↑c_1.toNat:Int)==c)] h) (K .ret 28 [.b false] h)):=by kernel_rfl
theorem ZE3(id:Nat)(h:Heap)(K:KT):(Zc UY (UY.loc 186) 100 ((flat (Za Tryz.f186))) ⟨(.p (some (id,0))::List.replicate 26 .undef),[],h⟩ (VQ [2] K))=(∃b,(∃h1,(Con UY 168 [.p (some (id,0)),.i .u8 93] h fun(v:V) (h':Heap)=>v=.b b∧h'=h1)∧(∀(i:Nat),i<h.nx->h1.get i=h.get i)∧ ∀(p:Nat×TypeId),List.Mem p h.tg->List.Mem p h1.tg)∧If b (∃h_1,Zj h id 2 [.b true]=some h_1∧K .ret 27 [.i .u8 0] h_1) (∃b,(∃h1,(Con UY 168 [.p (some (id,0)),.i .u8 45] h fun(v:V) (h':Heap)=>v=.b b∧h'=h1)∧(∀(i:Nat),i<h.nx->h1.get i=h.get i)∧ ∀(p:Nat×TypeId),List.Mem p h.tg->List.Mem p h1.tg)∧If b (∃h_1,Zj h id 2 [.b true]=some h_1∧K .ret 27 [.i .u8 0] h_1) (Con UY 133 [.p (some (id,0))] h fun(v:V) (h':Heap)=> ∃n,v=.i .u8 n∧If (n==92) (∃b,Zb h' id 2 1=some [.b b]∧If (!b) (Con UY 133 [.p (some (id,0))] h' fun(v:V) (h':Heap)=> ∃n,v=.i .u8 n∧K .ret 27 [.i .u8 n] h') (K .ret 27 [.i .u8 n] h')) (K .ret 27 [.i .u8 n] h')))):=by kernel_rfl
theorem ZE4(id:Nat)(h:Heap)(K:KT):(Zc UY (UY.loc 169) 100 ((flat (Za Tryz.f169))) ⟨(.p (some (id,0))::List.replicate 52 .undef),[],h⟩ (VQ [2] K))=(Con UY 186 [.p (some (id,0))] h fun(v:V) (h':Heap)=> ∃n,v=.i .u8 n∧ ∃b,Zb h' id 2 1=some [.b b]∧If b (K .ret 53 [.lb [.i .u8 n, .i .u8 n]] h') (∃b,(∃h1,(Con UY 168 [.p (some (id,0)),.i .u8 45] h' fun(v:V) (h':Heap)=>v=.b b∧h'=h1)∧(∀(i:Nat),i<h'.nx->h1.get i=h'.get i)∧ ∀(p:Nat×TypeId),List.Mem p h'.tg->List.Mem p h1.tg)∧If (!b) (K .ret 53 [.lb [.i .u8 n, .i .u8 n]] h') (∃n_1,Zb h' id 1 1=some [I n_1]∧ ∃h,Zj h' id 1 [I (IntKind.i64.wrap (n_1+1))]=some h∧Con UY 186 [.p (some (id,0))] h fun(v:V) (h':Heap)=> ∃n_2,v=.i .u8 n_2∧ ∃b,Zb h' id 2 1=some [.b b]∧If (!b) (If (ltI n_2 n) (∃h,Zj h' id 2 [.b true]=some h∧ ∃n_3,Zb h id 1 1=some [I n_3]∧ ∃h_1,Zj h id 1 [I (IntKind.i64.wrap (n_3-1))]=some h_1∧K .ret 53 [.lb [.i .u8 n, .i .u8 n_2]] h_1) (K .ret 53 [.lb [.i .u8 n, .i .u8 n_2]] h')) (K .ret 53 [.lb [.i .u8 n, .i .u8 n_2]] h')))):=by kernel_rfl
theorem ZE5(id:Nat)(h:Heap)(K:KT):(Zc UY (UY.loc 134) 100 (pre (flat (Za Tryz.f134))) ⟨(.p (some (id,0))::List.replicate 28 .undef),[],h⟩ (VQ [0,3] K))=(K .normal 29 [.p (some (id,0)),S0] h):=by kernel_rfl
theorem ZE6(id:Nat)(a3:Option (Nat×Nat))(l3:Nat)(c3:Option Nat)(k3:Nat)(h:Heap)(K:KT):(Zc UY (UY.loc 134) 100 ((flat (Zx (post (flat (Za Tryz.f134)))))) ⟨mk 29 (([0,3]:List Nat).zip [.p (some (id,0)),S a3 l3 c3 k3]),[],h⟩ (VQ [0,2,3] K))=(If ((↑l3:Int)==0) (Con UY 169 [.p (some (id,0))] h fun(v:V) (h':Heap)=> ∃n n_1,v=.agg [.i .u8 n,.i .u8 n_1]∧ ∃a l c k h,Zf UY h' 57 57 (S a3 l3 c3 k3) (J [.i .u8 n,.i .u8 n_1] 1 (some 1))=some (S a l c k,h)∧ ∃b,Zb h id 2 1=some [.b b]∧If b (K .ret 29 [.p (some (id,0)),S0,S a l c k] h) (K .normal 29 [.p (some (id,0)),Ud,S a l c k] h)) (∃b,(∃h1,(Con UY 168 [.p (some (id,0)),.i .u8 93] h fun(v:V) (h':Heap)=>v=.b b∧h'=h1)∧(∀(i:Nat),i<h.nx->h1.get i=h.get i)∧ ∀(p:Nat×TypeId),List.Mem p h.tg->List.Mem p h1.tg)∧If (!b) (Con UY 169 [.p (some (id,0))] h fun(v:V) (h':Heap)=> ∃n n_1,v=.agg [.i .u8 n,.i .u8 n_1]∧ ∃a l c k h,Zf UY h' 57 57 (S a3 l3 c3 k3) (J [.i .u8 n,.i .u8 n_1] 1 (some 1))=some (S a l c k,h)∧ ∃b,Zb h id 2 1=some [.b b]∧If b (K .ret 29 [.p (some (id,0)),S0,S a l c k] h) (K .normal 29 [.p (some (id,0)),Ud,S a l c k] h)) (K (.exit 0) 29 [.p (some (id,0)),Ud,S a3 l3 c3 k3] h))):=by kernel_rfl
theorem ZE7(id:Nat)(a3:Option (Nat×Nat))(l3:Nat)(c3:Option Nat)(k3:Nat)(h:Heap)(K:KT):(Zc UY (UY.loc 134) 100 (((post (flat (Za Tryz.f134))).drop 1)) ⟨mk 29 (([0,3]:List Nat).zip [.p (some (id,0)),S a3 l3 c3 k3]),[],h⟩ (VQ [2] K))=(∃n,Zb h id 1 1=some [I n]∧ ∃h_1,Zj h id 1 [I (IntKind.i64.wrap (n+1))]=some h_1∧K .ret 29 [S a3 l3 c3 k3] h_1):=by kernel_rfl
theorem ZE8(id:Nat)(h:Heap)(K:KT):(Zc UY (UY.loc 105) 100 ((flat (Za Tryz.f105))) ⟨(.p (some (id,0))::List.replicate 24 .undef),[],h⟩ (VQ [2] K))=(Con UY 133 [.p (some (id,0))] h fun(v:V) (h':Heap)=> ∃n,v=.i .u8 n∧If (n==42) (K .ret 25 [.lb [I 2, .i .u8 0,S0]] h') (If (n==63) (K .ret 25 [.lb [I 1, .i .u8 0,S0]] h') (If (n==91) (Con UY 134 [.p (some (id,0))] h' fun(v:V) (h':Heap)=> ∃cs l c,v=J cs l c∧K .ret 25 [.lb [I 3, .i .u8 0,J cs l c]] h') (If (n==92) (Con UY 133 [.p (some (id,0))] h' fun(v:V) (h':Heap)=> ∃n,v=.i .u8 n∧K .ret 25 [.lb [I 0, .i .u8 n,S0]] h') (K .ret 25 [.lb [I 0, .i .u8 n,S0]] h'))))):=by kernel_rfl
structure Rd(h:Heap)(id:Nat)(s:List UInt8)(i:Nat)(b:Bool):Prop where
 get:h.get id=some (.arr [.s s,I i, .b b] true)
 lt:id<h.nx

section
variable {h:Heap} {id:Nat} {s:List UInt8} {i:Nat} {b:Bool}
theorem Rd.c0(r:Rd h id s i b):Zb h id 0 1=some [.s s]:=by simp[Zb,r.get,Zo]
theorem Rd.c1(r:Rd h id s i b):Zb h id 1 1=some [I i]:=by simp[Zb,r.get,Zo]
theorem Rd.c2(r:Rd h id s i b):Zb h id 2 1=some [.b b]:=by simp[Zb,r.get,Zo]
theorem Rd.s1(r:Rd h id s i b)(j:Nat): ∃h1,Zj h id 1 [I j]=some h1∧Rd h1 id s j b∧FrO h id h1:=by
 refine⟨h.set id (some (.arr [.s s,I j, .b b] true)),?_,⟨by simp,r.lt⟩, .set _ _ _⟩
 simp[Zj,r.get,splice]
theorem Rd.s2(r:Rd h id s i b)(c:Bool): ∃h1,Zj h id 2 [.b c]=some h1∧Rd h1 id s i c∧FrO h id h1:=by
 refine⟨h.set id (some (.arr [.s s,I i, .b c] true)),?_,⟨by simp,r.lt⟩, .set _ _ _⟩
 simp[Zj,r.get,splice]
end

def RdQ(h:Heap)(id:Nat)(s:List UInt8)(v0:V)(j:Nat)(c:Bool)(v:V)(h':Heap):Prop:=v=v0∧Rd h' id s j c∧FrO h id h'

theorem Zcq{h:Heap}{id:Nat}{s:List UInt8}{i:Nat}{b:Bool}(r:Rd h id s i b)(hs:s.length<2 ^ 30)(hi:i<=s.length):
  Con UY 133 [.p (some (id,0))] h (RdQ h id s (.i .u8 (Zai s i b).1) (Zai s i b).2.1 (Zai s i b).2.2):=by
 refine Zu UK (fn:=Tryz.f133) (ZB UK (loc:=UY.loc 133) 100 [2] ?_)
 rw[show(⟨[.p (some (id,0))]++List.replicate (Tryz.f133.ntmps- [V.p (some (id,0))].length) .undef,[],h⟩:St)=⟨.p (some (id,0))::List.replicate 32 .undef,[],h⟩ by rfl,ZE1]
 refine⟨_,r.c1,_,r.c0,Wx (fun hle=> ?_) (fun hlt=> ?_)⟩
 ·have:s[i]? =none:=qq (by omega)
  obtain⟨h1,g1,g2,g3⟩:=r.s2 true
  refine⟨h1,g1,finC (.inr rfl) rfl (.now ⟨?_,?_,g3⟩)⟩
  ·simp[Zai,this,V.plain]
  ·simpa[Zai,this]using g2
 ·have hlt':i<s.length:=by omega
  obtain⟨h1,g1,g2,g3⟩:=r.s1 (i+1)
  refine⟨_,r.c1,h1,by rw[Zh (by omega)];exact g1,_,g2.c0,_,g2.c1,s[i],?_,finC (.inr rfl) rfl (.now ⟨?_,?_,g3⟩)⟩
  ·rw[ZG (by omega) (by omega)]
   refine⟨by omega,?_⟩
   rw[show(((i+1:Nat):Int)-1).toNat=i by omega]
   simp[hlt']
  ·simp[Zai,hlt',V.plain]
  ·simpa[Zai,hlt']using g2

theorem Zcr{h:Heap}{id:Nat}{s:List UInt8}{i:Nat}{b:Bool}(r:Rd h id s i b)(c:UInt8):
  RCon UY 168 [.p (some (id,0)), .i .u8 (c.toNat:Nat)] h (.b (s[i]? ==some c)):=by
 refine⟨h,?_,fun _ _=>rfl,fun _ h=>h⟩
 refine Zu UK (fn:=Tryz.f168) (ZB UK (loc:=UY.loc 168) 100 [4] ?_)
 rw[show(⟨[.p (some (id,0)), .i .u8 (c.toNat:Nat)]++List.replicate (Tryz.f168.ntmps- [V.p (some (id,0)), .i .u8 (c.toNat:Nat)].length) .undef,[],h⟩:St)=⟨.p (some (id,0)):: .i .u8 (c.toNat:Nat)::List.replicate 26 .undef,[],h⟩ by rfl,ZE2]
 refine⟨_,r.c1,_,r.c0,XC (fun hlt=> ?_) (fun hge=> ?_)⟩
 ·have hlt':i<s.length:=by omega
  refine⟨_,r.c0,_,r.c1,s[i],⟨by omega,by simp[hlt']⟩,finC (.inr rfl) rfl (.now ⟨?_,rfl⟩)⟩
  rw[Zqn];simp[hlt',V.plain]
 ·have:s[i]? =none:=qq (by omega)
  refine finC (.inr rfl) rfl (.now ⟨?_,rfl⟩)
  simp[this,V.plain]

def endQ(r:Except Nat (Int×Nat))(h:Heap)(id:Nat)(s:List UInt8)(b:Bool)(v:V)(h':Heap):Prop:=match r with
 | .error e=> ∃n,v= .i .u8 n∧Rd h' id s e true∧FrO h id h'
 | .ok (c,j)=>v= .i .u8 c∧Rd h' id s j b∧FrO h id h'

theorem Zsc{h:Heap}{id:Nat}{s:List UInt8}{i:Nat}(r:Rd h id s i false)(hs:s.length<2 ^ 30)(hi:i<=s.length):
  Con UY 186 [.p (some (id,0))] h (endQ (endS s i) h id s false):=by
 refine Zu UK (fn:=Tryz.f186) (ZB UK (loc:=UY.loc 186) 100 [2] ?_)
 rw[show(⟨[.p (some (id,0))]++List.replicate (Tryz.f186.ntmps- [V.p (some (id,0))].length) .undef,[],h⟩:St)=⟨.p (some (id,0))::List.replicate 26 .undef,[],h⟩ by rfl,ZE3]
 have bad:(s[i]? =none∨s[i]? =some 93∨s[i]? =some 45)->endS s i= .error i:=by
  rintro(h|h|h)<;>simp[endS,h]
 have fail:(s[i]? =none∨s[i]? =some 93∨s[i]? =some 45)-> ∃h1,Zj h id 2 [.b true]=some h1∧Fin UY Tryz.f186 [2] (AfterZ (endQ (endS s i) h id s false)) .ret 27 [.i .u8 0] h1:=by
  intro hb
  obtain⟨h1,g1,g2,g3⟩:=r.s2 true
  refine⟨h1,g1,finC (.inr rfl) rfl (.now ?_)⟩
  rw[bad hb]
  exact⟨0,rfl,g2,g3⟩
 refine⟨_,Zcr r 93,Zg (fun hc=>fail (.inr (.inl (by simpa using hc)))) (fun hc1=> ?_)⟩
 refine⟨_,Zcr r 45,Zg (fun hc=>fail (.inr (.inr (by simpa using hc)))) (fun hc2=> ?_)⟩
 refine(Zcq r hs hi).mono fun v h' ⟨hv,g1,g2⟩=>⟨_,hv,?_⟩
 cases hsi:s[i]? with
 |none=>
  simp only[Zai,hsi]at g1 ⊢
  refine Zg (fun hc=>by simp at hc) (fun _=>finC (.inr rfl) rfl (.now ?_))
  rw[bad (.inl hsi)]
  exact⟨0,rfl,g1,g2⟩
 |some c=>
  rw[hsi]at hc1 hc2
  have n1:c≠93:=by simpa using hc1
  have n2:c≠45:=by simpa using hc2
  simp only[Zai,hsi]at g1 ⊢
  have hlt:=(qb.1 hsi).1
  rw[show(92:Int)=(((92:UInt8).toNat:Nat):Int) by decide,Zqn]
  refine Zg (fun hc=> ?_) (fun hc=> ?_)
  ·have hc:c=92:=by simpa using hc
   refine⟨_,g1.c2,?_⟩
   show Con UY 133 [.p (some (id,0))] h' _
   refine(Zcq g1 hs (by omega)).mono fun v h2 ⟨hv,q1,q2⟩=>⟨_,hv,finC (.inr rfl) rfl (.now ?_)⟩
   subst hc
   cases hs2:s[i+1]? with
   |none=>
    simp only[Zai,hs2]at q1 ⊢
    simp only[endS,hsi,hs2]
    exact⟨0,rfl,q1,g2.trans q2⟩
   |some d=>
    simp only[Zai,hs2]at q1 ⊢
    simp only[endS,hsi,hs2]
    exact⟨rfl,q1,g2.trans q2⟩
  ·have hc:c≠92:=by simpa using hc
   refine finC (.inr rfl) rfl (.now ?_)
   simp only[endS,hsi,n1,n2,hc,or_self,if_false]
   exact⟨rfl,g1,g2⟩
def ZJz(r:Except Nat (Span×Nat))(h:Heap)(id:Nat)(s:List UInt8)(v:V)(h':Heap):Prop:=match r with
 | .error e=> ∃x:Span,v= .agg (encS x)∧Rd h' id s e true∧FrO h id h'
 | .ok (x,j)=>v= .agg (encS x)∧Rd h' id s j false∧FrO h id h'

theorem Zu7{h:Heap}{id:Nat}{s:List UInt8}{i:Nat}(r:Rd h id s i false)(hs:s.length<2 ^ 30)(hi:i<=s.length):
  Con UY 169 [.p (some (id,0))] h (ZJz (XJ s i) h id s):=by
 refine Zu UK (fn:=Tryz.f169) (ZB UK (loc:=UY.loc 169) 100 [2] ?_)
 rw[show(⟨[.p (some (id,0))]++List.replicate (Tryz.f169.ntmps- [V.p (some (id,0))].length) .undef,[],h⟩:St)=⟨.p (some (id,0))::List.replicate 52 .undef,[],h⟩ by rfl,ZE4]
 refine(Zsc r hs hi).mono fun v h1 hq=> ?_
 cases he:endS s i with
 |error e=>
  rw[he]at hq
  obtain⟨n,hv,g1,g2⟩:=hq
  refine⟨n,hv,_,g1.c2,Zg (fun _=>finC (.inr rfl) rfl (.now ?_)) (fun hc=>by cases hc)⟩
  simp only[XJ,he]
  exact⟨⟨n,n⟩,rfl,g1,g2⟩
 |ok x=>
  obtain⟨lo,j⟩:=x
  rw[he]at hq
  obtain⟨hv,g1,g2⟩:=hq
  have hj:=WA he
  refine⟨lo,hv,_,g1.c2,Zg (fun hc=>by cases hc) (fun _=> ?_)⟩
  refine⟨_,Zcr g1 45,Zg (fun hc=> ?_) (fun hc=> ?_)⟩
  ·have hne: ¬(s[j]? =some 45):=by simpa using hc
   refine finC (.inr rfl) rfl (.now ?_)
   simp only[XJ,he,hne,if_false]
   exact⟨rfl,g1,g2⟩
  ·have heq:s[j]? =some 45:=by simpa using hc
   have hjl:=(qb.1 heq).1
   obtain⟨h2,q1,q2,q3⟩:=g1.s1 (j+1)
   refine⟨_,g1.c1,h2,by rw[Zh (by omega)];exact q1,?_⟩
   refine(Zsc q2 hs (by omega)).mono fun v h3 hq=> ?_
   have g23:=g2.trans q3
   cases he2:endS s (j+1) with
   |error e=>
    rw[he2]at hq
    obtain⟨n,hv2,p1,p2⟩:=hq
    refine⟨n,hv2,_,p1.c2,Zg (fun hc=>by cases hc) (fun _=>finC (.inr rfl) rfl (.now ?_))⟩
    simp only[XJ,he,heq,if_true,he2]
    exact⟨⟨lo,n⟩,rfl,p1,g23.trans p2⟩
   |ok y=>
    obtain⟨hi2,k⟩:=y
    rw[he2]at hq
    obtain⟨hv2,p1,p2⟩:=hq
    have hk:=WA he2
    refine⟨hi2,hv2,_,p1.c2,Zg (fun _=>XC (fun hlt=> ?_) (fun hge=> ?_)) (fun hc=>by cases hc)⟩
    ·obtain⟨h4,u1,u2,u3⟩:=p1.s2 true
     obtain⟨h5,w1,w2,w3⟩:=u2.s1 (k-1)
     refine⟨h4,u1,_,u2.c1,h5,by rw[ZG (by omega) (by omega),show((k:Int)-1)=((k-1:Nat):Int) by omega];exact w1,finC (.inr rfl) rfl (.now ?_)⟩
     simp only[XJ,he,heq,if_true,he2,hlt]
     exact⟨⟨lo,hi2⟩,rfl,w2,((g23.trans p2).trans u3).trans w3⟩
    ·refine finC (.inr rfl) rfl (.now ?_)
     have hn: ¬hi2<lo:=by omega
     simp only[XJ,he,heq,if_true,he2,hn,if_false]
     exact⟨rfl,p1,g23.trans p2⟩

def setQ(r:Except Nat (List Span×Nat))(h:Heap)(id:Nat)(s:List UInt8)(v:V)(h':Heap):Prop:=match r with
 | .error e=>v=lst encS []∧Rd h' id s e true∧FrO h id h'
 | .ok (l,j)=>v=lst encS l∧Rd h' id s j false∧FrO h id h'

def SetI(h0:Heap)(id:Nat)(s:List UInt8)(R:Except Nat (List Span×Nat))(m:Nat)(vs:List V)(h:Heap):Prop:=
 ∃(i:Nat) (out:List Span) (a:Option (Nat×Nat)) (l:Nat) (c:Option Nat) (k:Nat),vs= [.p (some (id,0)), .sl a l c k]∧Lst encS 2 h a l c k out∧(∀j,a=some (j,0)->h0.nx<=j)∧
  Rd h id s i false∧FrO h0 id h∧i<=s.length∧out.length<=i∧s.length-i<m∧setS m s i out=R

theorem Zzx{h:Heap}{id:Nat}{s:List UInt8}{i:Nat}(r:Rd h id s i false)(hs:s.length<2 ^ 28)(hi:i<=s.length):
  Con UY 134 [.p (some (id,0))] h (setQ (setS (s.length+1) s i []) h id s):=by
 refine Zu UK (fn:=Tryz.f134) ?_
 refine Xm UK (n:=29) (loc:=UY.loc 134) 100 [0,3] (by kernel_rfl) ?_
 rw[show(⟨[.p (some (id,0))]++List.replicate (Tryz.f134.ntmps- [V.p (some (id,0))].length) .undef,[],h⟩:St)=⟨.p (some (id,0))::List.replicate 28 .undef,[],h⟩ by rfl,ZE5]
 generalize hR:setS (s.length+1) s i []=R
 refine⟨rfl,ZL [0,3] [0,2,3] (SetI h id s R) (s.length+1) Zy ⟨i,[],none,0,some 0,0,rfl,Lst.nil _ _ _ _ _,by simp,r, .refl _ _,hi,by simp,by omega,hR⟩ ?_⟩
 rintro m vs h1 ⟨i,out,a,l,c,k,rfl,hL,hnew,hr,hfr,hi,hol,hm,hg⟩
 refine ZT UK (loc:=UY.loc 134) 100 [0,2,3] ?_
 rw[ZE6]
 obtain⟨m,rfl⟩: ∃m',m=m'+1:=⟨m-1,by omega⟩
 have hll:=hL.len
 have item: ∀(K:KT),K=XH UY 29 [0,2,3] [0,3] (SetI h id s R) (m+1) (Xa (post (flat (Za Tryz.f134)))) ((post (flat (Za Tryz.f134))).drop 1) (FinS UY Tryz.f134 (AfterZ (setQ R h id s)))->
   ¬(out≠ []∧s[i]? =some 93)->Con UY 169 [.p (some (id,0))] h1 fun v h'=> ∃n n_1,v= .agg [.i .u8 n, .i .u8 n_1]∧ ∃a' l' c' k' h'',Zf UY h' 57 57 (.sl a l c k) (.ts [.i .u8 n, .i .u8 n_1] 1 (some 1))=some (.sl a' l' c' k',h'')∧
   ∃b:Bool,Zb h'' id 2 1=some [.b b]∧If b (K .ret 29 [.p (some (id,0)), .sl none 0 (some 0) 0, .sl a' l' c' k'] h'') (K .normal 29 [.p (some (id,0)), .undef, .sl a' l' c' k'] h''):=by
  rintro K rfl hn
  refine(Zu7 hr (by omega) hi).mono fun v h2 hq=> ?_
  have hkeep:FrO h1 id h2-> ∀j,a=some (j,0)->j<h1.nx->h2.get j=h1.get j:=fun f j hj hl=>f.2 j hl (fun e=>by have:=hnew j hj;have:=r.lt;omega)
  have hne: ∀o,a≠some (id,o):=by
   intro o ho
   have h0:=hL.off ho
   subst h0
   have:=hnew id ho
   have:=r.lt
   omega
  simp only[setS,hn,if_false]at hg
  cases he:XJ s i with
  |error e=>
   rw[he]at hq hg
   obtain⟨x,rfl,g1,g2⟩:=hq
   obtain⟨a',l',c',k',h3,q1,q2,q3,j,q4,q5⟩:=Zg1 x (hL.fr g2.1 (hkeep g2)) (by omega)
   have g1':Rd h3 id s e true:=⟨by rw[q3.2 id g1.lt hne];exact g1.get,qv g1.lt q3.1⟩
   refine⟨_,_,rfl,a',l',c',k',h3,q1,true,g1'.c2,?_⟩
   refine Xv (.inr rfl) rfl ?_
   subst hg
   refine⟨[],_, .inl (.frz _ _ (.sln _ _ none (fun x hx=>by cases hx))),rfl,g1',?_⟩
   exact(hfr.trans g2).app (hL.fr g2.1 (hkeep g2)) hnew q3
  |ok y=>
   obtain⟨x,j⟩:=y
   rw[he]at hq hg
   have hj:=Zgt he
   obtain⟨rfl,g1,g2⟩:=hq
   obtain⟨a',l',c',k',h3,q1,q2,q3,jj,q4,q5⟩:=Zg1 x (hL.fr g2.1 (hkeep g2)) (by omega)
   have g1':Rd h3 id s j false:=⟨by rw[q3.2 id g1.lt hne];exact g1.get,qv g1.lt q3.1⟩
   refine⟨_,_,rfl,a',l',c',k',h3,q1,false,g1'.c2,rfl,m,by omega,j,out++ [x],a',l',c',k',rfl,q2,?_,g1',?_,hj.2,by simp;omega,by omega,hg⟩
   ·intro j' hj';rw[q4]at hj';cases hj'
    have:=(hfr.trans g2).1
    omega
   ·exact(hfr.trans g2).app (hL.fr g2.1 (hkeep g2)) hnew q3
 refine Zg (fun hc=>item _ rfl ?_) (fun hc=> ?_)
 ·rintro⟨h1,_⟩
  have:out.length=0:=by rw[<-hll];simpa using hc
  exact h1 (qg this)
 ·have hne:out≠ []:=by
   intro he;subst he;rw[hll]at hc;simp at hc
  refine⟨_,Zcr hr 93,Zg (fun hc2=>item _ rfl ?_) (fun hc2=> ?_)⟩
  ·rintro⟨_,h1⟩;rw[h1]at hc2;simp at hc2
  ·have h93:s[i]? =some 93:=by simpa using hc2
   have hil:=(qb.1 h93).1
   simp only[setS,hne,h93,ne_eq,not_false_eq_true,and_self,if_true]at hg
   refine Zi [0,3] ?_
   refine ZB UK (loc:=UY.loc 134) 100 [2] ?_
   rw[show pick [0,2,3] [0,3] [V.p (some (id,0)),V.undef,V.sl a l c k]= [V.p (some (id,0)),V.sl a l c k] by rfl,ZE7]
   obtain⟨h2,q1,q2,q3⟩:=hr.s1 (i+1)
   refine⟨_,hr.c1,h2,by rw[Zh (by omega)];exact q1,finC (.inr rfl) rfl ?_⟩
   subst hg
   have hL2:=hL.fr (h':=h2) q3.1 (fun j hj hl=>q3.2 j hl (fun e=>by have:=hnew j hj;have:=r.lt;omega))
   obtain⟨D,hz,hD⟩:=hL2.afterZ (by decide) Zah
   have hDn: ∀j,j∈D->h.nx<=j:=fun j hj=>hnew j (hD j hj)
   refine⟨D,_, .inl (.frz _ _ hz),rfl,⟨?_,by rw[WN];exact q2.lt⟩,?_⟩
   ·rw[Qr,if_neg (fun hm=>by have:=hDn id hm;have:=r.lt;omega)];exact q2.get
   ·have f:=hfr.trans q3
    exact⟨by rw[WN];exact f.1,fun j hj hn=>by rw[Qr,if_neg (fun hm=>by have:=hDn j hm;omega)];exact f.2 j hj hn⟩
end Go.Y
