/- A part of the proof. -/
import Derived.Test.YteennilbmmlikaaGreatDoorYTryzP
import Derived.Test.YteennilbmmlikaaGreatDoorYLoop
import Derived.Test.YteennilbmmlikaaGreatDoorGTextE
import Derived.Test.YteennilbmmlikaaGreatDoorGReC
namespace Go.Y
open Go.Proofs
set_option maxRecDepth 1000000
set_option maxHeartbeats 0
theorem ZEg{x0 h}(K):CP UY 195 (flat (Za Tryz.f195)) (.i .u8 x0::Rp 7) h [2] K=(∃a b c d,(PCon UY 200 [.agg [U 0,U 0,U 0,U 0],.i .u8 x0,.i .u8 x0] fun(v:V)=>v=.agg [U a,U b,U c,U d])∧K .ret 8 [.lb [I 1,U a,U b,U c,U d,S0,I 0,I 0,I 0]] h):=by kernel_rfl
theorem ZEh{id h}(K):CP UY 188 (flat (Za Tryz.f188)) (.p (some (id,0))::Rp 29) h [2,3] K=(Con UY 196 [.p (some (id,0)),.s [(48:UInt8),49,50,51,52,53,54,55,56]] h fun(v:V) (h':Heap)=> ∃a,v=.i .u8 a∧ ∃b,RCon UY (136:Nat) [.p (some (id,0)),.s [(44:UInt8)]] h' (.b b)∧If b (Con UY 137 [.p (some (id,0))] h' fun(v:V) (h':Heap)=> ∃c,v=.i .u8 c∧ ∃d,RCon UY (136:Nat) [.p (some (id,0)),.s [(125:UInt8)]] h' (.b d)∧If (!d) (((0:Int)<=(fun(x y:Int)=>if y<x then y else x) ((fun(x y:Int)=>if y>x then y else x) (IntKind.i64.wrap (IntKind.i64.wrap a-(48:Int))) (0:Int)) (9:Int)∧(fun(x y:Int)=>if y<x then y else x) ((fun(x y:Int)=>if y>x then y else x) (IntKind.i64.wrap (IntKind.i64.wrap a-(48:Int))) (0:Int)) (9:Int)<=(↑[(48:UInt8),49,50,51,52,53,54,55,56].length:Int))∧Con UY 196 [.p (some (id,0)),.s (List.take ([(48:UInt8),49,50,51,52,53,54,55,56].length-((fun(x y:Int)=>if y<x then y else x) ((fun(x y:Int)=>if y>x then y else x) (IntKind.i64.wrap (IntKind.i64.wrap a-(48:Int))) (0:Int)) (9:Int)).toNat) (List.drop ((fun(x y:Int)=>if y<x then y else x) ((fun(x y:Int)=>if y>x then y else x) (IntKind.i64.wrap (IntKind.i64.wrap a-(48:Int))) (0:Int)) (9:Int)).toNat [(48:UInt8),49,50,51,52,53,54,55,56]))] h' fun(v:V) (h':Heap)=> ∃e,v=.i .u8 e∧Con UY 196 [.p (some (id,0)),.s [(125:UInt8)]] h' fun(v:V) (h':Heap)=> ∃f,v=.i .u8 f∧K .ret 30 [I (IntKind.i64.wrap (IntKind.i64.wrap a-(48:Int))),I (IntKind.i64.wrap (IntKind.i64.wrap e-(48:Int)))] h') (Con UY 196 [.p (some (id,0)),.s [(125:UInt8)]] h' fun(v:V) (h':Heap)=> ∃e,v=.i .u8 e∧K .ret 30 [I (IntKind.i64.wrap (IntKind.i64.wrap a-(48:Int))),I (-1)] h')) (Con UY 196 [.p (some (id,0)),.s [(125:UInt8)]] h' fun(v:V) (h':Heap)=> ∃c,v=.i .u8 c∧K .ret 30 [I (IntKind.i64.wrap (IntKind.i64.wrap a-(48:Int))),I (IntKind.i64.wrap (IntKind.i64.wrap a-(48:Int)))] h')):=by kernel_rfl
theorem ZEi{id d h}(K):CP UY 170 (flat (Za Tryz.f170)) (.p (some (id,0))::I d::Rp 44) h [4] K=(Con UY 187 [.p (some (id,0)),I d] h fun(v:V) (h':Heap)=> ∃a b c e f g j l m n o,v=.agg (R9 a b c e f g j l m n o)∧ ∃q,RCon UY (136:Nat) [.p (some (id,0)),.s [(42:UInt8),43,63,123]] h' (.b q)∧If (!q) (K .ret 46 [.lb (R9 a b c e f g j l m n o)] h') (If (a==(2:Int)) (Con UY 108 [.p (some (id,0)),I 1] h' fun(v:V) (h':Heap)=>v=.tup []∧K .ret 46 [.lb (R9 a b c e f g j l m n o)] h') (If (a==(3:Int)) (Con UY 108 [.p (some (id,0)),I 1] h' fun(v:V) (h':Heap)=>v=.tup []∧K .ret 46 [.lb (R9 a b c e f g j l m n o)] h') (Con UY 137 [.p (some (id,0))] h' fun(v:V) (h':Heap)=> ∃r,v=.i .u8 r∧If (r==(43:Int)) (K .ret 46 [.lb [I 6,U 0,U 0,U 0,U 0,J (R9 a b c e f g j l m n o) 1 (some 1),I 1,I (-1),I 0]] h') (If (r==(63:Int)) (K .ret 46 [.lb [I 6,U 0,U 0,U 0,U 0,J (R9 a b c e f g j l m n o) 1 (some 1),I 0,I 1,I 0]] h') (If (r==(123:Int)) (Con UY 188 [.p (some (id,0))] h' fun(v:V) (h':Heap)=> ∃t u,v=.tup [I t,I u]∧K .ret 46 [.lb [I 6,U 0,U 0,U 0,U 0,J (R9 a b c e f g j l m n o) 1 (some 1),I t,I u,I 0]] h') (K .ret 46 [.lb [I 6,U 0,U 0,U 0,U 0,J (R9 a b c e f g j l m n o) 1 (some 1),I 0,I (-1),I 0]] h'))))))):=by kernel_rfl
theorem ZEj{id d h}(K):CP UY 187 (flat (Za Tryz.f187)) (.p (some (id,0))::I d::Rp 50) h [4] K=(∃a,RCon UY (136:Nat) [.p (some (id,0)),.s [(42:UInt8),43,63,123]] h (.b a)∧If a (Con UY 108 [.p (some (id,0)),I 1] h fun(v:V) (h':Heap)=>v=.tup []∧K .ret 52 [.lb R0] h') (∃b,RCon UY (136:Nat) [.p (some (id,0)),.s [(40:UInt8)]] h (.b b)∧If b (If (leI 64 d) (Con UY 108 [.p (some (id,0)),I 8] h fun(v:V) (h':Heap)=>v=.tup []∧K .ret 52 [.lb R0] h') (Con UY 137 [.p (some (id,0))] h fun(v:V) (h':Heap)=> ∃c,v=.i .u8 c∧If (c==(40:Int)) (Con UY 193 [.p (some (id,0)),I d] h' fun(v:V) (h':Heap)=> ∃e f g j l m n o q r t,v=.agg (R9 e f g j l m n o q r t)∧K .ret 52 [.lb (R9 e f g j l m n o q r t)] h') (If (c==(91:Int)) (Con UY 194 [.p (some (id,0))] h' fun(v:V) (h':Heap)=> ∃e f g j l m n o q r t,v=.agg (R9 e f g j l m n o q r t)∧K .ret 52 [.lb (R9 e f g j l m n o q r t)] h') (If (c==(46:Int)) (∃e f g j,(PCon UY 176 [.agg [U 0,U 0,U 0,U 0]] fun(v:V)=>v=.agg [U e,U f,U g,U j])∧K .ret 52 [.lb [I 1,U e,U f,U g,U j,S0,I 0,I 0,I 0]] h') (If (c==(94:Int)) (K .ret 52 [.lb [I 2,U 0,U 0,U 0,U 0,S0,I 0,I 0,I 0]] h') (If (c==(36:Int)) (K .ret 52 [.lb [I 3,U 0,U 0,U 0,U 0,S0,I 0,I 0,I 0]] h') (If (c==(92:Int)) (Con UY 137 [.p (some (id,0))] h' fun(v:V) (h':Heap)=> ∃e,v=.i .u8 e∧ ∃f g j l m n o q r t u,(PCon UY 195 [.i .u8 e] fun(v:V)=>v=.agg (R9 f g j l m n o q r t u))∧K .ret 52 [.lb (R9 f g j l m n o q r t u)] h') (∃e f g j l m n o q r t,(PCon UY 195 [.i .u8 c] fun(v:V)=>v=.agg (R9 e f g j l m n o q r t))∧K .ret 52 [.lb (R9 e f g j l m n o q r t)] h')))))))) (Con UY 137 [.p (some (id,0))] h fun(v:V) (h':Heap)=> ∃c,v=.i .u8 c∧If (c==(40:Int)) (Con UY 193 [.p (some (id,0)),I d] h' fun(v:V) (h':Heap)=> ∃e f g j l m n o q r t,v=.agg (R9 e f g j l m n o q r t)∧K .ret 52 [.lb (R9 e f g j l m n o q r t)] h') (If (c==(91:Int)) (Con UY 194 [.p (some (id,0))] h' fun(v:V) (h':Heap)=> ∃e f g j l m n o q r t,v=.agg (R9 e f g j l m n o q r t)∧K .ret 52 [.lb (R9 e f g j l m n o q r t)] h') (If (c==(46:Int)) (∃e f g j,(PCon UY 176 [.agg [U 0,U 0,U 0,U 0]] fun(v:V)=>v=.agg [U e,U f,U g,U j])∧K .ret 52 [.lb [I 1,U e,U f,U g,U j,S0,I 0,I 0,I 0]] h') (If (c==(94:Int)) (K .ret 52 [.lb [I 2,U 0,U 0,U 0,U 0,S0,I 0,I 0,I 0]] h') (If (c==(36:Int)) (K .ret 52 [.lb [I 3,U 0,U 0,U 0,U 0,S0,I 0,I 0,I 0]] h') (If (c==(92:Int)) (Con UY 137 [.p (some (id,0))] h' fun(v:V) (h':Heap)=> ∃e,v=.i .u8 e∧ ∃f g j l m n o q r t u,(PCon UY 195 [.i .u8 e] fun(v:V)=>v=.agg (R9 f g j l m n o q r t u))∧K .ret 52 [.lb (R9 f g j l m n o q r t u)] h') (∃e f g j l m n o q r t,(PCon UY 195 [.i .u8 c] fun(v:V)=>v=.agg (R9 e f g j l m n o q r t))∧K .ret 52 [.lb (R9 e f g j l m n o q r t)] h'))))))))):=by kernel_rfl
theorem ZEk{id d h}(K):CP UY 193 (flat (Za Tryz.f193)) (.p (some (id,0))::I d::Rp 28) h [4] K=(∃a,Zb h id 2 1=some [I a]∧ ∃b,Zj h id 2 [I (IntKind.i64.wrap (a+(1:Int)))]=some b∧ ∃c,Zb b id 2 1=some [I c]∧If (ltI 9 c) (Con UY 106 [.p (some (id,0)),I (IntKind.i64.wrap (d+(1:Int)))] b fun(v:V) (h':Heap)=> ∃e f g j l m n o q r t,v=.agg (R9 e f g j l m n o q r t)∧Con UY 196 [.p (some (id,0)),.s [(41:UInt8)]] h' fun(v:V) (h':Heap)=> ∃u,v=.i .u8 u∧K .ret 30 [.lb [I 7,U 0,U 0,U 0,U 0,J (R9 e f g j l m n o q r t) 1 (some 1),I 0,I 0,I 0]] h') (Con UY 106 [.p (some (id,0)),I (IntKind.i64.wrap (d+(1:Int)))] b fun(v:V) (h':Heap)=> ∃e f g j l m n o q r t,v=.agg (R9 e f g j l m n o q r t)∧Con UY 196 [.p (some (id,0)),.s [(41:UInt8)]] h' fun(v:V) (h':Heap)=> ∃u,v=.i .u8 u∧K .ret 30 [.lb [I 7,U 0,U 0,U 0,U 0,J (R9 e f g j l m n o q r t) 1 (some 1),I 0,I 0,I c]] h')):=by kernel_rfl
theorem ZEl{id h}(K):CP UY 194 (pre (flat (Za Tryz.f194))) (.p (some (id,0))::Rp 64) h [0,2,3,4,5,7] K=(∃a,RCon UY (136:Nat) [.p (some (id,0)),.s [(94:UInt8)]] h (.b a)∧If a (Con UY 137 [.p (some (id,0))] h fun(v:V) (h':Heap)=> ∃b,v=.i .u8 b∧K .normal 65 [.p (some (id,0)), .lb R0, .b a, .lb [U 0,U 0,U 0,U 0], .b true,Ud] h') (K .normal 65 [.p (some (id,0)), .lb R0, .b a, .lb [U 0,U 0,U 0,U 0], .b true,Ud] h)):=by kernel_rfl
theorem ZEm{id b3 b5 a c d e f h}(K):CP UY 194 (flat (Zx (post (flat (Za Tryz.f194))))) (MZ 65 [0,2,3,4,5,7] [.p (some (id,0)),.lb R0,.b b3,.lb [U a,U c,U d,U e],.b b5,f]) h [0,2,3,4,5,7] K=(∃g,(fun P2=>Zb h id 3 1=some [I g]∧If (g==(0:Int)) (If b5 (Con UY 199 [.p (some (id,0))] h fun(v:V) (h':Heap)=> ∃j,v=.i .u8 j∧ ∃l,RCon UY (136:Nat) [.p (some (id,0)),.s [(45:UInt8)]] h' (.b l)∧If l (Con UY 137 [.p (some (id,0))] h' fun(v:V) (h':Heap)=> ∃m,v=.i .u8 m∧Con UY 199 [.p (some (id,0))] h' fun(v:V) (h':Heap)=> ∃n,v=.i .u8 n∧ ∃o,(fun P0=>Zb h' id 3 1=some [I o]∧If (o==(0:Int)) (If (ltI n j) (∃q,Zb h' id 1 1=some [I q]∧ ∃r,Zj h' id 1 [I (IntKind.i64.wrap (q-(1:Int)))]=some r∧Con UY 108 [.p (some (id,0)),I 1] r fun(v:V) (h':Heap)=>v=.tup []∧ ∃t u w x,(PCon UY 200 [.agg [U a,U c,U d,U e],.i .u8 j,.i .u8 n] fun(v:V)=>v=.agg [U t,U u,U w,U x])∧K .normal 65 [.p (some (id,0)), .lb R0, .b b3, .lb [U t,U u,U w,U x], .b false, .i .u8 n] h') P0) P0) (∃q r t u,(PCon UY 200 [.agg [U a,U c,U d,U e],.i .u8 j,.i .u8 n] fun(v:V)=>v=.agg [U q,U r,U t,U u])∧K .normal 65 [.p (some (id,0)), .lb R0, .b b3, .lb [U q,U r,U t,U u], .b false, .i .u8 n] h')) (∃m n o q,(PCon UY 200 [.agg [U a,U c,U d,U e],.i .u8 j,.i .u8 j] fun(v:V)=>v=.agg [U m,U n,U o,U q])∧K .normal 65 [.p (some (id,0)), .lb R0, .b b3, .lb [U m,U n,U o,U q], .b false, .i .u8 j] h')) (∃j,RCon UY (136:Nat) [.p (some (id,0)),.s [(93:UInt8)]] h (.b j)∧If (!j) (Con UY 199 [.p (some (id,0))] h fun(v:V) (h':Heap)=> ∃l,v=.i .u8 l∧ ∃m,RCon UY (136:Nat) [.p (some (id,0)),.s [(45:UInt8)]] h' (.b m)∧If m (Con UY 137 [.p (some (id,0))] h' fun(v:V) (h':Heap)=> ∃n,v=.i .u8 n∧Con UY 199 [.p (some (id,0))] h' fun(v:V) (h':Heap)=> ∃o,v=.i .u8 o∧ ∃q,(fun P1=>Zb h' id 3 1=some [I q]∧If (q==(0:Int)) (If (ltI o l) (∃r,Zb h' id 1 1=some [I r]∧ ∃t,Zj h' id 1 [I (IntKind.i64.wrap (r-(1:Int)))]=some t∧Con UY 108 [.p (some (id,0)),I 1] t fun(v:V) (h':Heap)=>v=.tup []∧ ∃u w x y,(PCon UY 200 [.agg [U a,U c,U d,U e],.i .u8 l,.i .u8 o] fun(v:V)=>v=.agg [U u,U w,U x,U y])∧K .normal 65 [.p (some (id,0)), .lb R0, .b b3, .lb [U u,U w,U x,U y], .b false, .i .u8 o] h') P1) P1) (∃r t u w,(PCon UY 200 [.agg [U a,U c,U d,U e],.i .u8 l,.i .u8 o] fun(v:V)=>v=.agg [U r,U t,U u,U w])∧K .normal 65 [.p (some (id,0)), .lb R0, .b b3, .lb [U r,U t,U u,U w], .b false, .i .u8 o] h')) (∃n o q r,(PCon UY 200 [.agg [U a,U c,U d,U e],.i .u8 l,.i .u8 l] fun(v:V)=>v=.agg [U n,U o,U q,U r])∧K .normal 65 [.p (some (id,0)), .lb R0, .b b3, .lb [U n,U o,U q,U r], .b false, .i .u8 l] h')) P2)) P2) (K (.exit 0) 65 [.p (some (id,0)), .lb R0, .b b3, .lb [U a,U c,U d,U e], .b b5,f] h)):=by kernel_rfl
theorem ZEn{id a c d e f h}(K):CP UY 194 ((post (flat (Za Tryz.f194))).drop 1) (MZ 65 [0,2,3,4] [.p (some (id,0)),.lb R0,.b f,.lb [U a,U c,U d,U e]]) h [2] K=(Con UY 196 [.p (some (id,0)),.s [(93:UInt8)]] h fun(v:V) (h':Heap)=> ∃g,v=.i .u8 g∧If f (∃j l m n,(PCon UY 176 [.agg [U a,U c,U d,U e]] fun(v:V)=>v=.agg [U j,U l,U m,U n])∧K .ret 65 [.lb [I 1,U j,U l,U m,U n,S0,I 0,I 0,I 0]] h') (K .ret 65 [.lb [I 1,U a,U c,U d,U e,S0,I 0,I 0,I 0]] h')):=by kernel_rfl
theorem ZEo{a b c d x1 x2 h}(K):CP UY 200 (pre (flat (Za Tryz.f200))) (.agg [U a,U b,U c,U d]::.i .u8 x1::.i .u8 x2::Rp 23) h [2,3,6,7] K=(K .normal 26 [.i .u8 x2, .p (some (h.nx,0)), .lb [U 0,U 0,U 0,U 0],I (IntKind.i64.wrap x1)] (h.push (YObj.arr [U a,U b,U c,U d] true))):=by kernel_rfl
theorem ZEp{x2 a x7 h}(K):CP UY 200 (flat (Zx (post (flat (Za Tryz.f200))))) (MZ 26 [2,3,6,7] [.i .u8 x2,.p (some (a,0)),.lb [U 0,U 0,U 0,U 0],I x7]) h [2,3,6,7] K=(If (leI x7 (IntKind.i64.wrap x2)) ((0:Int)<=(6:Int)∧((0:Int)<=x7.fdiv ((2:Int) ^ min (Int.toNat (6:Int)) IntKind.i64.bits)∧x7.fdiv ((2:Int) ^ min (Int.toNat (6:Int)) IntKind.i64.bits)<(↑(4:Nat):Int))∧ ∃b,Zb h a ((0:Nat)+(x7.fdiv ((2:Int) ^ min (Int.toNat (6:Int)) IntKind.i64.bits)).toNat*1) 1=some [U b]∧(0:Int)<=IntKind.i64.wrap (↑(BitVec.ofInt IntKind.i64.bits x7&&&BitVec.ofInt IntKind.i64.bits (63:Int)).toNat:Int)∧((0:Int)<=x7.fdiv ((2:Int) ^ min (Int.toNat (6:Int)) IntKind.i64.bits)∧x7.fdiv ((2:Int) ^ min (Int.toNat (6:Int)) IntKind.i64.bits)<(↑(4:Nat):Int))∧ ∃c,Zj h a ((0:Nat)+(x7.fdiv ((2:Int) ^ min (Int.toNat (6:Int)) IntKind.i64.bits)).toNat*1) [U (IntKind.u64.wrap (↑(BitVec.ofInt IntKind.u64.bits b|||BitVec.ofInt IntKind.u64.bits (IntKind.u64.wrap ((1:Int)*(2:Int) ^ min (IntKind.i64.wrap (↑(BitVec.ofInt IntKind.i64.bits x7&&&BitVec.ofInt IntKind.i64.bits (63:Int)).toNat:Int)).toNat IntKind.u64.bits))).toNat:Int))]=some c∧K .normal 26 [.i .u8 x2, .p (some (a,0)), .lb [U 0,U 0,U 0,U 0],I (IntKind.i64.wrap (x7+(1:Int)))] c) (K (.exit 0) 26 [.i .u8 x2, .p (some (a,0)), .lb [U 0,U 0,U 0,U 0],I x7] h)):=by kernel_rfl
theorem ZEq{a h}(K):CP UY 200 ((post (flat (Za Tryz.f200))).drop 1) (MZ 26 [3,6] [.p (some (a,0)),.lb [U 0,U 0,U 0,U 0]]) h [6] K=(∃b c d e,Zb h a 0 4=some [U b,U c,U d,U e]∧K .ret 26 [.lb [U b,U c,U d,U e]] h):=by kernel_rfl
theorem ZEr{k q l c h}(K):CP UY 138 (flat (Za Tryz.f138)) (I k::S (some (q,0)) l c 9::Rp 16) h [4] K=(If ((↑l:Int)==(0:Int)) (K .ret 18 [.lb R0] h) (If ((↑l:Int)==(1:Int)) (((0:Int)<=(0:Int)∧(0:Int)<(l:Int))∧9=9∧ ∃a b d e f g i j m n o,Zb h q 0 9=some (R9 a b d e f g i j m n o)∧K .ret 18 [.lb (R9 a b d e f g i j m n o)] h) (K .ret 18 [.lb [I k,U 0,U 0,U 0,U 0,S (some (q,0)) l c 9,I 0,I 0,I 0]] h))):=by kernel_rfl
theorem Zzw{k c kk h}(K):CP UY 138 (flat (Za Tryz.f138)) (I k::S none 0 c kk::Rp 16) h [4] K=(K .ret 18 [.lb R0] h):=by kernel_rfl
def Zay(p:Nat->Bool)(lo c:Nat)(x:Nat):Bool:=p x||(decide (lo<=x)&&decide (x<c))
theorem Zd4(p:Nat->Bool){lo c:Nat}(h:lo<=c):(fun x=>Zay p lo c x||x==c)=Zay p lo (c+1):=by
 funext x
 unfold Zay
 cases p x
 ·simp only[Bool.false_or]
  by_cases h1:x=c
  ·subst h1;simp[h]
  ·have h2:(x==c)=false:=by simpa using h1
   rw[h2,Bool.or_false]
   by_cases h3:x<c
   ·rw[decide_eq_true h3,decide_eq_true (show x<c+1 by omega)]
   ·rw[decide_eq_false h3,decide_eq_false (show¬x<c+1 by omega)]
 ·rfl
theorem Zd5(p:Nat->Bool)(lo:Nat):Zay p lo lo=p:=by
 funext x
 unfold Zay
 have:(decide (lo<=x)&&decide (x<lo))=false:=by
  by_cases h:lo<=x
  ·rw[decide_eq_false (show¬x<lo by omega)];simp
  ·rw[decide_eq_false h];rfl
 rw[this,Bool.or_false]
theorem Zfj(p:Nat->Bool)(lo hi:Nat):Zw (Zay p lo (max (hi+1) lo))=Zw (Zjd p (lo:Nat) (hi:Nat)):=by
 refine congrArg Zw (funext fun x=> ?_)
 unfold Zay Zjd
 have:(decide (lo<=x)&&decide (x<max (hi+1) lo))=(decide ((lo:Int)<=(x:Int))&&decide ((x:Int)<=(hi:Int))):=by
  by_cases h:lo<=x
  ·rw[decide_eq_true h,decide_eq_true (show(lo:Int)<=(x:Int) by omega)]
   by_cases h2:x<=hi
   ·rw[decide_eq_true (show x<max (hi+1) lo by omega),decide_eq_true (show(x:Int)<=(hi:Int) by omega)]
   ·rw[decide_eq_false (show¬x<max (hi+1) lo by omega),decide_eq_false (show¬(x:Int)<=(hi:Int) by omega)]
  ·rw[decide_eq_false h,decide_eq_false (show¬(lo:Int)<=(x:Int) by omega)];rfl
 rw[this]

theorem Zu5{h:Heap}{id:Nat}{p:Nat->Bool}{c:Nat}(hc:c<256)(hg:h.get id=some (.arr (setC (Zw p)) true)){K:Heap->Prop}
  (hk: ∀h1,h1=h.set id (some (.arr (setC (Zw fun x=>p x||x==c)) true))->K h1):
  (0:Int)<=6∧((0:Int)<=(c:Int).fdiv ((2:Int) ^ min (Int.toNat (6:Int)) IntKind.i64.bits)∧(c:Int).fdiv ((2:Int) ^ min (Int.toNat (6:Int)) IntKind.i64.bits)<4)∧ ∃n:Int,
   Zb h id (0+((c:Int).fdiv ((2:Int) ^ min (Int.toNat (6:Int)) IntKind.i64.bits)).toNat*1) 1=some [V.i IntKind.u64 n]∧
   (0:Int)<=IntKind.i64.wrap (((BitVec.ofInt IntKind.i64.bits (c:Int)&&&BitVec.ofInt IntKind.i64.bits (63:Int)).toNat:Nat):Int)∧
   ((0:Int)<=(c:Int).fdiv ((2:Int) ^ min (Int.toNat (6:Int)) IntKind.i64.bits)∧(c:Int).fdiv ((2:Int) ^ min (Int.toNat (6:Int)) IntKind.i64.bits)<4)∧ ∃h_1:Heap,
   Zj h id (0+((c:Int).fdiv ((2:Int) ^ min (Int.toNat (6:Int)) IntKind.i64.bits)).toNat*1) [V.i IntKind.u64 (IntKind.u64.wrap (((BitVec.ofInt IntKind.u64.bits n|||BitVec.ofInt IntKind.u64.bits (IntKind.u64.wrap (1*2 ^ min (IntKind.i64.wrap (((BitVec.ofInt IntKind.i64.bits (c:Int)&&&BitVec.ofInt IntKind.i64.bits (63:Int)).toNat:Nat):Int)).toNat IntKind.u64.bits))).toNat:Nat):Int))]=some h_1∧K h_1:=by
 rw[Zux,Zuy hc]
 have hlo:=JZ p (c / 64) 64
 refine⟨by omega,⟨by omega,by omega⟩,_,(Zr hg _ _).trans (Zr6 _ hc),by omega,⟨by omega,by omega⟩,?_⟩
 have hor:=Zr4 hlo (show c % 64<64 by omega)
 rw[qdq,qdq,hor]
 refine⟨_,?_,hk _ rfl⟩
 have e:setC (Zw fun x=>p x||x==c)=Zr5 (Zw fun x=>p x||x==c):=rfl
 rw[e,<-Zu4 p hc]
 simp only[Zj,hg]
 rw[if_pos (by simp;omega)]

theorem WZ(p:Nat->Bool){lo hi:Nat}(hlo:lo<256)(hhi:hi<256):PCon UY 200 [.agg (setC (Zw p)), .i .u8 (lo:Nat), .i .u8 (hi:Nat)] (· = .agg (setC (Zw (Zjd p (lo:Nat) (hi:Nat))))):=by
 refine ZE UK (fn:=Tryz.f200) rfl ?_
 refine Zl UK 26 ZEo rfl ?_
 have w1:IntKind.i64.wrap (lo:Int)=(lo:Nat):=ZG (by omega) (by omega)
 have w2:IntKind.i64.wrap (hi:Int)=(hi:Nat):=ZG (by omega) (by omega)
 refine⟨rfl,ZL [2,3,6,7] [2,3,6,7] (fun m vs h=> ∃c:Nat,vs= [.i .u8 (hi:Nat), .p (some (Heap.empty.nx,0)), .lb (setC (0,0,0,0)),I (c:Nat)]∧lo<=c∧c<=max (hi+1) lo∧257-c<=m∧h.get Heap.empty.nx=some (.arr (setC (Zw (Zay p lo c))) true)) 257 Zy ⟨lo,by rw[w1];rfl,by omega,by omega,by omega,by rw[Zd5,qk,if_pos rfl]⟩ ?_⟩
 rintro m vs h ⟨c,rfl,hlc,hc,hm,hg⟩
 refine Zs UK ZEp rfl ?_
 rw[w2]
 refine Wx (fun hle=> ?_) (fun hgt=> ?_)
 ·refine Zu5 (by omega) hg fun h1 e=>⟨rfl,257-(c+1),by omega,c+1,by rw[Zh (by omega)];rfl,by omega,by omega,qnq _,?_⟩
  rw[e,qc,if_pos rfl,Zd4 p hlc]
 ·have he:c=max (hi+1) lo:=by omega
  subst he
  refine Zi [3,6] ?_
  refine Zn UK ZEq rfl ?_
  rw[Zfj]at hg
  exact⟨_,_,_,_,(Zr hg 0 4).trans rfl,Zv (.inr rfl) rfl (.agg _ _ (.cons _ _ _ _ (.i _ _) (.cons _ _ _ _ (.i _ _) (.cons _ _ _ _ (.i _ _) (.cons _ _ _ _ (.i _ _) .nil))))) rfl⟩

def negL(p:Nat->Bool)(i k:Nat):V:= .i .u64 (if k<i then((2 ^ 64-1-ZS p k 64:Nat):Int)else((ZS p k 64:Nat):Int))
theorem Zm6(p:Nat->Bool):PCon UY 176 [.agg (setC (Zw p))] (· = .agg (setC (Zw fun x=> !p x))):=by
 refine PCon.zr (ZE Tryr.Yok (fn:=Tryz.f176) rfl ?_)
 refine Zl Tryr.Yok 15 Zwx rfl ?_
 refine⟨rfl,ZL [1,2,4] [1,2,4] (fun m vs h=> ∃i:Nat,vs= [.p (some (Heap.empty.nx,0)), .lb (setC (0,0,0,0)),I (i:Nat)]∧i<=4∧m=4-i∧h.get Heap.empty.nx=some (.arr [negL p i 0,negL p i 1,negL p i 2,negL p i 3] true)) 4 Zy ⟨0,rfl,by omega,by omega,by rw[qk,if_pos rfl];rfl⟩ ?_⟩
 rintro m vs h ⟨i,rfl,hi,rfl,hg⟩
 refine Zs Tryr.Yok Zwy rfl ?_
 refine XC (fun hlt=> ?_) (fun hge=> ?_)
 ·have hlt:i<4:=by omega
  have hw:=JZ p i 64
  refine⟨⟨by omega,by omega⟩,((ZS p i 64:Nat):Int),?_,⟨by omega,by omega⟩,?_⟩
  ·rw[Zr hg,qdq]
   match i,hlt with
   |0,_=>rfl
   |1,_=>rfl
   |2,_=>rfl
   |3,_=>rfl
  ·rw[Zm3 hw]
   refine⟨h.set Heap.empty.nx (some (.arr [negL p (i+1) 0,negL p (i+1) 1,negL p (i+1) 2,negL p (i+1) 3] true)),?_,rfl,4-(i+1),by omega,i+1,by rw[Zh (by omega)];rfl,by omega,rfl,by rw[qc,if_pos rfl]⟩
   simp only[Zj,hg,qdq]
   match i,hlt with
   |0,_=>rfl
   |1,_=>rfl
   |2,_=>rfl
   |3,_=>rfl
 ·have he:i=4:=by omega
  subst he
  refine Zi [1,2] ?_
  refine Zn Tryr.Yok Zwz rfl ?_
  rw[Zr7]
  exact⟨_,_,_,_,(Zr hg 0 4).trans rfl,Zv (.inr rfl) rfl (.agg _ _ (.cons _ _ _ _ (.i _ _) (.cons _ _ _ _ (.i _ _) (.cons _ _ _ _ (.i _ _) (.cons _ _ _ _ (.i _ _) .nil))))) rfl⟩

theorem ZEs(c:UInt8):Zw (Zjd (fun _=>false) (c.toNat:Nat) (c.toNat:Nat))=Zw fun x=>x==c.toNat:=by
 refine congrArg Zw (funext fun x=> ?_)
 unfold Zjd
 by_cases h:x=c.toNat
 ·subst h;simp
 ·have h2:(x==c.toNat)=false:=by simpa using h
  rw[h2,Bool.false_or]
  by_cases h3:(c.toNat:Int)<=(x:Int)
  ·rw[decide_eq_false (show¬(x:Int)<=(c.toNat:Int) by omega)];simp
  ·rw[decide_eq_false h3];rfl
theorem Zu6(c:UInt8):PCon UY 195 [.i .u8 (c.toNat:Nat)] (· = .agg (Zd (XY (Zw fun x=>x==c.toNat)))):=by
 refine Zt UK (fn:=Tryz.f195) rfl ZEg rfl ?_
 have hw:=WZ (fun _=>false) c.toNat_lt c.toNat_lt
 rw[setOf_no,ZEs]at hw
 refine⟨_,_,_,_,hw,?_⟩
 exact Zv (.inr rfl) rfl (.agg _ _ (.cons _ _ _ _ (.i _ _) (.cons _ _ _ _ (.i _ _) (.cons _ _ _ _ (.i _ _) (.cons _ _ _ _ (.i _ _) (.cons _ _ _ _ (.i _ _) (.cons _ _ _ _ (.sln _ _ none (fun x hx=>by cases hx)) (.cons _ _ _ _ (.i _ _) (.cons _ _ _ _ (.i _ _) (.cons _ _ _ _ (.i _ _) .nil)))))))))) (by unfold XY;rw[Zp];rfl)
abbrev Zd6:V:= .lb [I 0,U 0,U 0,U 0,U 0, .sl none 0 (some 0) 0,I 0,I 0,I 0]

theorem ZEt{n:Nat}(ih: ∀m,m<n->AllC m){h:Heap}{id:Nat}{s:List UInt8}{i g d:Nat}(r:RdE h id s i g 0)(hs:s.length<2 ^ 27)(hi:i<s.length)(hg:g<=i)(hd:d<=64)(hn:6*(s.length-i)+4<=n):
  Con UY 112 [.p (some (id,0)),I d] h (reQ (XR n d s i g) h id s):=by
 obtain⟨n,rfl⟩: ∃m,n=m+1:=⟨n-1,by omega⟩
 refine Zu UK (fn:=Tryz.f112) (Zn UK ZCw rfl ?_)
 generalize hR:XR (n+1) d s i g=R
 rw[XR]at hR
 refine((ih n (by omega)).atom r hs hi hg hd (by omega)).mono fun v h1 ⟨x,j,gg,e,hv,u1,u2,u3⟩=> ?_
 subst hv
 obtain⟨xk,xs,xl,xlo,xhi,xn⟩:=x
 have keep: ∀(h2:Heap) (j2:Nat) (e2:Int),RdE h2 id s j2 gg e2->FrO h id h2->((e2=0∧R= .ok (.mk xk xs xl xlo xhi xn,j2,gg))∨(e2≠0∧R= .error (e2,j2)))->
   Go.Y.Fin UY Tryz.f112 [4] (AfterZ (reQ R h id s)) .ret 88 [.lb [I xk,U xs.1,U xs.2.1,U xs.2.2.1,U xs.2.2.2,lst Zd xl,I xlo,I xhi,I xn]] h2:=fun h2 j2 e2 q1 q2 q3=>
  finC (.inr rfl) rfl (.now (by rw[<-ZD];exact⟨_,j2,gg,e2,rfl,q1,q2,q3⟩))
 rcases u3 with ⟨rfl,hr⟩|⟨he,hr⟩
 ·rw[hr]at hR;simp only[]at hR
  have hj:=(XD s n).2.2.2.2 hr (by omega) hg
  refine⟨_,_,_,_,_,_,_,_,_,_,_,ZD _ _ _ _ _ _,_,u1.c3,Zg (fun hc=>by simp at hc) (fun _=>⟨_,u1.c1,_,u1.c0,Wx (fun hle=> ?_) (fun hlt=> ?_)⟩)⟩
  ·have hn1:s[j]? =none:=qq (by omega)
   rw[hn1]at hR
   exact keep h1 j 0 u1 u2 (.inl ⟨rfl,hR.symm⟩)
  have hl:j<s.length:=by omega
  have hn1:s[j]? =some s[j]:=by simp[hl]
  rw[hn1]at hR;simp only[]at hR
  refine⟨_,u1.c0,_,u1.c1,s[j],Vd hl,?_⟩
  have kinds:Zgv s[j]=true-> ∀body:Prop,((if s[j]=42 then(.ok (.mk 6 (0,0,0,0) [.mk xk xs xl xlo xhi xn] 0 (-1) 0,j+1,gg):PR Re)else if s[j]=43 then .ok (.mk 6 (0,0,0,0) [.mk xk xs xl xlo xhi xn] 1 (-1) 0,j+1,gg)else if s[j]=63 then .ok (.mk 6 (0,0,0,0) [.mk xk xs xl xlo xhi xn] 0 1 0,j+1,gg)else match ZW s (j+1)with| .error e=> .error (1,e)| .ok (lo,hi,j)=> .ok (.mk 6 (0,0,0,0) [.mk xk xs xl xlo xhi xn] lo hi 0,j,gg))=R->body)->
    If (xk==2) (Con UY 28 [.p (some (id,0)),I 1] h1 fun v h'=>v= .tup []∧Go.Y.Fin UY Tryz.f112 [4] (AfterZ (reQ R h id s)) .ret 88 [.lb [I xk,U xs.1,U xs.2.1,U xs.2.2.1,U xs.2.2.2,lst Zd xl,I xlo,I xhi,I xn]] h')
     (If (xk==3) (Con UY 28 [.p (some (id,0)),I 1] h1 fun v h'=>v= .tup []∧Go.Y.Fin UY Tryz.f112 [4] (AfterZ (reQ R h id s)) .ret 88 [.lb [I xk,U xs.1,U xs.2.1,U xs.2.2.1,U xs.2.2.2,lst Zd xl,I xlo,I xhi,I xn]] h') body):=by
   intro hrep body hb
   rw[if_pos hrep]at hR
   have bad:(xk=2∨xk=3)->Con UY 28 [.p (some (id,0)),I 1] h1 fun v h'=>v= .tup []∧Go.Y.Fin UY Tryz.f112 [4] (AfterZ (reQ R h id s)) .ret 88 [.lb [I xk,U xs.1,U xs.2.1,U xs.2.2.1,U xs.2.2.2,lst Zd xl,I xlo,I xhi,I xn]] h':=fun hk=>
    Zmo u1 1 fun h' w1 w2=>⟨rfl,keep h' j 1 w1 (u2.trans w2) (.inr ⟨by decide,by rw[if_pos (show(Re.mk xk xs xl xlo xhi xn).kind=2∨(Re.mk xk xs xl xlo xhi xn).kind=3 from hk)]at hR;exact hR.symm⟩)⟩
   refine Zg (fun k2=>bad (.inl (by simpa using k2))) (fun k2=>Zg (fun k3=>bad (.inr (by simpa using k3))) (fun k3=>hb ?_))
   have k2:xk≠2:=by simpa using k2
   have k3:xk≠3:=by simpa using k3
   rw[if_neg (fun hk:(Re.mk xk xs xl xlo xhi xn).kind=2∨(Re.mk xk xs xl xlo xhi xn).kind=3=>hk.elim k2 k3)]at hR
   exact hR
  have rep: ∀(h2:Heap) (lo hi:Int) (j2:Nat) (e2:Int),RdE h2 id s j2 gg e2->FrO h id h2->((e2=0∧R= .ok (.mk 6 (0,0,0,0) [.mk xk xs xl xlo xhi xn] lo hi 0,j2,gg))∨(e2≠0∧R= .error (e2,j2)))->
    Go.Y.Fin UY Tryz.f112 [4] (AfterZ (reQ R h id s)) .ret 88 [.lb [I 6,U 0,U 0,U 0,U 0, .ts [I xk,U xs.1,U xs.2.1,U xs.2.2.1,U xs.2.2.2,lst Zd xl,I xlo,I xhi,I xn] 1 (some 1),I lo,I hi,I 0]] h2:=fun h2 lo hi j2 e2 q1 q2 q3=>
   finC (.inr rfl) rfl (JI (D:= []) 6 lo hi 0 (0,0,0,0) [.mk xk xs xl xlo xhi xn] (Zam _ _ (Zp _ _ _ _ _ _) _) ⟨_,j2,gg,e2,rfl,q1,q2,q3⟩)
  obtain⟨h2,g1,g2,g3⟩:=u1.s1 (j+1)
  have st:Zj h1 id 1 [I (IntKind.i64.wrap ((j:Int)+1))]=some h2:=by rw[Zh (by omega)];exact g1
  have fr2:=u2.trans g3
  refine Zg (fun c1=>Zg (fun c2=>Zg (fun c3=>Zg (fun c4=> ?_) (fun c4=> ?_)) (fun c3=> ?_)) (fun c2=> ?_)) (fun c1=> ?_)
  ·have d1:=ZF (c:=s[j]) (d:=42) (by simpa using c1)
   have d2:=ZF (c:=s[j]) (d:=43) (by simpa using c2)
   have d3:=ZF (c:=s[j]) (d:=63) (by simpa using c3)
   have d4:=ZF (c:=s[j]) (d:=123) (by simpa using c4)
   rw[if_neg (by simp[Zgv,d1,d2,d3,d4])]at hR
   exact keep h1 j 0 u1 u2 (.inl ⟨rfl,hR.symm⟩)
  ·have d4:=ZI (c:=s[j]) (d:=123) (by simpa using c4)
   rw[d4]at kinds ⊢
   refine kinds rfl _ fun hR=>⟨_,u1.c1,h2,st,ifF rfl (ifF rfl (ifT rfl ?_))⟩
   rw[if_neg (by decide),if_neg (by decide),if_neg (by decide)]at hR
   refine(Zk0 g2 (by omega)).mono fun v h3 hq=> ?_
   cases hb:ZW s (j+1) with
   |error e=>
    rw[hb]at hq hR
    obtain⟨rfl,w1,w2⟩:=hq
    exact⟨_,_,rfl,rep h3 _ _ e 1 w1 (fr2.trans w2) (.inr ⟨by decide,hR.symm⟩)⟩
   |ok y=>
    obtain⟨lo,hi2,j2⟩:=y
    rw[hb]at hq hR
    obtain⟨rfl,w1,w2⟩:=hq
    exact⟨_,_,rfl,rep h3 _ _ j2 0 w1 (fr2.trans w2) (.inl ⟨rfl,hR.symm⟩)⟩
  ·have d3:=ZI (c:=s[j]) (d:=63) (by simpa using c3)
   rw[d3]at kinds ⊢
   refine kinds rfl _ fun hR=>⟨_,u1.c1,h2,st,ifF rfl (ifT rfl (ifF rfl ?_))⟩
   exact rep h2 0 1 (j+1) 0 g2 fr2 (.inl ⟨rfl,hR.symm⟩)
  ·have d2:=ZI (c:=s[j]) (d:=43) (by simpa using c2)
   rw[d2]at kinds ⊢
   refine kinds rfl _ fun hR=>⟨_,u1.c1,h2,st,ifT rfl (ifF rfl (ifF rfl ?_))⟩
   exact rep h2 1 (-1) (j+1) 0 g2 fr2 (.inl ⟨rfl,hR.symm⟩)
  ·have d1:=ZI (c:=s[j]) (d:=42) (by simpa using c1)
   rw[d1]at kinds ⊢
   refine kinds rfl _ fun hR=>⟨_,u1.c1,h2,st,ifF rfl (ifF rfl (ifF rfl ?_))⟩
   exact rep h2 0 (-1) (j+1) 0 g2 fr2 (.inl ⟨rfl,hR.symm⟩)
 ·rw[hr]at hR
  exact⟨_,_,_,_,_,_,_,_,_,_,_,ZD _ _ _ _ _ _,_,u1.c3,Zg (fun _=>keep h1 j e u1 u2 (.inr ⟨he,hR.symm⟩)) (fun hc=>absurd (by simpa using hc) he)⟩

theorem WH(k:Int)(st:S4)(kids:List Re)(lo hi n:Int):Zo 9 (List.drop 0 (row Zd [.mk k st kids lo hi n]))=some [I k,U st.1,U st.2.1,U st.2.2.1,U st.2.2.2,lst Zd kids,I lo,I hi,I n]:=by
 have:=Xi (f:=Zd) (k:=9) ZK (l:= [.mk k st kids lo hi n]) (i:=0) (by simp)
 rw[Nat.zero_mul]at this
 rw[this]
 show some (Zd (.mk k st kids lo hi n))=_
 rw[Zp]
theorem Zcp(k:Int){out:List Re}(h:2<=out.length):sevS k out= .mk k (0,0,0,0) out 0 0 0:=by
 match out,h with
 |_::_::_,_=>rfl

def RowI(h0:Heap)(id:Nat)(s:List UInt8)(d:Nat)(R:PR Re)(N m:Nat)(vs:List V)(h:Heap):Prop:=
 ∃(a:Option (Nat×Nat)) (l:Nat) (c:Option Nat) (k:Nat) (out:List Re) (i g:Nat) (e:Int),vs= [.p (some (id,0)), .i .i64 (d:Nat),Zd6, .sl a l c k]∧LX Zd 9 h a l c k out∧(∀j,a=some (j,0)->h0.nx<=j)∧
  RdE h id s i g e∧FrO h0 id h∧out.length<=s.length+1∧((e=0∧i<=s.length∧g<=i∧out.length<=i∧6*(s.length-i)+5<=m∧m<=N∧rowE m d s i g out=R)∨(e≠0∧R= .error (e,i)))

theorem rowC{n:Nat}(ih: ∀m,m<n->AllC m){h:Heap}{id:Nat}{s:List UInt8}{i g d:Nat}(r:RdE h id s i g 0)(hs:s.length<2 ^ 27)(hi:i<=s.length)(hg:g<=i)(hd:d<=64)(hn:6*(s.length-i)+5<=n):
  Con UY 67 [.p (some (id,0)),I d] h (reQ (rowE n d s i g []) h id s):=by
 refine Zu UK (fn:=Tryz.f67) (Zl UK 65 ZIe rfl ?_)
 generalize hR:rowE n d s i g []=R
 refine⟨rfl,ZL [0,1,4,5] [0,1,4,5] (RowI h id s d R n) n Zy ⟨none,0,some 0,0,[],i,g,0,rfl,LX.start _ _ _ _ _,by simp,r, .refl _ _,by simp, .inl ⟨rfl,hi,hg,by simp,hn,qnq _,hR⟩⟩ ?_⟩
 have hid:=r.lt
 clear r hi hg hn hR
 rintro m vs h1 ⟨a,l,c,k,out,j,gg,e,rfl,hL,hnew,hr,hfr,hol,hst⟩
 refine Zs UK ZIf rfl ?_
 have stop:((e=0∧R= .ok (sevS 4 out,j,gg))∨(e≠0∧R= .error (e,j)))->XH UY 65 [0,1,4,5] [0,1,4,5] (RowI h id s d R n) m (Xa (post (flat (Za Tryz.f67)))) ((post (flat (Za Tryz.f67))).drop 1) (FinS UY Tryz.f67 (AfterZ (reQ R h id s))) (.exit 0) 65
   [.p (some (id,0)),I d,Zd6, .sl a l c k] h1:=fun hf=>by
  refine Zi [4,5] ?_
  have hq: ∀D:List Nat,(∀x,x∈D->h.nx<=x)->reQ R h id s (.agg (Zd (sevS 4 out))) (XT h1 D):=fun D hD=>⟨_,j,gg,e,rfl,hr.kill hD hid,hfr.kill hD,hf⟩
  have hlen:=hL.len
  by_cases hne:out= []
  ·have ha:=hL.nil hne
   subst hne ha hlen
   refine Zn UK Zyr rfl ?_
   exact finC (.inr rfl) rfl (Zan (hq [] (by simp)))
  ·obtain⟨q,rfl,rfl,hq1,hq2,hq3⟩:=hL.cells hne
   refine Zn UK ZIb rfl ?_
   have hpos:out.length≠0:=fun h0=>hne (qg h0)
   refine Zg (fun h0=> ?_) (fun h0=>Zg (fun h1'=> ?_) (fun h1'=> ?_))
   ·have:(l:Int)=0:=by simpa using h0
    omega
   ·have h1':(l:Int)=1:=by simpa using h1'
    obtain⟨x,rfl⟩:=List.length_eq_one_iff.1 (show out.length=1 by omega)
    obtain⟨xk,xs,xl,xlo,xhi,xn⟩:=x
    refine⟨⟨by omega,by omega⟩,rfl,_,_,_,_,_,_,_,_,_,_,_,(Zr hq2 0 9).trans (WH _ _ _ _ _ _),finC (.inr rfl) rfl (.now ?_)⟩
    rw[<-ZD]
    exact hq [] (by simp)
   ·have h1':(l:Int)≠1:=by simpa using h1'
    obtain⟨D,hz,hD⟩:=hL.afterZ (by decide) ZK Xb
    refine finC (.inr rfl) rfl (JI (D:=D) 4 0 0 0 (0,0,0,0) out (.frz _ _ hz) ?_)
    rw[<-Zcp 4 (by omega)]
    exact hq D fun x hx=>hnew x (hD x hx)
 refine⟨_,hr.c3,Zg (fun h0=> ?_) (fun h0=>stop ?_)⟩
 ·have h0:e=0:=by simpa using h0
  rcases hst with ⟨_,hj,hgg,hoj,hm,hmN,hR⟩|⟨he,_⟩
  ·subst h0
   obtain⟨m,rfl⟩: ∃m',m=m'+1:=⟨m-1,by omega⟩
   rw[rowE]at hR
   refine⟨_,hr.c1,_,hr.c0,Zm (fun hlt=> ?_) (fun hge=>stop (.inl ⟨rfl,?_⟩))⟩
   ·have hsj:s[j]? =some s[j]:=by simp[hlt]
    rw[hsj]at hR;simp only[]at hR
    refine⟨_,hr.c0,_,hr.c1,s[j],Vd hlt,Zg (fun c1=>⟨_,hr.c0,_,hr.c1,s[j],Vd hlt,Zg (fun c2=> ?_) (fun c2=>stop (.inl ⟨rfl,?_⟩))⟩) (fun c1=>stop (.inl ⟨rfl,?_⟩))⟩
    ·have c1:=ZF (c:=s[j]) (d:=124) (by simpa using c1)
     have c2:=ZF (c:=s[j]) (d:=41) (by simpa using c2)
     rw[if_neg (fun hc=>hc.elim c1 c2)]at hR
     refine((ih m (by omega)).piece hr hs hlt hgg hd (by omega)).mono fun v h2 ⟨x,j2,g2,e2,hv,u1,u2,u3⟩=> ?_
     subst hv
     obtain⟨xk,xs,xl,xlo,xhi,xn⟩:=x
     obtain⟨a',l',c',k',h3,q1,q2,q3,q,q4,q5⟩:=Zdt (.mk xk xs xl xlo xhi xn) (Zp _ _ _ _ _ _) (hL.keep hnew hid u2) (by omega)
     have hnew': ∀x,a'=some (x,0)->h.nx<=x:=fun x hx=>by rw[q4]at hx;cases hx;have:=hfr.1;have:=u2.1;omega
     have u1':=u1.app q3 fun o=>hL.ne hnew hid
     have fr':=(hL.keep hnew hid u2).frO hnew (hfr.trans u2) q3
     have hlen':(out++ [Re.mk xk xs xl xlo xhi xn]).length<=s.length+1:=by simp;omega
     rcases u3 with ⟨rfl,hr2⟩|⟨he2,hr2⟩
     ·rw[hr2]at hR;simp only[]at hR
      have hp:=(XD s m).2.2.2.1 hr2 (by omega) hgg
      exact⟨_,_,_,_,_,_,_,_,_,_,_,ZD _ _ _ _ _ _,a',l',c',k',h3,q1,rfl,m,by omega,a',l',c',k',_,j2,g2,0,rfl,q2,hnew',u1',fr',hlen', .inl ⟨rfl,by omega,by omega,by simp;omega,by omega,by omega,hR⟩⟩
     ·rw[hr2]at hR
      exact⟨_,_,_,_,_,_,_,_,_,_,_,ZD _ _ _ _ _ _,a',l',c',k',h3,q1,rfl,m,by omega,a',l',c',k',_,j2,g2,e2,rfl,q2,hnew',u1',fr',hlen', .inr ⟨he2,hR.symm⟩⟩
    ·have c2:=ZI (c:=s[j]) (d:=41) (by simpa using c2)
     rw[if_pos (.inr c2)]at hR;exact hR.symm
    ·have c1:=ZI (c:=s[j]) (d:=124) (by simpa using c1)
     rw[if_pos (.inl c1)]at hR;exact hR.symm
   ·rw[qq (by omega)]at hR;exact hR.symm
  ·exact absurd h0 he
 ·have h0:e≠0:=by simpa using h0
  rcases hst with ⟨he,_⟩|hst
  ·exact absurd he h0
  ·exact .inr hst

def AltI(h0:Heap)(id:Nat)(s:List UInt8)(d:Nat)(R:PR Re)(N m:Nat)(vs:List V)(h:Heap):Prop:=
 ∃(q:Nat) (l:Nat) (c:Option Nat) (out:List Re) (i g:Nat) (e:Int),vs= [.p (some (id,0)), .i .i64 (d:Nat),Zd6, .sl (some (q,0)) l c 9]∧LX Zd 9 h (some (q,0)) l c 9 out∧out≠ []∧h0.nx<=q∧
  RdE h id s i g e∧FrO h0 id h∧out.length<=s.length+2∧((e=0∧i<=s.length∧g<=i∧out.length<=i+1∧6*(s.length-i)+5<=m∧m<N∧JY m d s i g out=R)∨(e≠0∧R= .error (e,i)))

theorem altC{n:Nat}(ih: ∀m,m<n->AllC m){h:Heap}{id:Nat}{s:List UInt8}{i g d:Nat}(r:RdE h id s i g 0)(hs:s.length<2 ^ 27)(hi:i<=s.length)(hg:g<=i)(hd:d<=64)(hn:6*(s.length-i)+6<=n):
  Con UY 27 [.p (some (id,0)),I d] h (reQ (altE n d s i g) h id s):=by
 obtain⟨n,rfl⟩: ∃m,n=m+1:=⟨n-1,by omega⟩
 refine Zu UK (fn:=Tryz.f27) (Zl UK 33 ZIc rfl ?_)
 generalize hR:altE (n+1) d s i g=R
 rw[altE]at hR
 refine((ih n (by omega)).row r hs hi hg hd (by omega)).mono fun v h1 ⟨x,j,gg,e,hv,u1,u2,u3⟩=> ?_
 subst hv
 obtain⟨xk,xs,xl,xlo,xhi,xn⟩:=x
 have hid:=r.lt
 have hL0:LX Zd 9 (h1.push (.arr (Zd (.mk xk xs xl xlo xhi xn)) true)) (some (h1.nx,0)) 1 (some 1) 9 [.mk xk xs xl xlo xhi xn]:=LX.one _ _ _ _
 rw[Zp]at hL0
 have u1':RdE (h1.push (.arr [I xk,U xs.1,U xs.2.1,U xs.2.2.1,U xs.2.2.2,lst Zd xl,I xlo,I xhi,I xn] true)) id s j gg e:=⟨by rw[qk,if_neg (by have:=u1.lt;omega)];exact u1.get,by have:=u1.lt;simp;omega⟩
 have u2':FrO h id (h1.push (.arr [I xk,U xs.1,U xs.2.1,U xs.2.2.1,U xs.2.2.2,lst Zd xl,I xlo,I xhi,I xn] true)):=⟨by have:=u2.1;simp;omega,fun q hq hne=>by rw[qk,if_neg (by have:=u2.1;omega)];exact u2.2 q hq hne⟩
 refine⟨_,_,_,_,_,_,_,_,_,_,_,ZD _ _ _ _ _ _,rfl,ZL [0,1,4,5] [0,1,4,5] (AltI h id s d R (n+1)) n Zy ⟨h1.nx,1,some 1,_,j,gg,e,rfl,hL0,by simp,u2.1,u1',u2',by simp,?_⟩ ?_⟩
 ·rcases u3 with ⟨rfl,hr⟩|⟨he,hr⟩
  ·have hp:=(XD s n).2.2.1 hr hi hg
   rw[hr]at hR
   exact .inl ⟨rfl,by omega,by omega,by simp,by omega,by omega,hR⟩
  ·rw[hr]at hR
   exact .inr ⟨he,hR.symm⟩
 clear r hi hg hn hR u1 u2 u3 hL0 u1' u2'
 rintro m vs h1 ⟨q,l,c,out,j,gg,e,rfl,hL,hne,hqn,hr,hfr,hol,hst⟩
 refine Zs UK ZId rfl ?_
 have hnew: ∀x,(some (q,0):Option (Nat×Nat))=some (x,0)->h.nx<=x:=fun x hx=>by cases hx;exact hqn
 have stop:((e=0∧R= .ok (sevS 5 out,j,gg))∨(e≠0∧R= .error (e,j)))->XH UY 33 [0,1,4,5] [0,1,4,5] (AltI h id s d R (n+1)) m (Xa (post (flat (Za Tryz.f27)))) ((post (flat (Za Tryz.f27))).drop 1) (FinS UY Tryz.f27 (AfterZ (reQ R h id s))) (.exit 0) 33
   [.p (some (id,0)),I d,Zd6, .sl (some (q,0)) l c 9] h1:=fun hf=>by
  refine Zi [4,5] ?_
  have hq: ∀D:List Nat,(∀x,x∈D->h.nx<=x)->reQ R h id s (.agg (Zd (sevS 5 out))) (XT h1 D):=fun D hD=>⟨_,j,gg,e,rfl,hr.kill hD hid,hfr.kill hD,hf⟩
  have hlen:=hL.len
  obtain⟨q',hq',_,hq1,hq2,hq3⟩:=hL.cells hne
  cases hq'
  refine Zn UK ZIa rfl ?_
  have hpos:out.length≠0:=fun h0=>hne (qg h0)
  refine Zg (fun h1'=> ?_) (fun h1'=> ?_)
  ·have h1':(l:Int)=1:=by simpa using h1'
   obtain⟨x,rfl⟩:=List.length_eq_one_iff.1 (show out.length=1 by omega)
   obtain⟨xk,xs,xl,xlo,xhi,xn⟩:=x
   refine⟨⟨by omega,by omega⟩,rfl,_,_,_,_,_,_,_,_,_,_,_,(Zr hq2 0 9).trans (WH _ _ _ _ _ _),finC (.inr rfl) rfl (.now ?_)⟩
   rw[<-ZD]
   exact hq [] (by simp)
  ·have h1':(l:Int)≠1:=by simpa using h1'
   obtain⟨D,hz,hD⟩:=hL.afterZ (by decide) ZK Xb
   refine finC (.inr rfl) rfl (JI (D:=D) 5 0 0 0 (0,0,0,0) out (.frz _ _ hz) ?_)
   rw[<-Zcp 5 (by omega)]
   exact hq D fun x hx=>hnew x (hD x hx)
 refine⟨_,Jb hr 124,Zg (fun hb=> ?_) (fun hb=>stop ?_)⟩
 ·have h0:e=0∧s[j]? =some 124:=by simpa using hb
  obtain⟨rfl,h124⟩:=h0
  rcases hst with ⟨_,hj,hgg,hoj,hm,hmN,hR⟩|⟨he,_⟩
  ·obtain⟨m,rfl⟩: ∃m',m=m'+1:=⟨m-1,by omega⟩
   rw[JY,if_pos h124]at hR
   have hlt:=(qb.1 h124).1
   obtain⟨h2,g1,g2,g3⟩:=hr.s1 (j+1)
   have hL2:=hL.keep hnew hid g3
   refine⟨_,hr.c1,h2,by rw[Zh (by omega)];exact g1,?_⟩
   refine((ih m (by omega)).row g2 hs (by omega) (by omega) hd (by omega)).mono fun v h3 ⟨x,j2,gg2,e2,hv,u1,u2,u3⟩=> ?_
   subst hv
   obtain⟨xk,xs,xl,xlo,xhi,xn⟩:=x
   have hL3:=hL2.keep hnew hid u2
   obtain⟨a',l',c',k',h4,q1,q2,q3,q',q4,q5⟩:=Zdt (.mk xk xs xl xlo xhi xn) (Zp _ _ _ _ _ _) hL3 (by omega)
   subst q4
   obtain⟨_,_,hk',_⟩:=q2.cells (by simp)
   subst hk'
   have hq':h.nx<=q':=by have:=hfr.1;have:=g3.1;have:=u2.1;omega
   have u1':=u1.app q3 fun o=>hL3.ne hnew hid
   have fr':=hL3.frO hnew ((hfr.trans g3).trans u2) q3
   have hlen':(out++ [Re.mk xk xs xl xlo xhi xn]).length<=s.length+2:=by simp;omega
   rcases u3 with ⟨rfl,hr2⟩|⟨he2,hr2⟩
   ·rw[hr2]at hR;simp only[]at hR
    have hp:=(XD s m).2.2.1 hr2 (by omega) (by omega)
    exact⟨_,_,_,_,_,_,_,_,_,_,_,ZD _ _ _ _ _ _,_,l',c',_,h4,q1,rfl,m,by omega,q',l',c',_,j2,gg2,0,rfl,q2,by simp,hq',u1',fr',hlen', .inl ⟨rfl,by omega,by omega,by simp;omega,by omega,by omega,hR⟩⟩
   ·rw[hr2]at hR
    exact⟨_,_,_,_,_,_,_,_,_,_,_,ZD _ _ _ _ _ _,_,l',c',_,h4,q1,rfl,m,by omega,q',l',c',_,j2,gg2,e2,rfl,q2,by simp,hq',u1',fr',hlen', .inr ⟨he2,hR.symm⟩⟩
  ·exact absurd rfl he
 ·rcases hst with ⟨rfl,hj,hgg,hoj,hm,hmN,hR⟩|hst
  ·have h124:s[j]? ≠some 124:=by simpa using hb
   obtain⟨m,rfl⟩: ∃m',m=m'+1:=⟨m-1,by omega⟩
   rw[JY,if_neg h124]at hR
   exact .inl ⟨rfl,hR.symm⟩
  ·exact .inr hst

theorem allC(n:Nat):AllC n:=by
 induction n using Nat.strongRecOn with
 |ind n ih=>exact⟨altC ih,rowC ih,ZEt ih,ZIg ih⟩

def erV:Except (Int×Nat) Re->V
 | .error (e,p)=> .tup [.agg (Zd Xs), .i .i64 (p:Nat), .i .i64 e]
 | .ok x=> .tup [.agg (Zd x), .i .i64 0, .i .i64 0]
def Zbw(s:List UInt8):V:=erV (Qg s)

theorem WI(h:Heap)(x:Re):Frz h (.agg (Zd x)) (.agg (Zd x)):= .agg _ _ (ZU _ (Xb x))
theorem Xu(h:Heap):Frz h (.agg [I 0,U 0,U 0,U 0,U 0, .sl none 0 (some 0) 0,I 0,I 0,I 0]) (.agg (Zd Xs)):=by
 unfold Xs
 rw[Zp]
 exact .agg _ _ (.cons _ _ _ _ (.i _ _) (.cons _ _ _ _ (.i _ _) (.cons _ _ _ _ (.i _ _) (.cons _ _ _ _ (.i _ _) (.cons _ _ _ _ (.i _ _) (.cons _ _ _ _ (.sln _ _ none (fun x hx=>by cases hx)) (.cons _ _ _ _ (.i _ _) (.cons _ _ _ _ (.i _ _) (.cons _ _ _ _ (.i _ _) .nil)))))))))

theorem Zfk(s:List UInt8):PCon UY 8 [.s s] (· =Zbw s):=by
 refine Zt UK (fn:=Tryz.f8) rfl f8_0 rfl ?_
 unfold Zbw
 generalize hP:Qg s=P
 unfold Qg at hP
 refine XC (fun hlt=> ?_) (fun hge=> ?_)
 ·rw[if_pos (by omega)]at hP
  subst hP
  exact Zg0 (.inr rfl) rfl (Xu _) (.i _ _) (.i _ _) rfl
 rw[if_neg (by omega)]at hP
 have r:RdE (Heap.empty.push (.arr [.s s,I 0,I 0,I 0] true)) Heap.empty.nx s 0 0 0:=⟨by rw[qk,if_pos rfl];rfl,by simp⟩
 refine((allC (6*s.length+10)).alt (d:=0) r (by omega) (by omega) (by omega) (by omega) (by omega)).mono fun v h1 ⟨x,j,g,e,hv,u1,u2,u3⟩=> ?_
 subst hv
 obtain⟨xk,xs,xl,xlo,xhi,xn⟩:=x
 have good: ∀h2:Heap,P= .ok (.mk xk xs xl xlo xhi xn)->Go.Y.Fin UY Tryz.f8 [2,3,4] (fun v h=> ∃r,Frz h v r∧r=erV P) .ret 47
   [.lb [I xk,U xs.1,U xs.2.1,U xs.2.2.1,U xs.2.2.2,lst Zd xl,I xlo,I xhi,I xn],I 0,I 0] h2:=fun h2 hp=>by
  subst hp
  refine Zg0 (.inr rfl) rfl ?_ (.i _ _) (.i _ _) rfl
  rw[<-ZD];exact WI _ _
 have bad: ∀(h2:Heap) (p:Nat) (e:Int),P= .error (e,p)->Go.Y.Fin UY Tryz.f8 [2,3,4] (fun v h=> ∃r,Frz h v r∧r=erV P) .ret 47
   [.lb [I 0,U 0,U 0,U 0,U 0, .sl none 0 (some 0) 0,I 0,I 0,I 0],I (p:Nat),I e] h2:=fun h2 p e hp=>by
  subst hp
  exact Zg0 (.inr rfl) rfl (Xu _) (.i _ _) (.i _ _) rfl
 refine⟨_,_,_,_,_,_,_,_,_,_,_,ZD _ _ _ _ _ _,_,u1.c3,?_⟩
 rcases u3 with ⟨rfl,hr⟩|⟨he,hr⟩
 ·rw[hr]at hP;simp only[]at hP
  refine Zg (fun _=>⟨_,u1.c1,Zm (fun hlt=> ?_) (fun hge2=>⟨_,u1.c3,Zg (fun hc=>by simp at hc) (fun _=>good h1 ?_)⟩)⟩) (fun hc=>by simp at hc)
  ·rw[if_pos hlt]at hP
   exact Zmo u1 1 fun h2 w1 w2=>⟨rfl,_,w1.c3,Zg (fun _=>⟨_,w1.c1,_,w1.c3,bad h2 j 1 hP.symm⟩) (fun hc=>by simp at hc)⟩
  ·rw[if_neg (by omega)]at hP;exact hP.symm
 ·rw[hr]at hP
  refine Zg (fun hc=>absurd (by simpa using hc) he) (fun _=>⟨_,u1.c3,Zg (fun _=>⟨_,u1.c1,_,u1.c3,bad h1 j e hP.symm⟩) (fun hc=>absurd (by simpa using hc) he)⟩)
end Go.Y
