/- A part of the proof. -/
import Derived.Test.YteennilbmmlikaaGreatDoorYAny3
import Derived.Test.YteennilbmmlikaaGreatDoorYLoop
import Derived.Test.YteennilbmmlikaaGreatDoorGTextE
import Derived.Test.YteennilbmmlikaaGreatDoorED1
namespace Go.Y
open Go.Proofs
set_option maxRecDepth 1000000
set_option maxHeartbeats 0
theorem ZKb{x0 h}(K):CP UY 195 (flat (Za Tryz.f195)) (.i .u8 x0::Rp 7) h [2] K=(∃a b c d,(PCon UY 200 [.agg [U 0,U 0,U 0,U 0],.i .u8 x0,.i .u8 x0] fun(v:V)=>v=.agg [U a,U b,U c,U d])/\K .ret 8 [.lb [I 1,U a,U b,U c,U d,S0,I 0,I 0,I 0]] h):=kr
theorem ZKc{id h}(K):CP UY 188 (flat (Za Tryz.f188)) (.p (some (id,0))::Rp 29) h [2,3] K=(Con UY 196 [.p (some (id,0)),.s [(48:UInt8),49,50,51,52,53,54,55,56]] h fun(v:V) (g:Heap)=> ∃a,v=.i .u8 a/\ ∃b,RCon UY (136:Nat) [.p (some (id,0)),.s [(44:UInt8)]] g (.b b)/\If b (Con UY 137 [.p (some (id,0))] g fun(v:V) (g:Heap)=> ∃c,v=.i .u8 c/\ ∃d,RCon UY (136:Nat) [.p (some (id,0)),.s [(125:UInt8)]] g (.b d)/\If (!d) (((0:Int)<=(fun(x y:Int)=>if y<x then y else x) ((fun(x y:Int)=>if y>x then y else x) (wW (wW a-(48:Int))) (0:Int)) (9:Int)/\(fun(x y:Int)=>if y<x then y else x) ((fun(x y:Int)=>if y>x then y else x) (wW (wW a-(48:Int))) (0:Int)) (9:Int)<=(↑[(48:UInt8),49,50,51,52,53,54,55,56].length:Int))/\Con UY 196 [.p (some (id,0)),.s (List.take ([(48:UInt8),49,50,51,52,53,54,55,56].length-((fun(x y:Int)=>if y<x then y else x) ((fun(x y:Int)=>if y>x then y else x) (wW (wW a-(48:Int))) (0:Int)) (9:Int)).toNat) (List.drop ((fun(x y:Int)=>if y<x then y else x) ((fun(x y:Int)=>if y>x then y else x) (wW (wW a-(48:Int))) (0:Int)) (9:Int)).toNat [(48:UInt8),49,50,51,52,53,54,55,56]))] g fun(v:V) (g:Heap)=> ∃e,v=.i .u8 e/\Con UY 196 [.p (some (id,0)),.s [(125:UInt8)]] g fun(v:V) (g:Heap)=> ∃f,v=.i .u8 f/\K .ret 30 [I (wW (wW a-(48:Int))),I (wW (wW e-(48:Int)))] g) (Con UY 196 [.p (some (id,0)),.s [(125:UInt8)]] g fun(v:V) (g:Heap)=> ∃e,v=.i .u8 e/\K .ret 30 [I (wW (wW a-(48:Int))),I (-1)] g)) (Con UY 196 [.p (some (id,0)),.s [(125:UInt8)]] g fun(v:V) (g:Heap)=> ∃c,v=.i .u8 c/\K .ret 30 [I (wW (wW a-(48:Int))),I (wW (wW a-(48:Int)))] g)):=kr
theorem ZKd{id d h}(K):CP UY 170 (flat (Za Tryz.f170)) (.p (some (id,0))::I d::Rp 44) h [4] K=(Con UY 187 [.p (some (id,0)),I d] h fun(v:V) (k:Heap)=> ∃a b c e f g j l m n o,v=.agg (R9 a b c e f g j l m n o)/\ ∃q,RCon UY (136:Nat) [.p (some (id,0)),.s [(42:UInt8),43,63,123]] k (.b q)/\If (!q) (K .ret 46 [.lb (R9 a b c e f g j l m n o)] k) (If (a==(2:Int)) (Con UY 108 [.p (some (id,0)),I 1] k fun(v:V) (k:Heap)=>v=.tup []/\K .ret 46 [.lb (R9 a b c e f g j l m n o)] k) (If (a==(3:Int)) (Con UY 108 [.p (some (id,0)),I 1] k fun(v:V) (k:Heap)=>v=.tup []/\K .ret 46 [.lb (R9 a b c e f g j l m n o)] k) (Con UY 137 [.p (some (id,0))] k fun(v:V) (k:Heap)=> ∃r,v=.i .u8 r/\If (r==(43:Int)) (K .ret 46 [.lb [I 6,U 0,U 0,U 0,U 0,J (R9 a b c e f g j l m n o) 1 (some 1),I 1,I (-1),I 0]] k) (If (r==(63:Int)) (K .ret 46 [.lb [I 6,U 0,U 0,U 0,U 0,J (R9 a b c e f g j l m n o) 1 (some 1),I 0,I 1,I 0]] k) (If (r==(123:Int)) (Con UY 188 [.p (some (id,0))] k fun(v:V) (k:Heap)=> ∃t u,v=.tup [I t,I u]/\K .ret 46 [.lb [I 6,U 0,U 0,U 0,U 0,J (R9 a b c e f g j l m n o) 1 (some 1),I t,I u,I 0]] k) (K .ret 46 [.lb [I 6,U 0,U 0,U 0,U 0,J (R9 a b c e f g j l m n o) 1 (some 1),I 0,I (-1),I 0]] k))))))):=kr
theorem ZKe{id d h}(K):CP UY 187 (flat (Za Tryz.f187)) (.p (some (id,0))::I d::Rp 50) h [4] K=(∃a,RCon UY (136:Nat) [.p (some (id,0)),.s [(42:UInt8),43,63,123]] h (.b a)/\If a (Con UY 108 [.p (some (id,0)),I 1] h fun(v:V) (k:Heap)=>v=.tup []/\K .ret 52 [.lb R0] k) (∃b,RCon UY (136:Nat) [.p (some (id,0)),.s [(40:UInt8)]] h (.b b)/\If b (If (leI 64 d) (Con UY 108 [.p (some (id,0)),I 8] h fun(v:V) (k:Heap)=>v=.tup []/\K .ret 52 [.lb R0] k) (Con UY 137 [.p (some (id,0))] h fun(v:V) (k:Heap)=> ∃c,v=.i .u8 c/\If (c==(40:Int)) (Con UY 193 [.p (some (id,0)),I d] k fun(v:V) (k:Heap)=> ∃e f g j l m n o q r t,v=.agg (R9 e f g j l m n o q r t)/\K .ret 52 [.lb (R9 e f g j l m n o q r t)] k) (If (c==(91:Int)) (Con UY 194 [.p (some (id,0))] k fun(v:V) (k:Heap)=> ∃e f g j l m n o q r t,v=.agg (R9 e f g j l m n o q r t)/\K .ret 52 [.lb (R9 e f g j l m n o q r t)] k) (If (c==(46:Int)) (∃e f g j,(PCon UY 176 [.agg [U 0,U 0,U 0,U 0]] fun(v:V)=>v=.agg [U e,U f,U g,U j])/\K .ret 52 [.lb [I 1,U e,U f,U g,U j,S0,I 0,I 0,I 0]] k) (If (c==(94:Int)) (K .ret 52 [.lb [I 2,U 0,U 0,U 0,U 0,S0,I 0,I 0,I 0]] k) (If (c==(36:Int)) (K .ret 52 [.lb [I 3,U 0,U 0,U 0,U 0,S0,I 0,I 0,I 0]] k) (If (c==(92:Int)) (Con UY 137 [.p (some (id,0))] k fun(v:V) (k:Heap)=> ∃e,v=.i .u8 e/\ ∃f g j l m n o q r t u,(PCon UY 195 [.i .u8 e] fun(v:V)=>v=.agg (R9 f g j l m n o q r t u))/\K .ret 52 [.lb (R9 f g j l m n o q r t u)] k) (∃e f g j l m n o q r t,(PCon UY 195 [.i .u8 c] fun(v:V)=>v=.agg (R9 e f g j l m n o q r t))/\K .ret 52 [.lb (R9 e f g j l m n o q r t)] k)))))))) (Con UY 137 [.p (some (id,0))] h fun(v:V) (k:Heap)=> ∃c,v=.i .u8 c/\If (c==(40:Int)) (Con UY 193 [.p (some (id,0)),I d] k fun(v:V) (k:Heap)=> ∃e f g j l m n o q r t,v=.agg (R9 e f g j l m n o q r t)/\K .ret 52 [.lb (R9 e f g j l m n o q r t)] k) (If (c==(91:Int)) (Con UY 194 [.p (some (id,0))] k fun(v:V) (k:Heap)=> ∃e f g j l m n o q r t,v=.agg (R9 e f g j l m n o q r t)/\K .ret 52 [.lb (R9 e f g j l m n o q r t)] k) (If (c==(46:Int)) (∃e f g j,(PCon UY 176 [.agg [U 0,U 0,U 0,U 0]] fun(v:V)=>v=.agg [U e,U f,U g,U j])/\K .ret 52 [.lb [I 1,U e,U f,U g,U j,S0,I 0,I 0,I 0]] k) (If (c==(94:Int)) (K .ret 52 [.lb [I 2,U 0,U 0,U 0,U 0,S0,I 0,I 0,I 0]] k) (If (c==(36:Int)) (K .ret 52 [.lb [I 3,U 0,U 0,U 0,U 0,S0,I 0,I 0,I 0]] k) (If (c==(92:Int)) (Con UY 137 [.p (some (id,0))] k fun(v:V) (k:Heap)=> ∃e,v=.i .u8 e/\ ∃f g j l m n o q r t u,(PCon UY 195 [.i .u8 e] fun(v:V)=>v=.agg (R9 f g j l m n o q r t u))/\K .ret 52 [.lb (R9 f g j l m n o q r t u)] k) (∃e f g j l m n o q r t,(PCon UY 195 [.i .u8 c] fun(v:V)=>v=.agg (R9 e f g j l m n o q r t))/\K .ret 52 [.lb (R9 e f g j l m n o q r t)] k))))))))):=kr
theorem ZKf{id d h}(K):CP UY 193 (flat (Za Tryz.f193)) (.p (some (id,0))::I d::Rp 28) h [4] K=(∃a,Zb h id 2 1=some [I a]/\ ∃b,Zi h id 2 [I (wW (a+(1:Int)))]=some b/\ ∃c,Zb b id 2 1=some [I c]/\If (ltI 9 c) (Con UY 106 [.p (some (id,0)),I (wW (d+(1:Int)))] b fun(v:V) (k:Heap)=> ∃e f g j l m n o q r t,v=.agg (R9 e f g j l m n o q r t)/\Con UY 196 [.p (some (id,0)),.s [(41:UInt8)]] k fun(v:V) (k:Heap)=> ∃u,v=.i .u8 u/\K .ret 30 [.lb [I 7,U 0,U 0,U 0,U 0,J (R9 e f g j l m n o q r t) 1 (some 1),I 0,I 0,I 0]] k) (Con UY 106 [.p (some (id,0)),I (wW (d+(1:Int)))] b fun(v:V) (k:Heap)=> ∃e f g j l m n o q r t,v=.agg (R9 e f g j l m n o q r t)/\Con UY 196 [.p (some (id,0)),.s [(41:UInt8)]] k fun(v:V) (k:Heap)=> ∃u,v=.i .u8 u/\K .ret 30 [.lb [I 7,U 0,U 0,U 0,U 0,J (R9 e f g j l m n o q r t) 1 (some 1),I 0,I 0,I c]] k)):=kr
theorem ZKg{id h}(K):CP UY 194 (pre (flat (Za Tryz.f194))) (.p (some (id,0))::Rp 64) h [0,2,3,4,5,7] K=(∃a,RCon UY (136:Nat) [.p (some (id,0)),.s [(94:UInt8)]] h (.b a)/\If a (Con UY 137 [.p (some (id,0))] h fun(v:V) (c:Heap)=> ∃b,v=.i .u8 b/\K .normal 65 [.p (some (id,0)), .lb R0, .b a, .lb [U 0,U 0,U 0,U 0], .b true,Ud] c) (K .normal 65 [.p (some (id,0)), .lb R0, .b a, .lb [U 0,U 0,U 0,U 0], .b true,Ud] h)):=kr
theorem ZKh{id b3 b5 a c d e f h}(K):CP UY 194 (flat (Zx (post (flat (Za Tryz.f194))))) (MZ 65 [0,2,3,4,5,7] [.p (some (id,0)),.lb R0,.b b3,.lb [U a,U c,U d,U e],.b b5,f]) h [0,2,3,4,5,7] K=(∃g,(λz=>Zb h id 3 1=some [I g]/\If (g==(0:Int)) (If b5 (Con UY 199 [.p (some (id,0))] h fun(v:V) (k:Heap)=> ∃j,v=.i .u8 j/\ ∃l,RCon UY (136:Nat) [.p (some (id,0)),.s [(45:UInt8)]] k (.b l)/\If l (Con UY 137 [.p (some (id,0))] k fun(v:V) (k:Heap)=> ∃m,v=.i .u8 m/\Con UY 199 [.p (some (id,0))] k fun(v:V) (k:Heap)=> ∃n,v=.i .u8 n/\ ∃o,(λB=>Zb k id 3 1=some [I o]/\If (o==(0:Int)) (If (ltI n j) (∃q,Zb k id 1 1=some [I q]/\ ∃r,Zi k id 1 [I (wW (q-(1:Int)))]=some r/\Con UY 108 [.p (some (id,0)),I 1] r fun(v:V) (k:Heap)=>v=.tup []/\ ∃t u w x,(PCon UY 200 [.agg [U a,U c,U d,U e],.i .u8 j,.i .u8 n] fun(v:V)=>v=.agg [U t,U u,U w,U x])/\K .normal 65 [.p (some (id,0)), .lb R0, .b b3, .lb [U t,U u,U w,U x], .b false, .i .u8 n] k) B) B) (∃q r t u,(PCon UY 200 [.agg [U a,U c,U d,U e],.i .u8 j,.i .u8 n] fun(v:V)=>v=.agg [U q,U r,U t,U u])/\K .normal 65 [.p (some (id,0)), .lb R0, .b b3, .lb [U q,U r,U t,U u], .b false, .i .u8 n] k)) (∃m n o q,(PCon UY 200 [.agg [U a,U c,U d,U e],.i .u8 j,.i .u8 j] fun(v:V)=>v=.agg [U m,U n,U o,U q])/\K .normal 65 [.p (some (id,0)), .lb R0, .b b3, .lb [U m,U n,U o,U q], .b false, .i .u8 j] k)) (∃j,RCon UY (136:Nat) [.p (some (id,0)),.s [(93:UInt8)]] h (.b j)/\If (!j) (Con UY 199 [.p (some (id,0))] h fun(v:V) (k:Heap)=> ∃l,v=.i .u8 l/\ ∃m,RCon UY (136:Nat) [.p (some (id,0)),.s [(45:UInt8)]] k (.b m)/\If m (Con UY 137 [.p (some (id,0))] k fun(v:V) (k:Heap)=> ∃n,v=.i .u8 n/\Con UY 199 [.p (some (id,0))] k fun(v:V) (k:Heap)=> ∃o,v=.i .u8 o/\ ∃q,(λA=>Zb k id 3 1=some [I q]/\If (q==(0:Int)) (If (ltI o l) (∃r,Zb k id 1 1=some [I r]/\ ∃t,Zi k id 1 [I (wW (r-(1:Int)))]=some t/\Con UY 108 [.p (some (id,0)),I 1] t fun(v:V) (k:Heap)=>v=.tup []/\ ∃u w x y,(PCon UY 200 [.agg [U a,U c,U d,U e],.i .u8 l,.i .u8 o] fun(v:V)=>v=.agg [U u,U w,U x,U y])/\K .normal 65 [.p (some (id,0)), .lb R0, .b b3, .lb [U u,U w,U x,U y], .b false, .i .u8 o] k) A) A) (∃r t u w,(PCon UY 200 [.agg [U a,U c,U d,U e],.i .u8 l,.i .u8 o] fun(v:V)=>v=.agg [U r,U t,U u,U w])/\K .normal 65 [.p (some (id,0)), .lb R0, .b b3, .lb [U r,U t,U u,U w], .b false, .i .u8 o] k)) (∃n o q r,(PCon UY 200 [.agg [U a,U c,U d,U e],.i .u8 l,.i .u8 l] fun(v:V)=>v=.agg [U n,U o,U q,U r])/\K .normal 65 [.p (some (id,0)), .lb R0, .b b3, .lb [U n,U o,U q,U r], .b false, .i .u8 l] k)) z)) z) (K (.exit 0) 65 [.p (some (id,0)), .lb R0, .b b3, .lb [U a,U c,U d,U e], .b b5,f] h)):=kr
theorem ZKi{id a c d e f h}(K):CP UY 194 ((post (flat (Za Tryz.f194))).drop 1) (MZ 65 [0,2,3,4] [.p (some (id,0)),.lb R0,.b f,.lb [U a,U c,U d,U e]]) h [2] K=(Con UY 196 [.p (some (id,0)),.s [(93:UInt8)]] h fun(v:V) (k:Heap)=> ∃g,v=.i .u8 g/\If f (∃j l m n,(PCon UY 176 [.agg [U a,U c,U d,U e]] fun(v:V)=>v=.agg [U j,U l,U m,U n])/\K .ret 65 [.lb [I 1,U j,U l,U m,U n,S0,I 0,I 0,I 0]] k) (K .ret 65 [.lb [I 1,U a,U c,U d,U e,S0,I 0,I 0,I 0]] k)):=kr
theorem ZKj{a b c d x1 x2 h}(K):CP UY 200 (pre (flat (Za Tryz.f200))) (.agg [U a,U b,U c,U d]::.i .u8 x1::.i .u8 x2::Rp 23) h [2,3,6,7] K=(K .normal 26 [.i .u8 x2, .p (some (h.nx,0)), .lb [U 0,U 0,U 0,U 0],I (wW x1)] (h.push (YObj.arr [U a,U b,U c,U d] true))):=kr
theorem ZKk{x2 a x7 h}(K):CP UY 200 (flat (Zx (post (flat (Za Tryz.f200))))) (MZ 26 [2,3,6,7] [.i .u8 x2,.p (some (a,0)),.lb [U 0,U 0,U 0,U 0],I x7]) h [2,3,6,7] K=(If (leI x7 (wW x2)) ((0:Int)<=(6:Int)/\((0:Int)<=x7.fdiv ((2:Int) ^ min (Int.toNat (6:Int)) IntKind.i64.bits)/\x7.fdiv ((2:Int) ^ min (Int.toNat (6:Int)) IntKind.i64.bits)<(↑(4:Nat):Int))/\ ∃b,Zb h a ((0:Nat)+(x7.fdiv ((2:Int) ^ min (Int.toNat (6:Int)) IntKind.i64.bits)).toNat*1) 1=some [U b]/\(0:Int)<=wW (↑(BitVec.ofInt IntKind.i64.bits x7&&&BitVec.ofInt IntKind.i64.bits (63:Int)).toNat:Int)/\((0:Int)<=x7.fdiv ((2:Int) ^ min (Int.toNat (6:Int)) IntKind.i64.bits)/\x7.fdiv ((2:Int) ^ min (Int.toNat (6:Int)) IntKind.i64.bits)<(↑(4:Nat):Int))/\ ∃c,Zi h a ((0:Nat)+(x7.fdiv ((2:Int) ^ min (Int.toNat (6:Int)) IntKind.i64.bits)).toNat*1) [U (IntKind.u64.wrap (↑(BitVec.ofInt IntKind.u64.bits b|||BitVec.ofInt IntKind.u64.bits (IntKind.u64.wrap ((1:Int)*(2:Int) ^ min (wW (↑(BitVec.ofInt IntKind.i64.bits x7&&&BitVec.ofInt IntKind.i64.bits (63:Int)).toNat:Int)).toNat IntKind.u64.bits))).toNat:Int))]=some c/\K .normal 26 [.i .u8 x2, .p (some (a,0)), .lb [U 0,U 0,U 0,U 0],I (wW (x7+(1:Int)))] c) (K (.exit 0) 26 [.i .u8 x2, .p (some (a,0)), .lb [U 0,U 0,U 0,U 0],I x7] h)):=kr
theorem ZKl{a h}(K):CP UY 200 ((post (flat (Za Tryz.f200))).drop 1) (MZ 26 [3,6] [.p (some (a,0)),.lb [U 0,U 0,U 0,U 0]]) h [6] K=(∃b c d e,Zb h a 0 4=some [U b,U c,U d,U e]/\K .ret 26 [.lb [U b,U c,U d,U e]] h):=kr
theorem ZKm{k q l c h}(K):CP UY 138 (flat (Za Tryz.f138)) (I k::S (some (q,0)) l c 9::Rp 16) h [4] K=(If ((↑l:Int)==(0:Int)) (K .ret 18 [.lb R0] h) (If ((↑l:Int)==(1:Int)) (((0:Int)<=(0:Int)/\(0:Int)<(l:Int))/\9=9/\ ∃a b d e f g i j m n o,Zb h q 0 9=some (R9 a b d e f g i j m n o)/\K .ret 18 [.lb (R9 a b d e f g i j m n o)] h) (K .ret 18 [.lb [I k,U 0,U 0,U 0,U 0,S (some (q,0)) l c 9,I 0,I 0,I 0]] h))):=kr
theorem ZFc{k c kk h}(K):CP UY 138 (flat (Za Tryz.f138)) (I k::S none 0 c kk::Rp 16) h [4] K=(K .ret 18 [.lb R0] h):=kr
def Zb8(p:Nat->Bool)(a c:Nat)(x:Nat):Bool:=p x||(decide (a<=x)&&decide (x<c))
theorem Zfy(p:Nat->Bool){a c:Nat}(h:a<=c):(λx=>Zb8 p a c x||x==c)=Zb8 p a (c+1):=by
 funext x;unfold Zb8;cases p x
 .simp only[Bool.false_or];by_cases e:x=c
  .subst e;simp[h]
  .have f:(x==c)=false:=by simpa using e
   rw[f,Bool.or_false];by_cases d:x<c
   .rw[uN d,uN (show x<c+1 from om)]
   .rw[uK d,uK (show¬x<c+1 from om)]
 .rfl
theorem Zfz(p:Nat->Bool)(a:Nat):Zb8 p a a=p:=by
 funext x;unfold Zb8;have:(decide (a<=x)&&decide (x<a))=false:=by
  by_cases h:a<=x
  .rw[uK (show¬x<a from om)];simp
  .rw[uK h];rfl
 rw[this,Bool.or_false]
theorem Zhq(p:Nat->Bool)(a c:Nat):ZC (Zb8 p a (max (c+1) a))=ZC (Zls p (a:Nat) (c:Nat)):=by
 refine congrArg ZC (funext λx=> ?_);unfold Zb8 Zls;have:(decide (a<=x)&&decide (x<max (c+1) a))=(decide ((a:Int)<=(x:Int))&&decide ((x:Int)<=(c:Int))):=by
  by_cases h:a<=x
  .rw[uN h,uN (show(a:Int)<=(x:Int) from om)];by_cases d:x<=c
   .rw[uN (show x<max (c+1) a from om),uN (show(x:Int)<=(c:Int) from om)]
   .rw[uK (show¬x<max (c+1) a from om),uK (show¬(x:Int)<=(c:Int) from om)]
  .rw[uK h,uK (show¬(a:Int)<=(x:Int) from om)];rfl
 rw[this]
theorem Zz1{h:Heap}{d:Nat}{p:Nat->Bool}{c:Nat}(f:c<256)(l:h.get d=some (.arr (setC (ZC p)) true)){K:Heap->Prop}
  (m: ∀k,k=h.set d (some (.arr (setC (ZC λx=>p x||x==c)) true))->K k):
  (0:Int)<=6/\((0:Int)<=(c:Int).fdiv ((2:Int) ^ min (Int.toNat (6:Int)) IntKind.i64.bits)/\(c:Int).fdiv ((2:Int) ^ min (Int.toNat (6:Int)) IntKind.i64.bits)<4)/\ ∃n:Int,
   Zb h d (0+((c:Int).fdiv ((2:Int) ^ min (Int.toNat (6:Int)) IntKind.i64.bits)).toNat*1) 1=some [V.i IntKind.u64 n]/\
   (0:Int)<=wW (((BitVec.ofInt IntKind.i64.bits (c:Int)&&&BitVec.ofInt IntKind.i64.bits (63:Int)).toNat:Nat):Int)/\
   ((0:Int)<=(c:Int).fdiv ((2:Int) ^ min (Int.toNat (6:Int)) IntKind.i64.bits)/\(c:Int).fdiv ((2:Int) ^ min (Int.toNat (6:Int)) IntKind.i64.bits)<4)/\ ∃a:Heap,
   Zi h d (0+((c:Int).fdiv ((2:Int) ^ min (Int.toNat (6:Int)) IntKind.i64.bits)).toNat*1) [V.i IntKind.u64 (IntKind.u64.wrap (((BitVec.ofInt IntKind.u64.bits n|||BitVec.ofInt IntKind.u64.bits (IntKind.u64.wrap (1*2 ^ min (wW (((BitVec.ofInt IntKind.i64.bits (c:Int)&&&BitVec.ofInt IntKind.i64.bits (63:Int)).toNat:Nat):Int)).toNat IntKind.u64.bits))).toNat:Nat):Int))]=some a/\K a:=by
 rw[Zzt,Zzu f];have j:=WH p (c / 64) 64;refine⟨om,⟨om,om⟩,_,(Zs l _ _).trans (Zv8 _ f),om,⟨om,om⟩,?_⟩;have g:=Zv6 j (show c % 64<64 from om);rw[qdq,qdq,g];refine⟨_,?_,m _ rfl⟩;have e:setC (ZC λx=>p x||x==c)=Zv7 (ZC λx=>p x||x==c):=rfl
 rw[e,<-Zz0 p f];simp only[Zi,l];rw[uF (by simp;omega)]
theorem VX(p:Nat->Bool){lo hi:Nat}(l:lo<256)(g:hi<256):PCon UY 200 [.agg (setC (ZC p)), .i .u8 (lo:Nat), .i .u8 (hi:Nat)] (· = .agg (setC (ZC (Zls p (lo:Nat) (hi:Nat))))):=by
 refine ZG UK (fn:=Tryz.f200) rfl ?_;refine Zh UK 26 ZKj rfl ?_;have w1:wW (lo:Int)=(lo:Nat):=ZI om om;have k:wW (hi:Int)=(hi:Nat):=ZI om om;refine⟨rfl,ZN [2,3,6,7] [2,3,6,7] (λm f h=> ∃c:Nat,f= [.i .u8 (hi:Nat), .p (some (Heap.empty.nx,0)), .lb (setC (0,0,0,0)),I (c:Nat)]/\lo<=c/\c<=max (hi+1) lo/\257-c<=m/\h.get Heap.empty.nx=some (.arr (setC (ZC (Zb8 p lo c))) true)) 257 ZA ⟨lo,by rw[w1];rfl,om,om,om,by rw[Zfz,qk,uF rfl]⟩ ?_⟩;rintro m f h ⟨c,rfl,d,r,t,a⟩;refine Zn UK ZKk rfl ?_;rw[k];refine JT (λo=> ?_) (λj=> ?_)
 .refine Zz1 om a λu e=>⟨rfl,257-(c+1),om,c+1,by rw[Ze om];rfl,om,om,qnq _,?_⟩;rw[e,qc,uF rfl,Zfy p d]
 .have n:c=max (hi+1) lo:=om;subst n;refine Zj [3,6] ?_;refine Zo UK ZKl rfl ?_;rw[Zhq]at a;exact⟨_,_,_,_,(Zs a 0 4).trans rfl,ZB rr rfl (.agg _ _ (.cons _ _ _ _ (.i _ _) (.cons _ _ _ _ (.i _ _) (.cons _ _ _ _ (.i _ _) (.cons _ _ _ _ (.i _ _) .nil))))) rfl⟩
def negL(p:Nat->Bool)(i k:Nat):V:= .i .u64 (if k<i then((2 ^ 64-1-Xf p k 64:Nat):Int)else((Xf p k 64:Nat):Int))
theorem Zqk(p:Nat->Bool):PCon UY 176 [.agg (setC (ZC p))] (· = .agg (setC (ZC λx=> !p x))):=by
 refine PCon.zr (ZG Tryr.Yok (fn:=Tryz.f176) rfl ?_);refine Zh Tryr.Yok 15 ZB7 rfl ?_;refine⟨rfl,ZN [1,2,4] [1,2,4] (λm d h=> ∃i:Nat,d= [.p (some (Heap.empty.nx,0)), .lb (setC (0,0,0,0)),I (i:Nat)]/\i<=4/\m=4-i/\h.get Heap.empty.nx=some (.arr [negL p i 0,negL p i 1,negL p i 2,negL p i 3] true)) 4 ZA ⟨0,rfl,om,om,by rw[qk,uF rfl];rfl⟩ ?_⟩;rintro m d h ⟨i,rfl,j,rfl,c⟩;refine Zn Tryr.Yok ZB8 rfl ?_;refine Xr (λa=> ?_) (λf=> ?_)
 .have a:i<4:=om;have g:=WH p i 64;refine⟨⟨om,om⟩,((Xf p i 64:Nat):Int),?_,⟨om,om⟩,?_⟩
  .rw[Zs c,qdq]
   match i,a with
   |0,_=>rfl
   |1,_=>rfl
   |2,_=>rfl
   |3,_=>rfl
  .rw[Zqh g];refine⟨h.set Heap.empty.nx (some (.arr [negL p (i+1) 0,negL p (i+1) 1,negL p (i+1) 2,negL p (i+1) 3] true)),?_,rfl,4-(i+1),om,i+1,by rw[Ze om];rfl,om,rfl,by rw[qc,uF rfl]⟩;simp only[Zi,c,qdq]
   match i,a with
   |0,_=>rfl
   |1,_=>rfl
   |2,_=>rfl
   |3,_=>rfl
 .have e:i=4:=om;subst e;refine Zj [1,2] ?_;refine Zo Tryr.Yok ZB9 rfl ?_;rw[Zv9];exact⟨_,_,_,_,(Zs c 0 4).trans rfl,ZB rr rfl (.agg _ _ (.cons _ _ _ _ (.i _ _) (.cons _ _ _ _ (.i _ _) (.cons _ _ _ _ (.i _ _) (.cons _ _ _ _ (.i _ _) .nil))))) rfl⟩
theorem ZKn(c:UInt8):ZC (Zls (λ_=>false) (c.toNat:Nat) (c.toNat:Nat))=ZC λx=>x==c.toNat:=by
 refine congrArg ZC (funext λx=> ?_);unfold Zls;by_cases h:x=c.toNat
 .subst h;simp
 .have d:(x==c.toNat)=false:=by simpa using h
  rw[d,Bool.false_or];by_cases a:(c.toNat:Int)<=(x:Int)
  .rw[uK (show¬(x:Int)<=(c.toNat:Int) from om)];simp
  .rw[uK a];rfl
theorem Zz2(c:UInt8):PCon UY 195 [.i .u8 (c.toNat:Nat)] (· = .agg (Zd (Qk (ZC λx=>x==c.toNat)))):=by
 refine Zw UK (fn:=Tryz.f195) rfl ZKb rfl ?_;have a:=VX (λ_=>false) c.toNat_lt c.toNat_lt;rw[setOf_no,ZKn]at a;refine⟨_,_,_,_,a,?_⟩;exact ZB rr rfl (.agg _ _ (.cons _ _ _ _ (.i _ _) (.cons _ _ _ _ (.i _ _) (.cons _ _ _ _ (.i _ _) (.cons _ _ _ _ (.i _ _) (.cons _ _ _ _ (.i _ _) (.cons _ _ _ _ (.sln _ _ none (λx d=>by cases d)) (.cons _ _ _ _ (.i _ _) (.cons _ _ _ _ (.i _ _) (.cons _ _ _ _ (.i _ _) .nil)))))))))) (by unfold Qk;rw[Zm];rfl)
abbrev Zf0:V:= .lb [I 0,U 0,U 0,U 0,U 0, .sl none 0 (some 0) 0,I 0,I 0,I 0]
theorem ZKo{n:Nat}(ih: ∀m,m<n->AllC m){h}{w:Nat}{s:List UInt8}{i g d:Nat}(r:RdE h w s i g 0)(hs:s.length<2 ^ 27)(L:i<s.length)(hg:g<=i)(hd:d<=64)(hn:6*(s.length-i)+4<=n):
  Con UY 112 [.p (some (w,0)),I d] h (reQ (Qg n d s i g) h w s):=by
 obtain⟨n,rfl⟩: ∃m,n=m+1:=⟨n-1,om⟩;refine Zv UK (fn:=Tryz.f112) (Zo UK ZIr rfl ?_);generalize o:Qg (n+1) d s i g=R;rw[Qg]at o;refine((ih n om).atom r hs L hg hd om).mono λv O ⟨x,j,K,e,hv,B,X,u3⟩=> ?_;subst hv;obtain⟨t,l,A,f,k,z⟩:=x;have keep: ∀(u:Heap) (E:Nat) (C:Int),RdE u w s E K C->FrO h w u->((C=0/\R= .ok (.mk t l A f k z,E,K))\/(C≠0/\R= .error (C,E)))->
   Go.Y.Fin UY Tryz.f112 [4] (AfterZ (reQ R h w s)) .ret 88 [.lb [I t,U l.1,U l.2.1,U l.2.2.1,U l.2.2.2,lst Zd A,I f,I k,I z]] u:=λu E C q1 q2 q3=>
  finC rr rfl (.now (by rw[<-ZJ];exact⟨_,E,K,C,rfl,q1,q2,q3⟩))
 rcases u3 with ⟨rfl,hr⟩|⟨he,hr⟩
 .rw[hr]at o;simp only[]at o;have hj:=(XR s n).2.2.2.2 hr om hg;refine⟨_,_,_,_,_,_,_,_,_,_,_,ZJ _ _ _ _ _ _,_,B.c3,Zf (λhc=>by simp at hc) (λ_=>⟨_,B.c1,_,B.c0,JT (λa1=> ?_) (λa3=> ?_)⟩)⟩
  .have P:s[j]? =none:=qq om;rw[P]at o;exact keep O j 0 B X (.inl ⟨rfl,o.symm⟩)
  have hl:j<s.length:=om;have P:s[j]? =some s[j]:=by simp[hl]
  rw[P]at o;simp only[]at o;refine⟨_,B.c0,_,B.c1,s[j],Za1 hl,?_⟩;have a:Zi8 s[j]=true-> ∀G:Prop,((if s[j]=42 then(.ok (.mk 6 (0,0,0,0) [.mk t l A f k z] 0 (-1) 0,j+1,K):PR Re)else if s[j]=43 then .ok (.mk 6 (0,0,0,0) [.mk t l A f k z] 1 (-1) 0,j+1,K)else if s[j]=63 then .ok (.mk 6 (0,0,0,0) [.mk t l A f k z] 0 1 0,j+1,K)else match Xk s (j+1)with| .error e=> .error (1,e)| .ok (W,L,j)=> .ok (.mk 6 (0,0,0,0) [.mk t l A f k z] W L 0,j,K))=R->G)->
    If (t==2) (Con UY 28 [.p (some (w,0)),I 1] O λv N=>v= .tup []/\Go.Y.Fin UY Tryz.f112 [4] (AfterZ (reQ R h w s)) .ret 88 [.lb [I t,U l.1,U l.2.1,U l.2.2.1,U l.2.2.2,lst Zd A,I f,I k,I z]] N)
     (If (t==3) (Con UY 28 [.p (some (w,0)),I 1] O λv N=>v= .tup []/\Go.Y.Fin UY Tryz.f112 [4] (AfterZ (reQ R h w s)) .ret 88 [.lb [I t,U l.1,U l.2.1,U l.2.2.1,U l.2.2.2,lst Zd A,I f,I k,I z]] N) G):=by
   intro Z G hb;rw[uF Z]at o;have a0:(t=2\/t=3)->Con UY 28 [.p (some (w,0)),I 1] O λv N=>v= .tup []/\Go.Y.Fin UY Tryz.f112 [4] (AfterZ (reQ R h w s)) .ret 88 [.lb [I t,U l.1,U l.2.1,U l.2.2.1,U l.2.2.2,lst Zd A,I f,I k,I z]] N:=λhk=>
    Zp2 B 1 λN w1 w2=>⟨rfl,keep N j 1 w1 (X.trans w2) (.inr ⟨dc,by rw[uF (show(Re.mk t l A f k z).kind=2\/(Re.mk t l A f k z).kind=3 from hk)]at o;exact o.symm⟩)⟩
   refine Zf (λk2=>a0 (.inl (by simpa using k2))) (λk2=>Zf (λk3=>a0 (.inr (by simpa using k3))) (λk3=>hb ?_));have k2:t≠2:=by simpa using k2
   have k3:t≠3:=by simpa using k3
   rw[uE (λhk:(Re.mk t l A f k z).kind=2\/(Re.mk t l A f k z).kind=3=>hk.elim k2 k3)]at o;exact o
  have F: ∀(u:Heap) (W L:Int) (E:Nat) (C:Int),RdE u w s E K C->FrO h w u->((C=0/\R= .ok (.mk 6 (0,0,0,0) [.mk t l A f k z] W L 0,E,K))\/(C≠0/\R= .error (C,E)))->
    Go.Y.Fin UY Tryz.f112 [4] (AfterZ (reQ R h w s)) .ret 88 [.lb [I 6,U 0,U 0,U 0,U 0, .ts [I t,U l.1,U l.2.1,U l.2.2.1,U l.2.2.2,lst Zd A,I f,I k,I z] 1 (some 1),I W,I L,I 0]] u:=λu W L E C q1 q2 q3=>
   finC rr rfl (Wo (D:= []) 6 W L 0 (0,0,0,0) [.mk t l A f k z] (Zbx _ _ (Zm _ _ _ _ _ _) _) ⟨_,E,K,C,rfl,q1,q2,q3⟩)
  obtain⟨u,g1,g2,g3⟩:=B.s1 (j+1);have st:Zi O w 1 [I (wW ((j:Int)+1))]=some u:=by rw[Ze om];exact g1
  have H:=X.trans g3;refine Zf (λc1=>Zf (λc2=>Zf (λc3=>Zf (λc4=> ?_) (λc4=> ?_)) (λc3=> ?_)) (λc2=> ?_)) (λc1=> ?_)
  .have d1:=ZH (c:=s[j]) (d:=42) (by simpa using c1);have d2:=ZH (c:=s[j]) (d:=43) (by simpa using c2);have d3:=ZH (c:=s[j]) (d:=63) (by simpa using c3);have d4:=ZH (c:=s[j]) (d:=123) (by simpa using c4);rw[uE (by simp[Zi8,d1,d2,d3,d4])]at o;exact keep O j 0 B X (.inl ⟨rfl,o.symm⟩)
  .have d4:=ZO (c:=s[j]) (d:=123) (by simpa using c4);rw[d4]at a ⊢;refine a rfl _ λo=>⟨_,B.c1,u,st,ifF rfl (ifF rfl (ifT rfl ?_))⟩;rw[uE dc,uE dc,uE dc]at o;refine(Zny g2 om).mono λv h3 hq=> ?_
   cases hb:Xk s (j+1) with
   |error e=>
    rw[hb]at hq o;obtain⟨rfl,w1,w2⟩:=hq;exact⟨_,_,rfl,F h3 _ _ e 1 w1 (H.trans w2) (.inr ⟨dc,o.symm⟩)⟩
   |ok y=>
    obtain⟨W,a2,E⟩:=y;rw[hb]at hq o;obtain⟨rfl,w1,w2⟩:=hq;exact⟨_,_,rfl,F h3 _ _ E 0 w1 (H.trans w2) (.inl ⟨rfl,o.symm⟩)⟩
  .have d3:=ZO (c:=s[j]) (d:=63) (by simpa using c3);rw[d3]at a ⊢;refine a rfl _ λo=>⟨_,B.c1,u,st,ifF rfl (ifT rfl (ifF rfl ?_))⟩;exact F u 0 1 (j+1) 0 g2 H (.inl ⟨rfl,o.symm⟩)
  .have d2:=ZO (c:=s[j]) (d:=43) (by simpa using c2);rw[d2]at a ⊢;refine a rfl _ λo=>⟨_,B.c1,u,st,ifT rfl (ifF rfl (ifF rfl ?_))⟩;exact F u 1 (-1) (j+1) 0 g2 H (.inl ⟨rfl,o.symm⟩)
  .have d1:=ZO (c:=s[j]) (d:=42) (by simpa using c1);rw[d1]at a ⊢;refine a rfl _ λo=>⟨_,B.c1,u,st,ifF rfl (ifF rfl (ifF rfl ?_))⟩;exact F u 0 (-1) (j+1) 0 g2 H (.inl ⟨rfl,o.symm⟩)
 .rw[hr]at o;exact⟨_,_,_,_,_,_,_,_,_,_,_,ZJ _ _ _ _ _ _,_,B.c3,Zf (λ_=>keep O j e B X (.inr ⟨he,o.symm⟩)) (λhc=>absurd (by simpa using hc) he)⟩
theorem QO(k:Int)(st:S4)(a)(c d n:Int):Zr 9 (List.drop 0 (row Zd [.mk k st a c d n]))=some [I k,U st.1,U st.2.1,U st.2.2.1,U st.2.2.2,lst Zd a,I c,I d,I n]:=by
 have:=Xp (f:=Zd) (k:=9) ZW (l:= [.mk k st a c d n]) (i:=0) sm;rw[Nat.zero_mul]at this;rw[this];show some (Zd (.mk k st a c d n))=_;rw[Zm]
theorem Zee(k:Int){a:List Re}(h:2<=a.length):sevS k a= .mk k (0,0,0,0) a 0 0 0:=by
 match a,h with
 |_::_::_,_=>rfl
def RowI(o:Heap)(n:Nat)(s:List UInt8)(d:Nat)(R:PR Re)(N m:Nat)(r:List V)(h:Heap):Prop:=
 ∃(a:Option (Nat×Nat)) (l:Nat) (c:Option Nat) (k:Nat) (f:List Re) (i g:Nat) (e:Int),r= [.p (some (n,0)), .i .i64 (d:Nat),Zf0, .sl a l c k]/\LX Zd 9 h a l c k f/\(∀j,a=some (j,0)->o.nx<=j)/\
  RdE h n s i g e/\FrO o n h/\f.length<=s.length+1/\((e=0/\i<=s.length/\g<=i/\f.length<=i/\6*(s.length-i)+5<=m/\m<=N/\rowE m d s i g f=R)\/(e≠0/\R= .error (e,i)))
theorem rowC{n:Nat}(ih: ∀m,m<n->AllC m){h}{H:Nat}{s:List UInt8}{i g d:Nat}(r:RdE h H s i g 0)(hs:s.length<2 ^ 27)(hi:i<=s.length)(hg:g<=i)(hd:d<=64)(hn:6*(s.length-i)+5<=n):
  Con UY 67 [.p (some (H,0)),I d] h (reQ (rowE n d s i g []) h H s):=by
 refine Zv UK (fn:=Tryz.f67) (Zh UK 65 ZO7 rfl ?_);generalize f:rowE n d s i g []=R;refine⟨rfl,ZN [0,1,4,5] [0,1,4,5] (RowI h H s d R n) n ZA ⟨none,0,some 0,0,[],i,g,0,rfl,LX.start _ _ _ _ _,sm,r, .refl _ _,sm, .inl ⟨rfl,hi,hg,sm,hn,qnq _,f⟩⟩ ?_⟩;have F:=r.lt;clear r hi hg hn f;rintro m vs h1 ⟨a,l,c,k,u,j,gg,e,rfl,K,t,hr,O,b0,C⟩;refine Zn UK ZO8 rfl ?_;have stop:((e=0/\R= .ok (sevS 4 u,j,gg))\/(e≠0/\R= .error (e,j)))->XE UY 65 [0,1,4,5] [0,1,4,5] (RowI h H s d R n) m (Xd (post (flat (Za Tryz.f67)))) ((post (flat (Za Tryz.f67))).drop 1) (FinS UY Tryz.f67 (AfterZ (reQ R h H s))) (.exit 0) 65
   [.p (some (H,0)),I d,Zf0, .sl a l c k] h1:=λhf=>by
  refine Zj [4,5] ?_;have hq: ∀D:List Nat,(∀x,x∈D->h.nx<=x)->reQ R h H s (.agg (Zd (sevS 4 u))) (XO h1 D):=λD hD=>⟨_,j,gg,e,rfl,hr.kill hD F,O.kill hD,hf⟩;have X:=K.len;by_cases B:u= []
  .have ha:=K.nil B;subst B ha X;refine Zo UK ZD7 rfl ?_;exact finC rr rfl (Zby (hq [] sm))
  .obtain⟨q,rfl,rfl,a9,a1,a8⟩:=K.cells B;refine Zo UK ZO4 rfl ?_;have a4:u.length≠0:=λw=>B (qg w);refine Zf (λw=> ?_) (λw=>Zf (λy=> ?_) (λy=> ?_))
   .have:(l:Int)=0:=by simpa using w
    omega
   .have y:(l:Int)=1:=by simpa using y
    obtain⟨x,rfl⟩:=List.length_eq_one_iff.1 (show u.length=1 from om);obtain⟨xk,xs,xl,L,N,xn⟩:=x;refine⟨⟨om,om⟩,rfl,_,_,_,_,_,_,_,_,_,_,_,(Zs a1 0 9).trans (QO _ _ _ _ _ _),finC rr rfl (.now ?_)⟩;rw[<-ZJ];exact hq [] sm
   .have y:(l:Int)≠1:=by simpa using y
    obtain⟨D,hz,hD⟩:=K.afterZ dc ZW XJ;refine finC rr rfl (Wo (D:=D) 4 0 0 0 (0,0,0,0) u (.frz _ _ hz) ?_);rw[<-Zee 4 om];exact hq D λx hx=>t x (hD x hx)
 refine⟨_,hr.c3,Zf (λw=> ?_) (λw=>stop ?_)⟩
 .have w:e=0:=by simpa using w
  rcases C with ⟨_,hj,W,a5,hm,a7,f⟩|⟨he,_⟩
  .subst w;obtain⟨m,rfl⟩: ∃m',m=m'+1:=⟨m-1,om⟩;rw[rowE]at f;refine⟨_,hr.c1,_,hr.c0,Zq (λG=> ?_) (λa6=>stop (.inl ⟨rfl,?_⟩))⟩
   .have a2:s[j]? =some s[j]:=by simp[G]
    rw[a2]at f;simp only[]at f;refine⟨_,hr.c0,_,hr.c1,s[j],Za1 G,Zf (λc1=>⟨_,hr.c0,_,hr.c1,s[j],Za1 G,Zf (λc2=> ?_) (λc2=>stop (.inl ⟨rfl,?_⟩))⟩) (λc1=>stop (.inl ⟨rfl,?_⟩))⟩
    .have c1:=ZH (c:=s[j]) (d:=124) (by simpa using c1);have c2:=ZH (c:=s[j]) (d:=41) (by simpa using c2);rw[uE (λhc=>hc.elim c1 c2)]at f;refine((ih m om).piece hr hs G W hd om).mono λv h2 ⟨x,j2,g2,e2,hv,u1,u2,u3⟩=> ?_;subst hv;obtain⟨xk,xs,xl,L,N,xn⟩:=x;obtain⟨P,l',c',k',h3,q1,q2,q3,q,q4,q5⟩:=Zhl (.mk xk xs xl L N xn) (Zm _ _ _ _ _ _) (K.keep t F u2) om;have A: ∀x,P=some (x,0)->h.nx<=x:=λx hx=>by rw[q4]at hx;cases hx;have:=O.1;have:=u2.1;omega
     have a0:=u1.app q3 λo=>K.ne t F;have Z:=(K.keep t F u2).frO t (O.trans u2) q3;have z:(u++ [Re.mk xk xs xl L N xn]).length<=s.length+1:=by simp;omega
     rcases u3 with ⟨rfl,E⟩|⟨a3,E⟩
     .rw[E]at f;simp only[]at f;have hp:=(XR s m).2.2.2.1 E om W;exact⟨_,_,_,_,_,_,_,_,_,_,_,ZJ _ _ _ _ _ _,P,l',c',k',h3,q1,rfl,m,om,P,l',c',k',_,j2,g2,0,rfl,q2,A,a0,Z,z, .inl ⟨rfl,om,om,by simp;omega,om,om,f⟩⟩
     .rw[E]at f;exact⟨_,_,_,_,_,_,_,_,_,_,_,ZJ _ _ _ _ _ _,P,l',c',k',h3,q1,rfl,m,om,P,l',c',k',_,j2,g2,e2,rfl,q2,A,a0,Z,z, .inr ⟨a3,f.symm⟩⟩
    .have c2:=ZO (c:=s[j]) (d:=41) (by simpa using c2);rw[uF (.inr c2)]at f;exact f.symm
    .have c1:=ZO (c:=s[j]) (d:=124) (by simpa using c1);rw[uF (.inl c1)]at f;exact f.symm
   .rw[qq om]at f;exact f.symm
  .exact absurd w he
 .have w:e≠0:=by simpa using w
  rcases C with ⟨he,_⟩|C
  .exact absurd he w
  .exact .inr C
def AltI(j:Heap)(f:Nat)(s:List UInt8)(d:Nat)(R:PR Re)(N m:Nat)(k:List V)(h:Heap):Prop:=
 ∃(q:Nat) (l:Nat) (c:Option Nat) (a:List Re) (i g:Nat) (e:Int),k= [.p (some (f,0)), .i .i64 (d:Nat),Zf0, .sl (some (q,0)) l c 9]/\LX Zd 9 h (some (q,0)) l c 9 a/\a≠ []/\j.nx<=q/\
  RdE h f s i g e/\FrO j f h/\a.length<=s.length+2/\((e=0/\i<=s.length/\g<=i/\a.length<=i+1/\6*(s.length-i)+5<=m/\m<N/\WF m d s i g a=R)\/(e≠0/\R= .error (e,i)))
theorem altC{n:Nat}(ih: ∀m,m<n->AllC m){h}{C:Nat}{s:List UInt8}{i g d:Nat}(r:RdE h C s i g 0)(hs:s.length<2 ^ 27)(hi:i<=s.length)(hg:g<=i)(hd:d<=64)(hn:6*(s.length-i)+6<=n):
  Con UY 27 [.p (some (C,0)),I d] h (reQ (altE n d s i g) h C s):=by
 obtain⟨n,rfl⟩: ∃m,n=m+1:=⟨n-1,om⟩;refine Zv UK (fn:=Tryz.f27) (Zh UK 33 ZO5 rfl ?_);generalize t:altE (n+1) d s i g=R;rw[altE]at t;refine((ih n om).row r hs hi hg hd om).mono λv N ⟨x,j,gg,e,hv,u1,G,u3⟩=> ?_;subst hv;obtain⟨P,w,W,a,k,O⟩:=x;have L:=r.lt;have Z:LX Zd 9 (N.push (.arr (Zd (.mk P w W a k O)) true)) (some (N.nx,0)) 1 (some 1) 9 [.mk P w W a k O]:=LX.one _ _ _ _;rw[Zm]at Z;have B:RdE (N.push (.arr [I P,U w.1,U w.2.1,U w.2.2.1,U w.2.2.2,lst Zd W,I a,I k,I O] true)) C s j gg e:=⟨by rw[qk,uE (by have:=u1.lt;omega)];exact u1.get,by have:=u1.lt;simp;omega⟩;have a1:FrO h C (N.push (.arr [I P,U w.1,U w.2.1,U w.2.2.1,U w.2.2.2,lst Zd W,I a,I k,I O] true)):=⟨by have:=G.1;simp;omega,λq hq E=>by rw[qk,uE (by have:=G.1;omega)];exact G.2 q hq E⟩;refine⟨_,_,_,_,_,_,_,_,_,_,_,ZJ _ _ _ _ _ _,rfl,ZN [0,1,4,5] [0,1,4,5] (AltI h C s d R (n+1)) n ZA ⟨N.nx,1,some 1,_,j,gg,e,rfl,Z,sm,G.1,B,a1,sm,?_⟩ ?_⟩
 .rcases u3 with ⟨rfl,hr⟩|⟨he,hr⟩
  .have hp:=(XR s n).2.2.1 hr hi hg;rw[hr]at t;exact .inl ⟨rfl,om,om,sm,om,om,t⟩
  .rw[hr]at t;exact .inr ⟨he,t.symm⟩
 clear r hi hg hn t u1 G u3 Z B a1;rintro m vs N ⟨q,l,c,y,j,gg,e,rfl,hL,E,a7,hr,a0,b6,F⟩;refine Zn UK ZO6 rfl ?_;have f: ∀x,(some (q,0):Option (Nat×Nat))=some (x,0)->h.nx<=x:=λx hx=>by cases hx;exact a7
 have stop:((e=0/\R= .ok (sevS 5 y,j,gg))\/(e≠0/\R= .error (e,j)))->XE UY 33 [0,1,4,5] [0,1,4,5] (AltI h C s d R (n+1)) m (Xd (post (flat (Za Tryz.f27)))) ((post (flat (Za Tryz.f27))).drop 1) (FinS UY Tryz.f27 (AfterZ (reQ R h C s))) (.exit 0) 33
   [.p (some (C,0)),I d,Zf0, .sl (some (q,0)) l c 9] N:=λhf=>by
  refine Zj [4,5] ?_;have hq: ∀D:List Nat,(∀x,x∈D->h.nx<=x)->reQ R h C s (.agg (Zd (sevS 5 y))) (XO N D):=λD hD=>⟨_,j,gg,e,rfl,hr.kill hD L,a0.kill hD,hf⟩;have b3:=hL.len;obtain⟨q',H,_,b5,a5,b4⟩:=hL.cells E;cases H;refine Zo UK ZO3 rfl ?_;have b2:y.length≠0:=λh0=>E (qg h0);refine Zf (λz=> ?_) (λz=> ?_)
  .have z:(l:Int)=1:=by simpa using z
   obtain⟨x,rfl⟩:=List.length_eq_one_iff.1 (show y.length=1 from om);obtain⟨P,w,W,a,k,O⟩:=x;refine⟨⟨om,om⟩,rfl,_,_,_,_,_,_,_,_,_,_,_,(Zs a5 0 9).trans (QO _ _ _ _ _ _),finC rr rfl (.now ?_)⟩;rw[<-ZJ];exact hq [] sm
  .have z:(l:Int)≠1:=by simpa using z
   obtain⟨D,hz,hD⟩:=hL.afterZ dc ZW XJ;refine finC rr rfl (Wo (D:=D) 5 0 0 0 (0,0,0,0) y (.frz _ _ hz) ?_);rw[<-Zee 5 om];exact hq D λx hx=>f x (hD x hx)
 refine⟨_,Jv hr 124,Zf (λhb=> ?_) (λhb=>stop ?_)⟩
 .have h0:e=0/\s[j]? =some 124:=by simpa using hb
  obtain⟨rfl,u⟩:=h0;rcases F with ⟨_,hj,a9,a4,hm,a8,t⟩|⟨he,_⟩
  .obtain⟨m,rfl⟩: ∃m',m=m'+1:=⟨m-1,om⟩;rw[WF,uF u]at t;have b7:=(qb.1 u).1;obtain⟨h2,g1,g2,g3⟩:=hr.s1 (j+1);have b0:=hL.keep f L g3;refine⟨_,hr.c1,h2,by rw[Ze om];exact g1,?_⟩;refine((ih m om).row g2 hs om om hd om).mono λv h3 ⟨x,j2,a3,e2,hv,u1,G,u3⟩=> ?_;subst hv;obtain⟨P,w,W,a,k,O⟩:=x;have X:=b0.keep f L G;obtain⟨a',l',c',k',h4,q1,q2,q3,q',q4,q5⟩:=Zhl (.mk P w W a k O) (Zm _ _ _ _ _ _) X om;subst q4;obtain⟨_,_,a6,_⟩:=q2.cells sm;subst a6;have H:h.nx<=q':=by have:=a0.1;have:=g3.1;have:=G.1;omega
   have B:=u1.app q3 λo=>X.ne f L;have a2:=X.frO f ((a0.trans g3).trans G) q3;have A:(y++ [Re.mk P w W a k O]).length<=s.length+2:=by simp;omega
   rcases u3 with ⟨rfl,K⟩|⟨b1,K⟩
   .rw[K]at t;simp only[]at t;have hp:=(XR s m).2.2.1 K om om;exact⟨_,_,_,_,_,_,_,_,_,_,_,ZJ _ _ _ _ _ _,_,l',c',_,h4,q1,rfl,m,om,q',l',c',_,j2,a3,0,rfl,q2,sm,H,B,a2,A, .inl ⟨rfl,om,om,by simp;omega,om,om,t⟩⟩
   .rw[K]at t;exact⟨_,_,_,_,_,_,_,_,_,_,_,ZJ _ _ _ _ _ _,_,l',c',_,h4,q1,rfl,m,om,q',l',c',_,j2,a3,e2,rfl,q2,sm,H,B,a2,A, .inr ⟨b1,t.symm⟩⟩
  .exact absurd rfl he
 .rcases F with ⟨rfl,hj,a9,a4,hm,a8,t⟩|F
  .have u:s[j]? ≠some 124:=by simpa using hb
   obtain⟨m,rfl⟩: ∃m',m=m'+1:=⟨m-1,om⟩;rw[WF,uE u]at t;exact .inl ⟨rfl,t.symm⟩
  .exact .inr F
theorem allC(n:Nat):AllC n:=by
 induction n using Nat.strongRecOn with
 |ind n a=>exact⟨altC a,rowC a,ZKo a,ZO9 a⟩
def erV:Except (Int×Nat) Re->V
 | .error (e,p)=> .tup [.agg (Zd Xs), .i .i64 (p:Nat), .i .i64 e]
 | .ok x=> .tup [.agg (Zd x), .i .i64 0, .i .i64 0]
def Zdc(s:List UInt8):V:=erV (Qz s)
theorem Zb9(h)(x):Frz h (.agg (Zd x)) (.agg (Zd x)):= .agg _ _ (Xc _ (XJ x))
theorem Qx(h):Frz h (.agg [I 0,U 0,U 0,U 0,U 0, .sl none 0 (some 0) 0,I 0,I 0,I 0]) (.agg (Zd Xs)):=by
 unfold Xs;rw[Zm];exact .agg _ _ (.cons _ _ _ _ (.i _ _) (.cons _ _ _ _ (.i _ _) (.cons _ _ _ _ (.i _ _) (.cons _ _ _ _ (.i _ _) (.cons _ _ _ _ (.i _ _) (.cons _ _ _ _ (.sln _ _ none (λx a=>by cases a)) (.cons _ _ _ _ (.i _ _) (.cons _ _ _ _ (.i _ _) (.cons _ _ _ _ (.i _ _) .nil)))))))))
theorem Zdd(s):PCon UY 8 [.s s] (· =Zdc s):=by
 refine Zw UK (fn:=Tryz.f8) rfl f8_0 rfl ?_;unfold Zdc;generalize a:Qz s=P;unfold Qz at a;refine Xr (λt=> ?_) (λF=> ?_)
 .rw[uF om]at a;subst a;exact Zjd rr rfl (Qx _) (.i _ _) (.i _ _) rfl
 rw[uE om]at a;have r:RdE (Heap.empty.push (.arr [.s s,I 0,I 0,I 0] true)) Heap.empty.nx s 0 0 0:=⟨by rw[qk,uF rfl];rfl,sm⟩;refine((allC (6*s.length+10)).alt (d:=0) r om om om om om).mono λv B ⟨x,j,g,e,E,f,H,D⟩=> ?_;subst E;obtain⟨w,u,y,n,o,C⟩:=x;have l: ∀k:Heap,P= .ok (.mk w u y n o C)->Go.Y.Fin UY Tryz.f8 [2,3,4] (λv h=> ∃r,Frz h v r/\r=erV P) .ret 47
   [.lb [I w,U u.1,U u.2.1,U u.2.2.1,U u.2.2.2,lst Zd y,I n,I o,I C],I 0,I 0] k:=λk hp=>by
  subst hp;refine Zjd rr rfl ?_ (.i _ _) (.i _ _) rfl;rw[<-ZJ];exact Zb9 _ _
 have m: ∀(k:Heap) (p:Nat) (e:Int),P= .error (e,p)->Go.Y.Fin UY Tryz.f8 [2,3,4] (λv h=> ∃r,Frz h v r/\r=erV P) .ret 47
   [.lb [I 0,U 0,U 0,U 0,U 0, .sl none 0 (some 0) 0,I 0,I 0,I 0],I (p:Nat),I e] k:=λk p e hp=>by
  subst hp;exact Zjd rr rfl (Qx _) (.i _ _) (.i _ _) rfl
 refine⟨_,_,_,_,_,_,_,_,_,_,_,ZJ _ _ _ _ _ _,_,f.c3,?_⟩;rcases D with ⟨rfl,hr⟩|⟨A,hr⟩
 .rw[hr]at a;simp only[]at a;refine Zf (λ_=>⟨_,f.c1,Zq (λt=> ?_) (λz=>⟨_,f.c3,Zf (λc=>by simp at c) (λ_=>l B ?_)⟩)⟩) (λc=>by simp at c)
  .rw[uF t]at a;exact Zp2 f 1 λk w1 G=>⟨rfl,_,w1.c3,Zf (λ_=>⟨_,w1.c1,_,w1.c3,m k j 1 a.symm⟩) (λc=>by simp at c)⟩
  .rw[uE om]at a;exact a.symm
 .rw[hr]at a;refine Zf (λc=>absurd (by simpa using c) A) (λ_=>⟨_,f.c3,Zf (λ_=>⟨_,f.c1,_,f.c3,m B j e a.symm⟩) (λc=>absurd (by simpa using c) A)⟩)
end Go.Y
