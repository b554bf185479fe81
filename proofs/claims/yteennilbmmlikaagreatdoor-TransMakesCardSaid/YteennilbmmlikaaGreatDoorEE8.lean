/- A part of the proof. -/
import Derived.Test.YteennilbmmlikaaGreatDoorYTryzP
import Derived.Test.YteennilbmmlikaaGreatDoorYTryhP
import Derived.Test.YteennilbmmlikaaGreatDoorYLoop
import Derived.Test.YteennilbmmlikaaGreatDoorGTrH
namespace Go.Y
open Go.Proofs
set_option maxRecDepth 1000000
set_option maxHeartbeats 0
theorem ZAk{a c d e x1 h}(K):CP Tryh.Y 124 (flat (Za Tryz.f124)) (.agg [U a,U c,U d,U e]::.i .u8 x1::Rp 12) h [4] K=(((64:Int)=(0:Int)->False)∧((0:Int)<=IntKind.u8.wrap (x1.tdiv (64:Int))∧IntKind.u8.wrap (x1.tdiv (64:Int))<(↑(4:Nat):Int))∧ ∃f,Zb (h.push (YObj.arr [U a,U c,U d,U e] true)) h.nx ((0:Nat)+(IntKind.u8.wrap (x1.tdiv (64:Int))).toNat*1) 1=some [U f]∧((64:Int)=(0:Int)->False)∧(0:Int)<=x1.tmod (64:Int)∧((2:Int)=(0:Int)->False)∧K .ret 14 [.b ((f.fdiv ((2:Int) ^ min (x1.tmod (64:Int)).toNat IntKind.u64.bits)).tmod (2:Int)==(1:Int))] (h.push (YObj.arr [U a,U c,U d,U e] true))):=by kernel_rfl
theorem ZK0{a b c d h}(K):CP UY 80 (pre (flat (Za Tryz.f80))) (.agg [U a,U b,U c,U d]::Rp 167) h [1,3,4,10] K=(K .normal 168 [.lb [U a,U b,U c,U d],S0,I 0,Ud] h):=by kernel_rfl
theorem ZK1{e f g j a3 l3 c3 k3 d h}(K):CP UY 80 (flat (Zx (post (flat (Za Tryz.f80))))) (MZ 168 [1,3,4,10] [.lb [U e,U f,U g,U j],S a3 l3 c3 k3,I d,V.undef]) h [1,3,4,10,11] K=(If (ltI d 256) (∃a,(PCon UY 124 [.agg [U e,U f,U g,U j],.i .u8 (IntKind.u8.wrap d)] fun v=>v=.b a)∧If (!a) (K .normal 168 [.lb [U e,U f,U g,U j],S a3 l3 c3 k3,I (IntKind.i64.wrap (d+(1:Int))),Ud,I d] h) ((fun P0=>If (ltI 0 l3) (SlO a3 False fun(id off:Nat)=>((0:Int)<=IntKind.i64.wrap ((↑l3:Int)-(1:Int))∧IntKind.i64.wrap ((↑l3:Int)-(1:Int))<(l3:Int))∧k3=2∧ ∃b,Zb h id (off+(IntKind.i64.wrap ((↑l3:Int)-(1:Int))).toNat*2+(1:Nat)) 1=some [.i .u8 b]∧If (IntKind.i64.wrap b==IntKind.i64.wrap (d-(1:Int))) (SlO a3 False fun(id off:Nat)=>((0:Int)<=IntKind.i64.wrap ((↑l3:Int)-(1:Int))∧IntKind.i64.wrap ((↑l3:Int)-(1:Int))<(l3:Int))∧k3=2∧ ∃c,Zj h id (off+(IntKind.i64.wrap ((↑l3:Int)-(1:Int))).toNat*2+(1:Nat)) [.i .u8 (IntKind.u8.wrap d)]=some c∧K .normal 168 [.lb [U e,U f,U g,U j],S a3 l3 c3 k3,I (IntKind.i64.wrap (d+(1:Int))),Ud,I d] c) P0) P0) (∃b c l m n,Zf UY h 57 57 (S a3 l3 c3 k3) (J [.i .u8 (IntKind.u8.wrap d),.i .u8 (IntKind.u8.wrap d)] 1 (some 1))=some (S b c l m,n)∧K .normal 168 [.lb [U e,U f,U g,U j],S b c l m,I (IntKind.i64.wrap (d+(1:Int))),Ud,I d] n))) (K (.exit 0) 168 [.lb [U e,U f,U g,U j],S a3 l3 c3 k3,I d,Ud,I d] h)):=by kernel_rfl
theorem ZK2{a3 l3 c3 k3 a h}(K):CP UY 80 (pre ((post (flat (Za Tryz.f80))).drop 1)) (MZ 168 [3,10,11] [S a3 l3 c3 k3,V.undef,I a]) h [2,3,11,85] K=(If ((↑l3:Int)==(0:Int)) (K .ret 168 [.s [(91:UInt8),94,0,45,255,93],S a3 l3 c3 k3,I a,Ud] h) (If ((↑l3:Int)==(1:Int)) (SlO a3 False fun(id off:Nat)=>((0:Int)<=(0:Int)∧(0:Int)<(l3:Int))∧k3=2∧ ∃c,Zb h id (off+Int.toNat (0:Int)*(2:Nat)+(0:Nat)) 1=some [.i .u8 c]∧If (c==(0:Int)) (SlO a3 False fun(id off:Nat)=>((0:Int)<=(0:Int)∧(0:Int)<(l3:Int))∧k3=2∧ ∃d,Zb h id (off+Int.toNat (0:Int)*(2:Nat)+(1:Nat)) 1=some [.i .u8 d]∧If (d==(255:Int)) (K .ret 168 [.s [(46:UInt8)],S a3 l3 c3 k3,I a,Ud] h) (If ((↑l3:Int)==(1:Int)) (SlO a3 False fun(id off:Nat)=>((0:Int)<=(0:Int)∧(0:Int)<(l3:Int))∧k3=2∧ ∃e,Zb h id (off+Int.toNat (0:Int)*(2:Nat)+(0:Nat)) 1=some [.i .u8 e]∧SlO a3 False fun(id off:Nat)=>((0:Int)<=(0:Int)∧(0:Int)<(l3:Int))∧k3=2∧ ∃f,Zb h id (off+Int.toNat (0:Int)*(2:Nat)+(1:Nat)) 1=some [.i .u8 f]∧K .normal 168 [Ud,S a3 l3 c3 k3,I a, .b (e==f)] h) (K .normal 168 [Ud,S a3 l3 c3 k3,I a, .b false] h))) (If ((↑l3:Int)==(1:Int)) (SlO a3 False fun(id off:Nat)=>((0:Int)<=(0:Int)∧(0:Int)<(l3:Int))∧k3=2∧ ∃d,Zb h id (off+Int.toNat (0:Int)*(2:Nat)+(0:Nat)) 1=some [.i .u8 d]∧SlO a3 False fun(id off:Nat)=>((0:Int)<=(0:Int)∧(0:Int)<(l3:Int))∧k3=2∧ ∃e,Zb h id (off+Int.toNat (0:Int)*(2:Nat)+(1:Nat)) 1=some [.i .u8 e]∧K .normal 168 [Ud,S a3 l3 c3 k3,I a, .b (d==e)] h) (K .normal 168 [Ud,S a3 l3 c3 k3,I a, .b false] h))) (If ((↑l3:Int)==(1:Int)) (SlO a3 False fun(id off:Nat)=>((0:Int)<=(0:Int)∧(0:Int)<(l3:Int))∧k3=2∧ ∃c,Zb h id (off+Int.toNat (0:Int)*(2:Nat)+(0:Nat)) 1=some [.i .u8 c]∧SlO a3 False fun(id off:Nat)=>((0:Int)<=(0:Int)∧(0:Int)<(l3:Int))∧k3=2∧ ∃d,Zb h id (off+Int.toNat (0:Int)*(2:Nat)+(1:Nat)) 1=some [.i .u8 d]∧K .normal 168 [Ud,S a3 l3 c3 k3,I a, .b (c==d)] h) (K .normal 168 [Ud,S a3 l3 c3 k3,I a, .b false] h)))):=by kernel_rfl
theorem ZK3{a3 l3 c3 k3 a h}(K):CP UY 80 (pre (flat (Zdh (post ((post (flat (Za Tryz.f80))).drop 1))))) (MZ 168 [3,11,85] [S a3 l3 c3 k3,I a,.b true]) h [5,6,7] K=(SlO a3 False fun(id off:Nat)=>((0:Int)<=(0:Int)∧(0:Int)<(l3:Int))∧k3=2∧ ∃c,Zb h id (off+Int.toNat (0:Int)*(2:Nat)+(0:Nat)) 1=some [.i .u8 c]∧K .normal 168 [.i .u8 c, .s [(92:UInt8),124,40,41,42,43,63,123,46,91,94,36],I 0] h):=by kernel_rfl
theorem ZK4{x5 x7 h}(K):CP UY 80 (flat (Zx (post (flat (Zdh (post ((post (flat (Za Tryz.f80))).drop 1))))))) (MZ 168 [5,6,7] [.i .u8 x5,.s [(92:UInt8),124,40,41,42,43,63,123,46,91,94,36],I x7]) h [2,5,6,7] K=(If (ltI x7 (↑[(92:UInt8),124,40,41,42,43,63,123,46,91,94,36].length:Int)) (∃a,((0:Int)<=x7∧ [(92:UInt8),124,40,41,42,43,63,123,46,91,94,36][x7.toNat]? =some a)∧If ((↑a.toNat:Int)==x5) (∃b,some (Q.val (.s ((fun(x:List UInt8)=>UInt8.ofNat x5.toNat::x) [])))=some (Q.val (.s b))∧ [(92:UInt8)].length+b.length<=1152921504606846976∧K .ret 168 [.s ([(92:UInt8)]++b), .i .u8 x5, .s [(92:UInt8),124,40,41,42,43,63,123,46,91,94,36],I x7] h) (K .normal 168 [Ud, .i .u8 x5, .s [(92:UInt8),124,40,41,42,43,63,123,46,91,94,36],I (IntKind.i64.wrap (x7+(1:Int)))] h)) (K (.exit 2) 168 [Ud, .i .u8 x5, .s [(92:UInt8),124,40,41,42,43,63,123,46,91,94,36],I x7] h)):=by kernel_rfl
theorem ZK5{x5 h}(K):CP UY 80 ((post (flat (Zdh (post ((post (flat (Za Tryz.f80))).drop 1))))).drop 1) (MZ 168 [5] [.i .u8 x5]) h [2,3,11] K=(∃a,some (Q.val (.s ((fun(x:List UInt8)=>UInt8.ofNat x5.toNat::x) [])))=some (Q.val (.s a))∧K .ret 168 [.s a,Ud,Ud] h):=by kernel_rfl
theorem ZK6{a3 l3 c3 k3 a h}(K):CP UY 80 (flat (Vc (post ((post (flat (Za Tryz.f80))).drop 1)))) (MZ 168 [3,11,85] [S a3 l3 c3 k3,I a,.b false]) h [3,11] K=(K .normal 168 [S a3 l3 c3 k3,I a] h):=by kernel_rfl
theorem ZK7{a3 l3 c3 k3 a h}(K):CP UY 80 (pre ((post ((post (flat (Za Tryz.f80))).drop 1)).drop 1)) (MZ 168 [3,11] [S a3 l3 c3 k3,I a]) h [3,8,9,11] K=(K .normal 168 [S a3 l3 c3 k3, .s [(91:UInt8)],I 0,I a] h):=by kernel_rfl
theorem ZK8{a3 l3 c3 k3 c b a h}(K):CP UY 80 (flat (Zx (post ((post ((post (flat (Za Tryz.f80))).drop 1)).drop 1)))) (MZ 168 [3,8,9,11] [S a3 l3 c3 k3,.s b,I a,I c]) h [3,8,9,11] K=(If (ltI a l3) (SlO a3 False fun(id off:Nat)=>(0<=a∧a<l3)∧k3=2∧ ∃d,Zb h id (off+a.toNat*2+(0:Nat)) 1=some [.i .u8 d]∧If (d==(94:Int)) (b.length+ [(92:UInt8)].length<=1152921504606846976∧SlO a3 False fun(id off:Nat)=>(0<=a∧a<l3)∧k3=2∧ ∃e,Zb h id (off+a.toNat*2+(0:Nat)) 1=some [.i .u8 e]∧SlO a3 False fun(id off:Nat)=>(0<=a∧a<l3)∧k3=2∧ ∃f,Zb h id (off+a.toNat*2+(1:Nat)) 1=some [.i .u8 f]∧If (e !=f) (SlO a3 False fun(id off:Nat)=>(0<=a∧a<l3)∧k3=2∧ ∃g,Zb h id (off+a.toNat*2+(1:Nat)) 1=some [.i .u8 g]∧If (g==(94:Int)) (SlO a3 False fun(id off:Nat)=>(0<=a∧a<l3)∧k3=2∧ ∃j,Zb h id (off+a.toNat*2+(0:Nat)) 1=some [.i .u8 j]∧SlO a3 False fun(id off:Nat)=>(0<=a∧a<l3)∧k3=2∧ ∃l,Zb h id (off+a.toNat*2+(0:Nat)) 1=some [.i .u8 l]∧ ∃m,(PCon UY 125 [J [.i .u8 j,.i .u8 l] 1 (some 1)] fun v=>v=.s m)∧(b++ [(92:UInt8)]).length+m.length<=1152921504606846976∧(b++ [(92:UInt8)]++m).length+ [(45:UInt8),92,94].length<=1152921504606846976∧K .normal 168 [S a3 l3 c3 k3, .s (b++ [(92:UInt8)]++m++ [(45:UInt8),92,94]),I (IntKind.i64.wrap (a+(1:Int))),I c] h) (SlO a3 False fun(id off:Nat)=>(0<=a∧a<l3)∧k3=2∧ ∃j l,Zb h id (off+a.toNat*2) 2=some [.i .u8 j,.i .u8 l]∧ ∃m,(PCon UY 125 [J [.i .u8 j,.i .u8 l] 1 (some 1)] fun v=>v=.s m)∧(b++ [(92:UInt8)]).length+m.length<=1152921504606846976∧K .normal 168 [S a3 l3 c3 k3, .s (b++ [(92:UInt8)]++m),I (IntKind.i64.wrap (a+(1:Int))),I c] h)) (SlO a3 False fun(id off:Nat)=>(0<=a∧a<l3)∧k3=2∧ ∃g j,Zb h id (off+a.toNat*2) 2=some [.i .u8 g,.i .u8 j]∧ ∃l,(PCon UY 125 [J [.i .u8 g,.i .u8 j] 1 (some 1)] fun v=>v=.s l)∧(b++ [(92:UInt8)]).length+l.length<=1152921504606846976∧K .normal 168 [S a3 l3 c3 k3, .s (b++ [(92:UInt8)]++l),I (IntKind.i64.wrap (a+(1:Int))),I c] h)) (SlO a3 False fun(id off:Nat)=>(0<=a∧a<l3)∧k3=2∧ ∃e,Zb h id (off+a.toNat*2+(0:Nat)) 1=some [.i .u8 e]∧SlO a3 False fun(id off:Nat)=>(0<=a∧a<l3)∧k3=2∧ ∃f,Zb h id (off+a.toNat*2+(1:Nat)) 1=some [.i .u8 f]∧If (e !=f) (SlO a3 False fun(id off:Nat)=>(0<=a∧a<l3)∧k3=2∧ ∃g,Zb h id (off+a.toNat*2+(1:Nat)) 1=some [.i .u8 g]∧If (g==(94:Int)) (SlO a3 False fun(id off:Nat)=>(0<=a∧a<l3)∧k3=2∧ ∃j,Zb h id (off+a.toNat*2+(0:Nat)) 1=some [.i .u8 j]∧SlO a3 False fun(id off:Nat)=>(0<=a∧a<l3)∧k3=2∧ ∃l,Zb h id (off+a.toNat*2+(0:Nat)) 1=some [.i .u8 l]∧ ∃m,(PCon UY 125 [J [.i .u8 j,.i .u8 l] 1 (some 1)] fun v=>v=.s m)∧b.length+m.length<=1152921504606846976∧(b++m).length+ [(45:UInt8),92,94].length<=1152921504606846976∧K .normal 168 [S a3 l3 c3 k3, .s (b++m++ [(45:UInt8),92,94]),I (IntKind.i64.wrap (a+(1:Int))),I c] h) (SlO a3 False fun(id off:Nat)=>(0<=a∧a<l3)∧k3=2∧ ∃j l,Zb h id (off+a.toNat*2) 2=some [.i .u8 j,.i .u8 l]∧ ∃m,(PCon UY 125 [J [.i .u8 j,.i .u8 l] 1 (some 1)] fun v=>v=.s m)∧b.length+m.length<=1152921504606846976∧K .normal 168 [S a3 l3 c3 k3, .s (b++m),I (IntKind.i64.wrap (a+(1:Int))),I c] h)) (SlO a3 False fun(id off:Nat)=>(0<=a∧a<l3)∧k3=2∧ ∃g j,Zb h id (off+a.toNat*2) 2=some [.i .u8 g,.i .u8 j]∧ ∃l,(PCon UY 125 [J [.i .u8 g,.i .u8 j] 1 (some 1)] fun v=>v=.s l)∧b.length+l.length<=1152921504606846976∧K .normal 168 [S a3 l3 c3 k3, .s (b++l),I (IntKind.i64.wrap (a+(1:Int))),I c] h))) (K (.exit 4) 168 [S a3 l3 c3 k3, .s b,I a,I c] h)):=by kernel_rfl
theorem ZK9{a h}(K):CP UY 80 ((post ((post ((post (flat (Za Tryz.f80))).drop 1)).drop 1)).drop 1) (MZ 168 [8] [.s a]) h [2] K=(a.length+ [(93:UInt8)].length<=1152921504606846976∧K .ret 168 [.s (a++ [(93:UInt8)])] h):=by kernel_rfl
theorem ZLa{x0 x1 h}(K):CP UY 81 (flat (Za Tryz.f81)) (I x0::I x1::Rp 44) h [4] K=((fun P0=>If (x0==(0:Int)) (If (x1==(-1:Int)) (K .ret 46 [.s [(42:UInt8)]] h) (If (x0==(1:Int)) (If (x1==(-1:Int)) (K .ret 46 [.s [(43:UInt8)]] h) (If (x0==(0:Int)) (If (x1==(1:Int)) (K .ret 46 [.s [(63:UInt8)]] h) P0) P0)) (If (x0==(0:Int)) (If (x1==(1:Int)) (K .ret 46 [.s [(63:UInt8)]] h) P0) P0))) (If (x0==(1:Int)) (If (x1==(-1:Int)) (K .ret 46 [.s [(43:UInt8)]] h) (If (x0==(0:Int)) (If (x1==(1:Int)) (K .ret 46 [.s [(63:UInt8)]] h) P0) P0)) (If (x0==(0:Int)) (If (x1==(1:Int)) (K .ret 46 [.s [(63:UInt8)]] h) P0) P0))) (∃a,some (Q.val (.s ((fun(x:List UInt8)=>UInt8.ofNat (IntKind.u8.wrap (IntKind.i64.wrap ((48:Int)+x0))).toNat::x) [])))=some (Q.val (.s a))∧ [(123:UInt8)].length+a.length<=1152921504606846976∧If (x1 !=x0) (([(123:UInt8)]++a).length+ [(44:UInt8)].length<=1152921504606846976∧If (leI 0 x1) (∃b,some (Q.val (.s ((fun(x:List UInt8)=>UInt8.ofNat (IntKind.u8.wrap (IntKind.i64.wrap ((48:Int)+x1))).toNat::x) [])))=some (Q.val (.s b))∧([(123:UInt8)]++a++ [(44:UInt8)]).length+b.length<=1152921504606846976∧([(123:UInt8)]++a++ [(44:UInt8)]++b).length+ [(125:UInt8)].length<=1152921504606846976∧K .ret 46 [.s ([(123:UInt8)]++a++ [(44:UInt8)]++b++ [(125:UInt8)])] h) (([(123:UInt8)]++a++ [(44:UInt8)]).length+ [(125:UInt8)].length<=1152921504606846976∧K .ret 46 [.s ([(123:UInt8)]++a++ [(44:UInt8)]++ [(125:UInt8)])] h)) (([(123:UInt8)]++a).length+ [(125:UInt8)].length<=1152921504606846976∧K .ret 46 [.s ([(123:UInt8)]++a++ [(125:UInt8)])] h))):=by kernel_rfl
theorem ZF0{a n0 h}(K):CP UY 125 (pre (flat (Za Tryz.f125))) (J a n0 none::Rp 39) h [0,3,4] K=(K .normal 40 [J a n0 none, .s [],I 0] h):=by kernel_rfl
theorem Zxk{b n0 c a h}(K):CP UY 125 (flat (Zx (post (flat (Za Tryz.f125))))) (MZ 40 [0,3,4] [J b n0 none,.s c,I a]) h [0,3,4] K=(If (ltI a n0) ((0<=a∧a<n0)∧ ∃d,Zo 1 (List.drop 0 (List.drop (a.toNat*2) b))=some [.i .u8 d]∧ ∃e,(PCon UY 161 [.i .u8 d] fun v=>v=.s e)∧c.length+e.length<=1152921504606846976∧(0<=a∧a<n0)∧ ∃f,Zo 1 (List.drop 1 (List.drop (a.toNat*2) b))=some [.i .u8 f]∧(0<=a∧a<n0)∧ ∃g,Zo 1 (List.drop 0 (List.drop (a.toNat*2) b))=some [.i .u8 g]∧If (f !=g) ((c++e).length+ [(45:UInt8)].length<=1152921504606846976∧(0<=a∧a<n0)∧ ∃j,Zo 1 (List.drop 1 (List.drop (a.toNat*2) b))=some [.i .u8 j]∧ ∃l,(PCon UY 161 [.i .u8 j] fun v=>v=.s l)∧(c++e++ [(45:UInt8)]).length+l.length<=1152921504606846976∧K .normal 40 [J b n0 none, .s (c++e++ [(45:UInt8)]++l),I (IntKind.i64.wrap (a+(1:Int)))] h) (K .normal 40 [J b n0 none, .s (c++e),I (IntKind.i64.wrap (a+(1:Int)))] h)) (K (.exit 0) 40 [J b n0 none, .s c,I a] h)):=by kernel_rfl
theorem ZF1{a h}(K):CP UY 125 ((post (flat (Za Tryz.f125))).drop 1) (MZ 40 [3] [.s a]) h [2] K=(K .ret 40 [.s a] h):=by kernel_rfl
theorem ZF2{x0 h}(K):CP UY 161 (flat (Za Tryz.f161)) (.i .u8 x0::Rp 19) h [2] K=((fun P0=>If (x0==(93:Int)) P0 (If (x0==(45:Int)) P0 (If (x0==(92:Int)) P0 (∃a,some (Q.val (.s ((fun(x:List UInt8)=>UInt8.ofNat x0.toNat::x) [])))=some (Q.val (.s a))∧K .ret 20 [.s a] h)))) (∃a,some (Q.val (.s ((fun(x:List UInt8)=>UInt8.ofNat x0.toNat::x) [])))=some (Q.val (.s a))∧ [(92:UInt8)].length+a.length<=1152921504606846976∧K .ret 20 [.s ([(92:UInt8)]++a)] h)):=by kernel_rfl
theorem ZLb{k s0 s1 s2 s3 a nk lo hi gn h}(K):CP UY 45 (flat (Za Tryz.f45)) (.agg (R9 k s0 s1 s2 s3 a nk none lo hi gn)::Rp 19) h [2,3] K=(∃b,(PCon UY 37 [.agg (R9 k s0 s1 s2 s3 a nk none lo hi gn)] fun v=>v=.s b)∧If (ltI 200 (↑b.length:Int)) (K .ret 20 [.lb R0,I 2] h) (∃c d,(PCon UY 95 [.agg (R9 k s0 s1 s2 s3 a nk none lo hi gn),I 0,I 0,I 0] fun v=>v=.tup [.b c,I d])∧If (!c) (K .ret 20 [.lb R0,I 2] h) (K .ret 20 [.lb (R9 k s0 s1 s2 s3 a nk none lo hi gn),I 0] h))):=by kernel_rfl
theorem ZLc{k s0 s1 s2 s3 a nk lo hi gn h}(K):CP UY 37 (pre (flat (Za Tryz.f37))) (.agg (R9 k s0 s1 s2 s3 a nk none lo hi gn)::Rp 57) h [1,2,3,4] K=(If (k==(1:Int)) (∃b,(PCon UY 80 [.agg [U s0,U s1,U s2,U s3]] fun v=>v=.s b)∧K .ret 58 [.lb (R9 k s0 s1 s2 s3 a nk none lo hi gn), .s b,Ud,Ud] h) (If (k==(2:Int)) (K .ret 58 [.lb (R9 k s0 s1 s2 s3 a nk none lo hi gn), .s [(94:UInt8)],Ud,Ud] h) (If (k==(3:Int)) (K .ret 58 [.lb (R9 k s0 s1 s2 s3 a nk none lo hi gn), .s [(36:UInt8)],Ud,Ud] h) (K .normal 58 [.lb (R9 k s0 s1 s2 s3 a nk none lo hi gn), .s [], .s [],I 0] h)))):=by kernel_rfl
theorem ZLd{k s0 s1 s2 s3 b nk lo hi gn d a x4 h}(K):CP UY 37 (flat (Zx (post (flat (Za Tryz.f37))))) (MZ 58 [1,2,3,4] [.lb (R9 k s0 s1 s2 s3 b nk none lo hi gn),.s d,.s a,I x4]) h [1,2,3,4] K=(If (ltI x4 nk) (If (ltI 0 x4) (If (k==(5:Int)) (a.length+ [(124:UInt8)].length<=1152921504606846976∧(0<=x4∧x4<nk)∧ ∃c e f g i j l m n o p,Zo 9 (List.drop (x4.toNat*9) b)=some (R9 c e f g i j l m n o p)∧ ∃q,(PCon UY 37 [.agg (R9 c e f g i j l m n o p)] fun v=>v=.s q)∧(a++ [(124:UInt8)]).length+q.length<=1152921504606846976∧K .normal 58 [.lb (R9 k s0 s1 s2 s3 b nk none lo hi gn), .s d, .s (a++ [(124:UInt8)]++q),I (IntKind.i64.wrap (x4+(1:Int)))] h) ((0<=x4∧x4<nk)∧ ∃c e f g i j l m n o p,Zo 9 (List.drop (x4.toNat*9) b)=some (R9 c e f g i j l m n o p)∧ ∃q,(PCon UY 37 [.agg (R9 c e f g i j l m n o p)] fun v=>v=.s q)∧a.length+q.length<=1152921504606846976∧K .normal 58 [.lb (R9 k s0 s1 s2 s3 b nk none lo hi gn), .s d, .s (a++q),I (IntKind.i64.wrap (x4+(1:Int)))] h)) ((0<=x4∧x4<nk)∧ ∃c e f g i j l m n o p,Zo 9 (List.drop (x4.toNat*9) b)=some (R9 c e f g i j l m n o p)∧ ∃q,(PCon UY 37 [.agg (R9 c e f g i j l m n o p)] fun v=>v=.s q)∧a.length+q.length<=1152921504606846976∧K .normal 58 [.lb (R9 k s0 s1 s2 s3 b nk none lo hi gn), .s d, .s (a++q),I (IntKind.i64.wrap (x4+(1:Int)))] h)) (K (.exit 0) 58 [.lb (R9 k s0 s1 s2 s3 b nk none lo hi gn), .s d, .s a,I x4] h)):=by kernel_rfl
theorem ZLe{k s0 s1 s2 s3 b nk lo hi gn a h}(K):CP UY 37 ((post (flat (Za Tryz.f37))).drop 1) (MZ 58 [1,3] [.lb (R9 k s0 s1 s2 s3 b nk none lo hi gn),.s a]) h [2] K=(If (k==(7:Int)) ([(40:UInt8)].length+a.length<=1152921504606846976∧([(40:UInt8)]++a).length+ [(41:UInt8)].length<=1152921504606846976∧K .ret 58 [.s ([(40:UInt8)]++a++ [(41:UInt8)])] h) (If (k==(6:Int)) (∃c,(PCon UY 81 [I lo,I hi] fun v=>v=.s c)∧a.length+c.length<=1152921504606846976∧K .ret 58 [.s (a++c)] h) (K .ret 58 [.s a] h))):=by kernel_rfl
theorem ZLf{k s0 s1 s2 s3 a nk lo hi gn h}(K):CP UY 42 (flat (Za Tryz.f42)) (.agg (R9 k s0 s1 s2 s3 a nk none lo hi gn)::Rp 11) h [2] K=(∃c d,(PCon UY 93 [.agg (R9 k s0 s1 s2 s3 a nk none lo hi gn)] fun v=>v=.tup [.s c,I d])∧K .ret 12 [.b (d==(0:Int))] h):=by kernel_rfl
theorem ZLg{k s0 s1 s2 s3 a nk lo hi gn h}(K):CP UY 93 (flat (Za Tryz.f93)) (.agg (R9 k s0 s1 s2 s3 a nk none lo hi gn)::Rp 19) h [2,3] K=(∃b c,(PCon UY 95 [.agg (R9 k s0 s1 s2 s3 a nk none lo hi gn),I 0,I 0,I 0] fun v=>v=.tup [.b b,I c])∧If (!b) (K .ret 20 [.s [],I 5] h) (∃d,(PCon UY 37 [.agg (R9 k s0 s1 s2 s3 a nk none lo hi gn)] fun v=>v=.s d)∧If (ltI 200 (↑d.length:Int)) (K .ret 20 [.s [],I 2] h) (K .ret 20 [.s d,I 0] h))):=by kernel_rfl
theorem Zvp(x:S4)(hx:nnS x)(c:Nat)(hc:c<256):PCon UY 124 [.agg (setC x), .i .u8 (c:Nat)] (· = .b (hasN x c)):=by
 refine PCon.hz (Zt Tryh.Yok (fn:=Tryz.f124) rfl ZAk rfl ?_)
 have hk:c / 64<4:=by omega
 have e1:IntKind.u8.wrap (Int.tdiv (c:Int) 64)=((c / 64:Nat):Int):=by rw[Zqu,Zdr (by omega)]
 have e2:(Int.tmod (c:Int) 64).toNat=c % 64:=by rw[Ze9];rfl
 have hp:0<=Zeo x (c / 64):=by
  generalize c / 64=k at hk
  obtain⟨p,rfl⟩:=hx
  match k,hk with
  |0,_=>exact Int.natCast_nonneg _
  |1,_=>exact Int.natCast_nonneg _
  |2,_=>exact Int.natCast_nonneg _
  |3,_=>exact Int.natCast_nonneg _
 rw[e1]
 refine⟨by decide,⟨by omega,by omega⟩,Zeo x (c / 64),?_,by decide,by rw[Ze9];omega,by decide,?_⟩
 ·rw[Zr (cs:= [U x.1,U x.2.1,U x.2.2.1,U x.2.2.2]) (wr:=true) (by simp),qdq]
  generalize c / 64=k at hk
  match k,hk with
  |0,_=>rfl
  |1,_=>rfl
  |2,_=>rfl
  |3,_=>rfl
 ·have e4:min (Int.tmod (c:Int) 64).toNat IntKind.u64.bits=c % 64:=by
   have:IntKind.u64.bits=64:=rfl
   rw[this,e2];omega
  rw[e4]
  refine Zv (.inr rfl) rfl (.b _) ?_
  unfold hasN
  generalize Zeo x (c / 64)=y at hp
  have h0:0<=y.fdiv ((2:Int) ^ (c % 64)):=by
   rw[Int.fdiv_eq_ediv_of_nonneg _ (Int.le_of_lt (Int.pow_pos (by decide)))]
   exact Int.ediv_nonneg hp (Int.le_of_lt (Int.pow_pos (by decide)))
  rw[Int.tmod_eq_emod_of_nonneg h0]

def XP(c:UInt8):List UInt8:=if(c=93∨c=45)∨c=92 then [92,c]else [c]
theorem Zb1(c:UInt8):UInt8.ofNat ((c.toNat:Nat):Int).toNat=c:=by rw[qdq];simp
theorem Zef(c:UInt8):PCon UY 161 [.i .u8 (c.toNat:Nat)] (· = .s (XP c)):=by
 refine Zt UK (fn:=Tryz.f161) rfl ZF2 rfl ?_
 rw[Zb1]
 refine Zg (fun h1=> ?_) (fun h1=>Zg (fun h2=> ?_) (fun h2=>Zg (fun h3=> ?_) (fun h3=> ?_)))
 ·have h1:=ZI (d:=93) h1
  exact⟨_,rfl,by simp,Zv (.inr rfl) rfl (.s _) (by unfold XP;rw[if_pos (.inl (.inl h1))];rfl)⟩
 ·have h2:=ZI (d:=45) h2
  exact⟨_,rfl,by simp,Zv (.inr rfl) rfl (.s _) (by unfold XP;rw[if_pos (.inl (.inr h2))];rfl)⟩
 ·have h3:=ZI (d:=92) h3
  exact⟨_,rfl,by simp,Zv (.inr rfl) rfl (.s _) (by unfold XP;rw[if_pos (.inr h3)];rfl)⟩
 ·have h1:=ZF (d:=93) h1
  have h2:=ZF (d:=45) h2
  have h3:=ZF (d:=92) h3
  exact⟨_,rfl,Zv (.inr rfl) rfl (.s _) (by unfold XP;rw[if_neg (by rintro((h|h)|h)<;>contradiction)])⟩
def VK(p:UInt8×UInt8):List UInt8:=if p.2=p.1 then XP p.1 else XP p.1++ [45]++XP p.2
theorem We(c:UInt8):(XP c).length<=2:=by unfold XP;split<;>simp
theorem Zft(lo hi:UInt8):PCon UY 125 [.ts [.i .u8 (lo.toNat:Nat), .i .u8 (hi.toNat:Nat)] 1 (some 1)] (· = .s (VK (lo,hi))):=by
 refine PCon.wkD (.cons _ _ _ _ (.ts _ _ _ _ (.cons _ _ _ _ (.same _) (.cons _ _ _ _ (.same _) .nil))) .nil) ?_
 refine ZE UK (fn:=Tryz.f125) rfl ?_
 refine Zl UK 40 ZF0 rfl ?_
 refine⟨rfl,ZL [0,3,4] [0,3,4] (fun m vs g=>(m=1∧vs= [.ts [.i .u8 (lo.toNat:Nat), .i .u8 (hi.toNat:Nat)] 1 none, .s [],I 0])∨(m=0∧vs= [.ts [.i .u8 (lo.toNat:Nat), .i .u8 (hi.toNat:Nat)] 1 none, .s (VK (lo,hi)),I 1])) 1 Zy (.inl ⟨rfl,rfl⟩) ?_⟩
 rintro m vs g (⟨rfl,rfl⟩|⟨rfl,rfl⟩)
 ·refine Zs UK Zxk rfl ?_
  have w1:=We lo
  have w2:=We hi
  refine ifT rfl ⟨⟨by decide,by decide⟩,_,rfl,_,Zef lo,by simp;omega,⟨by decide,by decide⟩,_,rfl,⟨by decide,by decide⟩,_,rfl,Zg (fun h=> ?_) (fun h=> ?_)⟩
  ·have hne:hi≠lo:=by
    intro e;subst e;simp at h
   refine⟨by simp;omega,⟨by decide,by decide⟩,_,rfl,_,Zef hi,by simp;omega,rfl,0,by decide, .inr ⟨rfl,?_⟩⟩
   unfold VK;rw[if_neg hne];rfl
  ·have he:hi=lo:=by
    have:((hi.toNat:Nat):Int)=((lo.toNat:Nat):Int):=by simpa using h
    exact UInt8.toNat_inj.1 (by omega)
   refine⟨rfl,0,by decide, .inr ⟨rfl,?_⟩⟩
   unfold VK;rw[if_pos he];rfl
 ·refine Zs UK Zxk rfl ?_
  refine ifF rfl ?_
  refine Zi [3] ?_
  refine Zn UK ZF1 rfl ?_
  exact Zv (.inr rfl) rfl (.s _) rfl

theorem Zsp{x y:Int}(hx:0<=x∧x<=8)(hy:y= -1∨(x<=y∧y<=8)):PCon UY 81 [I x,I y] (· = .s (Zk3 x y)):=by
 refine Zt UK (fn:=Tryz.f81) rfl ZLa rfl ?_
 have wx:UInt8.ofNat (IntKind.u8.wrap (IntKind.i64.wrap (48+x))).toNat=UInt8.ofNat (48+x.toNat):=by
  have e:48+x=((48+x.toNat:Nat):Int):=by omega
  rw[e,ZG (by omega) (by omega),Zdr (by omega),qdq]
 have e1:(y !=x)= !(x==y):=by
  have:(y==x)=(x==y):=by
   by_cases h:x=y
   ·subst h;rfl
   ·rw[beq_eq_false_iff_ne.2 h,beq_eq_false_iff_ne.2 (Ne.symm h)]
  rw[bne,this]
 have e2:leI 0 y= !(y== -1):=by
  rcases hy with rfl|hy
  ·rfl
  ·have h1:(y== -1)=false:=by rw[beq_eq_false_iff_ne];omega
   have h2:leI 0 y=true:=by simp[leI];omega
   rw[h1,h2];rfl
 have wy:(y== -1)=false->UInt8.ofNat (IntKind.u8.wrap (IntKind.i64.wrap (48+y))).toNat=UInt8.ofNat (48+y.toNat):=by
  intro h
  have h:y≠ -1:=by simpa using h
  have e:48+y=((48+y.toNat:Nat):Int):=by omega
  rw[e,ZG (by omega) (by omega),Zdr (by omega),qdq]
 rw[e1,e2,wx]
 unfold Zk3
 revert wy
 generalize UInt8.ofNat (IntKind.u8.wrap (IntKind.i64.wrap (48+y))).toNat=dy
 intro wy
 have ix:Xt x.toNat= [UInt8.ofNat (48+x.toNat)]:=rfl
 have iy:Xt y.toNat= [UInt8.ofNat (48+y.toNat)]:=rfl
 rw[ix,iy]
 revert wy
 generalize UInt8.ofNat (48+x.toNat)=dx
 generalize UInt8.ofNat (48+y.toNat)=dy2
 intro wy
 generalize (x==0)=b0
 generalize (y== -1)=b1 at wy ⊢
 generalize (x==1)=b2
 generalize (y==1)=b3
 generalize (x==y)=b4
 cases b1
 ·have wy:=wy rfl
  subst wy
  cases b0<;>cases b2<;>cases b3<;>cases b4<;>first
   |exact Zv (n:=46) (.inr rfl) rfl (.s _) rfl
   |exact⟨_,rfl,(by simp),(by simp),Zv (n:=46) (.inr rfl) rfl (.s _) rfl⟩
   |exact⟨_,rfl,(by simp),(by simp),_,rfl,(by simp),(by simp),Zv (n:=46) (.inr rfl) rfl (.s _) rfl⟩
 ·clear wy
  cases b0<;>cases b2<;>cases b3<;>cases b4<;>first
   |exact Zv (n:=46) (.inr rfl) rfl (.s _) rfl
   |exact⟨_,rfl,(by simp),(by simp),Zv (n:=46) (.inr rfl) rfl (.s _) rfl⟩
   |exact⟨_,rfl,(by simp),(by simp),(by simp),Zv (n:=46) (.inr rfl) rfl (.s _) rfl⟩
end Go.Y
namespace Go.Y
set_option maxRecDepth 1000000
set_option maxHeartbeats 0
theorem Zfu(p:Nat->Bool){c:Nat}(h:c<256):hasN (Zw p) c=p c:=by
 have key: ∀k,k<4->Zeo (Zw p) k=((ZS p k 64:Nat):Int):=fun k hk=>by
  match k,hk with
  |0,_=>rfl
  |1,_=>rfl
  |2,_=>rfl
  |3,_=>rfl
 unfold hasN
 rw[key _ (by omega)]
 have hb:=Jd p (c / 64) (c % 64) 64
 rw[decide_eq_true (show c % 64<64 by omega),Bool.true_and,show 64*(c / 64)+c % 64=c by omega]at hb
 rw[<-hb,Nat.testBit_eq_decide_div_mod_eq]
 generalize ZS p (c / 64) 64=w
 have e:((w:Int)).fdiv ((2:Int) ^ (c % 64))=((w / 2 ^ (c % 64):Nat):Int):=by
  rw[Int.fdiv_eq_ediv_of_nonneg _ (Int.le_of_lt (Int.pow_pos (by decide)))]
  norm_cast
 rw[e]
 generalize w / 2 ^ (c % 64)=y
 by_cases hy:y % 2=1
 ·rw[decide_eq_true hy]
  have:(y:Int) % 2=1:=by omega
  rw[this];rfl
 ·rw[decide_eq_false hy]
  have:(y:Int) % 2=0:=by omega
  rw[this];rfl

theorem Zsq(p:Nat->Bool): ∀(f c x:Nat),c<=x->x<runE p f c->p x=true
 |0,c,x,h1,h2=>by rw[runE]at h2;omega
 |f+1,c,x,h1,h2=>by
  by_cases hp:p c=true
  ·rw[runE,if_pos hp]at h2
   by_cases hx:x=c
   ·subst hx;exact hp
   ·exact Zsq p f (c+1) x (by omega) h2
  ·rw[runE,if_neg hp]at h2;omega
theorem Zsr(p:Nat->Bool): ∀(f c:Nat),runE p f c<=c+f
 |0,c=>by rw[runE];omega
 |f+1,c=>by
  rw[runE]
  split
  ·have:=Zsr p f (c+1);omega
  ·omega
theorem Znf(p:Nat->Bool): ∀(f c:Nat),(∀x,c<=x->x<c+f->p x=true)->runE p f c=c+f
 |0,c,_=>rfl
 |f+1,c,h=>by rw[runE,if_pos (h c (qnq _) (by omega)),Znf p f (c+1) fun x h1 h2=>h x (by omega) (by omega)];omega
theorem Zxl(p:Nat->Bool): ∀(f c:Nat) (out:List PR2),(∀q∈out,∀x,q.1.toNat<=x->x<=q.2.toNat->p x=true)-> ∀q∈goF p f c out,∀x,q.1.toNat<=x->x<=q.2.toNat->p x=true
 |0,c,out,h=>by rw[goF];exact h
 |f+1,c,out,h=>by
  rw[goF]
  split
  ·rename_i hc
   refine Zxl p f _ _ ?_
   intro q hq x h1 h2
   split at hq
   ·rename_i hlt
    rcases qA.1 hq with hq|hq
    ·exact h q hq x h1 h2
    ·rw[List.mem_singleton]at hq
     subst hq
     have hle:=Zsr p (256-c) c
     have e1:(UInt8.ofNat c).toNat=c:=by rw[UInt8.toNat_ofNat'];omega
     have e2:(UInt8.ofNat (runE p (256-c) c-1)).toNat=runE p (256-c) c-1:=by rw[UInt8.toNat_ofNat'];omega
     simp only[e1,e2]at h1 h2
     exact Zsq p (256-c) c x h1 (by omega)
   ·exact h q hq x h1 h2
  ·exact h
theorem ZAl:maxU=((2 ^ 64-1:Nat):Int):=by
 have:=Zm3 (n:=0) (by decide)
 exact this
theorem Zfv(k:Nat): ∀m,ZS (fun _=>true) k m=2 ^ m-1
 |0=>rfl
 |m+1=>by
  rw[XK,Zfv k m,Nat.pow_succ]
  have:0<2 ^ m:=Nat.pow_pos (by decide)
  simp;omega
theorem Zfw:Zw (fun _=>true)=(maxU,maxU,maxU,maxU):=by
 simp only[Zw,Zak,Zfv,ZAl]
def allM(x:S4):Bool:=x.1==maxU&&(x.2.1==maxU&&(x.2.2.1==maxU&&(x.2.2.2==maxU&&true)))
theorem Zvq(p:Nat->Bool):allM (Zw p)=true↔JK (hasN (Zw p))= [(0,255)]:=by
 constructor
 ·intro h
  have e:Zw p=(maxU,maxU,maxU,maxU):=by
   unfold allM at h
   simp only[qrq,beq_iff_eq,Bool.and_true]at h
   obtain⟨a,b,c,d⟩:=h
   exact Prod.ext a (Prod.ext b (Prod.ext c d))
  have hp: ∀x,0<=x->x<0+256->hasN (Zw p) x=true:=fun x _ hx=>by
   rw[e,<-Zfw,Zfu _ (by omega)]
  unfold JK
  rw[goF,if_pos (by decide),show 256-0=256 from rfl,Znf _ 256 0 hp,if_pos (by decide)]
  rw[Zrw _ _ (by decide)]
  rfl
 ·intro h
  have hin: ∀x,x<256->hasN (Zw p) x=true:=fun x hx=>by
   have:=Zxl (hasN (Zw p)) 257 0 [] (fun q hq=>by cases hq)
   unfold JK at h
   rw[h]at this
   exact this (0,255) (by simp) x (qx _) (by show x<=255;omega)
  have e:Zw p=Zw fun _=>true:=Zjc fun c hc=>by rw[<-Zfu p hc,hin c hc]
  rw[e,Zfw]
  decide

theorem Zjp(c:UInt8)(m:List UInt8):Zav c m=if m.contains c=true then [92,c]else [c]:=by unfold Zav;rw[Zsb]
def Wl(lo hi:UInt8):List UInt8:=(if lo=94 then [92]else [])++(if lo≠hi∧hi=94 then VK (lo,lo)++ [45,92,94]else VK (lo,hi))
theorem Zng(c:UInt8):Zav c Zdx=if c=94 then [92,c]else XP c:=by
 rw[Zjp]
 unfold XP
 by_cases h:c=94
 ·subst h;rfl
 ·rw[if_neg h]
  by_cases h2:(c=93∨c=45)∨c=92
  ·rw[if_pos h2,if_pos]
   rcases h2 with (rfl|rfl)|rfl<;>rfl
  ·rw[if_neg h2,if_neg]
   simp only[List.contains_cons,List.contains_nil,Bool.or_false,Bool.or_eq_true,beq_iff_eq]
   rintro(h3|h3|h3|h3)
   ·exact h2 (.inl (.inl h3))
   ·exact h2 (.inl (.inr h3))
   ·exact h2 (.inr h3)
   ·exact h h3
theorem Zss(lo hi:UInt8):Wl lo hi=XB (lo,hi):=by
 unfold Wl XB
 rw[Zng,Zng]
 have e:((((hi.toNat:Nat):Int) !=((lo.toNat:Nat):Int))=true)↔hi≠lo:=by
  rw[bne_iff_ne]
  constructor
  ·intro h e;subst e;exact h rfl
  ·intro h e;exact h (UInt8.toNat_inj.1 (by omega))
 have w94:XP 94= [94]:=by decide
 by_cases hl:lo=94
 ·subst hl
  by_cases hh:hi=94
  ·subst hh
   rw[if_neg (fun h=>e.1 h rfl)]
   decide
  ·rw[if_pos (e.2 hh),if_pos rfl,if_neg (fun h=>hh h.2),if_pos rfl,if_neg hh]
   unfold VK
   rw[if_neg hh]
   simp[w94]
 ·rw[if_neg hl,qy,if_neg hl]
  by_cases hne:hi=lo
  ·subst hne
   rw[if_neg (fun h=>e.1 h rfl),if_neg (fun h=>h.1 rfl)]
   unfold VK;rw[if_pos rfl]
  ·rw[if_pos (e.2 hne)]
   by_cases hh:hi=94
   ·subst hh
    rw[if_pos ⟨hl,rfl⟩,if_pos rfl]
    unfold VK;rw[if_pos rfl];simp
   ·rw[if_neg (fun h=>hh h.2),if_neg hh]
    unfold VK;rw[if_neg hne];simp
end Go.Y
