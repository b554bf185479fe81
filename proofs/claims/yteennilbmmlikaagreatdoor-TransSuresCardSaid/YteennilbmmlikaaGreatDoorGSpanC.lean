/- A part of the proof. -/
import Derived.Test.YteennilbmmlikaaGreatDoorGRule
import Derived.Test.YteennilbmmlikaaGreatDoorGRise
import Derived.Test.YteennilbmmlikaaGreatDoorYLoop
import Derived.Test.YteennilbmmlikaaGreatDoorYAny3
import Derived.Test.YteennilbmmlikaaGreatDoorGReD
namespace Go.Y
open Go.Proofs
set_option maxRecDepth 1000000
set_option maxHeartbeats 0
theorem Js(c d:UInt8):(((c.toNat:Nat):Int)==((d.toNat:Nat):Int))=decide (c=d):=by rw[Zvn];rfl
theorem Zju{Y}{b}{a:List Nat}{o:Out}{n:Nat}{vs}{h}{v1 e f r1 c d R:V}(k:o= .normal\/o= .ret)(m:resV Y b (a.zip vs)=some (.tup [v1,e,f]))(g:Frz h v1 r1)(i:Frz h e c)(j:Frz h f d)(l: .tup [r1,c,d]=R):
  Fin Y b a (λv h=> ∃r,Frz h v r/\r=R) o n vs h:=⟨k,_,m,_, .tup _ _ (.cons _ _ _ _ g (.cons _ _ _ _ i (.cons _ _ _ _ j .nil))),l⟩
theorem Zjv{h}{a}{l:Nat}{c}{m:Nat}{b:List Span}(x:Span)(p:Lst encS 2 h a l c m b)(o:b.length<2 ^ 29):
  ∃d n g k f,Zk UY h 57 57 (.sl a l c m) (.ts (encS x) 1 (some 1))=some (.sl d n g k,f)/\Lst encS 2 f d n g k (b++ [x])/\Fr h a f/\ ∃j,d=some (j,0)/\h.nx<=j:=
 Lst.app1 (Y:=UY) (e:=155) (te:=⟨2,2, .struct [(0,5),(1,5)],[.i .u8 0, .i .u8 0]⟩) x kr kr rfl dc p (Xa _ rfl) rfl rfl rfl dc o
def Zaq(s:List UInt8)(i:Nat):V:=match endS s i with
 | .error e=> .tup [.i .u8 0, .i .i64 (-1), .i .i64 (e:Nat)]
 | .ok (c,j)=> .tup [.i .u8 c, .i .i64 (j-i:Nat), .i .i64 0]
theorem Zl6(s:List UInt8)(i:Nat)(w:s.length<2 ^ 30)(u:i<2 ^ 30):PCon UY 111 [.s s,I i] (· =Zaq s i):=by
 refine ZF UK (fn:=Tryz.f111) rfl (ZG UK (loc:=UY.loc 111) 100 [4,5,6] ?_);rw[show(⟨[.s s,I i]++List.replicate (Tryz.f111.ntmps- [V.s s,I i].length) .undef,[], .empty⟩:St)=⟨.s s:: I i::List.replicate 40 .undef,[], .empty⟩ by rfl,ZJn];unfold Zaq;have f: ∀(a b c:Int) (R:V), .tup [.i .u8 a,I b,I c]=R->Fin UY Tryz.f111 [4,5,6] (λv h=> ∃r,Frz h v r/\r=R) .ret 42 [.i .u8 a,I b,I c] .empty:=λa b c R q=>
  Zju rr rfl (.i _ _) (.i _ _) (.i _ _) q
 refine JU (λn=>f _ _ _ _ ?_) (λo=> ?_);have:s[i]? =none:=qq om;simp[endS,this];have j:i<s.length:=om;have d:s[i]? =some s[i]:=by simp[j]
 have e:(0:Int)<=(i:Nat)/\s[(i:Int).toNat]? =some s[i]:=⟨om,by simp[j]⟩;rw[show(93:Int)=(((93:UInt8).toNat:Nat):Int) from dc,show(45:Int)=(((45:UInt8).toNat:Nat):Int) from dc];refine⟨_,e,?_⟩;rw[Js];refine WY (λk=>f _ _ _ _ ?_) (λk=>⟨_,e,?_⟩);unfold endS;rw[d];simp only[];rw[uF (.inl k)];rw[Js];refine WY (λl=>f _ _ _ _ ?_) (λl=>⟨_,e,?_⟩);unfold endS;rw[d];simp only[];rw[uF (.inr l)];have p: ¬(s[i]=93\/s[i]=45):=by simp[k,l]
 have m:((s[i].toNat:Int) !=92)= !decide (s[i]=92):=by
  rw[show(92:Int)=(((92:UInt8).toNat:Nat):Int) from dc];show(!((s[i].toNat:Int)==(((92:UInt8).toNat:Nat):Int)))=_;rw[Js]
 rw[m];refine Zf (λg=>⟨_,e,f _ _ _ _ ?_⟩) (λg=> ?_);have g:s[i]≠92:=su g;unfold endS;rw[d];simp only[];rw[uE p,uE g];simp
 .have g:s[i]=92:=su g;rw[Ze om];refine JU (λn=>f _ _ _ _ ?_) (λo=> ?_);have:s[i+1]? =none:=qq om;unfold endS;rw[d];simp only[];rw[uE p,uF g,this]
  .have t:i+1<s.length:=om;have:s[i+1]? =some s[i+1]:=by simp[t]
   refine⟨_,⟨om,by rw[show(((i+1:Nat):Int)).toNat=i+1 from om];exact this⟩,f _ _ _ _ ?_⟩;unfold endS;rw[d];simp only[];rw[uE p,uF g,this];simp
def Zv7(r:Except Nat (List Span×Nat)):V:=match r with
 | .error e=> .tup [lst encS [], .i .i64 (-1), .i .i64 (e:Nat)]
 | .ok (l,j)=> .tup [lst encS l, .i .i64 (j:Nat), .i .i64 0]
def ZC7(s:List UInt8)(R:Except Nat (List Span×Nat))(m:Nat)(e:List V)(h:Heap):Prop:=
 ∃(i:Nat) (b:List Span) (a:Option (Nat×Nat)) (l:Nat) (c:Option Nat) (k:Nat) (d:V),e= [.s s, .i .i64 (i:Nat), .undef, .sl none 0 (some 0) 0, .sl a l c k,d]/\Lst encS 2 h a l c k b/\
  i<=s.length/\b.length<=i/\s.length-i<m/\setS m s i b=R
theorem Zl7(s:List UInt8)(i:Nat)(hs:s.length<2 ^ 28)(hi:i<=s.length):PCon UY 62 [.s s,I i] (· =Zv7 (setS (s.length+1) s i [])):=by
  refine ZF UK (fn:=Tryz.f62) rfl ?_;refine Xm UK (n:=81) (loc:=UY.loc 62) 100 [0,1,3,4,7,9] kr ?_;rw[show(⟨[.s s,I i]++List.replicate (Tryz.f62.ntmps- [V.s s,I i].length) .undef,[], .empty⟩:St)=⟨.s s:: I i::List.replicate 79 .undef,[], .empty⟩ by rfl,ZP5];generalize hR:setS (s.length+1) s i []=R;refine⟨rfl,Zfo [0,1,3,4,7,9] [0,1,3,4,5,6,7,9] (ZC7 s R) (s.length+1) ZA ⟨i,[],none,0,some 0,0, .undef,rfl,Lst.nil _ _ _ _ _,hi,sm,om,hR⟩ ?_⟩;rintro m vs h ⟨i,N,a,l,c,k,v9,rfl,hL,hi,b0,hm,o⟩;refine ZW UK (loc:=UY.loc 62) 100 [0,1,3,4,5,6,7,9] ?_;rw[ZP6];obtain⟨m,rfl⟩: ∃m',m=m'+1:=⟨m-1,om⟩;have a6:=hL.len;generalize hK:Zhn 81 [0,1,3,4,5,6,7,9] [0,1,3,4,7,9] (ZC7 s R) (m+1) (Xb (post (flat (Za Tryz.f62)))) (FinS UY Tryz.f62 λv h=> ∃r,Frz h v r/\r=Zv7 R)=K;have stop: ∀(v1 v3:V) (a:Option (Nat×Nat)) (l:Nat) (c:Option Nat) (k:Nat) (x:Int) (y:Int) (w4 Z:V) (h:Heap) (r:V),Frz h (.sl a l c k) r-> .tup [r,I x,I y]=Zv7 R->K .ret 81 [.s s,v1,v3, .sl a l c k,I x,I y,w4,Z] h:=by
    intro v1 v3 a l c k x y w4 Z h r G h2;subst hK;exact Xc rr rfl ⟨_, .tup _ _ (.cons _ _ _ _ G (.cons _ _ _ _ (.i _ _) (.cons _ _ _ _ (.i _ _) .nil))),h2⟩
  have a9: ∀(j:Nat),j<=s.length->wW ((i:Int)+((j-i:Nat):Int))=(i:Int)+((j-i:Nat):Int):=λj hj=>ZI om om;have E: ¬(N≠ []/\s[i]? =some 93)-> ∃n b a2:Int,(PCon UY 111 [.s s,I i] λv=>v= .tup [.i .u8 n,I b,I a2])/\
      If (ltI b 0) (K .ret 81 [.s s,I i, .undef, .sl none 0 (some 0) 0,I (-1),I a2, .sl a l c k,I b] h)
        (If (ltI (wW ((i:Nat)+b)) (s.length:Nat)) (∃a0:UInt8,(0<=wW ((i:Nat)+b)/\s[(wW ((i:Nat)+b)).toNat]? =some a0)/\If ((a0.toNat:Int)==45)
          (∃Y p a3:Int,(PCon UY 111 [.s s,I (wW (wW ((i:Nat)+b)+1))] λv=>v= .tup [.i .u8 Y,I p,I a3])/\
            If (ltI p 0) (K .ret 81 [.s s,I (wW ((i:Nat)+b)), .undef, .sl none 0 (some 0) 0,I (-1),I a3, .sl a l c k,I p] h)
              (If (ltI Y n) (K .ret 81 [.s s,I (wW ((i:Nat)+b)), .undef, .sl none 0 (some 0) 0,I (-1),I (wW (wW ((i:Nat)+b)+p)), .sl a l c k,I p] h)
                (∃(q:Option (Nat×Nat)) (w:Nat) (t:Option Nat) (u:Nat) (d:Heap),Zk UY h 57 57 (.sl a l c k) (.ts [.i .u8 n, .i .u8 Y] 1 (some 1))=some (.sl q w t u,d)/\
                  K .normal 81 [.s s,I (wW (wW (wW ((i:Nat)+b)+1)+p)), .undef, .sl none 0 (some 0) 0, .undef, .undef, .sl q w t u,I p] d)))
          (∃(q:Option (Nat×Nat)) (w:Nat) (t:Option Nat) (u:Nat) (d:Heap),Zk UY h 57 57 (.sl a l c k) (.ts [.i .u8 n, .i .u8 n] 1 (some 1))=some (.sl q w t u,d)/\
            K .normal 81 [.s s,I (wW ((i:Nat)+b)), .undef, .sl none 0 (some 0) 0, .undef, .undef, .sl q w t u,I b] d))
          (∃(q:Option (Nat×Nat)) (w:Nat) (t:Option Nat) (u:Nat) (d:Heap),Zk UY h 57 57 (.sl a l c k) (.ts [.i .u8 n, .i .u8 n] 1 (some 1))=some (.sl q w t u,d)/\
            K .normal 81 [.s s,I (wW ((i:Nat)+b)), .undef, .sl none 0 (some 0) 0, .undef, .undef, .sl q w t u,I b] d)):=by
    intro hn;simp only[setS,hn,vF]at o;have hc:=Zl6 s i om om;have F: ∀h:Heap,Frz h (.sl none 0 (some 0) 0) (lst encS []):=λh=>Jq encS h _ _;have more: ∀(x:Span) (j:Nat) (Z:V),i<j->j<=s.length->setS m s j (N++ [x])=R-> ∃(q:Option (Nat×Nat)) (w:Nat) (t:Option Nat) (u:Nat) (d:Heap),Zk UY h 57 57 (.sl a l c k) (.ts [.i .u8 x.lo, .i .u8 x.hi] 1 (some 1))=some (.sl q w t u,d)/\
            K .normal 81 [.s s,I (j:Nat), .undef, .sl none 0 (some 0) 0, .undef, .undef, .sl q w t u,Z] d:=by
      intro x j Z G h2 h3;obtain⟨q,w,t,u,h',q1,q2,_⟩:=Zjv x hL om;refine⟨q,w,t,u,h',q1,?_⟩;subst hK;exact⟨rfl,m,om,j,N++ [x],q,w,t,u,Z,rfl,q2,h2,by simp;omega,om,h3⟩
    cases B:endS s i with
    |error e=>
      have f:XU s i= .error e:=by simp only[XU,B]
      rw[f]at o;have hr:Zaq s i= .tup [.i .u8 0,I (-1),I e]:=by simp only[Zaq,B]
      rw[hr]at hc;refine⟨_,_,_,hc,Xr (λ_=>stop _ _ _ _ _ _ _ _ _ _ _ _ (F _) ?_) (λh=>om)⟩;subst o;rfl
    |ok y=>
      obtain⟨A,j⟩:=y;have hj:=Vp B;have hr:Zaq s i= .tup [.i .u8 A,I (j-i:Nat),I 0]:=by simp only[Zaq,B]
      rw[hr]at hc;have a8:wW ((i:Int)+((j-i:Nat):Int))=(j:Nat):=by rw[ZI om om];omega
      refine⟨A,((j-i:Nat):Int),0,hc,Xr (λh=>om) (λ_=> ?_)⟩;rw[a8];refine Zq (λW=> ?_) (λa5=> ?_)
      · refine⟨s[j],⟨om,by simp[W]⟩,?_⟩
        rw[show(45:Int)=(((45:UInt8).toNat:Nat):Int) from dc,Js];refine WY (λO=> ?_) (λO=> ?_)
        · have g:s[j]? =some 45:=by rw[<-O];simp[W]
          have H:=Zl6 s (j+1) om om;rw[Ze om]
          cases z:endS s (j+1) with
          |error e=>
            have f:XU s i= .error e:=by simp only[XU,B,g,vG,z]
            rw[f]at o;have X:Zaq s (j+1)= .tup [.i .u8 0,I (-1),I e]:=by simp only[Zaq,z]
            rw[X]at H;refine⟨_,_,_,H,Xr (λ_=>stop _ _ _ _ _ _ _ _ _ _ _ _ (F _) ?_) (λh=>om)⟩;subst o;rfl
          |ok y=>
            obtain⟨C,L⟩:=y;have hk:=Vp z;have X:Zaq s (j+1)= .tup [.i .u8 C,I (L-(j+1):Nat),I 0]:=by simp only[Zaq,z]
            rw[X]at H;refine⟨C,((L-(j+1):Nat):Int),0,H,Xr (λh=>om) (λ_=>Xr (λD=> ?_) (λa1=> ?_))⟩
            · have f:XU s i= .error (L-1):=by simp only[XU,B,g,vG,z,D]
              rw[f]at o;rw[show wW (((j:Nat):Int)+((L-(j+1):Nat):Int))=((L-1:Nat):Int) by rw[ZI om om];omega];refine stop _ _ _ _ _ _ _ _ _ _ _ _ (F _) ?_;subst o;rfl
            · have hn: ¬C<A:=om
              have f:XU s i= .ok (⟨A,C⟩,L):=by simp only[XU,B,g,vG,z,hn,vF]
              rw[f]at o;rw[show wW (((j+1:Nat):Int)+((L-(j+1):Nat):Int))=(L:Int) by rw[ZI om om];omega];exact more ⟨A,C⟩ L _ om om o
        · have g: ¬s[j]? =some 45:=by simp[W,O]
          have f:XU s i= .ok (⟨A,A⟩,j):=by simp only[XU,B,g,vF]
          rw[f]at o;exact more ⟨A,A⟩ j _ om om o
      · have g: ¬s[j]? =some 45:=by rw[qq a5];simp
        have f:XU s i= .ok (⟨A,A⟩,j):=by simp only[XU,B,g,vF]
        rw[f]at o;exact more ⟨A,A⟩ j _ om om o
  refine Zda (λhp=> ?_) (λhz=>E ?_)
  · have a7:N≠ []:=by intro B;subst B;rw[a6]at hp;simp at hp
    refine Zq (λD=> ?_) (λa1=>E ?_)
    · refine⟨s[i],⟨om,by simp[D]⟩,?_⟩
      rw[show(93:Int)=(((93:UInt8).toNat:Nat):Int) from dc,Js];refine WY (λP=> ?_) (λP=>E ?_)
      · have a4:s[i]? =some 93:=by rw[<-P];simp[D]
        simp only[setS,a7,a4,ne_eq,not_false_eq_true,and_self,vG]at o;rw[Ze om];refine stop _ _ _ _ _ _ _ _ _ _ _ _ (hL.frz dc VS) ?_;subst o;rfl
      · rintro⟨_,G⟩;simp[D]at G;exact P G
    · rintro⟨_,G⟩;rw[qq a1]at G;cases G
  · rintro⟨G,_⟩
    exact G (qg om)
theorem ZJo{a c b1 h}(K):CP UY 103 (pre B_103) (J a c none::.b b1::Rp 53) h [0,1,4,5,6] K=(K .normal 55 [J a c none, .b b1, .lb [U 0,U 0,U 0,U 0], p_P h.nx,I 0] (h.pushT (UY.tag (25:Nat)) (YObj.arr [U 0,U 0,U 0,U 0] true))):=kr
theorem ZJp{a n0 b1 c x6 h}(K):CP UY 103 (pre (lp_ B_103)) (MZ 55 [0,1,4,5,6] [J a n0 none,.b b1,.lb [U 0,U 0,U 0,U 0],p_P c,I x6]) h [0,1,4,5,6,10] K=(If (ltI x6 256) (K .normal 55 [J a n0 none, .b b1, .lb [U 0,U 0,U 0,U 0], p_P c,I x6, .b true] h) (K (.exit 0) 55 [J a n0 none, .b b1, .lb [U 0,U 0,U 0,U 0], p_P c,I x6, .b false] h)):=kr
theorem ZJq{a n0 b1 c x6 h}(K):CP UY 103 (pre (bk_ (lp_ B_103))) (MZ 55 [0,1,4,5,6,10] [J a n0 none,.b b1,.lb [U 0,U 0,U 0,U 0],p_P c,I x6,.b true]) h [0,1,4,5,6,7,8,10] K=(K .normal 55 [J a n0 none, .b b1, .lb [U 0,U 0,U 0,U 0], p_P c,I x6, .b false,I 0, .b true] h):=kr
theorem ZJr{c n0 b1 d x6 e a h}(K):CP UY 103 (lp_ (bk_ (lp_ B_103))) (MZ 55 [0,1,4,5,6,7,8,10] [J c n0 none,.b b1,.lb [U 0,U 0,U 0,U 0],p_P d,I x6,.b e,I a,.b true]) h [0,1,4,5,6,7,8,10] K=(If (ltI a n0) (If e (K .normal 55 [J c n0 none, .b b1, .lb [U 0,U 0,U 0,U 0], p_P d,I x6, .b true,I (wW (a+(1:Int))), .b true] h) ((0<=a/\a<n0)/\ ∃f,Zs 1 (List.drop 0 (List.drop (a.toNat*2) c))=some [.i .u8 f]/\If (leI (wW f) x6) ((0<=a/\a<n0)/\ ∃g,Zs 1 (List.drop 1 (List.drop (a.toNat*2) c))=some [.i .u8 g]/\K .normal 55 [J c n0 none, .b b1, .lb [U 0,U 0,U 0,U 0], p_P d,I x6, .b (leI x6 (wW g)),I (wW (a+(1:Int))), .b true] h) (K .normal 55 [J c n0 none, .b b1, .lb [U 0,U 0,U 0,U 0], p_P d,I x6, .b false,I (wW (a+(1:Int))), .b true] h))) (K (.exit 2) 55 [J c n0 none, .b b1, .lb [U 0,U 0,U 0,U 0], p_P d,I x6, .b e,I a, .b true] h)):=kr
theorem ZJs{c n0 b1 a x6 d h}(K):CP UY 103 ((post (bk_ (lp_ B_103))).drop 1) (MZ 55 [0,1,4,5,6,7] [J c n0 none,.b b1,.lb [U 0,U 0,U 0,U 0],p_P a,I x6,.b d]) h [0,1,4,5,6] K=(If (!d==b1) (((64:Int)=(0:Int)->False)/\((64:Int)=(0:Int)->False)/\((0:Int)<=wW (x6.tdiv (64:Int))/\wW (x6.tdiv (64:Int))<(↑(4:Nat):Int))/\ ∃e,Zb h a ((0:Nat)+(wW (x6.tdiv (64:Int))).toNat*1) 1=some [U e]/\((64:Int)=(0:Int)->False)/\(0:Int)<=x6.tmod (64:Int)/\((0:Int)<=wW (x6.tdiv (64:Int))/\wW (x6.tdiv (64:Int))<(↑(4:Nat):Int))/\ ∃f,Zi h a ((0:Nat)+(wW (x6.tdiv (64:Int))).toNat*1) [U (IntKind.u64.wrap (↑(BitVec.ofInt IntKind.u64.bits e|||BitVec.ofInt IntKind.u64.bits (IntKind.u64.wrap ((1:Int)*(2:Int) ^ min (x6.tmod (64:Int)).toNat IntKind.u64.bits))).toNat:Int))]=some f/\K .normal 55 [J c n0 none, .b b1, .lb [U 0,U 0,U 0,U 0], p_P a,I x6] f) (K .normal 55 [J c n0 none, .b b1, .lb [U 0,U 0,U 0,U 0], p_P a,I x6] h)):=kr
theorem ZJt{a n0 b1 c x6 h}(K):CP UY 103 ((post (lp_ B_103)).drop 1) (MZ 55 [0,1,4,5,6] [J a n0 none,.b b1,.lb [U 0,U 0,U 0,U 0],p_P c,I x6]) h [0,1,4,5,6] K=(K .normal 55 [J a n0 none, .b b1, .lb [U 0,U 0,U 0,U 0], p_P c,I (wW (x6+(1:Int)))] h):=kr
theorem ZJu{a h}(K):CP UY 103 ((post B_103).drop 1) (MZ 55 [4,5] [.lb [U 0,U 0,U 0,U 0],p_P a]) h [4] K=(∃b c d e,Zb h a 0 4=some [U b,U c,U d,U e]/\K .ret 55 [.lb [U b,U c,U d,U e]] h):=kr
theorem ZP7{x0 h}(K):CP UY 96 (flat (Za Tryz.f96)) (.i .u8 x0::Rp 10) h [2] K=(((64:Int)=(0:Int)->False)/\((64:Int)=(0:Int)->False)/\(0:Int)<=x0.tmod (64:Int)/\((0:Int)<=IntKind.u8.wrap (x0.tdiv (64:Int))/\IntKind.u8.wrap (x0.tdiv (64:Int))<(↑(4:Nat):Int))/\ ∃a,Zi (h.pushT (UY.tag (25:Nat)) (YObj.arr [U 0,U 0,U 0,U 0] true)) h.nx ((0:Nat)+(IntKind.u8.wrap (x0.tdiv (64:Int))).toNat*1) [U (IntKind.u64.wrap ((1:Int)*(2:Int) ^ min (x0.tmod (64:Int)).toNat IntKind.u64.bits))]=some a/\ ∃b c d e,Zb a h.nx 0 4=some [U b,U c,U d,U e]/\K .ret 11 [.lb [U b,U c,U d,U e]] a):=kr
abbrev setC(s:S4):List V:= [U s.1,U s.2.1,U s.2.2.1,U s.2.2.2]
theorem Zfy{n:Nat}(h:n<256):IntKind.u8.wrap (n:Int)=(n:Int):=by simp only[IntKind.wrap,IntKind.signed,IntKind.bits];have:((n:Int)) % 2 ^ 8=n:=om;simpa using this
theorem Zv8(c:Nat)(g:c<256):splice [U 0,U 0,U 0,U 0] (0+c / 64*1) [U ((2 ^ (c % 64):Nat):Int)]=setC (ZD λx=>x==c):=by
 have a: ∀k,Zs0 (λx=>x==c) k=if c / 64=k then((2 ^ (c % 64):Nat):Int)else 0:=by
  intro k;rw[Zb0];split
  .next e=>rw[Zlu (b:=c % 64) (by simp;omega) om (λx d f=>by simp;omega)]
  .next e=>rw[VU (λx d=>by simp;omega)];rfl
 have:c / 64=0\/c / 64=1\/c / 64=2\/c / 64=3:=om;simp only[setC,ZD,a];rcases this with e|e|e|e<;>rw[e]<;>rfl
theorem Zv9(c:UInt8):PCon UY 96 [.i .u8 (c.toNat:Nat)] (· = .agg (setC (ZD λx=>x==c.toNat))):=by
 refine Zv UK (fn:=Tryz.f96) rfl ZP7 rfl ?_;have b:c.toNat<256:=c.toNat_lt;generalize c.toNat=c at b;have e:IntKind.u8.wrap (Int.tdiv (c:Int) 64)=((c / 64:Nat):Int):=by rw[Zvv,Zfy om]
 have f:(Int.tmod (c:Int) 64).toNat=c % 64:=by rw[Zho];rfl
 have g:IntKind.u64.wrap (1*2 ^ min (Int.tmod (c:Int) 64).toNat IntKind.u64.bits)=((2 ^ (c % 64):Nat):Int):=by rw[f,Zom om]
 rw[e,g,Zho];have d:=Zv8 c b;generalize (2 ^ (c % 64):Nat)=y at d;have a:Zi ((Heap.empty).pushT (UY.tag 25) (.arr [U 0,U 0,U 0,U 0] true)) Heap.empty.nx (0+(((c / 64:Nat):Int)).toNat*1) [U (y:Nat)]=some ((((Heap.empty).pushT (UY.tag 25) (.arr [U 0,U 0,U 0,U 0] true))).set Heap.empty.nx (some (.arr (setC (ZD λx=>x==c)) true))):=by
  rw[<-d];simp only[Zi,qj,vG];rw[qdq,uF (by simp;omega)]
 refine⟨om,om,om,⟨om,om⟩,_,a,_,_,_,_,(Zr (by rw[qc,uF rfl]) 0 4).trans rfl,ZB rr rfl (.agg _ _ (.cons _ _ _ _ (.i _ _) (.cons _ _ _ _ (.i _ _) (.cons _ _ _ _ (.i _ _) (.cons _ _ _ _ (.i _ _) .nil))))) rfl⟩
def ofP(l:List Span)(a:Bool)(c:Nat):Bool:=ZO l c !=a
structure OfW(h:Heap)(id:Nat)(p:Nat->Bool)(c:Nat):Prop where
 get:h.get id=some (.arr (QC p c) true)
theorem Zwa(l:List Span){i:Nat}(h:i<l.length):Zs 1 (List.drop 0 (List.drop ((i:Int).toNat*2) (row encS l)))=some [.i .u8 l[i].lo]/\Zs 1 (List.drop 1 (List.drop ((i:Int).toNat*2) (row encS l)))=some [.i .u8 l[i].hi]:=by
 rw[qdq,VP (f:=encS) (k:=2) VS l h];exact⟨rfl,rfl⟩
theorem ZC8(l:List Span)(a:Bool)(L:l.length<2 ^ 40)(B: ∀x∈l,(0<=x.lo/\x.lo<256)/\(0<=x.hi/\x.hi<256)):PCon UY 103 [lst encS l, .b a] (· = .agg (setC (ZD (ofP l a)))):=by
 refine ZF UK (fn:=Tryz.f103) rfl ?_;refine Zh UK 55 ZJo rfl ?_;refine⟨rfl,ZM [0,1,4,5,6] [0,1,4,5,6] (λm k h=> ∃c:Nat,k= [lst encS l, .b a, .lb [U 0,U 0,U 0,U 0], p_P Heap.empty.nx,I (c:Nat)]/\c<=256/\m=256-c/\OfW h Heap.empty.nx (ofP l a) c) 256 ZA ⟨0,rfl,om,om,⟨by rw[qj,uF rfl];rfl⟩⟩ ?_⟩;rintro m k h ⟨c,rfl,H,rfl,p⟩;refine Zh UK 55 ZJp rfl ?_;refine Xr (λf=>⟨rfl,QX (n:=55) [0,1,4,5,6] kr ?_⟩) (λC=> ?_)
 .have f:c<256:=om;refine Zh UK 55 ZJq rfl ?_;refine⟨rfl,ZM [0,1,4,5,6,7,8,10] [0,1,4,5,6,7,8,10] (λm k q=> ∃i:Nat,k= [lst encS l, .b a, .lb [U 0,U 0,U 0,U 0], p_P Heap.empty.nx,I (c:Nat), .b (ZO (l.take i) c),I (i:Nat), .b true]/\i<=l.length/\m=l.length-i/\q=h) l.length ZA ⟨0,rfl,om,om,rfl⟩ ?_⟩;rintro m k q ⟨i,rfl,K,rfl,rfl⟩;refine Zm UK ZJr rfl ?_;refine Zq (λd=> ?_) (λD=> ?_)
  .have N:=B l[i] (qe d);have w:ZO (l.take (i+1)) c=(ZO (l.take i) c||(decide (l[i].lo<=(c:Int))&&decide ((c:Int)<=l[i].hi))):=by
    simp only[ZO];rw[qa d,uj];simp
   have F:wW l[i].lo=l[i].lo:=ZI om om;have E:wW l[i].hi=l[i].hi:=ZI om om;refine Zf (λo=> ?_) (λo=>⟨Zu d,l[i].lo,(Zwa l d).1,?_⟩);exact⟨rfl,l.length-(i+1),om,i+1,by rw[Ze om,w,o];rfl,om,rfl,rfl⟩;rw[F];refine JU (λz=>⟨Zu d,l[i].hi,(Zwa l d).2,?_⟩) (λz=> ?_)
   .rw[E];refine⟨rfl,l.length-(i+1),om,i+1,?_,om,rfl,rfl⟩;rw[Ze om,w,o];have e:leI (c:Int) l[i].hi=(false||(decide (l[i].lo<=(c:Int))&&decide ((c:Int)<=l[i].hi))):=by rw[uN z];rfl
    rw[e];rfl
   .refine⟨rfl,l.length-(i+1),om,i+1,?_,om,rfl,rfl⟩;rw[Ze om,w,o,uK (show¬l[i].lo<=(c:Int) from om)];rfl
  .have s:i=l.length:=om;subst s;rw[qm];refine Zj [0,1,4,5,6,7] ?_;refine Zm UK ZJs rfl ?_;have next: ∀g,OfW g Heap.empty.nx (ofP l a) (c+1)-> ∀Q,Q=VQ [0,1,4,5,6] (XF UY 55 [0,1,4,5,6] [0,1,4,5,6] (λm k h=> ∃c:Nat,k= [lst encS l, .b a, .lb [U 0,U 0,U 0,U 0], p_P Heap.empty.nx,I (c:Nat)]/\c<=256/\m=256-c/\OfW h Heap.empty.nx (ofP l a) c) (256-c) (Xb (post B_103)) ((post B_103).drop 1) (FinS UY Tryz.f103 λv h=> ∃r,Frz h v r/\r= .agg (setC (ZD (ofP l a)))))->
     TriL UY ((post (lp_ B_103)).drop 1) ⟨mk 55 (([0,1,4,5,6]:List Nat).zip [lst encS l, .b a, .lb [U 0,U 0,U 0,U 0], p_P Heap.empty.nx,I (c:Nat)]),[],g⟩ Q:=by
    rintro g y Q rfl;refine Zm UK ZJt rfl ?_;exact⟨rfl,256-(c+1),om,c+1,by rw[Ze om];rfl,om,rfl,y⟩
   refine Zf (λj=> ?_) (λj=>⟨rfl,[0,1,4,5,6],rfl,next _ ⟨?_⟩ _ rfl⟩)
   .have j:ofP l a c=true:=by unfold ofP;revert j;cases ZO l c<;>cases a<;>simp
    have A:wW (Int.tdiv (c:Int) 64)=((c / 64:Nat):Int):=by rw[Zvv,ZI om om]
    have G:(Int.tmod (c:Int) 64).toNat=c % 64:=by rw[Zho];rfl
    rw[A,Zho];have t:=WK (ofP l a) (c / 64) (c % 64);refine⟨om,om,⟨om,om⟩,_,(Zr p.get _ _).trans (Zvw _ f),om,om,⟨om,om⟩,?_⟩;have u:=ZJk t (show c % 64<64 from om);rw[qdq,qdq,u];refine⟨q.set Heap.empty.nx (some (.arr (QC (ofP l a) (c+1)) true)),?_,⟨rfl,[0,1,4,5,6],rfl,next _ ⟨by rw[qc,uF rfl]⟩ _ rfl⟩⟩;rw[<-Zvx _ f j];simp only[Zi,p.get];rw[uF (by simp[QC];omega)]
   .have j:ofP l a c=false:=by unfold ofP;revert j;cases ZO l c<;>cases a<;>simp
    rw[ZAl _ f j];exact p.get
 .have s:c=256:=om;subst s;refine ZR rfl (Zj [4,5] ?_);refine Zo UK ZJu rfl ?_;exact⟨_,_,_,_,(Zr p.get 0 4).trans rfl,ZB rr rfl (.agg _ _ (.cons _ _ _ _ (.i _ _) (.cons _ _ _ _ (.i _ _) (.cons _ _ _ _ (.i _ _) (.cons _ _ _ _ (.i _ _) .nil))))) rfl⟩
theorem ZP8{c x h}(K):CP UY 28 (flat (Za Tryz.f28)) (p_P c::I x::Rp 11) h [] K=(∃a,Zb h c 3 1=some [I a]/\If (a==(0:Int)) (∃b,Zi h c 3 [I x]=some b/\K .normal 13 [] b) (K .normal 13 [] h)):=kr
theorem ZP9{j x h}(K):CP UY 68 (flat (Za Tryz.f68)) (p_P j::.i .u8 x::Rp 33) h [4] K=(∃a,Zb h j 3 1=some [I a]/\If (a==(0:Int)) (∃c,Zb h j 1 1=some [I c]/\ ∃d,Zb h j 0 1=some [.s d]/\If (ltI c (↑d.length:Int)) (∃e,Zb h j 0 1=some [.s e]/\ ∃f,Zb h j 1 1=some [I f]/\ ∃g,((0:Int)<=f/\e[f.toNat]? =some g)/\K .ret 35 [.b ((↑g.toNat:Int)==x)] h) (K .ret 35 [.b false] h)) (K .ret 35 [.b false] h)):=kr
theorem ZJv{k h}(K):CP UY 142 (flat (Za Tryz.f142)) (p_P k::Rp 44) h [2,3] K=(Con UY 174 [p_P k,I 0] h fun(v:V) (n:Heap)=> ∃a,v=I a/\ ∃b,RCon UY (68:Nat) [p_P k,.i .u8 44] n (.b b)/\If b (∃c,Zb n k 1 1=some [I c]/\ ∃d,Zi n k 1 [I (wW (c+(1:Int)))]=some d/\ ∃e,RCon UY (68:Nat) [p_P k,.i .u8 125] d (.b e)/\If (!e) (∃f,Zb d k 3 1=some [I f]/\If (f==(0:Int)) (Con UY 174 [p_P k,I a] d fun(v:V) (n:Heap)=> ∃g,v=I g/\ ∃j,RCon UY (68:Nat) [p_P k,.i .u8 125] n (.b j)/\If (!j) (Con UY 28 [p_P k,I 1] n fun(v:V) (n:Heap)=>v=.tup []/\K .ret 45 [I 0,I 0] n) (∃l,Zb n k 1 1=some [I l]/\ ∃m,Zi n k 1 [I (wW (l+(1:Int)))]=some m/\K .ret 45 [I a,I g] m)) (∃g,RCon UY (68:Nat) [p_P k,.i .u8 125] d (.b g)/\If (!g) (Con UY 28 [p_P k,I 1] d fun(v:V) (n:Heap)=>v=.tup []/\K .ret 45 [I 0,I 0] n) (∃j,Zb d k 1 1=some [I j]/\ ∃l,Zi d k 1 [I (wW (j+(1:Int)))]=some l/\K .ret 45 [I a,I (-1)] l))) (∃f,RCon UY (68:Nat) [p_P k,.i .u8 125] d (.b f)/\If (!f) (Con UY 28 [p_P k,I 1] d fun(v:V) (n:Heap)=>v=.tup []/\K .ret 45 [I 0,I 0] n) (∃g,Zb d k 1 1=some [I g]/\ ∃j,Zi d k 1 [I (wW (g+(1:Int)))]=some j/\K .ret 45 [I a,I (-1)] j))) (∃c,RCon UY (68:Nat) [p_P k,.i .u8 125] n (.b c)/\If (!c) (Con UY 28 [p_P k,I 1] n fun(v:V) (n:Heap)=>v=.tup []/\K .ret 45 [I 0,I 0] n) (∃d,Zb n k 1 1=some [I d]/\ ∃e,Zi n k 1 [I (wW (d+(1:Int)))]=some e/\K .ret 45 [I a,I a] e))):=kr
theorem ZJw{k x h}(K):CP UY 174 (flat (Za Tryz.f174)) (p_P k::I x::Rp 73) h [4] K=(∃a,Zb h k 1 1=some [I a]/\ ∃b,Zb h k 0 1=some [.s b]/\If (ltI a (↑b.length:Int)) (∃c,Zb h k 0 1=some [.s c]/\ ∃d,Zb h k 1 1=some [I d]/\ ∃e,((0:Int)<=d/\c[d.toNat]? =some e)/\If (leI 48 (↑e.toNat:Int)) (∃f,Zb h k 0 1=some [.s f]/\ ∃g,Zb h k 1 1=some [I g]/\ ∃i,((0:Int)<=g/\f[g.toNat]? =some i)/\If (leI (↑i.toNat:Int) (56:Int)) (∃j,Zb h k 0 1=some [.s j]/\ ∃l,Zb h k 1 1=some [I l]/\ ∃m,((0:Int)<=l/\j[l.toNat]? =some m)/\If (leI x (wW (wW (↑m.toNat:Int)-(48:Int)))) (∃n,Zb h k 1 1=some [I n]/\ ∃o,Zi h k 1 [I (wW (n+(1:Int)))]=some o/\ ∃q,Zb o k 0 1=some [.s q]/\ ∃r,Zb o k 1 1=some [I r]/\ ∃s,((0:Int)<=wW (r-(1:Int))/\q[(wW (r-(1:Int))).toNat]? =some s)/\K .ret 75 [I (wW (wW (↑s.toNat:Int)-(48:Int)))] o) (Con UY 28 [p_P k,I 1] h fun(v:V) (p:Heap)=>v=.tup []/\K .ret 75 [I (-1)] p)) (Con UY 28 [p_P k,I 1] h fun(v:V) (p:Heap)=>v=.tup []/\K .ret 75 [I (-1)] p)) (Con UY 28 [p_P k,I 1] h fun(v:V) (p:Heap)=>v=.tup []/\K .ret 75 [I (-1)] p)) (Con UY 28 [p_P k,I 1] h fun(v:V) (p:Heap)=>v=.tup []/\K .ret 75 [I (-1)] p)):=kr
theorem ZJx{k h}(K):CP UY 173 (flat (Za Tryz.f173)) (p_P k::Rp 46) h [2] K=(∃a,RCon UY (68:Nat) [p_P k,.i .u8 94] h (.b a)/\If a (∃b,Zb h k 1 1=some [I b]/\ ∃c,Zi h k 1 [I (wW (b+(1:Int)))]=some c/\ ∃d,Zb c k 0 1=some [.s d]/\ ∃e,Zb c k 1 1=some [I e]/\ ∃f g j l m,(PCon UY 62 [.s d,I e] fun(v:V)=>v=.tup [J f g j,I l,I m])/\If (ltI l 0) (∃n,Zi c k 1 [I m]=some n/\Con UY 28 [p_P k,I 1] n fun(v:V) (p:Heap)=>v=.tup []/\K .ret 47 [.lb R0] p) (∃n,Zi c k 1 [I l]=some n/\ ∃o q r s,(PCon UY 103 [J f g j,.b a] fun(v:V)=>v=.agg [U o,U q,U r,U s])/\K .ret 47 [.lb [I 1,U o,U q,U r,U s,S0,I 0,I 0,I 0]] n)) (∃b,Zb h k 0 1=some [.s b]/\ ∃c,Zb h k 1 1=some [I c]/\ ∃d e f g j,(PCon UY 62 [.s b,I c] fun(v:V)=>v=.tup [J d e f,I g,I j])/\If (ltI g 0) (∃l,Zi h k 1 [I j]=some l/\Con UY 28 [p_P k,I 1] l fun(v:V) (p:Heap)=>v=.tup []/\K .ret 47 [.lb R0] p) (∃l,Zi h k 1 [I g]=some l/\ ∃m n o q,(PCon UY 103 [J d e f,.b a] fun(v:V)=>v=.agg [U m,U n,U o,U q])/\K .ret 47 [.lb [I 1,U m,U n,U o,U q,S0,I 0,I 0,I 0]] l))):=kr
theorem ZJy{k x h}(K):CP UY 141 (flat (Za Tryz.f141)) (p_P k::I x::Rp 138) h [4] K=(∃a,Zb h k 0 1=some [.s a]/\ ∃b,Zb h k 1 1=some [I b]/\ ∃c,((0:Int)<=b/\a[b.toNat]? =some c)/\If ((↑c.toNat:Int)==(42:Int)) (Con UY 28 [p_P k,I 1] h fun(v:V) (p:Heap)=>v=.tup []/\K .ret 140 [.lb R0] p) (If ((↑c.toNat:Int)==(43:Int)) (Con UY 28 [p_P k,I 1] h fun(v:V) (p:Heap)=>v=.tup []/\K .ret 140 [.lb R0] p) (If ((↑c.toNat:Int)==(63:Int)) (Con UY 28 [p_P k,I 1] h fun(v:V) (p:Heap)=>v=.tup []/\K .ret 140 [.lb R0] p) (If ((↑c.toNat:Int)==(123:Int)) (Con UY 28 [p_P k,I 1] h fun(v:V) (p:Heap)=>v=.tup []/\K .ret 140 [.lb R0] p) (If ((↑c.toNat:Int)==(40:Int)) (If (leI 64 x) (Con UY 28 [p_P k,I 8] h fun(v:V) (p:Heap)=>v=.tup []/\K .ret 140 [.lb R0] p) (∃d,Zb h k 1 1=some [I d]/\ ∃e,Zi h k 1 [I (wW (d+(1:Int)))]=some e/\ ∃f,Zb e k 2 1=some [I f]/\ ∃g,Zi e k 2 [I (wW (f+(1:Int)))]=some g/\ ∃j,Zb g k 2 1=some [I j]/\If (leI j 9) (∃l,Zb g k 2 1=some [I l]/\Con UY 27 [p_P k,I (wW (x+(1:Int)))] g fun(v:V) (p:Heap)=> ∃m n o q r s t u w y z,v=.agg (R9 m n o q r s t u w y z)/\ ∃A,RCon UY (68:Nat) [p_P k,.i .u8 41] p (.b A)/\If (!A) (Con UY 28 [p_P k,I 1] p fun(v:V) (p:Heap)=>v=.tup []/\K .ret 140 [.lb [I 0,U 0,U 0,U 0,U 0,S0,I 0,I 0,I (0:Int)]] p) (∃B,Zb p k 1 1=some [I B]/\ ∃C,Zi p k 1 [I (wW (B+(1:Int)))]=some C/\K .ret 140 [.lb [I (7:Int),U (0:Int),U (0:Int),U (0:Int),U (0:Int),J (R9 m n o q r s t u w y z) 1 (some 1),I (0:Int),I (0:Int),I l]] C)) (Con UY 27 [p_P k,I (wW (x+(1:Int)))] g fun(v:V) (p:Heap)=> ∃l m n o q r s t u w y,v=.agg (R9 l m n o q r s t u w y)/\ ∃z,RCon UY (68:Nat) [p_P k,.i .u8 41] p (.b z)/\If (!z) (Con UY 28 [p_P k,I 1] p fun(v:V) (p:Heap)=>v=.tup []/\K .ret 140 [.lb R0] p) (∃A,Zb p k 1 1=some [I A]/\ ∃B,Zi p k 1 [I (wW (A+(1:Int)))]=some B/\K .ret 140 [.lb [I 7,U 0,U 0,U 0,U 0,J (R9 l m n o q r s t u w y) 1 (some 1),I 0,I 0,I (0:Int)]] B)))) (∃d,Zb h k 1 1=some [I d]/\ ∃e,Zi h k 1 [I (wW (d+(1:Int)))]=some e/\If ((↑c.toNat:Int)==(91:Int)) (Con UY 173 [p_P k] e fun(v:V) (p:Heap)=> ∃f g j l m n o q r s t,v=.agg (R9 f g j l m n o q r s t)/\K .ret 140 [.lb (R9 f g j l m n o q r s t)] p) (If ((↑c.toNat:Int)==(46:Int)) (∃f g j l,(PCon UY 103 [S0,.b true] fun(v:V)=>v=.agg [U f,U g,U j,U l])/\K .ret 140 [.lb [I 1,U f,U g,U j,U l,S0,I 0,I 0,I 0]] e) (If ((↑c.toNat:Int)==(94:Int)) (K .ret 140 [.lb [I 2,U 0,U 0,U 0,U 0,S0,I 0,I 0,I 0]] e) (If ((↑c.toNat:Int)==(36:Int)) (K .ret 140 [.lb [I 3,U 0,U 0,U 0,U 0,S0,I 0,I 0,I 0]] e) (If ((↑c.toNat:Int)==(92:Int)) (∃f,Zb e k 1 1=some [I f]/\ ∃g,Zb e k 0 1=some [.s g]/\If (leI (↑g.length:Int) f) (Con UY 28 [p_P k,I 1] e fun(v:V) (p:Heap)=>v=.tup []/\K .ret 140 [.lb R0] p) (∃j,Zb e k 0 1=some [.s j]/\ ∃l,Zb e k 1 1=some [I l]/\ ∃m,((0:Int)<=l/\j[l.toNat]? =some m)/\ ∃n,Zb e k 1 1=some [I n]/\ ∃o,Zi e k 1 [I (wW (n+(1:Int)))]=some o/\ ∃q r s t,(PCon UY 96 [.i .u8 (↑m.toNat:Int)] fun(v:V)=>v=.agg [U q,U r,U s,U t])/\K .ret 140 [.lb [I 1,U q,U r,U s,U t,S0,I 0,I 0,I 0]] o)) (∃f g j l,(PCon UY 96 [.i .u8 (↑c.toNat:Int)] fun(v:V)=>v=.agg [U f,U g,U j,U l])/\K .ret 140 [.lb [I 1,U f,U g,U j,U l,S0,I 0,I 0,I 0]] e))))))))))):=kr
theorem ZQa{j l c k h}(K):CP UY 27 ((post B_27).drop 1) (MZ 33 [4,5] [.lb R0,S (some (j,0)) l c k]) h [4] K=(If ((↑l:Int)==(1:Int)) (((0:Int)<=(0:Int)/\(0:Int)<(l:Int))/\k=9/\ ∃a b d e f g i m n o p,Zb h j (0) (9)=some (R9 a b d e f g i m n o p)/\K .ret (33) [.lb (R9 a b d e f g i m n o p)] h) (K .ret (33) [.lb [I 5,U 0,U 0,U 0,U 0,S (some (j,0)) l c k,I 0,I 0,I 0]] h)):=kr
theorem ZQb{j l c k h}(K):CP UY 67 ((post B_67).drop 1) (MZ 65 [4,5] [.lb R0,S (some (j,0)) l c k]) h [4] K=(If ((↑l:Int)==(0:Int)) (K .ret (65) [.lb [I 0,U 0,U 0,U 0,U 0,S none (0) (some (0)) (0),I 0,I 0,I 0]] h) (If ((↑l:Int)==(1:Int)) (((0:Int)<=(0:Int)/\(0:Int)<(l:Int))/\k=9/\ ∃a b d e f g i m n o p,Zb h j (0) (9)=some (R9 a b d e f g i m n o p)/\K .ret (65) [.lb (R9 a b d e f g i m n o p)] h) (K .ret (65) [.lb [I 4,U 0,U 0,U 0,U 0,S (some (j,0)) l c k,I 0,I 0,I 0]] h))):=kr
theorem ZFb{c k h}(K):CP UY 67 ((post B_67).drop 1) (MZ 65 [4,5] [.lb R0,S none 0 c k]) h [4] K=(K .ret (65) [.lb [I 0,U 0,U 0,U 0,U 0,S none (0) (some (0)) (0),I 0,I 0,I 0]] h):=kr
structure RdE(h:Heap)(id:Nat)(s:List UInt8)(i g:Nat)(e:Int):Prop where
 get:h.get id=some (.arr [.s s,I i,I g,I e] true)
 lt:id<h.nx
section
variable {h:Heap} {id:Nat} {s:List UInt8} {i g:Nat} {e:Int}
theorem RdE.c0(r:RdE h id s i g e):Zb h id 0 1=some [.s s]:=by simp[Zb,r.get,Zs]
theorem RdE.c1(r:RdE h id s i g e):Zb h id 1 1=some [I i]:=by simp[Zb,r.get,Zs]
theorem RdE.c2(r:RdE h id s i g e):Zb h id 2 1=some [I g]:=by simp[Zb,r.get,Zs]
theorem RdE.c3(r:RdE h id s i g e):Zb h id 3 1=some [I e]:=by simp[Zb,r.get,Zs]
theorem RdE.s1(r:RdE h id s i g e)(j:Nat): ∃a,Zi h id 1 [I j]=some a/\RdE a id s j g e/\FrO h id a:=by refine⟨h.set id (some (.arr [.s s,I j,I g,I e] true)),?_,⟨sm,r.lt⟩, .set _ _ _⟩;simp[Zi,r.get,splice]
theorem RdE.s2(r:RdE h id s i g e)(j:Nat): ∃a,Zi h id 2 [I j]=some a/\RdE a id s i j e/\FrO h id a:=by refine⟨h.set id (some (.arr [.s s,I i,I j,I e] true)),?_,⟨sm,r.lt⟩, .set _ _ _⟩;simp[Zi,r.get,splice]
theorem RdE.s3(r:RdE h id s i g e)(x:Int): ∃a,Zi h id 3 [I x]=some a/\RdE a id s i g x/\FrO h id a:=by refine⟨h.set id (some (.arr [.s s,I i,I g,I x] true)),?_,⟨sm,r.lt⟩, .set _ _ _⟩;simp[Zi,r.get,splice]
end
theorem Za4{s:List UInt8}{i:Nat}(h:i<s.length):(0:Int)<=(i:Nat)/\s[(i:Int).toNat]? =some s[i]:=⟨om,by simp[h]⟩
theorem Jt{h}{id:Nat}{s}{i g:Nat}{e:Int}(r:RdE h id s i g e)(c:UInt8):
  RCon UY 68 [p_P id, .i .u8 (c.toNat:Nat)] h (.b (e==0&&s[i]? ==some c)):=by
 refine⟨h,?_,λ_ _=>rfl,λ_ h=>h⟩;refine Zx UK (fn:=Tryz.f68) (Zo UK ZP9 rfl ?_);refine⟨_,r.c3,Zf (λd=> ?_) (λd=> ?_)⟩;refine⟨_,r.c1,_,r.c0,Zq (λa=> ?_) (λf=> ?_)⟩;refine⟨_,r.c0,_,r.c1,s[i],Za4 a,finC rr rfl (.now ⟨?_,rfl⟩)⟩;rw[Zvn,d];simp[a,V.plain];have:s[i]? =none:=qq om;refine finC rr rfl (.now ⟨?_,rfl⟩);simp[this,V.plain];refine finC rr rfl (.now ⟨?_,rfl⟩);rw[d];rfl
theorem Zfz{h}{id:Nat}{s}{i g:Nat}{e:Int}(r:RdE h id s i g e)(x:Int):
  Con UY 28 [p_P id,I x] h λv b=>v= .tup []/\RdE b id s i g (if e=0 then x else e)/\FrO h id b:=by
 refine Zx UK (fn:=Tryz.f28) (Zo UK ZP8 rfl ?_);refine⟨_,r.c3,Zf (λa=> ?_) (λa=> ?_)⟩;have a:e=0:=su a;obtain⟨j,c,d,f⟩:=r.s3 x;exact⟨j,c,finC (.inl rfl) rfl (.now ⟨rfl,by rw[uF a];exact d,f⟩)⟩;have a:e≠0:=su a;exact finC (.inl rfl) rfl (.now ⟨rfl,by rw[uE a];exact r, .refl _ _⟩)
theorem Zqs{h}{id:Nat}{s}{i g:Nat}(r:RdE h id s i g 0)(x:Int){Q:V->Heap->Prop}(d: ∀a,RdE a id s i g x->FrO h id a->Q (.tup []) a):
  Con UY 28 [p_P id,I x] h Q:=(Zfz r x).mono λv a ⟨f,b,c⟩=>by
 subst f;exact d a (su b) c
def ZC9(R:Except Nat (Int×Nat))(h:Heap)(id:Nat)(s:List UInt8)(g:Nat)(v:V)(a:Heap):Prop:=match R with
 | .error e=>v= .i .i64 (-1)/\RdE a id s e g 1/\FrO h id a
 | .ok (x,j)=>v= .i .i64 x/\RdE a id s j g 0/\FrO h id a
theorem Zhx{h}{id:Nat}{s:List UInt8}{i g:Nat}(r:RdE h id s i g 0)(a:Int)(x:s.length<2 ^ 28):
  Con UY 174 [p_P id,I a] h (ZC9 (XW s i a) h id s g):=by
 refine Zx UK (fn:=Tryz.f174) (Zo UK ZJw rfl ?_);have f:XW s i a= .error i->Con UY 28 [p_P id,I 1] h λv d=>v= .tup []/\Go.Y.Fin UY Tryz.f174 [4] (AfterZ (ZC9 (XW s i a) h id s g)) .ret 75 [I (-1)] d:=λu=>
  Zqs r 1 λd k l=>⟨rfl,finC rr rfl (.now (by rw[u];exact⟨rfl,k,l⟩))⟩
 refine⟨_,r.c1,_,r.c0,Zq (λb=> ?_) (λt=>f ?_)⟩
 .have c:s[i]? =some s[i]:=by simp[b]
  refine⟨_,r.c0,_,r.c1,s[i],Za4 b,JU (λk=>⟨_,r.c0,_,r.c1,s[i],Za4 b,JU (λl=>⟨_,r.c0,_,r.c1,s[i],Za4 b,?_⟩) (λl=>f ?_)⟩) (λk=>f ?_)⟩
  .have w:s[i].toNat<256:=s[i].toNat_lt;have n:wW (s[i].toNat:Int)=s[i].toNat:=ZI om om;have o:wW ((s[i].toNat:Int)-48)=(s[i].toNat:Int)-48:=ZI om om;rw[n,o];refine JU (λm=> ?_) (λm=>f ?_)
   .obtain⟨d,p,j,q⟩:=r.s1 (i+1);refine⟨_,r.c1,d,by rw[Ze om];exact p,_,j.c0,_,j.c1,s[i],?_,?_⟩;rw[ZI om om,show((i+1:Nat):Int)-1=(i:Int) from om];exact Za4 b;rw[n,o];refine finC rr rfl (.now ?_);have:XW s i a= .ok ((s[i].toNat:Int)-48,i+1):=by unfold XW;rw[c];simp only[];rw[uF ⟨om,om,m⟩]
    rw[this];exact⟨rfl,j,q⟩
   .unfold XW;rw[c];simp only[];rw[uE om]
  .unfold XW;rw[c];simp only[];rw[uE om]
  .unfold XW;rw[c];simp only[];rw[uE om]
 .unfold XW;rw[qq om]
def Zor(R:Except Nat (Int×Int×Nat))(h:Heap)(id:Nat)(s:List UInt8)(g:Nat)(v:V)(a:Heap):Prop:=match R with
 | .error e=>v= .tup [.i .i64 0, .i .i64 0]/\RdE a id s e g 1/\FrO h id a
 | .ok (x,y,j)=>v= .tup [.i .i64 x, .i .i64 y]/\RdE a id s j g 0/\FrO h id a
theorem Zl8{s:List UInt8}{i j:Nat}{l x:Int}(h:XW s i l= .ok (x,j)):j=i+1/\i<s.length:=by unfold XW at h;split at h;rename_i c a;split at h;cases h;exact⟨rfl,(qb.1 a).1⟩;cases h;cases h
theorem Zos{h}{id:Nat}{s:List UInt8}{i g:Nat}(r:RdE h id s i g 0)(Z:s.length<2 ^ 28):
  Con UY 142 [p_P id] h (Zor (Xi s i) h id s g):=by
 refine Zx UK (fn:=Tryz.f142) (Zo UK ZJv rfl ?_);have o: ∀(e:Nat) (f:Heap) (x:Int),Xi s i= .error e->RdE f id s e g x->(x=0\/x=1)->FrO h id f->
   Con UY 28 [p_P id,I 1] f λv K=>v= .tup []/\Go.Y.Fin UY Tryz.f142 [2,3] (AfterZ (Zor (Xi s i) h id s g)) .ret 45 [I 0,I 0] K:=λe f x P W hx N=>
  (Zfz W 1).mono λv K ⟨hv,A,F⟩=>⟨hv,finC rr rfl (.now (by
   rw[P];have A:RdE K id s e g 1:=by rcases hx with rfl|rfl<;>simpa using A
   exact⟨rfl,A,N.trans F⟩))⟩
 have done: ∀(z G:Int) (j:Nat) (f:Heap),Xi s i= .ok (z,G,j)->RdE f id s j g 0->FrO h id f->Go.Y.Fin UY Tryz.f142 [2,3] (AfterZ (Zor (Xi s i) h id s g)) .ret 45 [I z,I G] f:=λz G j f P W N=>
  finC rr rfl (.now (by rw[P];exact⟨rfl,W,N⟩))
 refine(Zhx r 0 Z).mono λv f p=> ?_
 cases n:XW s i 0 with
 |error e=>
  rw[n]at p;obtain⟨rfl,l,t⟩:=p;have L:Xi s i= .error e:=by unfold Xi;rw[n]
  refine⟨_,rfl,_,Jt l 44,Zf (λm=>by simp at m) (λ_=>⟨_,Jt l 125,Zf (λ_=>o e f 1 L l (.inr rfl) t) (λm=>by simp at m)⟩)⟩
 |ok y=>
  obtain⟨z,j⟩:=y;rw[n]at p;obtain⟨rfl,l,t⟩:=p;obtain⟨rfl,a2⟩:=Zl8 n;refine⟨_,rfl,_,Jt l 44,Zf (λb=> ?_) (λb=> ?_)⟩
  .have b:s[i+1]? =some 44:=su b;have a0:=(qb.1 b).1;obtain⟨A,g1,w,E⟩:=l.s1 (i+2);refine⟨_,l.c1,A,by rw[Ze om];exact g1,_,Jt w 125,Zf (λa=> ?_) (λa=> ?_)⟩
   .have a:s[i+2]? ≠some 125:=su a;refine⟨_,w.c3,Zf (λ_=> ?_) (λm=>by simp at m)⟩;refine(Zhx w z Z).mono λv F p=> ?_
    cases d:XW s (i+2) z with
    |error e=>
     rw[d]at p;obtain⟨rfl,u,H⟩:=p;have L:Xi s i= .error e:=by unfold Xi;rw[n];simp only[];rw[uF b,uE a,d]
     exact⟨_,rfl,_,Jt u 125,Zf (λ_=>o e F 1 L u (.inr rfl) ((t.trans E).trans H)) (λm=>by simp at m)⟩
    |ok y=>
     obtain⟨G,k⟩:=y;rw[d]at p;obtain⟨rfl,u,H⟩:=p;obtain⟨rfl,X⟩:=Zl8 d;refine⟨_,rfl,_,Jt u 125,Zf (λc=> ?_) (λc=> ?_)⟩;have c:s[i+3]? ≠some 125:=su c;exact o (i+3) F 0 (by unfold Xi;rw[n];simp only[];rw[uF b,uE a,d];simp only[];rw[uE c]) u (.inl rfl) ((t.trans E).trans H);have c:s[i+3]? =some 125:=su c;have O:=(qb.1 c).1;obtain⟨q,B,C,D⟩:=u.s1 (i+4);exact⟨_,u.c1,q,by rw[Ze om];exact B,done _ _ (i+4) q (by unfold Xi;rw[n];simp only[];rw[uF b,uE a,d];simp only[];rw[uF c]) C (((t.trans E).trans H).trans D)⟩
   .have a:s[i+2]? =some 125:=su a;have a1:=(qb.1 a).1;refine⟨_,Jt w 125,Zf (λm=>by rw[a]at m;simp at m) (λ_=> ?_)⟩;obtain⟨q,B,C,D⟩:=w.s1 (i+3);exact⟨_,w.c1,q,by rw[Ze om];exact B,done _ _ (i+3) q (by unfold Xi;rw[n];simp only[];rw[uF b,uF a]) C ((t.trans E).trans D)⟩
  .have b:s[i+1]? ≠some 44:=su b;refine⟨_,Jt l 125,Zf (λc=> ?_) (λc=> ?_)⟩;have c:s[i+1]? ≠some 125:=su c;exact o (i+1) f 0 (by unfold Xi;rw[n];simp only[];rw[uE b,uE c]) l (.inl rfl) t;have c:s[i+1]? =some 125:=su c;have O:=(qb.1 c).1;obtain⟨q,B,C,D⟩:=l.s1 (i+2);exact⟨_,l.c1,q,by rw[Ze om];exact B,done _ _ (i+2) q (by unfold Xi;rw[n];simp only[];rw[uE b,uF c]) C (t.trans D)⟩
end Go.Y
