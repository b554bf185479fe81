/- A part of the proof. -/
import Derived.Test.YteennilbmmlikaaGreatDoorEE3
import Derived.Test.YteennilbmmlikaaGreatDoorYAny3
import Derived.Test.YteennilbmmlikaaGreatDoorYLoop
import Derived.Test.YteennilbmmlikaaGreatDoorNTa
namespace Go.Y
open Go.Proofs
set_option maxRecDepth 1000000
set_option maxHeartbeats 0
theorem Zdg{c:Type} : ∀(a b new:List c),splice (a++b) a.length new=a++splice b 0 new
 | [],b,new=>rfl
 |x::a,b,new=>by
  show x::splice (a++b) a.length new=_;rw[Zdg a b new];rfl
theorem ZFp{a:Type}{f:a->List V}{k:Nat}(c: ∀x,(f x).length=k): ∀(l:List a) (i:Nat) (x:a),i<l.length->splice (row f l) (i*k) (f x)=row f (l.set i x):=by
 intro l i x j;have h:row f l=row f (l.take i)++(f l[i]++row f (l.drop (i+1))):=by
  have e:l=l.take i++(l[i]::l.drop (i+1)):=by rw[List.getElem_cons_drop,vL]
  conv=>lhs;rw[e]
  rw[Xz];rfl
 have d:(row f (l.take i)).length=i*k:=by rw[Xh c,uO,Nat.min_eq_left om]
 have g:splice (f l[i]++row f (l.drop (i+1))) 0 (f x)=f x++row f (l.drop (i+1)):=by
  have: ∀(b new:List V),splice b 0 new=new++b.drop new.length:=λb new=>by cases b<;>rfl
  rw[this,c,<-c l[i],List.drop_left]
 rw[h,<-d,Zdg,g];have e:l.set i x=l.take i++(x::l.drop (i+1)):=by rw[List.set_eq_take_append_cons_drop,uF j]
 rw[e,Xz];rfl
def Zob(k n:Int):Int:=if(k==7)=true then(if ltI 0 n=true then(wW (n+1)).tmod 10 else n)else n
def laterF:Re->Re
 | .mk k s a c d n=> .mk k s (latersF a) c d (Zob k n)
where
 latersF:List Re->List Re
  | []=> []
  |r::l=>laterF r::latersF l
theorem Zhs: ∀l:List Re,laterF.latersF l=l.map laterF
 | []=>by rw[laterF.latersF];rfl
 |r::l=>by rw[laterF.latersF,Zhs l];rfl
theorem Zeh(k:Int)(s)(a:List Re)(c d n:Int):laterF (.mk k s a c d n)= .mk k s (a.map laterF) c d (Zob k n):=by rw[laterF,Zhs]
theorem Zlx:PCon UY 109 [.ts [] 0 none] (· = .ts [] 0 none):=by
 refine Zw UK (fn:=Tryz.f109) rfl ZCm rfl ?_;exact⟨λ_=>ZB rr rfl (.sln _ _ none (λx a=>by cases a)) rfl, .inr ⟨kr,ZB rr rfl (.ts _ _ _ none (λx a=>by cases a)) rfl⟩⟩
theorem Zdr: ∀a b:List V,Zp a=true->Zp b=true->Zp (a++b)=true
 | [],b,_,h=>h
 |x::a,b,c,d=>by
  simp only[Zp,qrq]at c;simp only[qs,Zp,qrq];exact⟨c.1,Zdr a b c.2 d⟩
theorem Zf3: ∀l:List Re,Zp (row Zd l)=true
 | []=>rfl
 |x::l=>by
  have e:row Zd (x::l)=Zd x++row Zd l:=rfl;rw[e];exact Zdr _ _ (Zfd x) (Zf3 l)
theorem ZAe(l:List Re){m:Nat}(d:l.length=m+1)(g:l.length<2 ^ 29)(h:Heap):Con UY 109 [.ts (row Zd l) l.length none] h λv f=>v= .sl (some (h.nx,0)) l.length none 9/\f=h.push (.arr (row Zd l) true):=by
 refine Zv UK (fn:=Tryz.f109) (Zo UK ZCm rfl ?_);refine⟨λe=>absurd e om, .inl ?_⟩;have a:=Zk4 (Y:=UY) (st:=26) (e:=28) (te:=⟨9,88, .struct [(0,3),(1,25),(5,26),(6,3),(7,3),(8,3)],[I 0,U 0,U 0,U 0,U 0, .sl none 0 (some 0) 0,I 0,I 0,I 0]⟩) kr kr dc dc (cs:=row Zd l) (c:=row Zd l) (n:=m) (cap:=none) (by rw[<-d];exact ZD (Xh ZW l).symm) (Zf3 l) om h;rw[<-d]at a;exact⟨_,_,_,_,_,a,finC rr rfl (.now ⟨rfl,rfl⟩)⟩
def LaR(r:Re):Prop:=PCon UY 57 [.agg (Zd r)] (· = .agg (Zd (laterF r)))
def laL(a:List Re)(i:Nat):List Re:=(a.take i).map laterF++a.drop i
theorem ZFq(a:List Re)(i:Nat)(c:i<=a.length):(laL a i).length=a.length:=by
 simp[laL];omega
theorem ZFr(a:List Re){i:Nat}(d:i<a.length)(h:i<(laL a i).length):(laL a i)[i]=a[i]:=by
 have e:(laL a i)[i]? =some a[i]:=by
  have c:((a.take i).map laterF).length=i:=by simp;omega
  unfold laL;rw[vB om,c,vK,uz,Nat.add_zero];simp[d]
 exact(qb.1 e).2
theorem ZFs(a:List Re){i:Nat}(d:i<a.length):(laL a i).set i (laterF a[i])=laL a (i+1):=by
 unfold laL;have c:((a.take i).map laterF).length=i:=by simp;omega
 rw[List.set_append_right _ _ (by rw[c];exact qnq _),c,vK,uM d,List.set_cons_zero,qa d,uV];simp
theorem Zwn{B:Nat}(hB:B<2 ^ 20){k:Int}{s}{d:List Re}{z w n:Int}(hl:d.length<=B)(ih: ∀x∈d,LaR x):LaR (.mk k s d z w n):=by
 unfold LaR;rw[ZJ,Zeh];refine ZG UK (fn:=Tryz.f57) rfl ?_;refine Zh UK 38 ZQ7 rfl ?_;generalize hG:PreV UY 38 [1,2,23,24,25] (post (flat (Za Tryz.f57))) (FinS UY Tryz.f57 λv h=> ∃r,Frz h v r/\r= .agg (Zd (.mk k s (d.map laterF) z w (Zob k n))))=G;have t: ∀u:Int,u=Zob k n->
   (Con UY 109 [.ts (row Zd d) d.length none] .empty λv X=> ∃(a:Option (Nat×Nat)) (l:Nat) (c:Option Nat) (A:Nat),v= .sl a l c A/\G .normal 38 [.lb [I k,U s.1,U s.2.1,U s.2.2.1,U s.2.2.2, .sl a l c A,I z,I w,I u],Zsk, .sl a l c A,I (l:Nat),I 0] X)\/
   ∃(L:List V) (l:Nat) (c:Option Nat),(PCon UY 109 [.ts (row Zd d) d.length none] λv=>v= .ts L l c)/\G .normal 38 [.lb [I k,U s.1,U s.2.1,U s.2.2.1,U s.2.2.2, .ts L l c,I z,I w,I u],Zsk, .ts L l c,I (l:Nat),I 0] .empty:=by
  rintro u E;subst hG;by_cases h0:d= []
  .subst h0;refine .inr ⟨[],0,none,Zlx,rfl,ZN [1,2,23,24,25] [1,2,23,24,25] (λm D h=>D= [.lb [I k,U s.1,U s.2.1,U s.2.2.1,U s.2.2.2, .ts [] 0 none,I z,I w,I u],Zsk, .ts [] 0 none,I 0,I 0]) 0 ZA rfl ?_⟩;rintro m D h rfl;refine Zn UK ZLq rfl ?_;refine Xr (λg=>absurd g dc) (λ_=> ?_);refine Zj [1,2] ?_;refine Zo UK (λK=>ZLr k s.1 s.2.1 s.2.2.1 s.2.2.2 z w u 0 h K) rfl ?_;refine ZB rr rfl ?_ rfl;rw[Zm,E];exact .agg _ _ (.cons _ _ _ _ (.i _ _) (.cons _ _ _ _ (.i _ _) (.cons _ _ _ _ (.i _ _) (.cons _ _ _ _ (.i _ _) (.cons _ _ _ _ (.i _ _) (.cons _ _ _ _ (.ts _ _ _ none (λx O=>by cases O)) (.cons _ _ _ _ (.i _ _) (.cons _ _ _ _ (.i _ _) (.cons _ _ _ _ (.i _ _) .nil)))))))))
  .have Z:0<d.length:=List.length_pos_iff.2 h0;obtain⟨m,hm⟩: ∃m,d.length=m+1:=⟨d.length-1,om⟩;refine .inl ((ZAe d hm om .empty).mono λv X ⟨hv,hh⟩=>⟨_,_,_,_,hv,?_⟩);refine⟨rfl,ZN [1,2,23,24,25] [1,2,23,24,25] (λm D h=> ∃i:Nat,D= [.lb [I k,U s.1,U s.2.1,U s.2.2.1,U s.2.2.2, .sl (some (Heap.empty.nx,0)) d.length none 9,I z,I w,I u],Zsk, .sl (some (Heap.empty.nx,0)) d.length none 9,I (d.length:Nat),I (i:Nat)]/\i<=d.length/\m=d.length-i/\h.get Heap.empty.nx=some (.arr (row Zd (laL d i)) true)) d.length ZA ⟨0,rfl,om,om,by rw[hh,qk,uF rfl];simp[laL]⟩ ?_⟩;rintro m D h ⟨i,rfl,P,rfl,H⟩;refine Zn UK ZQ8 rfl ?_;have C:=ZFq d i P;refine Zq (λg=> ?_) (λa1=> ?_)
   .have f:Zb h Heap.empty.nx (0+(((i:Nat):Int)).toNat*9) 9=some (Zd d[i]):=by
     rw[qdq,uJ];refine(Zs H _ _).trans ?_;rw[Xp ZW om,ZFr d g om]
    have o:=ih d[i] (qe g);unfold LaR at o;have j:=ZFp ZW (laL d i) i (laterF d[i]) om;rw[ZFs d g]at j;generalize laterF d[i]=y at o j;generalize d[i]=x at f o;obtain⟨xk,xs,xl,a2,a3,xn⟩:=x;rw[Zm]at f;rw[ZJ]at o;refine⟨Zu g,rfl,_,_,_,_,_,_,_,_,_,_,_,f,Vt y o λk0 s0 s1 s2 s3 L l0 cc a0 a4 n0 N=>⟨Zu g,rfl,h.set Heap.empty.nx (some (.arr (row Zd (laL d (i+1))) true)),?_,rfl,d.length-(i+1),om,i+1,by rw[Ze om];rfl,om,rfl,by rw[qc,uF rfl]⟩⟩;rw[qdq,uJ];rw[N]at j;simp only[Zi,H];rw[uF (by rw[Xh ZW,C];simp;omega),j]
   .have N:i=d.length:=om;subst N;refine Zj [1,2] ?_;refine Zo UK (λK=>ZQ9 k s.1 s.2.1 s.2.2.1 s.2.2.2 z w u 0 (some (Heap.empty.nx,0)) d.length none 9 h K) rfl ?_;refine ZB rr rfl ?_ rfl;have e:laL d d.length=d.map laterF:=by simp[laL]
    rw[e]at H;have e2:lst Zd (d.map laterF)= .ts (row Zd (d.map laterF)) d.length none:=by
     show V.ts _ _ _=_;rw[qC]
    rw[Zm,E,e2];exact .agg _ _ (.cons _ _ _ _ (.i _ _) (.cons _ _ _ _ (.i _ _) (.cons _ _ _ _ (.i _ _) (.cons _ _ _ _ (.i _ _) (.cons _ _ _ _ (.i _ _) (.cons _ _ _ _ (.sl _ _ _ _ _ (row Zd (d.map laterF)) true (row Zd (d.map laterF)) _ _ H (by rw[ql];exact ZD (by rw[Xh ZW,qC])) (λx O=>by cases O) dc (Xc _ (Je XJ _))) (.cons _ _ _ _ (.i _ _) (.cons _ _ _ _ (.i _ _) (.cons _ _ _ _ (.i _ _) .nil)))))))))
 refine Zf (λF=>Zf (λW=>⟨sm,t _ ?_⟩) (λW=>t _ ?_)) (λF=>t _ ?_)
 .unfold Zob;rw[uF F,uF W]
 .unfold Zob;rw[uF F,uE (by rw[W];decide)]
 .unfold Zob;rw[uE (by rw[F];decide)]
mutual
theorem ZCn{B:Nat}(c:B<2 ^ 20): ∀r:Re,wfRe B r->LaR r
 | .mk k s a e d n,h=>by
  rw[wfRe]at h;exact Zwn c h.2.2.1 (Zwo c a h.2.2.2)
theorem Zwo{B:Nat}(c:B<2 ^ 20): ∀l:List Re,wfRe.wfRes B l-> ∀x∈l,LaR x
 | [],_,x,a=>by cases a
 |r::l,h,x,a=>by
  rw[wfRe.wfRes]at h;have d:=ZCn c r h.1;have f:=Zwo c l h.2;rcases qu.1 a with e|a
  .exact e▸d
  .exact f x a
end
theorem ZFt{c n h}(K):CP UY 117 (pre (flat (Za Tryz.f117))) (J c n none::V.fn (.func 56) [] []::Rp 17) h [0,1,7,8] K=(K .normal 19 [J c n none, .fn (Fn.func 56) [] [],I (n:Int),I 0] h):=kr
theorem ZFu{c n x8 h}(K):CP UY 117 (flat (Zx (post (flat (Za Tryz.f117))))) (MZ 19 [0,1,7,8] [J c n none,V.fn (Fn.func 56) [] [],I (n:Int),I x8]) h [0,1,4,7,8] K=(If (ltI x8 n) ((0<=x8/\x8<n)/\ ∃a b d e f g i j l m o,Zr 9 (List.drop (x8.toNat*9) c)=some (R9 a b d e f g i j l m o)/\ ∃p,(PCon UY 56 [.agg (R9 a b d e f g i j l m o)] λv=>v=.b p)/\If p (K .ret 19 [J c n none, .fn (Fn.func 56) [] [],I x8,I (n:Int),I x8] h) (K .normal 19 [J c n none, .fn (Fn.func 56) [] [],Ud,I (n:Int),I (wW (x8+(1:Int)))] h)) (K (.exit 0) 19 [J c n none, .fn (Fn.func 56) [] [],Ud,I (n:Int),I x8] h)):=kr
theorem ZFv{h}(K):CP UY 117 ((post (flat (Za Tryz.f117))).drop 1) (MZ 19 [] []) h [4] K=(K .ret 19 [I (-1)] h):=kr
theorem ZLt{c n h}(K):CP UY 70 (flat (Za Tryz.f70)) (J c n none::V.fn (.func 56) [] []::Rp 7) h [4] K=(Con UY 117 [J c n none,V.fn (Fn.func 56) [] []] h fun(v:V) (d:Heap)=> ∃a,v=I a/\K .ret 9 [.b (leI 0 a)] d):=kr
theorem ZRc{a e f g j c d l m n h}(K):CP UY 56 (flat (Za Tryz.f56)) (.agg (R9 a e f g j c d none l m n)::Rp 15) h [2] K=(If (a==(2:Int)) (K .ret 16 [.b true] h) (If (a==(3:Int)) (K .ret 16 [.b true] h) (Con UY 70 [J c d none,V.fn (Fn.func (56:Nat)) [] []] h fun(v:V) (k:Heap)=> ∃b,v=.b b/\K .ret 16 [.b b] k))):=kr
theorem ZFw{B:Nat}(E:B<2 ^ 20){a:List Re}(F:a.length<=B)(w: ∀x∈a,PCon UY 56 [.agg (Zd x)] (· = .b (anchB x)))(h:Heap):
  Con UY 117 [lst Zd a, .fn (.func 56) [] []] h λv u=> ∃n:Int,v= I n/\leI 0 n=a.any anchB/\u=h:=by
 refine Zv UK (fn:=Tryz.f117) (Zh UK 19 ZFt rfl ?_);refine⟨rfl,ZN [0,1,7,8] [0,1,4,7,8] (λm r g=> ∃i:Nat,r= [lst Zd a, .fn (.func 56) [] [],I a.length,I (i:Nat)]/\i<=a.length/\m=a.length-i/\(a.take i).any anchB=false/\g=h) a.length ZA ⟨0,rfl,om,om,sm,rfl⟩ ?_⟩;rintro m r g ⟨i,rfl,G,rfl,l,rfl⟩;refine Zn UK ZFu rfl ?_;refine Zq (λd=> ?_) (λt=> ?_)
 .have k:=w a[i] (qe d);have c:=Za4 d;have j:(a.take (i+1)).any anchB=anchB a[i]:=by rw[qa d,uj,l];simp
  have f:anchB a[i]=true->a.any anchB=true:=λe=>List.any_eq_true.2 ⟨_,qe d,e⟩;generalize a[i]=x at k c j f;obtain⟨C,K,D,y,A,H⟩:=x;rw[Zm]at k c;refine⟨Zu d,_,_,_,_,_,_,_,_,_,_,_,c,_,k,Zf (λo=> ?_) (λo=> ?_)⟩
  .exact ZZ rr rfl (AfterZ.now ⟨_,rfl,by rw[f o];simp[leI],rfl⟩)
  .exact⟨rfl,a.length-(i+1),om,i+1,by rw[Ze om];rfl,om,rfl,by rw[j,o],rfl⟩
 .have z:i=a.length:=om;subst z;rw[qm]at l;refine Zj [] ?_;refine Zo UK ZFv rfl ?_;exact finC rr rfl (.now ⟨-1,rfl,by rw[l];rfl,rfl⟩)
structure AXt(r:Re):Prop where
 c:PCon UY 56 [.agg (Zd r)] (· = .b (anchB r))
theorem Zsl{B:Nat}(o:B<2 ^ 20){k:Int}{s}{a:List Re}{g j n:Int}(t:a.length<=B)(l: ∀x∈a,PCon UY 56 [.agg (Zd x)] (· = .b (anchB x))):PCon UY 56 [.agg (Zd (.mk k s a g j n))] (· = .b (anchB (.mk k s a g j n))):=by
 rw[Zm,anchB,Zfn];refine Zw UK (fn:=Tryz.f56) rfl ZRc rfl ?_;refine Zf (λc=>ZB rr rfl (.b _) (by rw[c];rfl)) (λc=>Zf (λe=>ZB rr rfl (.b _) (by rw[c,e];rfl)) (λe=> ?_));have d:Con UY 70 [lst Zd a, .fn (.func 56) [] []] .empty λv h=>v= .b (a.any anchB):=by
  refine Zv UK (fn:=Tryz.f70) (Zo UK ZLt rfl ?_);exact(ZFw o t l .empty).mono λv h ⟨m,f,r,_⟩=>⟨m,f,finC rr rfl (.now (by rw[r];rfl))⟩
 exact d.mono λv h f=>⟨_,f,ZB rr rfl (.b _) (by rw[c,e];rfl)⟩
mutual
theorem Zwp{B:Nat}(d:B<2 ^ 20): ∀r:Re,wfRe B r->AXt r
 | .mk k s a j g n,h=>by
  rw[wfRe]at h;have f:=Zqn d a h.2.2.2;exact⟨Zsl d h.2.2.1 λx e=>(f x e).c⟩
theorem Zqn{B:Nat}(c:B<2 ^ 20): ∀l:List Re,wfRe.wfRes B l-> ∀x∈l,AXt x
 | [],_,x,a=>by cases a
 |r::l,h,x,a=>by
  rw[wfRe.wfRes]at h;have d:=Zwp c r h.1;have f:=Zqn c l h.2;rcases qu.1 a with e|a
  .rw[e];exact d
  .exact f x a
end
def RowJ(o:Heap)(n:Nat)(s:List UInt8)(d:Nat)(R:PR Re)(N m:Nat)(r:List V)(h:Heap):Prop:=
 ∃(a:Option (Nat×Nat)) (l:Nat) (c:Option Nat) (k:Nat) (f:List Re) (i g:Nat) (e:Int),r= [.p (some (n,0)), .i .i64 (d:Nat), .undef,Zf0, .sl a l c k]/\LX Zd 9 h a l c k f/\(∀j,a=some (j,0)->o.nx<=j)/\
  RdE h n s i g e/\FrO o n h/\f.length<=s.length+1/\((e=0/\i<=s.length/\g<=i/\f.length<=i/\6*(s.length-i)+5<=m/\m<=N/\rowE m d s i g f=R)\/(e≠0/\R= .error (e,i)))
theorem Zwq(k:Int){u}{h}{a}{l:Nat}{c}{z:Nat}(K:LX Zd 9 h a l c z u){fn:Func}{y:Nat}{g:List Nat}{F:V->Heap->Prop}
  (G: ∀D:List Nat,(∀j,j∈D->a=some (j,0))-> ∀x:Re,x=sevS k u-> ∀(n d f r e:Int) (w:List V) (l:Nat) (c:Option Nat) (t m o:Int),V.agg (Zd x)= .agg [I n,U d,U f,U r,U e, .ts w l c,I t,I m,I o]->
   Go.Y.Fin UY fn g F .ret y [.lb [I n,U d,U f,U r,U e, .ts w l c,I t,I m,I o]] (XO h D)):
  Con UY 138 [I k, .sl a l c z] h λv B=> ∃(n d f r e:Int) (w:List V) (l:Nat) (c:Option Nat) (t m o:Int),v= .agg [I n,U d,U f,U r,U e, .ts w l c,I t,I m,I o]/\
   Go.Y.Fin UY fn g F .ret y [.lb [I n,U d,U f,U r,U e, .ts w l c,I t,I m,I o]] B:=by
 refine ZFn k K λD E=> ?_;obtain⟨x,A⟩: ∃x,sevS k u=x:=⟨_,rfl⟩;have:=G D E x A.symm;rw[A];obtain⟨L,O,N,C,H,P⟩:=x;exact⟨_,_,_,_,_,_,_,_,_,_,_,ZJ _ _ _ _ _ _,this _ _ _ _ _ _ _ _ _ _ _ (ZJ _ _ _ _ _ _)⟩
theorem rowR{n:Nat}(ih: ∀m,m<n->AllR m){h}{C:Nat}{s:List UInt8}{i g d:Nat}(r:RdE h C s i g 0)(hs:s.length<2 ^ 27)(hi:i<=s.length)(hg:g<=i)(hd:d<=64)(hn:6*(s.length-i)+5<=n):
  Con UY 135 [.p (some (C,0)),I d] h (reQ (rowE n d s i g []) h C s):=by
 refine Zv UK (fn:=Tryz.f135) (Zh UK 21 ZLi rfl ?_);generalize u:rowE n d s i g []=R;refine⟨rfl,ZN [0,1,2,4,5] [0,1,2,4,5] (RowJ h C s d R n) n ZA ⟨none,0,some 0,0,[],i,g,0,rfl,LX.start _ _ _ _ _,sm,r, .refl _ _,sm, .inl ⟨rfl,hi,hg,sm,hn,qnq _,u⟩⟩ ?_⟩;have B:=r.lt;clear r hi hg hn u;rintro m vs h1 ⟨a,l,c,k,a1,j,gg,e,rfl,hL,t,hr,F,a7,z⟩;refine Zn UK ZLj rfl ?_;have stop:((e=0/\R= .ok (sevS 4 a1,j,gg))\/(e≠0/\R= .error (e,j)))->XE UY 21 [0,1,2,4,5] [0,1,2,4,5] (RowJ h C s d R n) m (Xd (post (flat (Za Tryz.f135)))) ((post (flat (Za Tryz.f135))).drop 1) (FinS UY Tryz.f135 (AfterZ (reQ R h C s))) (.exit 0) 21
   [.p (some (C,0)),I d, .undef,Zf0, .sl a l c k] h1:=λhf=>by
  refine Zj [4,5] ?_;refine Zo UK ZLk rfl ?_;refine Zwq 4 hL λD hD x G n n1 n2 n3 n4 cs H P n5 n6 n7 hv=>finC rr rfl (.now ?_);rw[<-hv];have Z: ∀x,x∈D->h.nx<=x:=λx G=>t x (hD x G);exact⟨x,j,gg,e,rfl,hr.kill Z B,F.kill Z,by rw[G];exact hf⟩
 refine⟨_,ZFb hr,Zf (λhb=> ?_) (λhb=>stop ?_)⟩
 rotate_left
 .rcases z with ⟨rfl,hj,E,a3,hm,a4,u⟩|z
  .obtain⟨m,rfl⟩: ∃m',m=m'+1:=⟨m-1,om⟩;have a6: ¬j<s.length:=by simpa using hb
   rw[rowE,qq om]at u;exact .inl ⟨rfl,u.symm⟩
  .exact .inr z
 have f:e=0/\j<s.length:=by simpa using hb
 obtain⟨rfl,a2⟩:=f;rcases z with ⟨_,hj,E,a3,hm,a4,u⟩|⟨he,_⟩
 rotate_left
 .exact absurd rfl he
 obtain⟨m,rfl⟩: ∃m',m=m'+1:=⟨m-1,om⟩;have L:s[j]? =some s[j]:=by simp[a2]
 rw[rowE,L]at u;simp only[]at u;have O:pk s j [124,41]=true↔(s[j]=124\/s[j]=41):=by rw[Vs L];simp
 refine⟨_,Za6 hr [124,41],Zf (λf=> ?_) (λf=>stop (.inl ⟨rfl,?_⟩))⟩
 .have f:pk s j [124,41]=false:=by simpa using f
  rw[uE (λhc=>by rw[O.2 hc]at f;cases f)]at u;refine((ih m om).piece hr hs a2 E hd om).mono λv h2 ⟨x,j2,g2,e2,hv,u1,u2,u3⟩=> ?_;subst hv;obtain⟨xk,xs,xl,K,a0,xn⟩:=x;obtain⟨N,H,P,k',h3,q1,q2,q3,q,q4,q5⟩:=Zhl (.mk xk xs xl K a0 xn) (Zm _ _ _ _ _ _) (hL.keep t B u2) om;have y: ∀x,N=some (x,0)->h.nx<=x:=λx G=>by rw[q4]at G;cases G;have:=F.1;have:=u2.1;omega
  have X:=u1.app q3 λo=>hL.ne t B;have W:=(hL.keep t B u2).frO t (F.trans u2) q3;have w:(a1++ [Re.mk xk xs xl K a0 xn]).length<=s.length+1:=by simp;omega
  rcases u3 with ⟨rfl,A⟩|⟨a5,A⟩
  .rw[A]at u;simp only[]at u;have hp:=(XR s m).2.2.2.1 A om E;exact⟨_,_,_,_,_,_,_,_,_,_,_,ZJ _ _ _ _ _ _,N,H,P,k',h3,q1,rfl,m,om,N,H,P,k',_,j2,g2,0,rfl,q2,y,X,W,w, .inl ⟨rfl,om,om,by simp;omega,om,om,u⟩⟩
  .rw[A]at u;exact⟨_,_,_,_,_,_,_,_,_,_,_,ZJ _ _ _ _ _ _,N,H,P,k',h3,q1,rfl,m,om,N,H,P,k',_,j2,g2,e2,rfl,q2,y,X,W,w, .inr ⟨a5,u.symm⟩⟩
 .have f:pk s j [124,41]=true:=by simpa using f
  rw[uF (O.1 f)]at u;exact u.symm
theorem altR{n:Nat}(ih: ∀m,m<n->AllR m){h}{C:Nat}{s:List UInt8}{i g d:Nat}(r:RdE h C s i g 0)(hs:s.length<2 ^ 27)(hi:i<=s.length)(hg:g<=i)(hd:d<=64)(hn:6*(s.length-i)+6<=n):
  Con UY 106 [.p (some (C,0)),I d] h (reQ (altE n d s i g) h C s):=by
 obtain⟨n,rfl⟩: ∃m,n=m+1:=⟨n-1,om⟩;refine Zv UK (fn:=Tryz.f106) (Zh UK 22 ZLf rfl ?_);generalize k:altE (n+1) d s i g=R;rw[altE]at k;refine((ih n om).row r hs hi hg hd om).mono λv L ⟨x,j,gg,e,K,X,B,u3⟩=> ?_;subst K;obtain⟨O,w,P,t,u,N⟩:=x;have F:=r.lt;have H:LX Zd 9 (L.push (.arr (Zd (.mk O w P t u N)) true)) (some (L.nx,0)) 1 (some 1) 9 [.mk O w P t u N]:=LX.one _ _ _ _;rw[Zm]at H;have z:RdE (L.push (.arr [I O,U w.1,U w.2.1,U w.2.2.1,U w.2.2.2,lst Zd P,I t,I u,I N] true)) C s j gg e:=⟨by rw[qk,uE (by have:=X.lt;omega)];exact X.get,by have:=X.lt;simp;omega⟩;have a2:FrO h C (L.push (.arr [I O,U w.1,U w.2.1,U w.2.2.1,U w.2.2.2,lst Zd P,I t,I u,I N] true)):=⟨by have:=B.1;simp;omega,λq hq Z=>by rw[qk,uE (by have:=B.1;omega)];exact B.2 q hq Z⟩;refine⟨_,_,_,_,_,_,_,_,_,_,_,ZJ _ _ _ _ _ _,rfl,ZN [0,1,4,5] [0,1,4,5] (AltI h C s d R (n+1)) n ZA ⟨L.nx,1,some 1,_,j,gg,e,rfl,H,sm,B.1,z,a2,sm,?_⟩ ?_⟩
 .rcases u3 with ⟨rfl,hr⟩|⟨he,hr⟩
  .have hp:=(XR s n).2.2.1 hr hi hg;rw[hr]at k;exact .inl ⟨rfl,om,om,sm,om,om,k⟩
  .rw[hr]at k;exact .inr ⟨he,k.symm⟩
 clear r hi hg hn k X B u3 H z a2;rintro m vs L ⟨q,l,c,a6,j,gg,e,rfl,hL,Z,a9,hr,W,b5,A⟩;refine Zn UK ZLg rfl ?_;have f: ∀x,(some (q,0):Option (Nat×Nat))=some (x,0)->h.nx<=x:=λx hx=>by cases hx;exact a9
 have stop:((e=0/\R= .ok (sevS 5 a6,j,gg))\/(e≠0/\R= .error (e,j)))->XE UY 22 [0,1,4,5] [0,1,4,5] (AltI h C s d R (n+1)) m (Xd (post (flat (Za Tryz.f106)))) ((post (flat (Za Tryz.f106))).drop 1) (FinS UY Tryz.f106 (AfterZ (reQ R h C s))) (.exit 0) 22
   [.p (some (C,0)),I d,Zf0, .sl (some (q,0)) l c 9] L:=λhf=>by
  refine Zj [4,5] ?_;refine Zo UK ZLh rfl ?_;refine Zwq 5 hL λD hD x hx n n1 n2 n3 n4 cs l' c' n5 n6 n7 K=>finC rr rfl (.now ?_);rw[<-K];have a4: ∀x,x∈D->h.nx<=x:=λx hx=>f x (hD x hx);exact⟨x,j,gg,e,rfl,hr.kill a4 F,W.kill a4,by rw[hx];exact hf⟩
 refine⟨_,Za6 hr [124],Zf (λhb=> ?_) (λhb=>stop ?_)⟩
 .have h0:e=0/\s[j]? =some 124:=by rw[Qw]at hb;simpa using hb
  obtain⟨rfl,a⟩:=h0;rcases A with ⟨_,hj,b1,a7,hm,b0,k⟩|⟨he,_⟩
  .obtain⟨m,rfl⟩: ∃m',m=m'+1:=⟨m-1,om⟩;rw[WF,uF a]at k;have b6:=(qb.1 a).1;refine(Zgw hr om).mono λv h2 hq=> ?_;rcases hq with ⟨dd,_,b4,K,g2,g3⟩|⟨_,a0,_⟩|⟨he,_⟩
   rotate_left
   .rw[a]at a0;cases a0
   .exact absurd rfl he
   have b2:=hL.keep f F g3;refine⟨_,K,?_⟩;refine((ih m om).row g2 hs om om hd om).mono λv h3 ⟨x,j2,a5,e2,K,X,B,u3⟩=> ?_;subst K;obtain⟨O,w,P,t,u,N⟩:=x;have G:=b2.keep f F B;obtain⟨a',l',c',k',h4,q1,q2,q3,q',q4,q5⟩:=Zhl (.mk O w P t u N) (Zm _ _ _ _ _ _) G om;subst q4;obtain⟨_,_,a8,_⟩:=q2.cells sm;subst a8;have a1:h.nx<=q':=by have:=W.1;have:=g3.1;have:=B.1;omega
   have z:=X.app q3 λo=>G.ne f F;have a3:=G.frO f ((W.trans g3).trans B) q3;have y:(a6++ [Re.mk O w P t u N]).length<=s.length+2:=by simp;omega
   rcases u3 with ⟨rfl,E⟩|⟨b3,E⟩
   .rw[E]at k;simp only[]at k;have hp:=(XR s m).2.2.1 E om om;exact⟨_,_,_,_,_,_,_,_,_,_,_,ZJ _ _ _ _ _ _,_,l',c',_,h4,q1,rfl,m,om,q',l',c',_,j2,a5,0,rfl,q2,sm,a1,z,a3,y, .inl ⟨rfl,om,om,by simp;omega,om,om,k⟩⟩
   .rw[E]at k;exact⟨_,_,_,_,_,_,_,_,_,_,_,ZJ _ _ _ _ _ _,_,l',c',_,h4,q1,rfl,m,om,q',l',c',_,j2,a5,e2,rfl,q2,sm,a1,z,a3,y, .inr ⟨b3,k.symm⟩⟩
  .exact absurd rfl he
 .rcases A with ⟨rfl,hj,b1,a7,hm,b0,k⟩|A
  .have a:s[j]? ≠some 124:=by rw[Qw]at hb;simpa using hb
   obtain⟨m,rfl⟩: ∃m',m=m'+1:=⟨m-1,om⟩;rw[WF,uE a]at k;exact .inl ⟨rfl,k.symm⟩
  .exact .inr A
theorem allR(n:Nat):AllR n:=by
 induction n using Nat.strongRecOn with
 |ind n a=>exact⟨altR a,rowR a,ZLo a,ZQ6 a⟩
theorem Zht(s):PCon UY 55 [.s s] (· =Zdc s):=by
 refine Zw UK (fn:=Tryz.f55) rfl ZQ5 rfl ?_;unfold Zdc;generalize c:Qz s=P;unfold Qz at c;refine Xr (λo=> ?_) (λW=> ?_)
 .rw[uF om]at c;subst c;exact Zjd rr rfl (Qx _) (.i _ _) (.i _ _) rfl
 rw[uE om]at c;have r:RdE (Heap.empty.push (.arr [.s s,I 0,I 0,I 0] true)) Heap.empty.nx s 0 0 0:=⟨by rw[qk,uF rfl];rfl,sm⟩;refine((allR (6*s.length+10)).alt (d:=0) r om om om om om).mono λv E ⟨x,j,g,e,H,D,X,N⟩=> ?_;subst H;obtain⟨B,k,C,l,m,A⟩:=x;have t: ∀a:Heap,P= .ok (.mk B k C l m A)->Go.Y.Fin UY Tryz.f55 [2,3,4] (λv h=> ∃r,Frz h v r/\r=erV P) .ret 35
   [.lb [I B,U k.1,U k.2.1,U k.2.2.1,U k.2.2.2,lst Zd C,I l,I m,I A],I 0,I 0] a:=λa hp=>by
  subst hp;refine Zjd rr rfl ?_ (.i _ _) (.i _ _) rfl;rw[<-ZJ];exact Zb9 _ _
 have F: ∀(a:Heap) (p:Nat) (e:Int),P= .error (e,p)->Go.Y.Fin UY Tryz.f55 [2,3,4] (λv h=> ∃r,Frz h v r/\r=erV P) .ret 35
   [.lb [I 0,U 0,U 0,U 0,U 0, .sl none 0 (some 0) 0,I 0,I 0,I 0],I (p:Nat),I e] a:=λa p e hp=>by
  subst hp;exact Zjd rr rfl (Qx _) (.i _ _) (.i _ _) rfl
 have f: ∀(a:Heap) (p L:Nat) (e:Int),RdE a Heap.empty.nx s p L e->(e=0->P= .ok (.mk B k C l m A))->(e≠0->P= .error (e,p))->
   ∃y:Int,Zb a Heap.empty.nx 3 1=some [I y]/\If (y !=0) (∃n:Int,Zb a Heap.empty.nx 1 1=some [I n]/\ ∃z:Int,Zb a Heap.empty.nx 3 1=some [I z]/\Go.Y.Fin UY Tryz.f55 [2,3,4] (λv h=> ∃r,Frz h v r/\r=erV P) .ret 35
    [.lb [I 0,U 0,U 0,U 0,U 0, .sl none 0 (some 0) 0,I 0,I 0,I 0],I n,I z] a)
    (Go.Y.Fin UY Tryz.f55 [2,3,4] (λv h=> ∃r,Frz h v r/\r=erV P) .ret 35
    [.lb [I B,U k.1,U k.2.1,U k.2.2.1,U k.2.2.2,lst Zd C,I l,I m,I A],I 0,I 0] a):=λa p L e w O E=>
  ⟨_,w.c3,Zf (λG=>⟨_,w.c1,_,w.c3,F a p e (E (by simpa using G))⟩) (λG=>t a (O (by simpa using G)))⟩
 refine⟨_,_,_,_,_,_,_,_,_,_,_,ZJ _ _ _ _ _ _,_,ZFb D,?_⟩;rcases N with ⟨rfl,hr⟩|⟨K,hr⟩
 .rw[hr]at c;simp only[]at c;refine Zf (λu=> ?_) (λu=> ?_)
  .have o:j<s.length:=by simpa using u
   rw[uF o]at c;refine(Zn7 D 1).mono λv a ⟨H,w1,Z⟩=>⟨H,f a j g 1 (by simpa using w1) (λh=>by cases h) (λ_=>c.symm)⟩
  .have o: ¬j<s.length:=by simpa using u
   rw[uE o]at c;exact f E j g 0 D (λ_=>c.symm) (λh=>absurd rfl h)
 .rw[hr]at c;refine Zf (λu=>absurd ((by simpa using u:e=0/\j<s.length)).1 K) (λ_=>f E j g e D (λh=>absurd h K) (λ_=>c.symm))
end Go.Y
