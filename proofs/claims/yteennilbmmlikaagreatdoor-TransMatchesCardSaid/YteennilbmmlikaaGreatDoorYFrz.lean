/- A part of the proof. -/
import Derived.KernelRfl
import Derived.Test.YteennilbmmlikaaGreatDoorYLoop
import Derived.Test.YteennilbmmlikaaGreatDoorYAny3
import Derived.Test.YteennilbmmlikaaGreatDoorYOm
namespace Go.Y
set_option maxRecDepth 1000000
set_option maxHeartbeats 0
def FrzT(h:Heap)(v c:V):Prop:=FrzA h v c\/ ∃a vs',v= .tup a/\c= .tup vs'/\FrzAL h a vs'
theorem FrzT.vr{W W'}{h}{w}(z:Fz W h w W')(a:Le W W'){v v'}(f:FrzT h v v'){u:Value}(r:VR W v u):VR W' v' u:=by
 rcases f with f|⟨e,vs',rfl,rfl,f⟩
 .exact f.vr z a r
 .cases r with|tup _ d c=>exact .tup _ _ (f.vr z a c)
def AfterZ(Q:V->Heap->Prop)(v:V)(h:Heap):Prop:= ∃(D:List Nat) (a:V),FrzT (Ve h D) v a/\Q a (XO h D)
theorem AfterZ.now{Q}{v}{h}(a:Q v h):AfterZ Q v h:=⟨[],v, .inl (.same v),a⟩
theorem Con.freeze{Y}{f:FuncId}{a}{h}{Q}(c:Con Y f a h (AfterZ Q)):Con Y f a h Q:=
 ⟨c.body,λW w k hr l=>(c.tr W w k hr l).mono λe z ⟨v,A,y,u,⟨D,x,r,m⟩,t,g,d,j⟩=>by
  obtain⟨n,o⟩:=g.frzD D;exact⟨x,_,_,u,m,t,n,r.vr (Fz.of g D) (Vf g D) d,j.trans o⟩⟩
theorem Zv{Y}(d:YOK Y){f:FuncId}{fn:Func}{a:List V}{h:Heap}{Q:V->Heap->Prop}
  (c:TriL Y (flat (Za fn)) ⟨a++List.replicate (fn.ntmps-a.length) .undef,[],h⟩ (FinS Y fn (AfterZ Q))) (g:Y.P.funcs[f]? =some fn:=by kernel_rfl) (e:fn.body.isSome=true:=by kernel_rfl):Con Y f a h Q:=Con.freeze (ZBu d g e c)
theorem finC{Y}{fn}{a:List Nat}{Q}{o:Out}{n:Nat}{c}{h}{v}(f:o= .normal\/o= .ret)(d:resV Y fn (a.zip c)=some v)(e:AfterZ Q v h):
  Fin Y fn a (AfterZ Q) o n c h:=⟨f,v,d,e⟩
/-! ### slices.Clone -/
theorem Zk4{Y:YP}{st e:TypeId}{te:TI}(f:Y.kd st=some (.slice e))(d:Y.ty e=some te)(k:te.size≠0)(j:te.bytes<=1024){cs c:List V}{n:Nat}{cap:Option Nat}(g:Zr ((n+1)*te.size) cs=some c)(l:Zp c=true)(o:n+1<=2 ^ 30)
  (h:Heap):Zk Y h st st (.ts [] 0 (some 0)) (.ts cs (n+1) cap)=some (.sl (some (h.nx,0)) (n+1) none te.size,h.push (.arr c true)):=by
 have a:XI Y ⟨[],[],h⟩ te st (.ts cs (n+1) cap)=some (n+1,c):=by
  simp only[XI,f,QT,XQ,g];rfl
 have m:most=1099511627776:=dc;have u:(n+1)*te.bytes<=2 ^ 30*1024:=Nat.mul_le_mul o j;have r: ¬((0+(n+1))*te.bytes>most\/0+(n+1)>most):=by rw[uJ,m];omega
 have t: ¬(0+(n+1)<=0):=om;simp only[Zk,Xe,f,d,a];rw[uE (by simp[l,k])];simp only[Nat.succ_ne_zero,vF];rw[uE r];simp[Zr]
theorem ZI{n:Int}(d: -2 ^ 62<=n)(c:n<=2 ^ 62):wW n=n:=by
 have e:(2:Int) ^ IntKind.i64.bits=18446744073709551616:=dc;have a:(2:Int) ^ (IntKind.i64.bits-1)=9223372036854775808:=dc;unfold wW IntKind.wrap;simp only[e,a,IntKind.signed,uT];by_cases h:0<=n
 .have:n % 18446744073709551616=n:=Int.emod_eq_of_lt h om;rw[this];simp;omega
 .have:n % 18446744073709551616=n+18446744073709551616:=om;rw[this];simp;omega
theorem Ze{i:Nat}(h:i<2 ^ 61):wW ((i:Int)+1)=((i+1:Nat):Int):=by
 rw[ZI om om];omega
def FrO(h:Heap)(c:Nat)(a:Heap):Prop:=h.nx<=a.nx/\ ∀j,j<h.nx->j≠c->a.get j=h.get j
theorem FrO.refl(h)(a:Nat):FrO h a h:=⟨qnq _,λ_ _ _=>rfl⟩
theorem FrO.trans{a b c}{d:Nat}(h:FrO a d b)(g:FrO b d c):FrO a d c:=
 ⟨uu h.1 g.1,λj e f=>by rw[g.2 j (qv e h.1) f,h.2 j e f]⟩
theorem FrO.set(h:Heap)(id:Nat)(o:Option YObj):FrO h id (h.set id o):=⟨qnq _,λj _ a=>by rw[qc,uE a]⟩
structure Lst{α:Type}(f:α->List V)(k:Nat)(h:Heap)(a:Option (Nat×Nat))(l:Nat)(c:Option Nat)(kk:Nat)(out:List α):Prop where
 cells: ∃cells,IsL h k a l c kk cells∧Xb cells=true∧FrzL .empty cells (row f out)
 len:l=out.length
theorem Lst.nil{a:Type}(f:a->List V)(k:Nat)(h)(c)(d:Nat):Lst f k h none 0 c d ([]:List a):=⟨⟨[],IsL.nil _ _ _ _,rfl, .nil⟩,rfl⟩
theorem Jd: ∀ {l m},Xb l=true->Xb m=true->Xb (l++m)=true
 | [],m,_,h=>h
 |v::l,m,h,g=>by
  simp only[Xb,qrq]at h;simp only[qs,Xb,qrq];exact⟨h.1,Jd h.2 g⟩
theorem IsL.fr{h h':Heap}{k:Nat}{a}{l:Nat}{c}{d:Nat}{cs}(e:IsL h k a l c d cs)(u:h.nx<=h'.nx)(g: ∀j,a=some (j,0)->j<h.nx->h'.get j=h.get j):IsL h' k a l c d cs:=by
 refine⟨e.1,?_⟩;rcases e.2 with n|⟨f,rfl,t,m,o,r⟩
 .exact .inl n
 .exact .inr ⟨f,rfl,t,m,om,by rw[g f rfl o,r]⟩
theorem Lst.fr{e:Type}{f:e->List V}{h h':Heap}{k:Nat}{a}{l:Nat}{c}{d:Nat}{out:List e}(o:Lst f k h a l c d out)(r:h.nx<=h'.nx)(g: ∀j,a=some (j,0)->j<h.nx->h'.get j=h.get j):Lst f k h' a l c d out:=by
 obtain⟨⟨cells,n,u,m⟩,t⟩:=o;exact⟨⟨cells,n.fr r g,u,m⟩,t⟩
theorem Lst.app{y:Type}{f:y->List V}{Y:YP}{h:Heap}{k:Nat}{a:Option (Nat×Nat)}{l:Nat}{c:Option Nat}{z:Nat}{out:List y}{new:List V}{st e:TypeId}{te:TI}(d:List y){cap:Option Nat}
  (O:Y.kd st=some (.slice e)) (w:Y.ty e=some te) (A:te.size=k) (v:k≠0) (F:Lst f k h a l c z out) (D:FrzL .empty new (row f d)) (g:Xb new=true) (P:d≠ []) (X:new.length=d.length*k) (B:Zp new=true)
  (G:(out.length+d.length)*te.bytes<=most) (x:out.length+d.length<=most):
  ∃o r u t n,Zk Y h st st (.sl a l c z) (.ts new d.length cap)=some (.sl o r u t,n)/\Lst f k n o r u t (out++d)/\Fr h a n/\ ∃j,o=some (j,0)/\h.nx<=j:=by
 obtain⟨⟨cells,W,h2,N⟩,Z⟩:=F;subst Z;obtain⟨o,r,u,t,n,E,C,H,L,K⟩:=Zbs (Y:=Y) (new:=new) (m:=d.length) (cap:=cap) O w A v W (by simpa using P) (ZD X.symm) B G x;exact⟨o,r,u,t,n,E,⟨⟨cells++new,C,Jd h2 g,by rw[Xz];exact N.append D⟩,by simp[L]⟩,H,K⟩
theorem Lst.app1{u:Type}{f:u->List V}{Y:YP}{h:Heap}{k:Nat}{a:Option (Nat×Nat)}{l:Nat}{c:Option Nat}{z:Nat}{d:List u}{new:List V}{st e:TypeId}{te:TI}(x:u)
  (E:Y.kd st=some (.slice e)) (o:Y.ty e=some te) (A:te.size=k) (n:k≠0) (D:Lst f k h a l c z d) (C:FrzL .empty new (f x)) (g:Xb new=true) (F:new.length=k) (B:Zp new=true)
  (r:te.bytes<=1024) (G:d.length<2 ^ 29):
  ∃t v y w m,Zk Y h st st (.sl a l c z) (.ts new 1 (some 1))=some (.sl t v y w,m)/\Lst f k m t v y w (d++ [x])/\Fr h a m/\ ∃j,t=some (j,0)/\h.nx<=j:=by
 have H:most=1099511627776:=dc;have K:(d.length+1)*te.bytes<=2 ^ 29*1024:=Nat.mul_le_mul om r;exact Lst.app [x] E o A n D (by simpa[row]using C) g sm (by simp[F]) B (by simp;omega) (by simp;omega)
theorem Zax{a c} : ∀ {l l'},Xb l=true->FrzL a l l'->FrzL c l l':=Zcw
theorem Lst.frz{m:Type}{f:m->List V}{h}{k:Nat}(t:k≠0)(o: ∀x,(f x).length=k){a}{l:Nat}{c}{g:Nat}{d:List m}(v:Lst f k h a l c g d):Frz h (.sl a l c g) (lst f d):=by
 obtain⟨⟨cells,j,z,n⟩,y⟩:=v;subst y;rcases j.2 with ⟨rfl,w,r⟩|⟨A,rfl,rfl,rfl,r,u⟩
 .have:d= []:=qg w;subst this;exact .sln _ _ _ (λx e=>by cases e)
 .exact .sl _ _ _ _ _ _ _ _ _ _ u (by rw[ql,j.1];exact Ze8 _) (λx e=>by cases e) t (Zax z n)
theorem Lst.afterZ{n:Type}{f:n->List V}{h}{k:Nat}(v:k≠0)(r: ∀x,(f x).length=k){a}{l:Nat}{c}{g:Nat}{d:List n}(y:Lst f k h a l c g d):
  ∃D:List Nat,Frz (Ve h D) (.sl a l c g) (lst f d)/\(∀j,j∈D->a=some (j,0)):=by
 obtain⟨⟨cells,m,B,o⟩,A⟩:=y;subst A;rcases m.2 with ⟨rfl,z,u⟩|⟨t,rfl,rfl,rfl,u,w⟩
 .have:d= []:=qg z;subst this;exact⟨[], .sln _ _ _ (λx e=>by cases e),sm⟩
 .exact⟨[t], .sl _ _ _ _ _ cells true cells _ _ (by rw[QK,uF sm,w]) (by rw[ql,m.1];exact Ze8 _) (λx e=>by cases e) v (Zax B o),sm⟩
theorem Lst.off{m:Type}{f:m->List V}{h}{k:Nat}{a}{l:Nat}{c}{n:Nat}{g:List m}(t:Lst f k h a l c n g){j o:Nat}(d:a=some (j,o)):o=0:=by
 obtain⟨⟨cells,⟨_,e|⟨r,e,_⟩⟩,_⟩,_⟩:=t
 .rw[e.1]at d;cases d
 .rw[e]at d;cases d;rfl
theorem FrO.app{m:Type}{f:m->List V}{e h n:Heap}{r k:Nat}{a}{l:Nat}{c}{v:Nat}{out:List m}(g:FrO e r h)(w:Lst f k h a l c v out)(d: ∀j,a=some (j,0)->e.nx<=j)(q:Fr h a n):FrO e r n:=
 ⟨uu g.1 q.1,λj t x=>by
  rw[q.2 j (qv t g.1) (λo u=>by
   have e:=w.off u;subst e;have:=d j u;omega)]
  exact g.2 j t x⟩
/-! ### Rows -/
theorem VN{a:Type}{f:a->List V}{k:Nat}(c: ∀x,(f x).length=k)(l:List a){i:Nat}(d:i<l.length):(row f l).drop (i*k)=f l[i]++row f (l.drop (i+1)):=by
 rw[Zd4 c,uM d];rfl
/-! ### Bytes -/
theorem Zuo(c d:UInt8):(((c.toNat:Nat):Int)==((d.toNat:Nat):Int))=(c==d):=by
 rw[Bool.eq_iff_iff];simp only[vM,Int.ofNat_inj];exact⟨λh=>UInt8.toNat_inj.1 h,λh=>by rw[h]⟩
def pick(a sl:List Nat)(c:List V):List V:=sl.map λs=>match Zbr (a.zip c) s with|some v=>v|none=> .undef
theorem Zk5{d} : ∀ {c:List Nat} {s:Nat},s∈c->Zbr (c.zip (c.map λi=>lv i d)) s=some (lv s d)
 |x::r,s,h=>by
  simp only[qz,List.zip_cons_cons,Zbr];by_cases a:x=s
  .rw[uF a,a]
  .rw[uE a];exact Zk5 (by rcases qu.1 h with h|h;exact absurd h.symm a;exact h)
theorem Jt{c}{a sl:List Nat}(d:sl.all a.contains=true){vs}(f:(a.map λi=>lv i c)=vs):(sl.map λi=>lv i c)=pick a sl vs:=by
 subst f;unfold pick;apply List.map_congr_left;intro s e;have:=uP.1 d s e;rw[Zk5 (by simpa using this)]
section
variable {Y:YP}
theorem Zup{n:Nat}(sl:List Nat){a:St}{l:List Code}{Q}{vs}(c:l.isEmpty=false)(d:a.env.length=n)(f:(sl.map λi=>lv i a)=vs)(h:TriL Y l ⟨mk n (sl.zip vs),[],a.h⟩ Q):TriL Y l a Q:=
 QM (λe=>by rw[e]at c;cases c) d f rfl h
def XE(Y:YP)(n:Nat)(a sl:List Nat)(I:Nat->List V->Heap->Prop)(m e:Nat)(r:List Code)(Q:Out->St->Prop)(o:Out)(len:Nat)(c:List V)(h:Heap):Prop:=
 match o with
 | .normal=>len=n/\ ∃d,d<m/\I d (pick a sl c) h
 | .exit j=>if j=e then len=n/\ ∃sl':List Nat,sl'.all a.contains=true/\TriL Y r ⟨mk n (sl'.zip (pick a sl' c)),[],h⟩ Q else AtV a Q (.exit j) len c h
 | .ret=>AtV a Q .ret len c h
theorem ZN{n:Nat}(sl e:List Nat){g:St}{l:List Code}{Q:Out->St->Prop}(I:Nat->List V->Heap->Prop)(z:Nat)(D:g.env.length=n)
  (E:I z (sl.map λi=>lv i g) g.h)
  (round: ∀m y h,I m y h->TriL Y (flat (Zx l)) ⟨mk n (sl.zip y),[],h⟩ (VQ e (XE Y n e sl I m (Xd l) (l.drop 1) Q))) (f:sl.all e.contains=true:=by rfl) (F:Zpu l=true:=by kernel_rfl):TriL Y l g Q:=by
 obtain⟨v,x⟩:=Zk3 F;rw[v];refine QC (Zd1 (λm k=>k.env.length=n/\I m (sl.map λi=>lv i k) k.h) (n:=z) ⟨D,E⟩ ?_);rintro m k ⟨w,B⟩;have hr:=XP (c:=Zx l) (r:= []) (by rw[qi];exact round m _ _ B);refine(Zbq w rfl rfl hr).mono ?_;intro o a d
 cases o with
 |normal=>
  obtain⟨v,C,x,u⟩:=d;exact⟨C,x,v,by rw[Jt f rfl];exact u⟩
 |exit j=>
  have d:XE Y n e sl I m (Xd l) (l.drop 1) Q (.exit j) a.env.length (e.map λi=>lv i a) a.h:=d;simp only[XE]at d;by_cases t:j=Xd l
  .rw[uF t]at d;simp only[uF t];obtain⟨u,sl',A,G⟩:=d;exact QM x u (Jt A rfl) rfl G
  .rw[uE t]at d;simp only[uE t];exact d a rfl rfl rfl
 |ret=>exact d a rfl rfl rfl
theorem Zj{n:Nat}{a sl:List Nat}{I:Nat->List V->Heap->Prop}{m c j:Nat}{r:List Code}{Q:Out->St->Prop}{len:Nat}{d:List V}{h:Heap}(sl':List Nat)
  (g:TriL Y r ⟨mk n (sl'.zip (pick a sl' d)),[],h⟩ Q) (e:j=c:=by kernel_rfl) (k:len=n:=by rfl) (f:sl'.all a.contains=true:=by rfl):XE Y n a sl I m c r Q (.exit j) len d h:=by
 simp only[XE];rw[uF e];exact⟨k,sl',f,g⟩
def Zi2:List Code->Bool
 | [.block _ (.loop _)]=>true
 |_=>false
theorem Zhd{l:List Code}(h:Zi2 l=true):l= [.block (Xd l) (.loop (Zx l))]:=by
 unfold Zi2 at h;split at h
 .rfl
 .cases h
def Zhe(n:Nat)(c sl:List Nat)(I:Nat->List V->Heap->Prop)(m e:Nat)(Q:Out->St->Prop)(o:Out)(len:Nat)(a:List V)(h:Heap):Prop:=
 match o with
 | .normal=>len=n/\ ∃d,d<m/\I d (pick c sl a) h
 | .exit j=>if j=e then AtV c Q .normal len a h else AtV c Q (.exit j) len a h
 | .ret=>AtV c Q .ret len a h
theorem Zfa{n:Nat}(sl e:List Nat){g:St}{l:List Code}{Q:Out->St->Prop}(I:Nat->List V->Heap->Prop)(w:Nat)(A:g.env.length=n)
  (B:I w (sl.map λi=>lv i g) g.h)
  (round: ∀m v h,I m v h->TriL Y (flat (Zx l)) ⟨mk n (sl.zip v),[],h⟩ (VQ e (Zhe n e sl I m (Xd l) Q))) (f:sl.all e.contains=true:=by rfl) (C:Zi2 l=true:=by kernel_rfl):TriL Y l g Q:=by
 rw[Zhd C];refine QC (Zd1 (λm k=>k.env.length=n/\I m (sl.map λi=>lv i k) k.h) (n:=w) ⟨A,B⟩ ?_);rintro m k ⟨u,x⟩;have hr:=XP (c:=Zx l) (r:= []) (by rw[qi];exact round m _ _ x);refine(Zbq u rfl rfl hr).mono ?_;intro o a d
 cases o with
 |normal=>
  obtain⟨D,z,E,y⟩:=d;exact⟨z,E,D,by rw[Jt f rfl];exact y⟩
 |exit j=>
  have d:Zhe n e sl I m (Xd l) Q (.exit j) a.env.length (e.map λi=>lv i a) a.h:=d;simp only[Zhe]at d;by_cases t:j=Xd l
  .rw[uF t]at d;simp only[uF t];exact d a rfl rfl rfl
  .rw[uE t]at d;simp only[uE t];exact d a rfl rfl rfl
 |ret=>exact d a rfl rfl rfl
def Zdx(Y:YP)(n:Nat)(a:List Nat)(d:Nat)(r:List Code)(Q:Out->St->Prop)(o:Out)(len:Nat)(c:List V)(h:Heap):Prop:=
 match o with
 | .normal=>len=n/\ ∃sl':List Nat,sl'.all a.contains=true/\TriL Y r ⟨mk n (sl'.zip (pick a sl' c)),[],h⟩ Q
 | .exit j=>if j=d then len=n/\ ∃sl':List Nat,sl'.all a.contains=true/\TriL Y r ⟨mk n (sl'.zip (pick a sl' c)),[],h⟩ Q else AtV a Q (.exit j) len c h
 | .ret=>AtV a Q .ret len c h
theorem QZ{n:Nat}(g:List Nat){t:St}{l:List Code}{Q:Out->St->Prop}(w:Znq l=true)
  (h:TriL Y (flat (ZL l)) t (VQ g (Zdx Y n g (JU l) (l.drop 1) Q))):TriL Y l t Q:=by
 obtain⟨x,u⟩:=Zrx w;rw[x];have v:=XP (c:=ZL l) (r:= []) (by rw[qi];exact h);refine QC (Tri.mono v ?_);intro o d a
 cases o with
 |normal=>obtain⟨f,sl',m,k⟩:=a;exact QM u f (Jt m rfl) rfl k
 |ret=>exact a d rfl rfl rfl
 |exit j=>
  have a:Zdx Y n g (JU l) (l.drop 1) Q (.exit j) _ _ _:=a;simp only[Zdx]at a;by_cases e:j=JU l
  .rw[uF e]at a;simp only[uF e];obtain⟨f,sl',m,k⟩:=a;exact QM u f (Jt m rfl) rfl k
  .rw[uE e]at a;simp only[uE e];exact a d rfl rfl rfl
theorem Zrz{n:Nat}{a:List Nat}{c j:Nat}{r:List Code}{Q:Out->St->Prop}{len:Nat}{d:List V}{h:Heap}(sl':List Nat)(e:j=c)(k:len=n)(f:sl'.all a.contains=true)
  (g:TriL Y r ⟨mk n (sl'.zip (pick a sl' d)),[],h⟩ Q):Zdx Y n a c r Q (.exit j) len d h:=by
 simp only[Zdx];rw[uF e];exact⟨k,sl',f,g⟩
theorem ZU{n:Nat}{c sl:List Nat}{K:KT}{o:Out}{vs}{h}(d:sl.all c.contains=true)(e:K o n (pick c sl vs) h):AtV c (VQ sl K) o n vs h:=by
 rintro a rfl f rfl;show K o a.env.length (sl.map λi=>lv i a) a.h;rw[Jt d f];exact e
def Two(a:List Nat)(d:List V)(e:List Nat)(c:List V):Prop:= ∃f:St,(a.map λi=>lv i f)=d/\(e.map λi=>lv i f)=c
theorem Zi3{a c sl:List Nat}{vs1 vs2}(f:Two a vs1 c vs2)(e:sl.all a.contains=true)(h:sl.all c.contains=true):pick c sl vs2=pick a sl vs1:=by
 obtain⟨j,g,d⟩:=f;rw[<-Jt e g,<-Jt h d]
theorem ZD1(j:YOK Y){loc:Nat->Bool}(fuel:Nat)(a){d}{f}{l}{K:KT}(h:Zc Y loc fuel l f (VQ a λo n g h=> ∀c,Two a g d c->K o n c h)):TriL Y l f (VQ d K):=
 (Zbp j _ _ _ _ h).mono λ_ e k=>k _ ⟨e,rfl,rfl⟩
theorem Zuq{n:Nat}{a d}{K:KT}{o:Out}{vs}{h}(e: ∀c,Two a vs d c->K o n c h):AtV a (VQ d K) o n vs h:=by
 rintro f rfl g rfl;exact e _ ⟨f,g,rfl⟩
theorem Zi4{n:Nat}{a d sl:List Nat}{I:Nat->List V->Heap->Prop}{m l:Nat}{r:List Code}{Q:Out->St->Prop}{len:Nat}{vs vs2}{h:Heap}(e:Two a vs d vs2)(j:sl.all a.contains=true)(o:sl.all d.contains=true)(k:len=n)(c:Nat)(g:c<m)
  (f:I c (pick a sl vs) h):XE Y n d sl I m l r Q .normal len vs2 h:=⟨k,c,g,by rw[Zi3 e j o];exact f⟩
theorem Vk{n:Nat}{a d sl:List Nat}{I:Nat->List V->Heap->Prop}{m f j:Nat}{r:List Code}{Q:Out->St->Prop}{len:Nat}{vs vs2}{h:Heap}(sl':List Nat)(o:Two a vs d vs2)(k:j=f)(l:len=n)(c:sl'.all a.contains=true)(e:sl'.all d.contains=true)
  (g:TriL Y r ⟨mk n (sl'.zip (pick a sl' vs)),[],h⟩ Q):XE Y n d sl I m f r Q (.exit j) len vs2 h:=
 Zj sl' (by rw[Zi3 o c e];exact g) k l e
end
theorem ZZ{Y}{fn}{a:List Nat}{P}{o:Out}{n:Nat}{vs}{h}{v}(c:o= .normal\/o= .ret)(d:resV Y fn (a.zip vs)=some v)(hp:P v h):AtV a (FinS Y fn P) o n vs h:=
 Zk1 ⟨c,v,d,hp⟩
def Wk0(v v':V):Prop:=v=v'\/(∃c k d,v= .sl none 0 c k/\v'= .ts [] 0 d/\ ∀x,d=some x->x=0)\/ ∃a n c,v= .ts a n c/\v'= .ts a n none
inductive WkL:List V->List V->Prop
 |nil:WkL [] []
 |cons (v v':V) (l l':List V) (h:Wk0 v v') (hl:WkL l l'):WkL (v::l) (v'::l')
def Wk(v d:V):Prop:=Wk0 v d\/ ∃c a,v= .lb c/\d= .lb a/\WkL c a
theorem Wk0.refl(v):Wk0 v v:= .inl rfl
theorem Wk.refl(v):Wk v v:= .inl (.inl rfl)
theorem Wk0.vr{W}{v v'}(h:Wk0 v v'){u:Value}(r:VR W v u):VR W v' u:=by
 rcases h with rfl|⟨c,k,t,rfl,rfl,f⟩|⟨o,n,c,rfl,rfl⟩
 .exact r
 .cases r;exact .tsz _ f
 .cases r with
  |tsn _ _ a d g f=>exact .tsn _ _ a d g (λc h=>by cases h)
  |tsz _ f=>exact .tsz _ (λc h=>by cases h)
  |ts _ _ _ d blk off c e fr m g j l f hr=>exact .ts _ _ _ d blk off c e fr m g (λc h=>by cases h) l f hr
theorem WkL.vr{W} : ∀ {l l'} {a:List Value},WkL l l'->VRs W l a->VRs W l' a
 |_,_,_, .nil,r=>by cases r;exact .nil
 |_,_,_, .cons _ _ _ _ h d,r=>by cases r with|cons _ _ _ _ c e=>exact .cons _ _ _ _ (h.vr c) (d.vr e)
inductive WkA:List V->List V->Prop
 |nil:WkA [] []
 |one (v v':V) (l l':List V) (h:Wk0 v v') (hl:WkA l l'):WkA (v::l) (v'::l')
 |agg (cs cs' l l':List V) (h:WkL cs cs') (hl:WkA l l'):WkA (.agg cs::l) (.agg cs'::l')
theorem WkA.vr{W} : ∀ {l l'} {e:List Value},WkA l l'->VRs W l e->VRs W l' e
 |_,_,_, .nil,r=>by cases r;exact .nil
 |_,_,_, .one _ _ _ _ h c,r=>by cases r with|cons _ _ _ _ a d=>exact .cons _ _ _ _ (h.vr a) (c.vr d)
 |_,_,_, .agg _ _ _ _ h c,r=>by cases r with|cons _ _ _ _ a d=>cases a with|agg _ _ a=>exact .cons _ _ _ _ (.agg _ _ (h.vr a)) (c.vr d)
theorem PCon.wk{Y}{f:FuncId}{args args'}{P:V->Prop}(d:WkA args args')(h:PCon Y f args' P):PCon Y f args P:=
 ⟨h.body,λW w c a e g=>h.tr W w c a e (d.vr g)⟩
theorem WkL.refl: ∀l:List V,WkL l l
 | []=> .nil
 |v::l=> .cons _ _ _ _ (.refl v) (WkL.refl l)
inductive WkE:List V->List V->Prop
 |nil:WkE [] []
 |cons (v v':V) (l l':List V) (h:Wk v v') (hl:WkE l l'):WkE (v::l) (v'::l')
theorem WkE.refl: ∀l:List V,WkE l l
 | []=> .nil
 |v::l=> .cons _ _ _ _ (.refl v) (WkE.refl l)
theorem WkE.length: ∀ {l a:List V},WkE l a->l.length=a.length
 |_,_, .nil=>rfl
 |_,_, .cons _ _ _ _ _ c=>by simp[c.length]
theorem WkE.get: ∀ {l a:List V},WkE l a-> ∀ {t:Nat} {v':V},a[t]? =some v'-> ∃v,l[t]? =some v/\Wk v v'
 |_,_, .nil,t,v',h=>by simp at h
 |_,_, .cons v v1 l a d c,0,v',h=>by simp at h;subst h;exact⟨v,rfl,d⟩
 |_,_, .cons v v1 l a d c,t+1,v',h=>by simp at h;simpa using c.get h
theorem WkE.set: ∀ {l c:List V} (t:Nat) {v d:V},WkE l c->Wk v d->WkE (l.set t v) (c.set t d)
 |_,_,_,_,_, .nil,_=> .nil
 |_,_,0,_,_, .cons _ _ _ _ _ a,h=> .cons _ _ _ _ h a
 |_,_,t+1,_,_, .cons _ _ _ _ e a,h=> .cons _ _ _ _ e (a.set t h)
theorem WkE.mk{n:Nat} : ∀(sl:List Nat) {a vs'},WkE a vs'->WkE (mk n (sl.zip a)) (mk n (sl.zip vs')):=by
 intro sl a vs' h;have d: ∀(sl:List Nat) {a vs':List V} {e e':List V},WkE a vs'->WkE e e'->WkE ((sl.zip a).foldl (λe p=>e.set p.1 p.2) e) ((sl.zip vs').foldl (λe p=>e.set p.1 p.2) e'):=by
  intro sl
  induction sl with
  |nil=>intro a vs' e e' _ c;simpa using c
  |cons s sl f=>
   intro a vs' e e' h c
   cases h with
   |nil=>simpa using c
   |cons v m l k j g=>simp only[List.zip_cons_cons,uR];exact f g (c.set s j)
 exact d sl h (.refl _)
theorem Zur{Y}{e e'}{h:Heap}{c:Code}{Q}(x:WkE e e')(r:Tri Y c ⟨e',[],h⟩ Q):Tri Y c ⟨e,[],h⟩ Q:=by
 intro W a w W0 own0 w0 hr F;have d: ∀t b,QJ ⟨e',[],h⟩ a t b->QJ ⟨e,[],h⟩ a t b:=by
  rintro t b ⟨⟨B,f⟩,o⟩;obtain⟨v,l,g⟩:=x.get f;rcases g with (rfl|⟨_,_,_,_,j,_⟩|⟨_,_,_,_,j⟩)|⟨y,_,rfl,_,_⟩
  .exact⟨⟨B,l⟩,o⟩
  .cases j
  .cases j
  .exact⟨⟨y,l⟩,o⟩
 have C:Rel W ⟨e',[],h⟩ a w:=by
  refine⟨hr.heap,by rw[hr.size];exact x.length,λt v r=> ?_,λt X b f o=>hr.box t X b (d _ _ f) (d _ _ o),λ_ _ _ P=>by simp at P,hr.defers⟩;obtain⟨E,l,g⟩:=x.get r;obtain⟨u,j,m⟩:=hr.env t E l;refine⟨u,j,?_⟩;rcases g with g|⟨B,G,rfl,rfl,H⟩
  .rcases g with rfl|g
   .exact m
   .have D:=Wk0.vr (v:=E) (v':=v) (.inr g) (W:=W) (u:=u);rcases g with ⟨c,k,c',rfl,rfl,Z⟩|⟨B,n,c,rfl,rfl⟩
    .exact D m
    .exact D m
  .obtain⟨b,K,N,O,z,L,A⟩:=m;exact⟨b,K,N,O,z,H.vr L,A⟩
 exact r W a w W0 own0 w0 C (F.weaken λb z=>by
  rcases z with f|⟨t,f⟩|f
  .exact .inl f
  .exact .inr (.inl ⟨t,d _ _ f⟩)
  .exact .inr (.inr f))
theorem ZD2{Y:YP}{n:Nat}(sl:List Nat){a:St}{l:List Code}{Q:Out->St->Prop}{vs}(vs')(d:l.isEmpty=false)(f:a.env.length=n)(g:(sl.map λi=>lv i a)=vs)(e:WkE vs vs')
  (h:TriL Y l ⟨mk n (sl.zip vs'),[],a.h⟩ Q):TriL Y l a Q:=by
 refine Zup sl d f g ?_
 match l,d,h with
 |c::r,_,h=>exact Zur (e.mk sl) h
section
variable {Y:YP}
def Zdp(Y:YP)(n:Nat)(a sl:List Nat)(I:Nat->List V->Heap->Prop)(m e:Nat)(r:List Code)(Q:Out->St->Prop)(o:Out)(len:Nat)(c:List V)(h:Heap):Prop:=
 match o with
 | .normal=>len=n/\ ∃d,d<m/\ ∃vs',WkE (pick a sl c) vs'/\I d vs' h
 | .exit j=>if j=e then len=n/\ ∃sl':List Nat,sl'.all a.contains=true/\TriL Y r ⟨mk n (sl'.zip (pick a sl' c)),[],h⟩ Q else AtV a Q (.exit j) len c h
 | .ret=>AtV a Q .ret len c h
theorem ZOv{n:Nat}(sl e:List Nat){g:St}{l:List Code}{Q:Out->St->Prop}(f:sl.all e.contains=true)(D:Zpu l=true)(I:Nat->List V->Heap->Prop)(B:Nat)(K:g.env.length=n)
  (E: ∃vs',WkE (sl.map λi=>lv i g) vs'/\I B vs' g.h)
  (round: ∀m A h,I m A h->TriL Y (flat (Zx l)) ⟨mk n (sl.zip A),[],h⟩ (VQ e (Zdp Y n e sl I m (Xd l) (l.drop 1) Q))):TriL Y l g Q:=by
 obtain⟨x,z⟩:=Zk3 D;rw[x];refine QC (Zd1 (λm k=>k.env.length=n/\ ∃vs',WkE (sl.map λi=>lv i k) vs'/\I m vs' k.h) (n:=B) ⟨K,E⟩ ?_);rintro m k ⟨v,vs',C,G⟩;have hr:=XP (c:=Zx l) (r:= []) (by rw[qi];exact round m _ _ G);refine(Zbq v rfl rfl (Zur (C.mk sl) hr)).mono ?_;intro o a d
 cases o with
 |normal=>
  obtain⟨x,H,z,u,w,y⟩:=d;exact⟨H,z,x,u,by rw[Jt f rfl];exact w,y⟩
 |exit j=>
  have d:Zdp Y n e sl I m (Xd l) (l.drop 1) Q (.exit j) a.env.length (e.map λi=>lv i a) a.h:=d;simp only[Zdp]at d;by_cases t:j=Xd l
  .rw[uF t]at d;simp only[uF t];obtain⟨w,sl',y,F⟩:=d;exact QM z w (Jt y rfl) rfl F
  .rw[uE t]at d;simp only[uE t];exact d a rfl rfl rfl
 |ret=>exact d a rfl rfl rfl
theorem Zns{n:Nat}{a sl:List Nat}{I:Nat->List V->Heap->Prop}{m c j:Nat}{r:List Code}{Q:Out->St->Prop}{len:Nat}{d:List V}{h:Heap}(sl':List Nat)(e:j=c)(k:len=n)(f:sl'.all a.contains=true)
  (g:TriL Y r ⟨mk n (sl'.zip (pick a sl' d)),[],h⟩ Q):Zdp Y n a sl I m c r Q (.exit j) len d h:=by
 simp only[Zdp];rw[uF e];exact⟨k,sl',f,g⟩
end
structure Span where
 lo:Int
 hi:Int
 deriving DecidableEq,Inhabited
structure Glob where
 k:Int
 b:Int
 sp:List Span
 deriving DecidableEq,Inhabited
abbrev encS(x:Span):List V:= [.i .u8 x.lo, .i .u8 x.hi]
abbrev encG(x:Glob):List V:= [I x.k, .i .u8 x.b,lst encS x.sp]
theorem VO(x:Span):(encS x).length=2:=rfl
theorem VP(x:Glob):(encG x).length=3:=rfl
def Zbt(s:List UInt8)(i:Nat)(b:Bool):Int×Nat×Bool:=match s[i]? with
 |some c=>(c.toNat,i+1,b)
 |none=>(0,i,true)
def endS(s:List UInt8)(i:Nat):Except Nat (Int×Nat):=match s[i]? with
 |none=> .error i
 |some c=>if c=93\/c=45 then .error i else if c=92 then match s[i+1]? with
   |none=> .error (i+1)
   |some d=> .ok (d.toNat,i+2)
  else .ok (c.toNat,i+1)
def XS(s:List UInt8)(i:Nat):Except Nat (Span×Nat):=match endS s i with
 | .error e=> .error e
 | .ok (a,j)=>if s[j]? =some 45 then match endS s (j+1) with
   | .error e=> .error e
   | .ok (c,k)=>if c<a then .error (k-1)else .ok (⟨a,c⟩,k)
  else .ok (⟨a,a⟩,j)
def setS:Nat->List UInt8->Nat->List Span->Except Nat (List Span×Nat)
 |0,_,i,_=> .error i
 |n+1,s,i,a=>if a≠ []/\s[i]? =some 93 then .ok (a,i+1)else match XS s i with
  | .error e=> .error e
  | .ok (x,j)=>setS n s j (a++ [x])
def Xx(s:List UInt8)(i:Nat):Except Nat (Glob×Nat):=match s[i]? with
 |none=> .error i
 |some c=>if c=42 then .ok (⟨2,0,[]⟩,i+1)else if c=63 then .ok (⟨1,0,[]⟩,i+1) else
  if c=91 then match setS (s.length+1) s (i+1) [] with
   | .error e=> .error e
   | .ok (l,j)=> .ok (⟨3,0,l⟩,j)
  else if c=92 then match s[i+1]? with
   |none=> .error (i+1)
   |some d=> .ok (⟨0,d.toNat,[]⟩,i+2)
  else .ok (⟨0,c.toNat,[]⟩,i+1)
def Qn:Nat->List UInt8->Nat->List Glob->Except Nat (List Glob)
 |0,_,i,_=> .error i
 |n+1,s,i,a=>if i<s.length then match Xx s i with
   | .error e=> .error e
   | .ok (x,j)=>Qn n s j (a++ [x])
  else .ok a
theorem Vl{s:List UInt8}{i:Nat}{c:Int}{j:Nat}(h:endS s i= .ok (c,j)):i<j/\j<=s.length/\j<=i+2:=by
 unfold endS at h;split at h
 .cases h
 .rename_i c1 a;have g:=(qb.1 a).1;split at h
  .cases h
  .split at h
   .split at h
    .cases h
    .rename_i d f;have e:=(qb.1 f).1;cases h;omega
   .cases h;omega
theorem Zi5{s:List UInt8}{i:Nat}{x:Span}{j:Nat}(h:XS s i= .ok (x,j)):i<j/\j<=s.length:=by
 unfold XS at h;split at h
 .cases h
 .rename_i e k a;have:=Vl a;split at h
  .split at h
   .cases h
   .rename_i d f c;have:=Vl c;split at h
    .cases h
    .cases h;omega
  .cases h;omega
theorem Zay{s:List UInt8} : ∀ {n i:Nat} {a l:List Span} {j:Nat},setS n s i a= .ok (l,j)->i<j/\j<=s.length
 |0,_,_,_,_,h=>by cases h
 |n+1,i,a,l,j,h=>by
  simp only[setS]at h;split at h
  .rename_i c;have:=(qb.1 c.2).1;cases h;omega
  .split at h
   .cases h
   .rename_i x k d;have e:=Zi5 d;have f:=Zay h;omega
theorem Zfb{s:List UInt8}{i:Nat}{x:Glob}{j:Nat}(h:Xx s i= .ok (x,j)):i<j/\j<=s.length:=by
 unfold Xx at h;split at h
 .cases h
 .rename_i c e;have f:=(qb.1 e).1;split at h
  .cases h;omega
  .split at h
   .cases h;omega
   .split at h
    .split at h
     .cases h
     .rename_i l k a;have:=Zay a;cases h;omega
    .split at h
     .split at h
      .cases h
      .rename_i d a;have:=(qb.1 a).1;cases h;omega
     .cases h;omega
abbrev encI(n:Int):List V:= [I n]
theorem Zi6(n:Int):(encI n).length=1:=rfl
theorem ZD3{d:Type}(f:d->V)(l:List d):row (λa=> [f a]) l=l.map f:=by
 induction l with
 |nil=>rfl
 |cons a l c=>simp only[row,qz,List.flatten_cons]at c ⊢;rw[c];rfl
theorem rowI(l:List Int):row encI l=l.map (.i .i64):=ZD3 _ l
theorem WE(l:List Int):(row encI l).length=l.length:=by rw[rowI];simp
theorem Zd5(l:List Int):Zp (row encI l)=true:=by
 rw[rowI]
 induction l with
 |nil=>rfl
 |cons a l c=>simp only[qz,Zp,c,Bool.and_true];rfl
theorem Zd6(l:List Int)(h):FrzL h (row encI l) (row encI l):=by
 rw[rowI]
 induction l with
 |nil=>exact .nil
 |cons a l c=>exact .cons _ _ _ _ (.i _ _) c
theorem Zr0{p:Nat->Bool}{i:Nat}(h:(List.range i).all p=true)(hp:p i=true):(List.range (i+1)).all p=true:=by
 rw[List.range_succ,List.all_append,h];simp[hp]
theorem Zu{i n:Nat}(h:i<n):(0:Int)<=(i:Nat)/\(i:Int)<(n:Nat):=⟨om,om⟩
theorem Zh{Y}(g:YOK Y){loc:Nat->Bool}{fuel:Nat}(n:Nat){a:List Nat}{f:St}{c:List V}{h:Heap}{l:List Code}{Q:Out->St->Prop}{T:(KT)->Prop}
  (d: ∀K,Zc Y loc fuel (pre l) ⟨c,[],h⟩ (VQ a K)=T K) (e:f=⟨c,[],h⟩) (j:T (PreV Y n a (post l) Q)) (k:(post l).isEmpty=false:=by kernel_rfl):TriL Y l f Q:=by
 refine Xg g (n:=n) (loc:=loc) fuel a k ?_;rw[e,d];exact j
theorem Zn{Y}(g:YOK Y){loc:Nat->Bool}{fuel:Nat}{a:List Nat}{f:St}{c:List V}{h:Heap}{l:List Code}{K:KT}{T:(KT)->Prop}
  (d: ∀K,Zc Y loc fuel l ⟨c,[],h⟩ (VQ a K)=T K) (e:f=⟨c,[],h⟩) (j:T K):TriL Y l f (VQ a K):=by
 refine ZR g (loc:=loc) fuel a ?_;rw[e,d];exact j
theorem Zo{Y}(f:YOK Y){loc:Nat->Bool}{fuel:Nat}{a:List Nat}{σ:St}{c:List V}{h:Heap}{l:List Code}{fn:Func}{P:V->Heap->Prop}{T:(KT)->Prop}
  (d: ∀K,Zc Y loc fuel l ⟨c,[],h⟩ (VQ a K)=T K) (e:σ=⟨c,[],h⟩) (g:T (Fin Y fn a P)):TriL Y l σ (FinS Y fn P):=by
 refine ZE f (loc:=loc) fuel a ?_;rw[e,d];exact g
theorem Zi7{Y}(r:YOK Y){loc:Nat->Bool}{fuel:Nat}{c e:List Nat}{j:St}{a:List V}{h:Heap}{l:List Code}{K:KT}{T:(KT)->Prop}
  (d: ∀K,Zc Y loc fuel l ⟨a,[],h⟩ (VQ c K)=T K) (g:j=⟨a,[],h⟩) (m:T λo n k h=> ∀f,Two c k e f->K o n f h):TriL Y l j (VQ e K):=by
 refine ZD1 r (loc:=loc) fuel c ?_;rw[g,d];exact m
theorem Zfc{Y:YP}{n:Nat}{a c sl':List Nat}{j:Nat}{r:List Code}{Q:Out->St->Prop}{len:Nat}{vs vs2}{h:Heap}(e:Two a vs c vs2)(g:len=n)(f:sl'.all a.contains=true)(d:sl'.all c.contains=true)
  (hr:TriL Y r ⟨mk n (sl'.zip (pick a sl' vs)),[],h⟩ Q):Zdx Y n c j r Q .normal len vs2 h:=⟨g,sl',d,by rw[Zi3 e f d];exact hr⟩
theorem Zs{h:Heap}{a:Nat}{cs:List V}{wr:Bool}(c:h.get a=some (.arr cs wr))(off n:Nat):Zb h a off n=Zr n (cs.drop off):=by
 simp only[Zb,c]
theorem Zw{Y}(g:YOK Y){f:FuncId}{fn:Func}{args}(j:Xo args=true){P:V->Prop}{a:List Nat}{c:List V}{T:(KT)->Prop}
  (d: ∀K,Zc Y (Y.loc f) 100 (flat (Za fn)) ⟨c,[], .empty⟩ (VQ a K)=T K) (l:args++List.replicate (fn.ntmps-args.length) .undef=c)
  (e:T (Fin Y fn a (λv h=> ∃r,Frz h v r/\P r))) (k:Y.P.funcs[f]? =some fn:=by kernel_rfl) (m:fn.body.isSome=true:=by kernel_rfl):PCon Y f args P:=by
 refine ZG g j ?_ k m;rw[l];refine ZE g (loc:=Y.loc f) 100 a ?_;rw[d];exact e
theorem FrzAL.length{h} : ∀ {l a:List V},FrzAL h l a->l.length=a.length
 |_,_, .nil=>rfl
 |_,_, .cons _ _ _ _ _ c=>by simp[c.length]
theorem FrzAL.get{h} : ∀ {l a:List V},FrzAL h l a-> ∀ {j:Nat} {v':V},a[j]? =some v'-> ∃v,l[j]? =some v/\FrzA h v v'
 |_,_, .nil,j,v',h=>by simp at h
 |_,_, .cons v v1 l a d c,0,v',h=>by simp at h;subst h;exact⟨v,rfl,d⟩
 |_,_, .cons v v1 l a d c,j+1,v',h=>by simp at h;simpa using c.get h
theorem FrzAL.refl{h} : ∀l:List V,FrzAL h l l
 | []=> .nil
 |v::l=> .cons _ _ _ _ (.same v) (FrzAL.refl l)
theorem HRel.cool{W}{h:Heap}{w}(hr:HRel W h w)(D){O:Nat}{cs cs'}{wr:Bool}(k:h.get O=some (.arr cs wr))(x:O∉D)(g:FrzAL (Ve h D) cs cs'):
  HRel (W.frzD D w) ((XO h D).set O (some (.arr cs' wr))) w:=by
 obtain⟨a,C⟩:=hr.frzD D;have l:(XO h D).get O=some (.arr cs wr):=by rw[Xw,uE x];exact k
 refine⟨λj d=> ?_,a.lk,λj=> ?_,λj d=> ?_,a.snap,λj o d=> ?_,a.inj,a.apart,λp hp=>a.tg p hp,a.gl⟩
 .rw[Heap.raw_set];split
  .rfl
  .exact a.kn j d
 .rw[qc];by_cases e:j=O
  .subst e;rw[uF rfl,a.lv j,l];simp
  .rw[uE e];exact a.lv j
 .rw[Heap.raw_set]at d;by_cases e:j=O
  .subst e;exact a.ltg (by rw[l];rfl)
  .rw[uE e]at d;exact a.lt j d
 .rw[qc]at d;by_cases e:j=O
  .subst e;rw[uF rfl]at d;simp only[uB]at d;subst d;obtain⟨c,e,fr,z,n,r,m,B⟩:=hr.obj j _ k;refine⟨c,e,fr,z,n,by rw[<-g.length];exact r,λi E A=> ?_,by rw[<-g.length];exact B⟩;obtain⟨v,t,hz⟩:=g.get A;obtain⟨u,y,f⟩:=m i v t;exact⟨u,y,hz.vr (Fz.of hr D) (Vf hr D) f⟩
  .rw[uE e]at d;exact a.obj j o d
theorem Con.coolR{Y:YP}{f:FuncId}{a:List V}{h:Heap}{Q:V->Heap->Prop}
  (c:Con Y f a h λv g=> ∃(D:List Nat) (O:Nat) (n d:List V) (wr:Bool),g.get O=some (.arr n wr)/\O∉D/\FrzAL (Ve g D) n d/\ ∃j,FrzA (Ve g D) v j/\Q j ((XO g D).set O (some (.arr d wr)))):Con Y f a h Q:=
 ⟨c.body,λW w r hr x=>(c.tr W w r hr x).mono λe E ⟨v,g,C,u,⟨D,O,n,d,wr,B,z,A,j,o,y⟩,t,k,l,m⟩=>
  ⟨j,_,_,u,y,t,k.cool D B z A,o.vr (Fz.of k D) (Vf k D) l,m.trans (k.frzD D).2⟩⟩
theorem HRel.more{W:Vw}{h}{w w':World}(r:HRel W h w){s:Nat->Option Obj}(m: ∀b o,W.snap b=some o->s b=some o)(hz:w.heap.size<=w'.heap.size)
  (l: ∀b,b<w.heap.size->w'.heap[b]? =w.heap[b]?) (n: ∀b o,s b=some o->w'.heap[b]? =some o) (f:Str w w'):
  HRel (W.more w.heap.size s) h w'/\Stp W W.own w (W.more w.heap.size s) (W.more w.heap.size s).own w':=by
 have d:=Zty (w:=w) m;have a:Same w w':=λb o c=>by rw[l b (Zt c)];exact c
 have k: ∀e,W.lv e->(W.mu e).1<w.heap.size:=by
  intro e g;obtain⟨o,j⟩:=r.block g;exact Zt j
 refine⟨⟨r.kn,r.lk,r.lv,r.lt,?_,?_,r.inj,?_,λp hp=>⟨(r.tg p hp).1,(((r.tg p hp).2).same a).mono d (r.tg p hp).1⟩,r.gl.mono d.snap⟩,⟨d,hz,λb c _=>l b c,λb c=> .inl c,?_,f⟩⟩
 .intro b o c;simp only[Vw.more]at c;split at c
  .exact n b o c
  .exact a b o (r.snap b o c)
 .intro e o j;exact((r.obj e o j).same a).mono d (r.known (by simp[j]))
 .intro e g;have:=k e g;simp only[Vw.more];rw[uE om];exact r.apart e g
 .intro b c;simp only[Vw.more]at c;split at c
  .rename_i h1;exact .inr (.inr h1)
  .exact .inl c
theorem Con.ofP{Y}{f:FuncId}{args args'}{h}{P:V->Prop}(D)(t:FrzAL (Ve h D) args args')(p:PCon Y f args' P):Con Y f args h λv n=>P v/\n=XO h D:=
 ⟨p.body,λW w l hr y=>by
  obtain⟨g,F⟩:=hr.frzD D;refine(p.tr (W.frzD D w) w l g.snap g.gl (t.vr (Fz.of hr D) (Vf hr D) y)).mono ?_;rintro e O ⟨r,H,u,B,C,N,k,z,L,E,A,K,d⟩;obtain⟨m,G⟩:=g.more (s:=H.snap) k E A z d;refine⟨r,_,_,u,⟨B,rfl⟩,C,m,K _ ?_,F.trans G⟩;intro b o c;simp only[Vw.more];split
  .exact c
  .rename_i j;rcases L b (by simp[c])with h9'|h9'
   .cases a:(W.frzD D w).snap b with
    |none=>exact absurd a h9'
    |some x=>rw[k b x a]at c;exact c
   .exact absurd h9' j⟩
end Go.Y
namespace Go.Y
open Go.Proofs
set_option maxRecDepth 1000000
set_option maxHeartbeats 0
theorem ZH7{a c h}(K):CP UY 118 (pre (flat (Za Tryz.f118))) (J a c none::Rp 35) h [0,3,9,10,11] K=(K .normal 36 [J a c none,I 0,J a c none,I (c:Int),I 0] h):=kr
theorem ZH8{a f x3 b h}(K):CP UY 118 (flat (Zx (post (flat (Za Tryz.f118))))) (MZ 36 [0,3,9,10,11] [J a f none,I x3,J a f none,I (f:Int),I b]) h [0,3,9,10,11] K=(If (ltI b f) ((0<=b/\b<f)/\ ∃c d e,Zr 1 (List.drop (b.toNat*1) a)=some [J c d e]/\If (ltI (wW (x3+(d:Int))) (0:Int)) False (K .normal 36 [J a f none,I (wW (x3+(d:Int))),J a f none,I (f:Int),I (wW (b+(1:Int)))] h)) (K (.exit 0) 36 [J a f none,I x3,J a f none,I (f:Int),I b] h)):=kr
theorem ZH9{b f x3 h}(K):CP UY 118 (pre ((post (flat (Za Tryz.f118))).drop 1)) (MZ 36 [0,3] [J b f none,I x3]) h [6,25,26,27] K=(Con UY 149 [S0,I x3] h fun(v:V) (g:Heap)=> ∃a c d e,v=S a c d e/\K .normal 36 [S a c d e,J b f none,I (f:Int),I 0] g):=kr
theorem ZIa{d k a6 l6 c6 k6 b h}(K):CP UY 118 (flat (Zx (post ((post (flat (Za Tryz.f118))).drop 1)))) (MZ 36 [6,25,26,27] [S a6 l6 c6 k6,J d k none,I (k:Int),I b]) h [6,25,26,27] K=(If (ltI b k) ((0<=b/\b<k)/\ ∃a c e,Zr 1 (List.drop (b.toNat*1) d)=some [J a c e]/\ ∃f g i j l,Zk UY h 32 32 (S a6 l6 c6 k6) (J a c e)=some (S f g i j,l)/\K .normal 36 [S f g i j,J d k none,I (k:Int),I (wW (b+(1:Int)))] l) (K (.exit 2) 36 [S a6 l6 c6 k6,J d k none,I (k:Int),I b] h)):=kr
theorem ZIb{a6 l6 c6 k6 h}(K):CP UY 118 ((post ((post (flat (Za Tryz.f118))).drop 1)).drop 1) (MZ 36 [6] [S a6 l6 c6 k6]) h [2] K=(K .ret 36 [S a6 l6 c6 k6] h):=kr
theorem ZIc{x1 h}(K):CP UY 149 (flat (Za Tryz.f149)) (S0::I x1::Rp 25) h [4] K=(If (ltI x1 0) False (If (ltI 0 (wW (x1-wW ((↑(0:Nat):Int)-(↑(0:Nat):Int))))) (∃a b c d,Zbd UY 31 (S0) none (some (I (↑(0:Nat):Int))) none=some (S a b c d)/\ ∃e f g i j l,Zk UY h 32 3 (S a b c d) (I (wW (x1-wW ((↑(0:Nat):Int)-(↑(0:Nat):Int)))))=some (S (some (e,f)) g i j,l)/\j=1/\((0:Int)<=(↑(0:Nat):Int)/\(↑(0:Nat):Int)<=(↑(i.getD g):Int))/\K .ret 27 [S (some (e,f+(0:Nat)*j)) 0 (Option.map (fun(x:Nat)=>x-(0:Nat)) i) j] l) (K .ret 27 [S0] h))):=kr
theorem Zus:UY.kd 32=some (.slice 3):=kr
theorem ty3:UY.ty 3=some ⟨1,8, .int .i64,[I 0]⟩:=kr
theorem Zut(l:List Int)(i:Nat):(row encI l).drop i=row encI (l.drop i):=by rw[rowI,rowI,List.map_drop]
theorem Zk6{c:Type} : ∀(A B C:List c),splice (A++B) A.length C=A++C++B.drop C.length
 | [],B,C=>by
  simp only[qy,qp];cases B<;>simp[splice]
 |a::A,B,C=>by
  simp only[qs,qh,splice];rw[Zk6 A B C,uU]
abbrev Zbu(n:Nat):List Int:=List.replicate n 0
theorem Zuu(n:Nat):(List.replicate n ([I 0]:List V)).flatten=row encI (Zbu n):=by
 induction n with
 |zero=>rfl
 |succ n a=>rw[uZ,List.flatten_cons,a];rfl
theorem ZD4{h:Heap}(n:Nat)(d:n<2 ^ 29):XI UY ⟨[],[],h⟩ ⟨1,8, .int .i64,[I 0]⟩ 3 (I (n:Int))=some (n,row encI (Zbu n)):=by
 have c:UY.kd 3=some (.int .i64):=kr;have a:most=1099511627776:=dc;simp only[XI,c];rw[uF ⟨om,by rw[a];omega,by rw[a,qdq];omega⟩,qdq,Zuu]
theorem Zzd(x:Nat)(g:x<2 ^ 29)(h):Con UY 149 [.sl none 0 (some 0) 0,I (x:Int)] h λv d=>(x=0/\v= .sl none 0 (some 0) 0)\/ ∃c,0<x/\v= .sl (some (c,0)) 0 none 1/\c<d.nx/\d.get c=some (.arr (row encI (Zbu x)) true):=by
 refine Zv UK (fn:=Tryz.f149) ?_;refine Zo UK ZIc rfl ?_;refine Xr (λa=>absurd a om) (λ_=> ?_);have f:wW ((x:Int)-wW (((0:Nat):Int)-((0:Nat):Int)))=(x:Int):=by
  rw[show wW (((0:Nat):Int)-((0:Nat):Int))=0 from dc,Int.sub_zero];exact ZI om om
 rw[f];refine Xr (λa=> ?_) (λa=> ?_)
 .have e:most=1099511627776:=dc;refine⟨none,0,some 0,0,kr,h.nx,0,x,none,1,h.pushT (UY.tag 3) (.arr (row encI (Zbu x)) true),?_,rfl,⟨om,sm⟩,finC rr rfl (.now (.inr ⟨h.nx,om,rfl,sm,sm⟩))⟩;simp only[Zk,Xe,Zus,ty3,ZD4 x g];rw[uE (by simp[Zd5]),uE om,uF ⟨by rw[e];omega,by rw[e];omega⟩]
 .exact finC rr rfl (.now (.inl ⟨om,rfl⟩))
abbrev Zdy(l:List Int):List V:= [lst encI l]
theorem Zk7(l:List Int):(Zdy l).length=1:=rfl
def GrI(h:Heap)(a:Option (Nat×Nat))(n:Nat)(c:Option Nat)(k:Nat)(pre:List Int)(d:Nat):Prop:=
 (d=0/\a=none/\n=0)\/ ∃e,0<d/\a=some (e,0)/\n=pre.length/\c=none/\k=1/\e<h.nx/\h.get e=some (.arr (row encI (pre++Zbu (d-pre.length))) true)
theorem GrI.app{h}{a}{n:Nat}{c}{k:Nat}{pre:List Int}{d:Nat}(x:GrI h a n c k pre d)(e:List Int)(E:pre.length+e.length<=d)(D:d<2 ^ 29):
  ∃w n' o v r,Zk UY h 32 32 (.sl a n c k) (lst encI e)=some (.sl w n' o v,r)/\GrI r w n' o v (pre++e) d:=by
 have z:most=1099511627776:=dc;have m:XI UY ⟨[],[],h⟩ ⟨1,8, .int .i64,[I 0]⟩ 32 (lst encI e)=some (e.length,row encI e):=by
  simp only[lst,XI,Zus,QT,XQ,uY,ZD (WE e).symm,uw]
 rcases x with ⟨rfl,rfl,rfl⟩|⟨g,j,rfl,rfl,rfl,rfl,l,t⟩
 .have f:e= []:=qg om;subst f;refine⟨none,0,some 0,1,h,?_, .inl ⟨rfl,rfl,rfl⟩⟩;simp only[Zk,Xe,Zus,ty3,m]
  rfl
 .by_cases f:e= []
  .subst f;refine⟨some (g,0),pre.length,none,1,h,?_, .inr ⟨g,j,rfl,sm,rfl,rfl,l,by simpa using t⟩⟩;simp only[Zk,Xe,Zus,ty3,m]
   rfl
  .have u:0<e.length:=List.length_pos_iff.2 f;have A: ¬((pre.length+e.length)*8>most\/pre.length+e.length>most):=by rw[z];omega
   have C:0+(pre.length+e.length)*1<=(row encI (pre++Zbu (d-pre.length))).length:=by rw[WE];simp;omega
   have y:splice (row encI (pre++Zbu (d-pre.length))) (0+pre.length*1) (row encI e)=row encI ((pre++e)++Zbu (d-(pre++e).length)):=by
    have B:0+pre.length*1=(row encI pre).length:=by rw[WE];omega
    rw[Xz,B,Zk6,WE,Zut,<-Xz,<-Xz]
    congr 2
    simp;omega
   refine⟨some (g,0),pre.length+e.length,none,1,h.set g (some (.arr (row encI ((pre++e)++Zbu (d-(pre++e).length))) true)),?_, .inr ⟨g,j,rfl,sm,rfl,rfl,by simpa using l,by rw[qc,uF rfl]⟩⟩;simp only[Zk,Xe,Zus,ty3,m,t];rw[uE (by simp[Zd5]),uE dc,uE om,uE A,uF C,uF trivial,y]
theorem Znt(d:List (List Int))(K:d.length<2 ^ 20)(B:d.flatten.length<2 ^ 29)(h):Con UY 118 [lst Zdy d] h λv x=> ∃a n c k,v= .sl a n c k/\GrI x a n c k d.flatten d.flatten.length:=by
 refine Zv UK (fn:=Tryz.f118) ?_;refine Zh UK 36 ZH7 rfl ?_;have part: ∀i,(d.take i).flatten.length<=d.flatten.length:=λi=>by
  conv=>rhs;rw[<-vL i d]
  rw[List.flatten_append,qf];omega
 have step: ∀ {i:Nat} (g:i<d.length),(d.take (i+1)).flatten=(d.take i).flatten++d[i]:=λg=>by
  rw[qa g,List.flatten_append];simp
 refine⟨rfl,ZN [0,3,9,10,11] [0,3,9,10,11] (λm u _=> ∃i:Nat,u= [lst Zdy d,I ((d.take i).flatten.length:Nat),lst Zdy d,I d.length,I (i:Nat)]/\i<=d.length/\m=d.length-i) d.length ZA ⟨0,rfl,om,om⟩ ?_⟩;rintro m u h ⟨i,rfl,L,rfl⟩;refine Zn UK ZH8 rfl ?_;refine Zq (λg=> ?_) (λz=> ?_)
 .have e:wW (((d.take i).flatten.length:Int)+(d[i].length:Nat))=((d.take (i+1)).flatten.length:Nat):=by
   have l:=part (i+1);rw[step g,qf]at l ⊢;rw[ZI om om];omega
  refine⟨Zu g,row encI d[i],d[i].length,none,by rw[qdq];exact Xp (f:=Zdy) (k:=1) Zk7 g,?_⟩;rw[e];refine Xr (λy=>absurd y om) (λ_=> ?_);exact⟨rfl,d.length-(i+1),om,i+1,by rw[Ze om];rfl,om,rfl⟩
 .rw[qt z];refine Zj [0,3] ?_;refine Zh UK 36 ZH9 rfl ?_;refine(Zzd d.flatten.length B h).mono λv x t=> ?_;have t: ∃a n c k,v= .sl a n c k/\GrI x a n c k [] d.flatten.length:=by
   rcases t with ⟨l,w⟩|⟨C,y,l,w,A⟩
   .exact⟨none,0,some 0,0,w, .inl ⟨l,rfl,rfl⟩⟩
   .exact⟨some (C,0),0,none,1,l, .inr ⟨C,y,rfl,rfl,rfl,rfl,w,A⟩⟩
  obtain⟨a,n,c,k,t,o⟩:=t;refine⟨a,n,c,k,t,rfl,ZN [6,25,26,27] [6,25,26,27] (λm u h=> ∃(j:Nat) (a:Option (Nat×Nat)) (n:Nat) (c:Option Nat) (k:Nat),u= [.sl a n c k,lst Zdy d,I d.length,I (j:Nat)]/\j<=d.length/\m=d.length-j/\GrI h a n c k (d.take j).flatten d.flatten.length) d.length ZA ⟨0,a,n,c,k,rfl,om,om,o⟩ ?_⟩;clear o;rintro m u w ⟨j,a,n,c,k,rfl,N,rfl,o⟩;refine Zn UK ZIa rfl ?_;refine Zq (λg=> ?_) (λr=> ?_)
  .have l:=part (j+1);rw[step g,qf]at l;obtain⟨F,n',E,D,A,H,G⟩:=o.app d[j] l B;exact⟨Zu g,row encI d[j],d[j].length,none,by rw[qdq];exact Xp (f:=Zdy) (k:=1) Zk7 g,F,n',E,D,A,H,rfl,d.length-(j+1),om,j+1,F,n',E,D,by rw[Ze om];rfl,om,rfl,by rw[step g];exact G⟩
  .refine Zj [6] ?_;refine Zo UK ZIb rfl ?_;rw[qt r]at o;exact finC rr rfl (.now ⟨a,n,c,k,rfl,o⟩)
end Go.Y
namespace Go.Y
set_option maxRecDepth 1000000
set_option maxHeartbeats 0
structure LX{α:Type}(f:α->List V)(k:Nat)(h:Heap)(a:Option (Nat×Nat))(l:Nat)(c:Option Nat)(kk:Nat)(out:List α):Prop where
 nil:out= []->a=none
 cells:out≠ []-> ∃j,a=some (j,0)∧kk=k∧j<h.nx∧h.get j=some (.arr (row f out) true)∧(c=none∨c=some l)
 len:l=out.length
section
variable {α:Type} {f:α->List V} {k:Nat} {h h':Heap} {a:Option (Nat×Nat)} {l:Nat} {c:Option Nat} {kk:Nat} {out:List α}
theorem LX.start(f:α->List V)(k:Nat)(h:Heap)(c)(kk:Nat):LX f k h none 0 c kk ([]:List α):=⟨λ_=>rfl,λh=>absurd rfl h,rfl⟩
theorem LX.one(f:α->List V)(k:Nat)(h:Heap)(x:α):LX f k (h.push (.arr (f x) true)) (some (h.nx,0)) 1 (some 1) k [x]:=⟨λe=>(by cases e),λ_=>⟨h.nx,rfl,rfl,sm,by simp[row,qk], .inr rfl⟩,rfl⟩
theorem LX.fr(e:LX f k h a l c kk out)(u:h.nx<=h'.nx)(n: ∀j,a=some (j,0)->j<h.nx->h'.get j=h.get j):LX f k h' a l c kk out:=
 ⟨e.nil,λd=>by obtain⟨j,g,t,o,m,r⟩:=e.cells d;exact⟨j,g,t,om,by rw[n j g o,m],r⟩,e.len⟩
theorem LX.app{Y:YP}{st e:TypeId}{te:TI}{new}(x:α)(o:f x=new)(y: ∀x,(f x).length=k)(W:Y.kd st=some (.slice e))(B:Y.ty e=some te)(H:te.size=k)(w:k≠0)(hc:Zp new=true)
  (P:te.bytes<=1024) (G:LX f k h a l c kk out) (hb:out.length<2 ^ 29):
  ∃g t v u h',Zk Y h st st (.sl a l c kk) (.ts new 1 (some 1))=some (.sl g t v u,h')/\LX f k h' g t v u (out++ [x])/\Fr h a h'/\ ∃j,g=some (j,0)/\h.nx<=j:=by
 have hm:most=1099511627776:=dc;have h1:(out.length+1)*te.bytes<=2 ^ 29*1024:=Nat.mul_le_mul om P;have D:new.length=1*k:=by rw[<-o,y,Nat.one_mul]
 have n:row f (out++ [x])=row f out++new:=by rw[Xz,<-o];simp[row]
 have C: ∀ {a l c kk},IsL h k a l c kk (row f out)->l=out.length-> ∃g t v u h',Zk Y h st st (.sl a l c kk) (.ts new 1 (some 1))=some (.sl g t v u,h')/\LX f k h' g t v u (out++ [x])/\Fr h a h'/\ ∃j,g=some (j,0)/\h.nx<=j:=by
  intro a l c kk hI d;obtain⟨g,t,v,u,h',q1,q2,q3,q4,j,q5,q6⟩:=Zbs (Y:=Y) (new:=new) (m:=1) (cap:=some 1) W B H w hI dc (ZD D.symm) hc (by rw[d];omega) om;refine⟨g,t,v,u,h',q1,⟨λE=>by simp at E,λ_=> ?_,by rw[q4,d];simp⟩,q3,j,q5,q6⟩;obtain⟨_,(⟨e,_⟩|⟨K,e1,e2,e3,e4,e5⟩)⟩:=q2
  .rw[q5]at e;cases e
  .exact⟨K,e1,e3,e4,by rw[e5,n], .inl e2⟩
 by_cases r:out= []
 .have ha:=G.nil r;have X:=G.len;subst r ha X;exact C (IsL.nil h k c kk) rfl
 .obtain⟨K,rfl,rfl,Z,hg,z⟩:=G.cells r;have d:=G.len;have hrl:l*kk=(row f out).length:=by rw[Xh y,d]
  rcases z with rfl|rfl
  .exact C ⟨hrl, .inr ⟨K,rfl,rfl,rfl,Z,hg⟩⟩ d
  .refine⟨some (h.nx,0),l+1,none,kk,h.push (.arr (row f out++new) true),?_,⟨λE=>by simp at E,λ_=>⟨h.nx,rfl,rfl,sm,by rw[qk,uF rfl,n], .inl rfl⟩,by simp[d]⟩,⟨sm,λj hj _=>by rw[qk,uE om]⟩,h.nx,rfl,qnq _⟩;have F:XI Y ⟨[],[],h⟩ te st (.ts new 1 (some 1))=some (1,new):=by
    have E:Zr (1*kk) new=some new:=ZD D.symm;simp only[XI,W,QT,XQ,H,E];rfl
   have L: ¬((l+1)*te.bytes>most\/l+1>most):=by rw[d];omega
   have A: ¬(l+1<=l):=om;have N:Zr (l*kk) ((row f out).drop 0)=some (row f out):=by rw[ql];exact ZD hrl
   have O: ¬((1:Nat)=0):=dc;simp only[Zk,Xe,W,B,F,vF,H,ne_eq,not_true_eq_false,O,L,A,Xu,hg,N];rw[uE (by simp[hc,w])]
theorem Je(d: ∀x,Xb (f x)=true): ∀l:List α,Xb (row f l)=true
 | []=>rfl
 |x::l=>by
  have:row f (x::l)=f x++row f l:=rfl;rw[this];exact Jd (d x) (Je d l)
theorem LX.afterZ(r:k≠0)(n: ∀x,(f x).length=k)(e: ∀x,Xb (f x)=true)(o:LX f k h a l c kk out):
  ∃D:List Nat,Frz (Ve h D) (.sl a l c kk) (lst f out)/\(∀j,j∈D->a=some (j,0)):=by
 have d:=o.len;by_cases g:out= []
 .have u:=o.nil g;subst g u d;exact⟨[], .sln _ _ _ (λx m=>by cases m),sm⟩
 .obtain⟨w,rfl,rfl,t,v,_⟩:=o.cells g;subst d;exact⟨[w], .sl _ _ _ _ _ (row f out) true (row f out) _ _ (by rw[QK,uF sm,v]) (by rw[ql];exact ZD (Xh n out).symm) (λx m=>by cases m) r (Xc _ (Je e out)),sm⟩
theorem FrO.kill{d:Nat}{D:List Nat}(f:FrO h d h')(g: ∀j,j∈D->h.nx<=j):FrO h d (XO h' D):=
 ⟨by rw[Qt];exact f.1,λj e n=>by rw[Xw,uE (λm=>by have:=g j m;omega)];exact f.2 j e n⟩
theorem LX.keep{m:Nat}{g:Heap}(r:LX f k h a l c kk out)(d: ∀j,a=some (j,0)->g.nx<=j)(o:m<g.nx)(q:FrO h m h'):LX f k h' a l c kk out:=
 r.fr q.1 λj n e=>q.2 j e (by have:=d j n;omega)
theorem LX.ne{m o:Nat}{r:Heap}(n:LX f k h a l c kk out)(d: ∀j,a=some (j,0)->r.nx<=j)(u:m<r.nx):a≠some (m,o):=by
 intro g;by_cases e:out= []
 .rw[n.nil e]at g;cases g
 .obtain⟨j,t,_⟩:=n.cells e;rw[t]at g;cases g;have:=d m t;omega
theorem LX.frO{v:Nat}{n:Heap}(u:LX f k h a l c kk out)(d: ∀j,a=some (j,0)->n.nx<=j)(g:FrO n v h)(q:Fr h a h'):FrO n v h':=
 ⟨uu g.1 q.1,λj r w=>by
  rw[q.2 j (qv r g.1) (λo m=>by
   by_cases e:out= []
   .rw[u.nil e]at m;cases m
   .obtain⟨x,t,_⟩:=u.cells e;rw[t]at m;cases m;have:=d j t;omega)]
  exact g.2 j r w⟩
end
end Go.Y
namespace Go.Y.Gl
section
variable {has:Nat->UInt8->Bool} {fa fb f:Nat->Nat->Prop} {la lb l fst:Nat->Prop} {RA RB:Nat->Prop} {eb:Prop}
end
def Pow(L:List UInt8->Prop):Nat->List UInt8->Prop
 |0,w=>w= []
 |n+1,w=> ∃w1 a,w=w1++a/\L w1/\Pow L n a
section
variable {has:Nat->UInt8->Bool} {fa f:Nat->Nat->Prop} {la fst:Nat->Prop} {RA:Nat->Prop}
end
end Go.Y.Gl
namespace Go.Y
open Gl
abbrev S4:=Int×Int×Int×Int
inductive Re where
 |mk (kind:Int) (set:S4) (kids:List Re) (lo hi n:Int)
end Go.Y
namespace Go.Y
set_option maxRecDepth 1000000
set_option maxHeartbeats 0
def Zr1(p:Nat->Bool)(k:Nat):Int:=((List.range 64).foldl (fun(n:Nat) b=>if p (64*k+b)then n+2 ^ b else n) 0:Nat)
def ZC(p:Nat->Bool):S4:=(Zr1 p 0,Zr1 p 1,Zr1 p 2,Zr1 p 3)
def ZQ(l:List Span)(c:Nat):Bool:=l.any λx=>decide (x.lo<=(c:Int))&&decide ((c:Int)<=x.hi)
def sevS(kind:Int):List Re->Re
 | []=> .mk 0 (0,0,0,0) [] 0 0 0
 | [r]=>r
 |l=> .mk kind (0,0,0,0) l 0 0 0
def Qk(s:S4):Re:= .mk 1 s [] 0 0 0
def Re.kind:Re->Int
 | .mk k _ _ _ _ _=>k
abbrev PR(a:Type):=Except (Int×Nat) (a×Nat×Nat)
def XU(s:List UInt8)(i:Nat)(a:Int):Except Nat (Int×Nat):=match s[i]? with
 |some c=>if 48<=c.toNat/\c.toNat<=56/\a<=(c.toNat:Int)-48 then .ok ((c.toNat:Int)-48,i+1)else .error i
 |none=> .error i
def Xk(s:List UInt8)(i:Nat):Except Nat (Int×Int×Nat):=match XU s i 0 with
 | .error e=> .error e
 | .ok (a,j)=>if s[j]? =some 44 then
   (if s[j+1]? =some 125 then .ok (a,-1,j+2)else match XU s (j+1) a with
    | .error e=> .error e
    | .ok (c,k)=>if s[k]? =some 125 then .ok (a,c,k+1)else .error k)
  else if s[j]? =some 125 then .ok (a,a,j+1)else .error j
def QN(s:List UInt8)(i:Nat):Except Nat (S4×Nat):=
 let a:=s[i]? =some 94
 let i:=if s[i]? =some 94 then i+1 else i
 match setS (s.length+1) s i [] with
 | .error e=> .error e
 | .ok (l,j)=> .ok (ZC (λc=>ZQ l c !=decide a),j)
def Zi8(c:UInt8):Bool:=c==42||c==43||c==63||c==123
mutual
def altE:Nat->Nat->List UInt8->Nat->Nat->PR Re
 |0,_,_,i,_=> .error (1,i)
 |n+1,d,s,i,g=>match rowE n d s i g [] with
  | .error e=> .error e
  | .ok (r,i,g)=>WF n d s i g [r]
def WF:Nat->Nat->List UInt8->Nat->Nat->List Re->PR Re
 |0,_,_,i,_,_=> .error (1,i)
 |n+1,d,s,i,g,l=>if s[i]? =some 124 then match rowE n d s (i+1) g [] with
   | .error e=> .error e
   | .ok (r,i,g)=>WF n d s i g (l++ [r])
  else .ok (sevS 5 l,i,g)
def rowE:Nat->Nat->List UInt8->Nat->Nat->List Re->PR Re
 |0,_,_,i,_,_=> .error (1,i)
 |n+1,d,s,i,g,l=>match s[i]? with
  |none=> .ok (sevS 4 l,i,g)
  |some c=>if c=124\/c=41 then .ok (sevS 4 l,i,g)else match Qg n d s i g with
   | .error e=> .error e
   | .ok (r,i,g)=>rowE n d s i g (l++ [r])
def Qg:Nat->Nat->List UInt8->Nat->Nat->PR Re
 |0,_,_,i,_=> .error (1,i)
 |n+1,d,s,i,g=>match JV n d s i g with
  | .error e=> .error e
  | .ok (r,i,g)=>match s[i]? with
   |none=> .ok (r,i,g)
   |some c=>if Zi8 c then
     (if r.kind=2\/r.kind=3 then .error (1,i)
     else if c=42 then .ok (.mk 6 (0,0,0,0) [r] 0 (-1) 0,i+1,g)
     else if c=43 then .ok (.mk 6 (0,0,0,0) [r] 1 (-1) 0,i+1,g)
     else if c=63 then .ok (.mk 6 (0,0,0,0) [r] 0 1 0,i+1,g)
     else match Xk s (i+1) with
      | .error e=> .error (1,e)
      | .ok (a,f,j)=> .ok (.mk 6 (0,0,0,0) [r] a f 0,j,g))
    else .ok (r,i,g)
def JV:Nat->Nat->List UInt8->Nat->Nat->PR Re
 |0,_,_,i,_=> .error (1,i)
 |n+1,d,s,i,g=>match s[i]? with
  |none=> .error (1,i)
  |some c=>if Zi8 c then .error (1,i)
   else if c=40 then
    (if 64<=d then .error (8,i)else match altE n (d+1) s (i+1) (g+1) with
     | .error e=> .error e
     | .ok (r,j,a)=>if s[j]? =some 41 then .ok (.mk 7 (0,0,0,0) [r] 0 0 (if g+1<=9 then((g+1:Nat):Int)else 0),j+1,a)else .error (1,j))
   else if c=91 then match QN s (i+1) with
    | .error e=> .error (1,e)
    | .ok (x,j)=> .ok (Qk x,j,g)
   else if c=46 then .ok (Qk (ZC λ_=>true),i+1,g)
   else if c=94 then .ok (.mk 2 (0,0,0,0) [] 0 0 0,i+1,g)
   else if c=36 then .ok (.mk 3 (0,0,0,0) [] 0 0 0,i+1,g)
   else if c=92 then match s[i+1]? with
    |none=> .error (1,i+1)
    |some d=> .ok (Qk (ZC λx=>x==d.toNat),i+2,g)
   else .ok (Qk (ZC λx=>x==c.toNat),i+1,g)
end
def Qz(s:List UInt8):Except (Int×Nat) Re:=
 if 200<s.length then .error (2,200)else match altE (6*s.length+10) 0 s 0 0 with
  | .error e=> .error e
  | .ok (r,i,_)=>if i<s.length then .error (1,i)else .ok r
end Go.Y
