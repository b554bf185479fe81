/- A part of the proof. -/
import Derived.KernelRfl
import Derived.Test.YteennilbmmlikaaGreatDoorYLoop
import Derived.Test.YteennilbmmlikaaGreatDoorYAny3
import Derived.Test.YteennilbmmlikaaGreatDoorYOm
namespace Go.Y
set_option maxRecDepth 1000000
set_option maxHeartbeats 0
def pick(b a:List Nat)(c:List V):List V:=a.map λs=>match Zbw (b.zip c) s with|some v=>v|none=> .undef
theorem Zlr{c} : ∀ {b:List Nat} {s:Nat},s∈b->Zbw (b.zip (b.map λi=>lv i c)) s=some (lv s c)
 |x::r,s,h=>by
  simp only[qz,List.zip_cons_cons,Zbw];by_cases a:x=s;rw[uF a,a]
  .rw[uE a];exact Zlr (by rcases qu.1 h with h|h;exact absurd h.symm a;exact h)
theorem Jr{c}{b a:List Nat}(e:a.all b.contains=true){vs}(f:(b.map λi=>lv i c)=vs):(a.map λi=>lv i c)=pick b a vs:=by
 subst f;unfold pick;apply List.map_congr_left;intro s d;have:=uP.1 e s d;rw[Zlr (su this)]
section
variable {Y:YP}
theorem Zvo{n:Nat}(c:List Nat){a:St}{l:List Code}{Q}{vs}(b:l.isEmpty=false)(d:a.env.length=n)(f:(c.map λi=>lv i a)=vs)(h:TriL Y l ⟨mk n (c.zip vs),[],a.h⟩ Q):TriL Y l a Q:=
 QM (λe=>by rw[e]at b;cases b) d f rfl h
def XF(Y:YP)(n:Nat)(b f:List Nat)(I:Nat->List V->Heap->Prop)(m e:Nat)(r:List Code)(Q:Out->St->Prop)(o:Out)(a:Nat)(c:List V)(h:Heap):Prop:=
 match o with
 | .normal=>a=n/\ ∃d,d<m/\I d (pick b f c) h
 | .exit j=>if j=e then a=n/\ ∃sl':List Nat,sl'.all b.contains=true/\TriL Y r ⟨mk n (sl'.zip (pick b sl' c)),[],h⟩ Q else AtV b Q (.exit j) a c h
 | .ret=>AtV b Q .ret a c h
theorem ZM{n:Nat}(e g:List Nat){p:St}{l:List Code}{Q:Out->St->Prop}(I:Nat->List V->Heap->Prop)(w:Nat)(D:p.env.length=n)
  (y:I w (e.map λi=>lv i p) p.h)
  (d: ∀m x h,I m x h->TriL Y (flat (Zw l)) ⟨mk n (e.zip x),[],h⟩ (VQ g (XF Y n g e I m (Xb l) (l.drop 1) Q))) (f:e.all g.contains=true:=by rfl) (C:Zqf l=true:=by kernel_rfl):TriL Y l p Q:=by
 obtain⟨s,t⟩:=Zlp C;rw[s];refine QB (Zee (λm q=>q.env.length=n/\I m (e.map λi=>lv i q) q.h) (n:=w) ⟨D,y⟩ ?_);rintro m q ⟨v,B⟩;have E:=XQ (c:=Zw l) (r:= []) (by rw[qi];exact d m _ _ B);refine(Zbv v rfl rfl E).mono ?_;intro o a b
 cases o with
 |normal=>
  obtain⟨s,F,t,u⟩:=b;exact⟨F,t,s,by rw[Jr f rfl];exact u⟩
 |exit j=>
  have b:XF Y n g e I m (Xb l) (l.drop 1) Q (.exit j) a.env.length (g.map λi=>lv i a) a.h:=b;simp only[XF]at b;by_cases k:j=Xb l;rw[uF k]at b;simp only[uF k];obtain⟨u,sl',z,A⟩:=b;exact QM t u (Jr z rfl) rfl A;rw[uE k]at b;simp only[uE k];exact b a rfl rfl rfl
 |ret=>exact b a rfl rfl rfl
theorem Zj{n:Nat}{b k:List Nat}{I:Nat->List V->Heap->Prop}{m c j:Nat}{r:List Code}{Q:Out->St->Prop}{a:Nat}{d:List V}{h:Heap}(sl':List Nat)
  (i:TriL Y r ⟨mk n (sl'.zip (pick b sl' d)),[],h⟩ Q) (e:j=c:=by kernel_rfl) (f:a=n:=by rfl) (g:sl'.all b.contains=true:=by rfl):XF Y n b k I m c r Q (.exit j) a d h:=by
 simp only[XF];rw[uF e];exact⟨f,sl',g,i⟩
def Zjg:List Code->Bool
 | [.block _ (.loop _)]=>true
 |_=>false
theorem Zhm{l:List Code}(h:Zjg l=true):l= [.block (Xb l) (.loop (Zw l))]:=by
 unfold Zjg at h;split at h;rfl;cases h
def Zhn(n:Nat)(b f:List Nat)(I:Nat->List V->Heap->Prop)(m e:Nat)(Q:Out->St->Prop)(o:Out)(a:Nat)(c:List V)(h:Heap):Prop:=
 match o with
 | .normal=>a=n/\ ∃d,d<m/\I d (pick b f c) h
 | .exit j=>if j=e then AtV b Q .normal a c h else AtV b Q (.exit j) a c h
 | .ret=>AtV b Q .ret a c h
theorem Zfo{n:Nat}(e g:List Nat){p:St}{l:List Code}{Q:Out->St->Prop}(I:Nat->List V->Heap->Prop)(t:Nat)(B:p.env.length=n)
  (v:I t (e.map λi=>lv i p) p.h)
  (d: ∀m u h,I m u h->TriL Y (flat (Zw l)) ⟨mk n (e.zip u),[],h⟩ (VQ g (Zhn n g e I m (Xb l) Q))) (f:e.all g.contains=true:=by rfl) (A:Zjg l=true:=by kernel_rfl):TriL Y l p Q:=by
 rw[Zhm A];refine QB (Zee (λm q=>q.env.length=n/\I m (e.map λi=>lv i q) q.h) (n:=t) ⟨B,v⟩ ?_);rintro m q ⟨s,z⟩;have C:=XQ (c:=Zw l) (r:= []) (by rw[qi];exact d m _ _ z);refine(Zbv s rfl rfl C).mono ?_;intro o a b
 cases o with
 |normal=>
  obtain⟨w,D,x,y⟩:=b;exact⟨D,x,w,by rw[Jr f rfl];exact y⟩
 |exit j=>
  have b:Zhn n g e I m (Xb l) Q (.exit j) a.env.length (g.map λi=>lv i a) a.h:=b;simp only[Zhn]at b;by_cases k:j=Xb l;rw[uF k]at b;simp only[uF k];exact b a rfl rfl rfl;rw[uE k]at b;simp only[uE k];exact b a rfl rfl rfl
 |ret=>exact b a rfl rfl rfl
def Zd6(Y:YP)(n:Nat)(b:List Nat)(d:Nat)(r:List Code)(Q:Out->St->Prop)(o:Out)(a:Nat)(c:List V)(h:Heap):Prop:=
 match o with
 | .normal=>a=n/\ ∃sl':List Nat,sl'.all b.contains=true/\TriL Y r ⟨mk n (sl'.zip (pick b sl' c)),[],h⟩ Q
 | .exit j=>if j=d then a=n/\ ∃sl':List Nat,sl'.all b.contains=true/\TriL Y r ⟨mk n (sl'.zip (pick b sl' c)),[],h⟩ Q else AtV b Q (.exit j) a c h
 | .ret=>AtV b Q .ret a c h
theorem QX{n:Nat}(i:List Nat){m:St}{l:List Code}{Q:Out->St->Prop}(s:Zoi l=true)
  (h:TriL Y (flat (ZK l)) m (VQ i (Zd6 Y n i (JV l) (l.drop 1) Q))):TriL Y l m Q:=by
 obtain⟨p,k⟩:=Zsw s;rw[p];have q:=XQ (c:=ZK l) (r:= []) (by rw[qi];exact h);refine QB (Tri.mono q ?_);intro o b a
 cases o with
 |normal=>obtain⟨e,sl',f,g⟩:=a;exact QM k e (Jr f rfl) rfl g
 |ret=>exact a b rfl rfl rfl
 |exit j=>
  have a:Zd6 Y n i (JV l) (l.drop 1) Q (.exit j) _ _ _:=a;simp only[Zd6]at a;by_cases d:j=JV l;rw[uF d]at a;simp only[uF d];obtain⟨e,sl',f,g⟩:=a;exact QM k e (Jr f rfl) rfl g;rw[uE d]at a;simp only[uE d];exact a b rfl rfl rfl
theorem Zsy{n:Nat}{b:List Nat}{c j:Nat}{r:List Code}{Q:Out->St->Prop}{a:Nat}{d:List V}{h:Heap}(sl':List Nat)(e:j=c)(f:a=n)(g:sl'.all b.contains=true)
  (i:TriL Y r ⟨mk n (sl'.zip (pick b sl' d)),[],h⟩ Q):Zd6 Y n b c r Q (.exit j) a d h:=by
 simp only[Zd6];rw[uF e];exact⟨f,sl',g,i⟩
theorem ZR{n:Nat}{b a:List Nat}{K:KT}{o}{vs}{h}(f:a.all b.contains=true)(e:K o n (pick b a vs) h):AtV b (VQ a K) o n vs h:=by
 rintro c rfl d rfl;show K o c.env.length (a.map λi=>lv i c) c.h;rw[Jr f d];exact e
def Two(a:List Nat)(c:List V)(b:List Nat)(d:List V):Prop:= ∃e:St,(a.map λi=>lv i e)=c/\(b.map λi=>lv i e)=d
theorem Zjh{a b c:List Nat}{vs1 vs2}(h:Two a vs1 b vs2)(f:c.all a.contains=true)(g:c.all b.contains=true):pick b c vs2=pick a c vs1:=by
 obtain⟨i,d,e⟩:=h;rw[<-Jr f d,<-Jr g e]
theorem ZE5(f:YOK Y){loc}(fuel:Nat)(a){b}{e}{l}{K:KT}(h:Zc Y loc fuel l e (VQ a λo n i h=> ∀c,Two a i b c->K o n c h)):TriL Y l e (VQ b K):=
 (Zbu f _ _ _ _ h).mono λ_ d g=>g _ ⟨d,rfl,rfl⟩
theorem Zvp{n:Nat}{a b}{K:KT}{o}{vs}{h}(e: ∀c,Two a vs b c->K o n c h):AtV a (VQ b K) o n vs h:=by
 rintro f rfl d rfl;exact e _ ⟨f,d,rfl⟩
theorem Zji{n:Nat}{a e c:List Nat}{I:Nat->List V->Heap->Prop}{m o:Nat}{r:List Code}{Q:Out->St->Prop}{b:Nat}{vs vs2}{h:Heap}(l:Two a vs e vs2)(f:c.all a.contains=true)(g:c.all e.contains=true)(k:b=n)(d:Nat)(j:d<m)
  (i:I d (pick a c vs) h):XF Y n e c I m o r Q .normal b vs2 h:=⟨k,d,j,by rw[Zjh l f g];exact i⟩
theorem Vo{n:Nat}{a d o:List Nat}{I:Nat->List V->Heap->Prop}{m f j:Nat}{r:List Code}{Q:Out->St->Prop}{b:Nat}{vs vs2}{h:Heap}(sl':List Nat)(g:Two a vs d vs2)(i:j=f)(k:b=n)(c:sl'.all a.contains=true)(e:sl'.all d.contains=true)
  (l:TriL Y r ⟨mk n (sl'.zip (pick a sl' vs)),[],h⟩ Q):XF Y n d o I m f r Q (.exit j) b vs2 h:=
 Zj sl' (by rw[Zjh g c e];exact l) i k e
end
theorem Xc{Y}{a}{b:List Nat}{P}{o:Out}{n:Nat}{vs}{h}{v}(c:o= .normal\/o= .ret)(e:resV Y a (b.zip vs)=some v)(d:P v h):AtV b (FinS Y a P) o n vs h:=
 Zln ⟨c,v,e,d⟩
def Wk0(v v':V):Prop:=v=v'\/(∃c k a,v= .sl none 0 c k/\v'= .ts [] 0 a/\ ∀x,a=some x->x=0)\/ ∃b n c,v= .ts b n c/\v'= .ts b n none
inductive WkL:List V->List V->Prop
 |nil:WkL [] []
 |cons (v v':V) (l l':List V) (h:Wk0 v v') (hl:WkL l l'):WkL (v::l) (v'::l')
def Wk(v c:V):Prop:=Wk0 v c\/ ∃b a,v= .lb b/\c= .lb a/\WkL b a
theorem Wk0.refl(v):Wk0 v v:= .inl rfl
theorem Wk.refl(v):Wk v v:= .inl (.inl rfl)
theorem Wk0.vr{W}{v v'}(h:Wk0 v v'){u}(r:VR W v u):VR W v' u:=by
 rcases h with rfl|⟨c,k,q,rfl,rfl,d⟩|⟨s,n,c,rfl,rfl⟩;exact r;cases r;exact .tsz _ d
 .cases r with
  |tsn _ _ a b g d=>exact .tsn _ _ a b g (λc h=>by cases h)
  |tsz _ d=>exact .tsz _ (λc h=>by cases h)
  |ts _ _ _ b f i c e l p g j o d m=>exact .ts _ _ _ b f i c e l p g (λc h=>by cases h) o d m
theorem WkL.vr{W} : ∀ {l l'} {a:List Value},WkL l l'->VRs W l a->VRs W l' a
 |_,_,_, .nil,r=>by cases r;exact .nil
 |_,_,_, .cons _ _ _ _ h d,r=>by cases r with|cons _ _ _ _ b c=>exact .cons _ _ _ _ (h.vr b) (d.vr c)
inductive WkA:List V->List V->Prop
 |nil:WkA [] []
 |one (v v':V) (l l':List V) (h:Wk0 v v') (hl:WkA l l'):WkA (v::l) (v'::l')
 |agg (cs cs' l l':List V) (h:WkL cs cs') (hl:WkA l l'):WkA (.agg cs::l) (.agg cs'::l')
theorem WkA.vr{W} : ∀ {l l'} {d:List Value},WkA l l'->VRs W l d->VRs W l' d
 |_,_,_, .nil,r=>by cases r;exact .nil
 |_,_,_, .one _ _ _ _ h c,r=>by cases r with|cons _ _ _ _ a b=>exact .cons _ _ _ _ (h.vr a) (c.vr b)
 |_,_,_, .agg _ _ _ _ h c,r=>by cases r with|cons _ _ _ _ a b=>cases a with|agg _ _ a=>exact .cons _ _ _ _ (.agg _ _ (h.vr a)) (c.vr b)
theorem PCon.wk{Y}{f}{args args'}{P:V->Prop}(d:WkA args args')(h:PCon Y f args' P):PCon Y f args P:=
 ⟨h.body,λW w e b a c=>h.tr W w e b a (d.vr c)⟩
theorem WkL.refl: ∀l:List V,WkL l l
 | []=> .nil
 |v::l=> .cons _ _ _ _ (.refl v) (WkL.refl l)
inductive WkE:List V->List V->Prop
 |nil:WkE [] []
 |cons (v v':V) (l l':List V) (h:Wk v v') (hl:WkE l l'):WkE (v::l) (v'::l')
theorem WkE.refl: ∀l:List V,WkE l l
 | []=> .nil
 |v::l=> .cons _ _ _ _ (.refl v) (WkE.refl l)
theorem WkE.length: ∀ {l a:List V},WkE l a->l.length=a.length
 |_,_, .nil=>rfl
 |_,_, .cons _ _ _ _ _ b=>by simp[b.length]
theorem WkE.get: ∀ {l a:List V},WkE l a-> ∀ {t:Nat} {v':V},a[t]? =some v'-> ∃v,l[t]? =some v/\Wk v v'
 |_,_, .nil,t,v',h=>by simp at h
 |_,_, .cons v v1 l a c b,0,v',h=>by simp at h;subst h;exact⟨v,rfl,c⟩
 |_,_, .cons v v1 l a c b,t+1,v',h=>by simp at h;simpa using b.get h
theorem WkE.set: ∀ {l b:List V} (t:Nat) {v c:V},WkE l b->Wk v c->WkE (l.set t v) (b.set t c)
 |_,_,_,_,_, .nil,_=> .nil
 |_,_,0,_,_, .cons _ _ _ _ _ a,h=> .cons _ _ _ _ h a
 |_,_,t+1,_,_, .cons _ _ _ _ d a,h=> .cons _ _ _ _ d (a.set t h)
theorem WkE.mk{n:Nat} : ∀(a:List Nat) {b vs'},WkE b vs'->WkE (mk n (a.zip b)) (mk n (a.zip vs')):=by
 intro a b vs' h;have d: ∀(a:List Nat) {b vs':List V} {e e':List V},WkE b vs'->WkE e e'->WkE ((a.zip b).foldl (λe p=>e.set p.1 p.2) e) ((a.zip vs').foldl (λe p=>e.set p.1 p.2) e'):=by
  intro a
  induction a with
  |nil=>intro b vs' e e' _ c;simpa using c
  |cons s a i=>
   intro b vs' e e' h c
   cases h with
   |nil=>simpa using c
   |cons v k l j g f=>simp only[List.zip_cons_cons,uR];exact i f (c.set s g)
 exact d a h (.refl _)
theorem Zvq{Y}{e e'}{h:Heap}{c}{Q}(z:WkE e e')(y:Tri Y c ⟨e',[],h⟩ Q):Tri Y c ⟨e,[],h⟩ Q:=by
 intro W a w W0 own0 w0 j H;have d: ∀t b,QJ ⟨e',[],h⟩ a t b->QJ ⟨e,[],h⟩ a t b:=by
  rintro t b ⟨⟨p,f⟩,l⟩;obtain⟨v,m,g⟩:=z.get f;rcases g with (rfl|⟨_,_,_,_,i,_⟩|⟨_,_,_,_,i⟩)|⟨q,_,rfl,_,_⟩;exact⟨⟨p,m⟩,l⟩;cases i;cases i;exact⟨⟨q,m⟩,l⟩
 have s:Rel W ⟨e',[],h⟩ a w:=by
  refine⟨j.heap,by rw[j.size];exact z.length,λt v y=> ?_,λt N b f l=>j.box t N b (d _ _ f) (d _ _ l),λ_ _ _ G=>by simp at G,j.defers⟩;obtain⟨B,m,g⟩:=z.get y;obtain⟨u,i,o⟩:=j.env t B m;refine⟨u,i,?_⟩;rcases g with g|⟨p,D,rfl,rfl,F⟩;rcases g with rfl|g;exact o;have A:=Wk0.vr (v:=B) (v':=v) (.inr g) (W:=W) (u:=u);rcases g with ⟨c,k,O,rfl,rfl,P⟩|⟨p,n,c,rfl,rfl⟩;exact A o;exact A o;obtain⟨b,C,E,K,r,L,x⟩:=o;exact⟨b,C,E,K,r,F.vr L,x⟩
 exact y W a w W0 own0 w0 s (H.weaken λb r=>by
  rcases r with f|⟨t,f⟩|f;exact .inl f;exact .inr (.inl ⟨t,d _ _ f⟩)
  .exact .inr (.inr f))
theorem ZE6{Y:YP}{n:Nat}(a:List Nat){b:St}{l:List Code}{Q:Out->St->Prop}{vs}(vs')(d:l.isEmpty=false)(e:b.env.length=n)(f:(a.map λi=>lv i b)=vs)(g:WkE vs vs')
  (h:TriL Y l ⟨mk n (a.zip vs'),[],b.h⟩ Q):TriL Y l b Q:=by
 refine Zvo a d e f ?_
 match l,d,h with
 |c::r,_,h=>exact Zvq (g.mk a) h
section
variable {Y:YP}
def Zdz(Y:YP)(n:Nat)(b f:List Nat)(I:Nat->List V->Heap->Prop)(m e:Nat)(r:List Code)(Q:Out->St->Prop)(o:Out)(a:Nat)(c:List V)(h:Heap):Prop:=
 match o with
 | .normal=>a=n/\ ∃d,d<m/\ ∃vs',WkE (pick b f c) vs'/\I d vs' h
 | .exit j=>if j=e then a=n/\ ∃sl':List Nat,sl'.all b.contains=true/\TriL Y r ⟨mk n (sl'.zip (pick b sl' c)),[],h⟩ Q else AtV b Q (.exit j) a c h
 | .ret=>AtV b Q .ret a c h
theorem ZP2{n:Nat}(e g:List Nat){p:St}{l:List Code}{Q:Out->St->Prop}(f:e.all g.contains=true)(D:Zqf l=true)(I:Nat->List V->Heap->Prop)(y:Nat)(E:p.env.length=n)
  (A: ∃vs',WkE (e.map λi=>lv i p) vs'/\I y vs' p.h)
  (d: ∀m z h,I m z h->TriL Y (flat (Zw l)) ⟨mk n (e.zip z),[],h⟩ (VQ g (Zdz Y n g e I m (Xb l) (l.drop 1) Q))):TriL Y l p Q:=by
 obtain⟨s,t⟩:=Zlp D;rw[s];refine QB (Zee (λm q=>q.env.length=n/\ ∃vs',WkE (e.map λi=>lv i q) vs'/\I m vs' q.h) (n:=y) ⟨E,A⟩ ?_);rintro m q ⟨w,vs',G,C⟩;have F:=XQ (c:=Zw l) (r:= []) (by rw[qi];exact d m _ _ C);refine(Zbv w rfl rfl (Zvq (G.mk e) F)).mono ?_;intro o a b
 cases o with
 |normal=>
  obtain⟨s,H,t,x,u,v⟩:=b;exact⟨H,t,s,x,by rw[Jr f rfl];exact u,v⟩
 |exit j=>
  have b:Zdz Y n g e I m (Xb l) (l.drop 1) Q (.exit j) a.env.length (g.map λi=>lv i a) a.h:=b;simp only[Zdz]at b;by_cases k:j=Xb l;rw[uF k]at b;simp only[uF k];obtain⟨u,sl',v,B⟩:=b;exact QM t u (Jr v rfl) rfl B;rw[uE k]at b;simp only[uE k];exact b a rfl rfl rfl
 |ret=>exact b a rfl rfl rfl
theorem Zok{n:Nat}{b k:List Nat}{I:Nat->List V->Heap->Prop}{m c j:Nat}{r:List Code}{Q:Out->St->Prop}{a:Nat}{d:List V}{h:Heap}(sl':List Nat)(e:j=c)(f:a=n)(g:sl'.all b.contains=true)
  (i:TriL Y r ⟨mk n (sl'.zip (pick b sl' d)),[],h⟩ Q):Zdz Y n b k I m c r Q (.exit j) a d h:=by
 simp only[Zdz];rw[uF e];exact⟨f,sl',g,i⟩
end
structure Span where
 lo:Int
 hi:Int
 deriving DecidableEq,Inhabited
structure Glob where
 k:Int
 b:Int
 sp:List Span
 deriving DecidableEq,Inhabited
abbrev encS(x:Span):List V:= [.i .u8 x.lo, .i .u8 x.hi]
abbrev encG(x:Glob):List V:= [I x.k, .i .u8 x.b,lst encS x.sp]
theorem VS(x:Span):(encS x).length=2:=rfl
theorem VT(x:Glob):(encG x).length=3:=rfl
def Zby(s:List UInt8)(i:Nat)(b:Bool):Int×Nat×Bool:=match s[i]? with
 |some c=>(c.toNat,i+1,b)
 |none=>(0,i,true)
def endS(s:List UInt8)(i:Nat):Except Nat (Int×Nat):=match s[i]? with
 |none=> .error i
 |some c=>if c=93\/c=45 then .error i else if c=92 then match s[i+1]? with
   |none=> .error (i+1)
   |some d=> .ok (d.toNat,i+2)
  else .ok (c.toNat,i+1)
def XU(s:List UInt8)(i:Nat):Except Nat (Span×Nat):=match endS s i with
 | .error e=> .error e
 | .ok (a,j)=>if s[j]? =some 45 then match endS s (j+1) with
   | .error e=> .error e
   | .ok (b,k)=>if b<a then .error (k-1)else .ok (⟨a,b⟩,k)
  else .ok (⟨a,a⟩,j)
def setS:Nat->List UInt8->Nat->List Span->Except Nat (List Span×Nat)
 |0,_,i,_=> .error i
 |n+1,s,i,a=>if a≠ []/\s[i]? =some 93 then .ok (a,i+1)else match XU s i with
  | .error e=> .error e
  | .ok (x,j)=>setS n s j (a++ [x])
def Xx(s:List UInt8)(i:Nat):Except Nat (Glob×Nat):=match s[i]? with
 |none=> .error i
 |some c=>if c=42 then .ok (⟨2,0,[]⟩,i+1)else if c=63 then .ok (⟨1,0,[]⟩,i+1) else
  if c=91 then match setS (s.length+1) s (i+1) [] with
   | .error e=> .error e
   | .ok (l,j)=> .ok (⟨3,0,l⟩,j)
  else if c=92 then match s[i+1]? with
   |none=> .error (i+1)
   |some d=> .ok (⟨0,d.toNat,[]⟩,i+2)
  else .ok (⟨0,c.toNat,[]⟩,i+1)
def Qm:Nat->List UInt8->Nat->List Glob->Except Nat (List Glob)
 |0,_,i,_=> .error i
 |n+1,s,i,a=>if i<s.length then match Xx s i with
   | .error e=> .error e
   | .ok (x,j)=>Qm n s j (a++ [x])
  else .ok a
theorem Vp{s:List UInt8}{i:Nat}{c:Int}{j:Nat}(h:endS s i= .ok (c,j)):i<j/\j<=s.length/\j<=i+2:=by
 unfold endS at h;split at h;cases h;rename_i f a;have g:=(qb.1 a).1;split at h;cases h;split at h;split at h;cases h;rename_i d b;have e:=(qb.1 b).1;cases h;omega;cases h;omega
theorem Zjj{s:List UInt8}{i:Nat}{x:Span}{j:Nat}(h:XU s i= .ok (x,j)):i<j/\j<=s.length:=by
 unfold XU at h;split at h;cases h;rename_i e k a;have:=Vp a;split at h;split at h;cases h;rename_i c d b;have:=Vp b;split at h;cases h;cases h;omega;cases h;omega
theorem Za2{s:List UInt8} : ∀ {n i:Nat} {a l:List Span} {j:Nat},setS n s i a= .ok (l,j)->i<j/\j<=s.length
 |0,_,_,_,_,h=>by cases h
 |n+1,i,a,l,j,h=>by
  simp only[setS]at h;split at h;rename_i c;have:=(qb.1 c.2).1;cases h;omega;split at h;cases h;rename_i x k b;have d:=Zjj b;have e:=Za2 h;omega
theorem Zfp{s:List UInt8}{i:Nat}{x:Glob}{j:Nat}(h:Xx s i= .ok (x,j)):i<j/\j<=s.length:=by unfold Xx at h;split at h;cases h;rename_i c b;have e:=(qb.1 b).1;split at h;cases h;omega;split at h;cases h;omega;split at h;split at h;cases h;rename_i l k a;have:=Za2 a;cases h;omega;split at h;split at h;cases h;rename_i d a;have:=(qb.1 a).1;cases h;omega;cases h;omega
abbrev encI(n:Int):List V:= [I n]
theorem Zjk(n:Int):(encI n).length=1:=rfl
theorem ZE7{c:Type}(f:c->V)(l:List c):row (λa=> [f a]) l=l.map f:=by
 induction l with
 |nil=>rfl
 |cons a l b=>simp only[row,qz,List.flatten_cons]at b ⊢;rw[b];rfl
theorem rowI(l:List Int):row encI l=l.map (.i .i64):=ZE7 _ l
theorem WI(l:List Int):(row encI l).length=l.length:=by rw[rowI];simp
theorem Zei(l):Zp (row encI l)=true:=by
 rw[rowI]
 induction l with
 |nil=>rfl
 |cons a l b=>simp only[qz,Zp,b,Bool.and_true];rfl
theorem Zej(l)(h):FrzL h (row encI l) (row encI l):=by
 rw[rowI]
 induction l with
 |nil=>exact .nil
 |cons a l b=>exact .cons _ _ _ _ (.i _ _) b
theorem Zsz{p:Nat->Bool}{i:Nat}(h:(List.range i).all p=true)(a:p i=true):(List.range (i+1)).all p=true:=by
 rw[List.range_succ,List.all_append,h];simp[a]
theorem Zu{i n:Nat}(h:i<n):(0:Int)<=(i:Nat)/\(i:Int)<(n:Nat):=⟨om,om⟩
theorem Zh{Y}(i:YOK Y){c:Nat->Bool}{fuel:Nat}(n:Nat){a:List Nat}{f:St}{b:List V}{h:Heap}{l:List Code}{Q:Out->St->Prop}{T:(KT)->Prop}
  (d: ∀K,Zc Y c fuel (pre l) ⟨b,[],h⟩ (VQ a K)=T K) (e:f=⟨b,[],h⟩) (g:T (PreV Y n a (post l) Q)) (j:(post l).isEmpty=false:=by kernel_rfl):TriL Y l f Q:=by
 refine Xm i (n:=n) (loc:=c) fuel a j ?_;rw[e,d];exact g
theorem Zm{Y}(g:YOK Y){loc:Nat->Bool}{fuel:Nat}{a:List Nat}{e:St}{b:List V}{h:Heap}{l:List Code}{K:KT}{T:(KT)->Prop}
  (c: ∀K,Zc Y loc fuel l ⟨b,[],h⟩ (VQ a K)=T K) (d:e=⟨b,[],h⟩) (f:T K):TriL Y l e (VQ a K):=by
 refine ZW g (loc:=loc) fuel a ?_;rw[d,c];exact f
theorem Zo{Y}(f:YOK Y){loc:Nat->Bool}{fuel:Nat}{a:List Nat}{σ:St}{b:List V}{h:Heap}{l:List Code}{fn:Func}{P:V->Heap->Prop}{T:(KT)->Prop}
  (c: ∀K,Zc Y loc fuel l ⟨b,[],h⟩ (VQ a K)=T K) (d:σ=⟨b,[],h⟩) (e:T (Fin Y fn a P)):TriL Y l σ (FinS Y fn P):=by
 refine ZG f (loc:=loc) fuel a ?_;rw[d,c];exact e
theorem Zjl{Y}(j:YOK Y){loc:Nat->Bool}{fuel:Nat}{b c:List Nat}{g:St}{a:List V}{h:Heap}{l:List Code}{K:KT}{T:(KT)->Prop}
  (d: ∀K,Zc Y loc fuel l ⟨a,[],h⟩ (VQ b K)=T K) (f:g=⟨a,[],h⟩) (i:T λo n k h=> ∀e,Two b k c e->K o n e h):TriL Y l g (VQ c K):=by
 refine ZE5 j (loc:=loc) fuel b ?_;rw[f,d];exact i
theorem Zfq{Y:YP}{n:Nat}{a c sl':List Nat}{j:Nat}{r:List Code}{Q:Out->St->Prop}{b:Nat}{vs vs2}{h:Heap}(i:Two a vs c vs2)(f:b=n)(e:sl'.all a.contains=true)(d:sl'.all c.contains=true)
  (g:TriL Y r ⟨mk n (sl'.zip (pick a sl' vs)),[],h⟩ Q):Zd6 Y n c j r Q .normal b vs2 h:=⟨f,sl',d,by rw[Zjh i e d];exact g⟩
theorem Zr{h:Heap}{b:Nat}{cs:List V}{wr:Bool}(c:h.get b=some (.arr cs wr))(a n:Nat):Zb h b a n=Zs n (cs.drop a):=by
 simp only[Zb,c]
theorem Zv{Y}(e:YOK Y){f:FuncId}{fn:Func}{args}(i:Xp args=true){P:V->Prop}{a:List Nat}{b:List V}{T:(KT)->Prop}
  (d: ∀K,Zc Y (Y.loc f) 100 (flat (Za fn)) ⟨b,[], .empty⟩ (VQ a K)=T K) (j:args++List.replicate (fn.ntmps-args.length) .undef=b)
  (c:T (Fin Y fn a (λv h=> ∃r,Frz h v r/\P r))) (k:Y.P.funcs[f]? =some fn:=by kernel_rfl) (g:fn.body.isSome=true:=by kernel_rfl):PCon Y f args P:=by
 refine ZF e i ?_ k g;rw[j];refine ZG e (loc:=Y.loc f) 100 a ?_;rw[d];exact c
theorem FrzAL.length{h} : ∀ {l a:List V},FrzAL h l a->l.length=a.length
 |_,_, .nil=>rfl
 |_,_, .cons _ _ _ _ _ b=>by simp[b.length]
theorem FrzAL.get{h} : ∀ {l a:List V},FrzAL h l a-> ∀ {j:Nat} {v':V},a[j]? =some v'-> ∃v,l[j]? =some v/\FrzA h v v'
 |_,_, .nil,j,v',h=>by simp at h
 |_,_, .cons v v1 l a c b,0,v',h=>by simp at h;subst h;exact⟨v,rfl,c⟩
 |_,_, .cons v v1 l a c b,j+1,v',h=>by simp at h;simpa using b.get h
theorem FrzAL.refl{h} : ∀l:List V,FrzAL h l l
 | []=> .nil
 |v::l=> .cons _ _ _ _ (.same v) (FrzAL.refl l)
theorem HRel.cool{W}{h:Heap}{w}(d:HRel W h w)(D){O:Nat}{cs cs'}{wr:Bool}(k:h.get O=some (.arr cs wr))(x:O∉D)(f:FrzAL (Vi h D) cs cs'):
  HRel (W.frzD D w) ((XP h D).set O (some (.arr cs' wr))) w:=by
 obtain⟨a,C⟩:=d.frzD D;have l:(XP h D).get O=some (.arr cs wr):=by rw[Xv,uE x];exact k
 refine⟨λj b=> ?_,a.lk,λj=> ?_,λj b=> ?_,a.snap,λj o b=> ?_,a.inj,a.apart,λp z=>a.tg p z,a.gl⟩;rw[Heap.raw_set];split;rfl;exact a.kn j b;rw[qc];by_cases e:j=O;subst e;rw[uF rfl,a.lv j,l];simp;rw[uE e];exact a.lv j;rw[Heap.raw_set]at b;by_cases e:j=O;subst e;exact a.ltg (by rw[l];rfl);rw[uE e]at b;exact a.lt j b;rw[qc]at b;by_cases e:j=O;subst e;rw[uF rfl]at b;simp only[uB]at b;subst b;obtain⟨c,e,m,n,q,r,s,t⟩:=d.obj j _ k;refine⟨c,e,m,n,q,by rw[<-f.length];exact r,λi E y=> ?_,by rw[<-f.length];exact t⟩;obtain⟨v,B,hz⟩:=f.get y;obtain⟨u,A,g⟩:=s i v B;exact⟨u,A,hz.vr (Fz.of d D) (Vj d D) g⟩;rw[uE e]at b;exact a.obj j o b
theorem Con.coolR{Y:YP}{f:FuncId}{a:List V}{h:Heap}{Q:V->Heap->Prop}
  (c:Con Y f a h λv d=> ∃(D:List Nat) (O:Nat) (j b:List V) (wr:Bool),d.get O=some (.arr j wr)/\O∉D/\FrzAL (Vi d D) j b/\ ∃i,FrzA (Vi d D) v i/\Q i ((XP d D).set O (some (.arr b wr)))):Con Y f a h Q:=
 ⟨c.body,λW w x s t=>(c.tr W w x s t).mono λe z ⟨v,d,y,u,⟨D,O,j,b,wr,m,n,o,i,p,q⟩,r,g,l,k⟩=>
  ⟨i,_,_,u,q,r,g.cool D m n o,p.vr (Fz.of g D) (Vj g D) l,k.trans (g.frzD D).2⟩⟩
theorem HRel.more{W:Vw}{h}{w w':World}(r:HRel W h w){s:Nat->Option Obj}(n: ∀b o,W.snap b=some o->s b=some o)(hz:w.heap.size<=w'.heap.size)
  (l: ∀b,b<w.heap.size->w'.heap[b]? =w.heap[b]?) (m: ∀b o,s b=some o->w'.heap[b]? =some o) (f:Str w w'):
  HRel (W.more w.heap.size s) h w'/\Stp W W.own w (W.more w.heap.size s) (W.more w.heap.size s).own w':=by
 have d:=Zux (w:=w) n;have c:Same w w':=λb o a=>by rw[l b (Zt a)];exact a
 have j: ∀e,W.lv e->(W.mu e).1<w.heap.size:=by
  intro e g;obtain⟨o,i⟩:=r.block g;exact Zt i
 refine⟨⟨r.kn,r.lk,r.lv,r.lt,?_,?_,r.inj,?_,λp k=>⟨(r.tg p k).1,(((r.tg p k).2).same c).mono d (r.tg p k).1⟩,r.gl.mono d.snap⟩,⟨d,hz,λb a _=>l b a,λb a=> .inl a,?_,f⟩⟩;intro b o a;simp only[Vw.more]at a;split at a;exact m b o a;exact c b o (r.snap b o a);intro e o i;exact((r.obj e o i).same c).mono d (r.known (by simp[i]));intro e g;have:=j e g;simp only[Vw.more];rw[uE om];exact r.apart e g;intro b a;simp only[Vw.more]at a;split at a;rename_i h1;exact .inr (.inr h1);exact .inl a
theorem Con.ofP{Y}{f}{args args'}{h}{P:V->Prop}(D)(C:FrzAL (Vi h D) args args')(p:PCon Y f args' P):Con Y f args h λv n=>P v/\n=XP h D:=
 ⟨p.body,λW w K j E=>by
  obtain⟨d,m⟩:=j.frzD D;refine(p.tr (W.frzD D w) w K d.snap d.gl (C.vr (Fz.of j D) (Vj j D) E)).mono ?_;rintro e N ⟨r,l,u,q,t,L,k,x,y,z,A,B,g⟩;obtain⟨F,G⟩:=d.more (s:=l.snap) k z A x g;refine⟨r,_,_,u,⟨q,rfl⟩,t,F,B _ ?_,m.trans G⟩;intro b o c;simp only[Vw.more];split;exact c
  .rename_i i;rcases y b (by simp[c])with h9'|h9'
   .cases a:(W.frzD D w).snap b with
    |none=>exact absurd a h9'
    |some H=>rw[k b H a]at c;exact c
   .exact absurd h9' i⟩
end Go.Y
namespace Go.Y
open Go.Proofs
set_option maxRecDepth 1000000
set_option maxHeartbeats 0
theorem ZJe{a b h}(K):CP UY 118 (pre B_118) (J a b none::Rp 35) h [0,3,9,10,11] K=(K .normal 36 [J a b none,I 0,J a b none,I (b:Int),I 0] h):=kr
theorem ZJf{a f x3 b h}(K):CP UY 118 (lp_ B_118) (MZ 36 [0,3,9,10,11] [J a f none,I x3,J a f none,I (f:Int),I b]) h [0,3,9,10,11] K=(If (ltI b f) ((0<=b/\b<f)/\ ∃c d e,Zs 1 (List.drop (b.toNat*1) a)=some [J c d e]/\If (ltI (wW (x3+(d:Int))) (0:Int)) False (K .normal 36 [J a f none,I (wW (x3+(d:Int))),J a f none,I (f:Int),I (wW (b+(1:Int)))] h)) (K (.exit 0) 36 [J a f none,I x3,J a f none,I (f:Int),I b] h)):=kr
theorem ZJg{b f x3 h}(K):CP UY 118 (pre ((post B_118).drop 1)) (MZ 36 [0,3] [J b f none,I x3]) h [6,25,26,27] K=(Con UY 149 [S0,I x3] h fun(v:V) (g:Heap)=> ∃a c d e,v=S a c d e/\K .normal 36 [S a c d e,J b f none,I (f:Int),I 0] g):=kr
theorem ZJh{d k a6 l6 c6 k6 b h}(K):CP UY 118 (lp_ ((post B_118).drop 1)) (MZ 36 [6,25,26,27] [S a6 l6 c6 k6,J d k none,I (k:Int),I b]) h [6,25,26,27] K=(If (ltI b k) ((0<=b/\b<k)/\ ∃a c e,Zs 1 (List.drop (b.toNat*1) d)=some [J a c e]/\ ∃f g i j l,Zk UY h 32 32 (S a6 l6 c6 k6) (J a c e)=some (S f g i j,l)/\K .normal 36 [S f g i j,J d k none,I (k:Int),I (wW (b+(1:Int)))] l) (K (.exit 2) 36 [S a6 l6 c6 k6,J d k none,I (k:Int),I b] h)):=kr
theorem ZJi{a6 l6 c6 k6 h}(K):CP UY 118 ((post ((post B_118).drop 1)).drop 1) (MZ 36 [6] [S a6 l6 c6 k6]) h [2] K=(K .ret 36 [S a6 l6 c6 k6] h):=kr
theorem ZJj{x1 h}(K):CP UY 149 (flat (Za Tryz.f149)) (S0::I x1::Rp 25) h [4] K=(If (ltI x1 0) False (If (ltI 0 (wW (x1-wW ((↑(0:Nat):Int)-(↑(0:Nat):Int))))) (∃a b c d,Zbi UY 31 (S0) none (some (I (↑(0:Nat):Int))) none=some (S a b c d)/\ ∃e f g i j l,Zk UY h 32 3 (S a b c d) (I (wW (x1-wW ((↑(0:Nat):Int)-(↑(0:Nat):Int)))))=some (S (some (e,f)) g i j,l)/\j=1/\((0:Int)<=(↑(0:Nat):Int)/\(↑(0:Nat):Int)<=(↑(i.getD g):Int))/\K .ret 27 [S (some (e,f+(0:Nat)*j)) 0 (Option.map (fun(x:Nat)=>x-(0:Nat)) i) j] l) (K .ret 27 [S0] h))):=kr
theorem Zvr:UY.kd 32=some (.slice 3):=kr
theorem ty3:UY.ty 3=some ⟨1,8, .int .i64,[I 0]⟩:=kr
theorem Zvs(l:List Int)(i:Nat):(row encI l).drop i=row encI (l.drop i):=by rw[rowI,rowI,List.map_drop]
theorem Zls{b:Type} : ∀(A B C:List b),splice (A++B) A.length C=A++C++B.drop C.length
 | [],B,C=>by
  simp only[qy,qp];cases B<;>simp[splice]
 |a::A,B,C=>by
  simp only[qs,qh,splice];rw[Zls A B C,uU]
abbrev Zbz(n:Nat):List Int:=List.replicate n 0
theorem Zvt(n:Nat):(List.replicate n ([I 0]:List V)).flatten=row encI (Zbz n):=by
 induction n with
 |zero=>rfl
 |succ n a=>rw[uZ,List.flatten_cons,a];rfl
theorem ZE8{h:Heap}(n:Nat)(c:n<2 ^ 29):XJ UY ⟨[],[],h⟩ ⟨1,8, .int .i64,[I 0]⟩ 3 (I (n:Int))=some (n,row encI (Zbz n)):=by
 have b:UY.kd 3=some (.int .i64):=kr;have a:most=1099511627776:=dc;simp only[XJ,b];rw[uF ⟨om,by rw[a];omega,by rw[a,qdq];omega⟩,qdq,Zvt]
theorem ZAk(x:Nat)(f:x<2 ^ 29)(h):Con UY 149 [.sl none 0 (some 0) 0,I (x:Int)] h λv c=>(x=0/\v= .sl none 0 (some 0) 0)\/ ∃b,0<x/\v= .sl (some (b,0)) 0 none 1/\b<c.nx/\c.get b=some (.arr (row encI (Zbz x)) true):=by
 refine Zx UK (fn:=Tryz.f149) ?_;refine Zo UK ZJj rfl ?_;refine Xr (λa=>absurd a om) (λ_=> ?_);have e:wW ((x:Int)-wW (((0:Nat):Int)-((0:Nat):Int)))=(x:Int):=by
  rw[show wW (((0:Nat):Int)-((0:Nat):Int))=0 from dc,Int.sub_zero];exact ZI om om
 rw[e];refine Xr (λa=> ?_) (λa=> ?_);have d:most=1099511627776:=dc;refine⟨none,0,some 0,0,kr,h.nx,0,x,none,1,h.pushT (UY.tag 3) (.arr (row encI (Zbz x)) true),?_,rfl,⟨om,sm⟩,finC rr rfl (.now (.inr ⟨h.nx,om,rfl,sm,sm⟩))⟩;simp only[Zk,Xd,Zvr,ty3,ZE8 x f];rw[uE (by simp[Zei]),uE om,uF ⟨by rw[d];omega,by rw[d];omega⟩];exact finC rr rfl (.now (.inl ⟨om,rfl⟩))
abbrev Zd7(l:List Int):List V:= [lst encI l]
theorem Zlt(l):(Zd7 l).length=1:=rfl
def GrI(h:Heap)(a:Option (Nat×Nat))(n:Nat)(c:Option Nat)(k:Nat)(pre:List Int)(b:Nat):Prop:=
 (b=0/\a=none/\n=0)\/ ∃d,0<b/\a=some (d,0)/\n=pre.length/\c=none/\k=1/\d<h.nx/\h.get d=some (.arr (row encI (pre++Zbz (b-pre.length))) true)
theorem GrI.app{h}{a}{n:Nat}{c}{k:Nat}{pre:List Int}{b:Nat}(w:GrI h a n c k pre b)(d:List Int)(z:pre.length+d.length<=b)(y:b<2 ^ 29):
  ∃l n' m r o,Zk UY h 32 32 (.sl a n c k) (lst encI d)=some (.sl l n' m r,o)/\GrI o l n' m r (pre++d) b:=by
 have x:most=1099511627776:=dc;have j:XJ UY ⟨[],[],h⟩ ⟨1,8, .int .i64,[I 0]⟩ 32 (lst encI d)=some (d.length,row encI d):=by
  simp only[lst,XJ,Zvr,QS,XS,uY,ZC (WI d).symm,uw]
 rcases w with ⟨rfl,rfl,rfl⟩|⟨i,g,rfl,rfl,rfl,rfl,f,p⟩
 .have e:d= []:=qg om;subst e;refine⟨none,0,some 0,1,h,?_, .inl ⟨rfl,rfl,rfl⟩⟩;simp only[Zk,Xd,Zvr,ty3,j]
  rfl
 .by_cases e:d= []
  .subst e;refine⟨some (i,0),pre.length,none,1,h,?_, .inr ⟨i,g,rfl,sm,rfl,rfl,f,su p⟩⟩;simp only[Zk,Xd,Zvr,ty3,j]
   rfl
  .have q:0<d.length:=List.length_pos_iff.2 e;have t: ¬((pre.length+d.length)*8>most\/pre.length+d.length>most):=by rw[x];omega
   have u:0+(pre.length+d.length)*1<=(row encI (pre++Zbz (b-pre.length))).length:=by rw[WI];simp;omega
   have v:splice (row encI (pre++Zbz (b-pre.length))) (0+pre.length*1) (row encI d)=row encI ((pre++d)++Zbz (b-(pre++d).length)):=by
    have s:0+pre.length*1=(row encI pre).length:=by rw[WI];omega
    rw[XA,s,Zls,WI,Zvs,<-XA,<-XA]
    congr 2
    simp;omega
   refine⟨some (i,0),pre.length+d.length,none,1,h.set i (some (.arr (row encI ((pre++d)++Zbz (b-(pre++d).length))) true)),?_, .inr ⟨i,g,rfl,sm,rfl,rfl,su f,by rw[qc,uF rfl]⟩⟩;simp only[Zk,Xd,Zvr,ty3,j,p];rw[uE (by simp[Zei]),uE dc,uE om,uE t,uF u,uF trivial,v]
theorem Zol(b:List (List Int))(G:b.length<2 ^ 20)(z:b.flatten.length<2 ^ 29)(h):Con UY 118 [lst Zd7 b] h λv s=> ∃a n c k,v= .sl a n c k/\GrI s a n c k b.flatten b.flatten.length:=by
 refine Zx UK (fn:=Tryz.f118) ?_;refine Zh UK 36 ZJe rfl ?_;have part: ∀i,(b.take i).flatten.length<=b.flatten.length:=λi=>by
  conv=>rhs;rw[<-vN i b]
  rw[List.flatten_append,qf];omega
 have step: ∀ {i:Nat} (d:i<b.length),(b.take (i+1)).flatten=(b.take i).flatten++b[i]:=λd=>by
  rw[qa d,List.flatten_append];simp
 refine⟨rfl,ZM [0,3,9,10,11] [0,3,9,10,11] (λm q _=> ∃i:Nat,q= [lst Zd7 b,I ((b.take i).flatten.length:Nat),lst Zd7 b,I b.length,I (i:Nat)]/\i<=b.length/\m=b.length-i) b.length ZA ⟨0,rfl,om,om⟩ ?_⟩;rintro m q h ⟨i,rfl,E,rfl⟩;refine Zm UK ZJf rfl ?_;refine Zq (λd=> ?_) (λw=> ?_)
 .have e:wW (((b.take i).flatten.length:Int)+(b[i].length:Nat))=((b.take (i+1)).flatten.length:Nat):=by
   have g:=part (i+1);rw[step d,qf]at g ⊢;rw[ZI om om];omega
  refine⟨Zu d,row encI b[i],b[i].length,none,by rw[qdq];exact Xw (f:=Zd7) (k:=1) Zlt d,?_⟩;rw[e];refine Xr (λt=>absurd t om) (λ_=> ?_);exact⟨rfl,b.length-(i+1),om,i+1,by rw[Ze om];rfl,om,rfl⟩
 .rw[qt w];refine Zj [0,3] ?_;refine Zh UK 36 ZJg rfl ?_;refine(ZAk b.flatten.length z h).mono λv s p=> ?_;have p: ∃a n c k,v= .sl a n c k/\GrI s a n c k [] b.flatten.length:=by
   rcases p with ⟨g,r⟩|⟨A,t,g,r,u⟩;exact⟨none,0,some 0,0,r, .inl ⟨g,rfl,rfl⟩⟩;exact⟨some (A,0),0,none,1,g, .inr ⟨A,t,rfl,rfl,rfl,rfl,r,u⟩⟩
  obtain⟨a,n,c,k,p,l⟩:=p;refine⟨a,n,c,k,p,rfl,ZM [6,25,26,27] [6,25,26,27] (λm q h=> ∃(j:Nat) (a:Option (Nat×Nat)) (n:Nat) (c:Option Nat) (k:Nat),q= [.sl a n c k,lst Zd7 b,I b.length,I (j:Nat)]/\j<=b.length/\m=b.length-j/\GrI h a n c k (b.take j).flatten b.flatten.length) b.length ZA ⟨0,a,n,c,k,rfl,om,om,l⟩ ?_⟩;clear l;rintro m q r ⟨j,a,n,c,k,rfl,F,rfl,l⟩;refine Zm UK ZJh rfl ?_;refine Zq (λd=> ?_) (λo=> ?_);have g:=part (j+1);rw[step d,qf]at g;obtain⟨x,n',y,B,u,C,D⟩:=l.app b[j] g z;exact⟨Zu d,row encI b[j],b[j].length,none,by rw[qdq];exact Xw (f:=Zd7) (k:=1) Zlt d,x,n',y,B,u,C,rfl,b.length-(j+1),om,j+1,x,n',y,B,by rw[Ze om];rfl,om,rfl,by rw[step d];exact D⟩;refine Zj [6] ?_;refine Zo UK ZJi rfl ?_;rw[qt o]at l;exact finC rr rfl (.now ⟨a,n,c,k,rfl,l⟩)
end Go.Y
namespace Go.Y
set_option maxRecDepth 1000000
set_option maxHeartbeats 0
structure LX{α:Type}(f:α->List V)(k:Nat)(h:Heap)(a:Option (Nat×Nat))(l:Nat)(c:Option Nat)(kk:Nat)(out:List α):Prop where
 nil:out= []->a=none
 cells:out≠ []-> ∃j,a=some (j,0)∧kk=k∧j<h.nx∧h.get j=some (.arr (row f out) true)∧(c=none∨c=some l)
 len:l=out.length
section
variable {α:Type} {f:α->List V} {k:Nat} {h h':Heap} {a:Option (Nat×Nat)} {l:Nat} {c:Option Nat} {kk:Nat} {out:List α}
theorem LX.start(f:α->List V)(k:Nat)(h:Heap)(c)(kk:Nat):LX f k h none 0 c kk ([]:List α):=⟨λ_=>rfl,λh=>absurd rfl h,rfl⟩
theorem LX.one(f:α->List V)(k:Nat)(h:Heap)(x:α):LX f k (h.push (.arr (f x) true)) (some (h.nx,0)) 1 (some 1) k [x]:=⟨λe=>(by cases e),λ_=>⟨h.nx,rfl,rfl,sm,by simp[row,qk], .inr rfl⟩,rfl⟩
theorem LX.fr(b:LX f k h a l c kk out)(p:h.nx<=h'.nx)(o: ∀j,a=some (j,0)->j<h.nx->h'.get j=h.get j):LX f k h' a l c kk out:=
 ⟨b.nil,λd=>by obtain⟨j,e,g,i,m,n⟩:=b.cells d;exact⟨j,e,g,om,by rw[o j e i,m],n⟩,b.len⟩
theorem LX.app{Y:YP}{st e:TypeId}{te:TI}{new}(x:α)(g:f x=new)(t: ∀x,(f x).length=k)(G:Y.kd st=some (.slice e))(A:Y.ty e=some te)(K:te.size=k)(u:k≠0)(O:Zp new=true)
  (E:te.bytes<=1024) (B:LX f k h a l c kk out) (hb:out.length<2 ^ 29):
  ∃d q n p h',Zk Y h st st (.sl a l c kk) (.ts new 1 (some 1))=some (.sl d q n p,h')/\LX f k h' d q n p (out++ [x])/\Fr h a h'/\ ∃j,d=some (j,0)/\h.nx<=j:=by
 have hm:most=1099511627776:=dc;have h1:(out.length+1)*te.bytes<=2 ^ 29*1024:=Nat.mul_le_mul om E;have y:new.length=1*k:=by rw[<-g,t,Nat.one_mul]
 have i:row f (out++ [x])=row f out++new:=by rw[XA,<-g];simp[row]
 have r: ∀ {a l c kk},IsL h k a l c kk (row f out)->l=out.length-> ∃d q n p h',Zk Y h st st (.sl a l c kk) (.ts new 1 (some 1))=some (.sl d q n p,h')/\LX f k h' d q n p (out++ [x])/\Fr h a h'/\ ∃j,d=some (j,0)/\h.nx<=j:=by
  intro a l c kk hI b;obtain⟨d,q,n,p,h',q1,q2,q3,q4,j,W,q6⟩:=Zbx (Y:=Y) (new:=new) (m:=1) (cap:=some 1) G A K u hI dc (ZC y.symm) O (by rw[b];omega) om;refine⟨d,q,n,p,h',q1,⟨λv=>by simp at v,λ_=> ?_,by rw[q4,b];simp⟩,q3,j,W,q6⟩;obtain⟨_,(⟨e,_⟩|⟨N,X,Z,e3,e4,e5⟩)⟩:=q2;rw[W]at e;cases e;exact⟨N,X,e3,e4,by rw[e5,i], .inl Z⟩
 by_cases o:out= [];have ha:=B.nil o;have H:=B.len;subst o ha H;exact r (IsL.nil h k c kk) rfl
 .obtain⟨N,rfl,rfl,F,P,s⟩:=B.cells o;have b:=B.len;have hrl:l*kk=(row f out).length:=by rw[Xf t,b]
  rcases s with rfl|rfl;exact r ⟨hrl, .inr ⟨N,rfl,rfl,rfl,F,P⟩⟩ b
  .refine⟨some (h.nx,0),l+1,none,kk,h.push (.arr (row f out++new) true),?_,⟨λv=>by simp at v,λ_=>⟨h.nx,rfl,rfl,sm,by rw[qk,uF rfl,i], .inl rfl⟩,by simp[b]⟩,⟨sm,λj hj _=>by rw[qk,uE om]⟩,h.nx,rfl,qnq _⟩;have z:XJ Y ⟨[],[],h⟩ te st (.ts new 1 (some 1))=some (1,new):=by
    have v:Zs (1*kk) new=some new:=ZC y.symm;simp only[XJ,G,QS,XS,K,v];rfl
   have D: ¬((l+1)*te.bytes>most\/l+1>most):=by rw[b];omega
   have w: ¬(l+1<=l):=om;have L:Zs (l*kk) ((row f out).drop 0)=some (row f out):=by rw[ql];exact ZC hrl
   have C: ¬((1:Nat)=0):=dc;simp only[Zk,Xd,G,A,z,vF,K,ne_eq,not_true_eq_false,C,D,w,Xt,P,L];rw[uE (by simp[O,u])]
theorem Jc(b: ∀x,ZZ (f x)=true): ∀l:List α,ZZ (row f l)=true
 | []=>rfl
 |x::l=>by
  have:row f (x::l)=f x++row f l:=rfl;rw[this];exact Jb (b x) (Jc b l)
theorem LX.afterZ(q:k≠0)(g: ∀x,(f x).length=k)(d: ∀x,ZZ (f x)=true)(i:LX f k h a l c kk out):
  ∃D:List Nat,Frz (Vi h D) (.sl a l c kk) (lst f out)/\(∀j,j∈D->a=some (j,0)):=by
 have b:=i.len;by_cases e:out= [];have n:=i.nil e;subst e n b;exact⟨[], .sln _ _ _ (λx m=>by cases m),sm⟩;obtain⟨r,rfl,rfl,p,o,_⟩:=i.cells e;subst b;exact⟨[r], .sl _ _ _ _ _ (row f out) true (row f out) _ _ (by rw[QK,uF sm,o]) (by rw[ql];exact ZC (Xf g out).symm) (λx m=>by cases m) q (Xa _ (Jc d out)),sm⟩
theorem FrO.kill{b:Nat}{D:List Nat}(f:FrO h b h')(d: ∀j,j∈D->h.nx<=j):FrO h b (XP h' D):=
 ⟨by rw[Qs];exact f.1,λj e i=>by rw[Xv,uE (λg=>by have:=d j g;omega)];exact f.2 j e i⟩
theorem LX.keep{g:Nat}{e:Heap}(n:LX f k h a l c kk out)(b: ∀j,a=some (j,0)->e.nx<=j)(i:g<e.nx)(q:FrO h g h'):LX f k h' a l c kk out:=
 n.fr q.1 λj m d=>q.2 j d (by have:=b j m;omega)
theorem LX.ne{g o:Nat}{i:Heap}(n:LX f k h a l c kk out)(d: ∀j,a=some (j,0)->i.nx<=j)(p:g<i.nx):a≠some (g,o):=by intro e;by_cases b:out= [];rw[n.nil b]at e;cases e;obtain⟨j,m,_⟩:=n.cells b;rw[m]at e;cases e;have:=d g m;omega
theorem LX.frO{r:Nat}{i:Heap}(p:LX f k h a l c kk out)(d: ∀j,a=some (j,0)->i.nx<=j)(g:FrO i r h)(q:Fr h a h'):FrO i r h':=
 ⟨uu g.1 q.1,λj n s=>by
  rw[q.2 j (qv n g.1) (λo e=>by
   by_cases b:out= [];rw[p.nil b]at e;cases e
   .obtain⟨t,m,_⟩:=p.cells b;rw[m]at e;cases e;have:=d j m;omega)]
  exact g.2 j n s⟩
end
end Go.Y
namespace Go.Y.Gl
def From(has:Nat->UInt8->Bool)(f:Nat->Nat->Prop)(l:Nat->Prop):Nat->List UInt8->Prop
 |_,[]=>False
 |x,c::w=>has x c=true/\((w= []/\l x)\/ ∃y,f x y/\From has f l y w)
def Acc(has:Nat->UInt8->Bool)(f:Nat->Nat->Prop)(first a:Nat->Prop)(e:Prop)(w:List UInt8):Prop:=
 (w= []/\e)\/ ∃x,first x/\From has f a x w
theorem From.congr{has b:Nat->UInt8->Bool}{f m:Nat->Nat->Prop}{l o:Nat->Prop}{R:Nat->Prop}(j: ∀x,R x->has x=b x)(h: ∀x,R x-> ∀y,f x y↔m x y)(k: ∀x,R x->(l x↔o x))(g: ∀x,R x-> ∀y,f x y->R y):
  ∀(w:List UInt8) (x:Nat),R x->(From has f l x w↔From b m o x w)
 | [],_,_=>Iff.rfl
 |c::w,x,d=>by
  simp only[From];rw[j x d,k x d];constructor;rintro⟨e,a|⟨y,a,i⟩⟩;exact⟨e, .inl a⟩;exact⟨e, .inr ⟨y,(h x d y).1 a,(From.congr j h k g w y (g x d y a)).1 i⟩⟩;rintro⟨e,a|⟨y,a,i⟩⟩;exact⟨e, .inl a⟩;have n:=(h x d y).2 a;exact⟨e, .inr ⟨y,n,(From.congr j h k g w y (g x d y n)).2 i⟩⟩
section
variable {has:Nat->UInt8->Bool} {fa fb f:Nat->Nat->Prop} {la lb l fst:Nat->Prop} {RA RB:Nat->Prop} {eb:Prop}
theorem Zjm(z: ∀x,RA x-> ∀y,fa x y->RA y)(v: ∀y,fst y->RB y)(p: ∀x,RB x-> ∀y,fb x y->RB y)
  (r: ∀x,RA x-> ∀y,f x y↔fa x y\/(la x/\fst y)) (j: ∀x,RB x-> ∀y,f x y↔fb x y)
  (k: ∀x,RA x->(l x↔la x/\eb)) (q: ∀x,RB x->(l x↔lb x)):
  ∀(w:List UInt8) (x:Nat),RA x->(From has f l x w↔ ∃g m,w=g++m/\From has fa la x g/\Acc has fb fst lb eb m)
 | [],x,_=>by
  simp only[From,false_iff];rintro⟨g,m,h,b,_⟩;have:=List.append_eq_nil_iff.1 h.symm;rw[this.1]at b;exact b
 |c::w,x,d=>by
  have s: ∀(w:List UInt8) (y:Nat),RB y->(From has f l y w↔From has fb lb y w):=From.congr (R:=RB) (λ_ _=>rfl) j q (λx d y h=>p x d y ((j x d y).1 h));simp only[From];constructor;rintro⟨b,⟨n,i⟩|⟨y,n,i⟩⟩;obtain⟨a,o⟩:=(k x d).1 i;exact⟨[c],[],by simp[n],⟨b, .inl ⟨rfl,a⟩⟩, .inl ⟨rfl,o⟩⟩;rcases(r x d y).1 n with a|⟨a,o⟩;obtain⟨g,m,e,t,u⟩:=(Zjm z v p r j k q w y (z x d y a)).1 i;exact⟨c::g,m,by simp[e],⟨b, .inr ⟨y,a,t⟩⟩,u⟩;exact⟨[c],w,rfl,⟨b, .inl ⟨rfl,a⟩⟩, .inr ⟨y,o,(s w y (v y o)).1 i⟩⟩
  .rintro⟨g,m,e,t,u⟩
   cases g with
   |nil=>exact t.elim
   |cons A g=>
    simp only[List.cons_append,List.cons.injEq]at e;obtain⟨rfl,rfl⟩:=e;obtain⟨b,⟨n,i⟩|⟨y,n,i⟩⟩:=t;subst n;rcases u with ⟨a,o⟩|⟨y,a,o⟩;exact⟨b, .inl ⟨by simp[a],(k x d).2 ⟨i,o⟩⟩⟩;exact⟨b, .inr ⟨y,(r x d y).2 (.inr ⟨i,a⟩),su ((s m y (v y a)).2 o)⟩⟩;exact⟨b, .inr ⟨y,(r x d y).2 (.inl n),(Zjm z v p r j k q (g++m) y (z x d y n)).2 ⟨g,m,rfl,i,u⟩⟩⟩
end
def Pow(L:List UInt8->Prop):Nat->List UInt8->Prop
 |0,w=>w= []
 |n+1,w=> ∃a b,w=a++b/\L a/\Pow L n b
section
variable {has:Nat->UInt8->Bool} {fa f:Nat->Nat->Prop} {la fst:Nat->Prop} {RA:Nat->Prop}
theorem Vq(r: ∀x,RA x-> ∀y,fa x y->RA y)(q: ∀y,fst y->RA y)(o: ∀x,RA x-> ∀y,f x y↔fa x y\/(la x/\fst y)):
  ∀(n:Nat) (w:List UInt8) (x:Nat),w.length<=n->RA x->(From has f la x w↔ ∃b d m,w=b++d/\From has fa la x b/\Pow (λv=> ∃y,fst y/\From has fa la y v) m d)
 |0,w,x,t,_=>by
  have:w= []:=List.eq_nil_of_length_eq_zero (Nat.le_zero.1 t);subst this;simp only[From,false_iff];rintro⟨b,d,m,h,a,_⟩;have:=List.append_eq_nil_iff.1 h.symm;rw[this.1]at a;exact a
 |n+1,[],x,_,_=>by
  simp only[From,false_iff];rintro⟨b,d,m,h,a,_⟩;have:=List.append_eq_nil_iff.1 h.symm;rw[this.1]at a;exact a
 |n+1,c::w,x,t,s=>by
  have i:w.length<=n:=su t;simp only[From];constructor;rintro⟨a,⟨j,g⟩|⟨y,j,g⟩⟩;exact⟨[c],[],0,by simp[j],⟨a, .inl ⟨rfl,g⟩⟩,rfl⟩;rcases(o x s y).1 j with h4|⟨h4,h5⟩;obtain⟨b,d,m,e,p,k⟩:=(Vq r q o n w y i (r x s y h4)).1 g;exact⟨c::b,d,m,by simp[e],⟨a, .inr ⟨y,h4,p⟩⟩,k⟩;obtain⟨b,d,m,e,p,k⟩:=(Vq r q o n w y i (q y h5)).1 g;exact⟨[c],w,m+1,rfl,⟨a, .inl ⟨rfl,h4⟩⟩,b,d,e,⟨y,h5,p⟩,k⟩
  .rintro⟨b,d,m,e,p,k⟩
   cases b with
   |nil=>exact p.elim
   |cons D b=>
    simp only[List.cons_append,List.cons.injEq]at e;obtain⟨rfl,rfl⟩:=e;obtain⟨a,⟨j,g⟩|⟨y,j,g⟩⟩:=p
    .subst j
     cases m with
     |zero=>exact⟨a, .inl ⟨by simpa[Pow]using k,g⟩⟩
     |succ m=>
      obtain⟨v1,C,z,⟨y,u,A⟩,B⟩:=k;exact⟨a, .inr ⟨y,(o x s y).2 (.inr ⟨g,u⟩),by
       rw[List.nil_append];exact(Vq r q o n d y (su i) (q y u)).2 ⟨v1,C,m,z,A,B⟩⟩⟩
    .exact⟨a, .inr ⟨y,(o x s y).2 (.inl j),(Vq r q o n (b++d) y i (r x s y j)).2 ⟨b,d,m,rfl,g,k⟩⟩⟩
end
end Go.Y.Gl
namespace Go.Y
open Gl
abbrev S4:=Int×Int×Int×Int
inductive Re where
 |mk (kind:Int) (set:S4) (kids:List Re) (lo hi n:Int)
def ReL(has:S4->UInt8->Bool):Re->List UInt8->Prop
 | .mk a d b h e _=>λw=>
  if a=0 then w= []
  else if a=1 then∃c,w= [c]/\has d c=true
  else if a=4\/a=7 then catL has b w
  else if a=5 then altL has b w
  else if a=6 then∃m:Nat,h<=(m:Int)/\(e<0\/(m:Int)<=e)/\powL has b m w
  else w= []
where
 catL (has:S4->UInt8->Bool):List Re->List UInt8->Prop
  | []=>λw=>w= []
  |r::l=>λw=> ∃f g,w=f++g/\ReL has r f/\catL has l g
 altL (has:S4->UInt8->Bool):List Re->List UInt8->Prop
  | []=>λ_=>False
  |r::l=>λw=>ReL has r w\/altL has l w
 powL (has:S4->UInt8->Bool):List Re->Nat->List UInt8->Prop
  | []=>λm w=>m=0/\w= []
  |r::_=>λm w=>Pow (ReL has r) m w
end Go.Y
namespace Go.Y
set_option maxRecDepth 1000000
set_option maxHeartbeats 0
def Zs0(p:Nat->Bool)(k:Nat):Int:=((List.range 64).foldl (fun(n:Nat) b=>if p (64*k+b)then n+2 ^ b else n) 0:Nat)
def ZD(p:Nat->Bool):S4:=(Zs0 p 0,Zs0 p 1,Zs0 p 2,Zs0 p 3)
def ZO(l:List Span)(c:Nat):Bool:=l.any λx=>decide (x.lo<=(c:Int))&&decide ((c:Int)<=x.hi)
def sevS(a:Int):List Re->Re
 | []=> .mk 0 (0,0,0,0) [] 0 0 0
 | [r]=>r
 |l=> .mk a (0,0,0,0) l 0 0 0
def Qw(s:S4):Re:= .mk 1 s [] 0 0 0
def Re.kind:Re->Int
 | .mk k _ _ _ _ _=>k
abbrev PR(a:Type):=Except (Int×Nat) (a×Nat×Nat)
def XW(s:List UInt8)(i:Nat)(a:Int):Except Nat (Int×Nat):=match s[i]? with
 |some c=>if 48<=c.toNat/\c.toNat<=56/\a<=(c.toNat:Int)-48 then .ok ((c.toNat:Int)-48,i+1)else .error i
 |none=> .error i
def Xi(s:List UInt8)(i:Nat):Except Nat (Int×Int×Nat):=match XW s i 0 with
 | .error e=> .error e
 | .ok (a,j)=>if s[j]? =some 44 then
   (if s[j+1]? =some 125 then .ok (a,-1,j+2)else match XW s (j+1) a with
    | .error e=> .error e
    | .ok (b,k)=>if s[k]? =some 125 then .ok (a,b,k+1)else .error k)
  else if s[j]? =some 125 then .ok (a,a,j+1)else .error j
def QN(s:List UInt8)(i:Nat):Except Nat (S4×Nat):=
 let a:=s[i]? =some 94
 let i:=if s[i]? =some 94 then i+1 else i
 match setS (s.length+1) s i [] with
 | .error e=> .error e
 | .ok (l,j)=> .ok (ZD (λc=>ZO l c !=decide a),j)
def Zjn(c:UInt8):Bool:=c==42||c==43||c==63||c==123
mutual
def altE:Nat->Nat->List UInt8->Nat->Nat->PR Re
 |0,_,_,i,_=> .error (1,i)
 |n+1,d,s,i,g=>match rowE n d s i g [] with
  | .error e=> .error e
  | .ok (r,i,g)=>WJ n d s i g [r]
def WJ:Nat->Nat->List UInt8->Nat->Nat->List Re->PR Re
 |0,_,_,i,_,_=> .error (1,i)
 |n+1,d,s,i,g,l=>if s[i]? =some 124 then match rowE n d s (i+1) g [] with
   | .error e=> .error e
   | .ok (r,i,g)=>WJ n d s i g (l++ [r])
  else .ok (sevS 5 l,i,g)
def rowE:Nat->Nat->List UInt8->Nat->Nat->List Re->PR Re
 |0,_,_,i,_,_=> .error (1,i)
 |n+1,d,s,i,g,l=>match s[i]? with
  |none=> .ok (sevS 4 l,i,g)
  |some c=>if c=124\/c=41 then .ok (sevS 4 l,i,g)else match Qh n d s i g with
   | .error e=> .error e
   | .ok (r,i,g)=>rowE n d s i g (l++ [r])
def Qh:Nat->Nat->List UInt8->Nat->Nat->PR Re
 |0,_,_,i,_=> .error (1,i)
 |n+1,d,s,i,g=>match JW n d s i g with
  | .error e=> .error e
  | .ok (r,i,g)=>match s[i]? with
   |none=> .ok (r,i,g)
   |some c=>if Zjn c then
     (if r.kind=2\/r.kind=3 then .error (1,i)
     else if c=42 then .ok (.mk 6 (0,0,0,0) [r] 0 (-1) 0,i+1,g)
     else if c=43 then .ok (.mk 6 (0,0,0,0) [r] 1 (-1) 0,i+1,g)
     else if c=63 then .ok (.mk 6 (0,0,0,0) [r] 0 1 0,i+1,g)
     else match Xi s (i+1) with
      | .error e=> .error (1,e)
      | .ok (b,a,j)=> .ok (.mk 6 (0,0,0,0) [r] b a 0,j,g))
    else .ok (r,i,g)
def JW:Nat->Nat->List UInt8->Nat->Nat->PR Re
 |0,_,_,i,_=> .error (1,i)
 |n+1,d,s,i,g=>match s[i]? with
  |none=> .error (1,i)
  |some c=>if Zjn c then .error (1,i)
   else if c=40 then
    (if 64<=d then .error (8,i)else match altE n (d+1) s (i+1) (g+1) with
     | .error e=> .error e
     | .ok (r,j,a)=>if s[j]? =some 41 then .ok (.mk 7 (0,0,0,0) [r] 0 0 (if g+1<=9 then((g+1:Nat):Int)else 0),j+1,a)else .error (1,j))
   else if c=91 then match QN s (i+1) with
    | .error e=> .error (1,e)
    | .ok (x,j)=> .ok (Qw x,j,g)
   else if c=46 then .ok (Qw (ZD λ_=>true),i+1,g)
   else if c=94 then .ok (.mk 2 (0,0,0,0) [] 0 0 0,i+1,g)
   else if c=36 then .ok (.mk 3 (0,0,0,0) [] 0 0 0,i+1,g)
   else if c=92 then match s[i+1]? with
    |none=> .error (1,i+1)
    |some d=> .ok (Qw (ZD λx=>x==d.toNat),i+2,g)
   else .ok (Qw (ZD λx=>x==c.toNat),i+1,g)
end
def Qx(s:List UInt8):Except (Int×Nat) Re:=
 if 200<s.length then .error (2,200)else match altE (6*s.length+10) 0 s 0 0 with
  | .error e=> .error e
  | .ok (r,i,_)=>if i<s.length then .error (1,i)else .ok r
end Go.Y
