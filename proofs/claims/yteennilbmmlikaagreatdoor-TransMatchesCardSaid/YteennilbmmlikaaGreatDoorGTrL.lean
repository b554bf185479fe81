/- A part of the proof. -/
import Derived.Test.YteennilbmmlikaaGreatDoorGTrJ
namespace Go.Y
open Go.Proofs
set_option maxRecDepth 1000000
set_option maxHeartbeats 0
theorem Zqt(x)(d:nnS x)(c:Nat)(j:c<256):PCon UY 124 [.agg (setC x), .i .u8 (c:Nat)] (· = .b (hasN x c)):=by
 refine PCon.hz (Zw Tryh.Yok (fn:=Tryz.f124) rfl ZFz rfl ?_);have a:c / 64<4:=om;have g:IntKind.u8.wrap (Int.tdiv (c:Int) 64)=((c / 64:Nat):Int):=by rw[Zuw,Zfk om]
 have e:(Int.tmod (c:Int) 64).toNat=c % 64:=by rw[Zhf];rfl
 have hp:0<=Zgu x (c / 64):=by
  generalize c / 64=k at a;obtain⟨p,rfl⟩:=d
  match k,a with
  |0,_=>exact Int.natCast_nonneg _
  |1,_=>exact Int.natCast_nonneg _
  |2,_=>exact Int.natCast_nonneg _
  |3,_=>exact Int.natCast_nonneg _
 rw[g];refine⟨dc,⟨om,om⟩,Zgu x (c / 64),?_,dc,by rw[Zhf];omega,dc,?_⟩
 .rw[Zs (cs:= [U x.1,U x.2.1,U x.2.2.1,U x.2.2.2]) (wr:=true) sm,qdq];generalize c / 64=k at a
  match k,a with
  |0,_=>rfl
  |1,_=>rfl
  |2,_=>rfl
  |3,_=>rfl
 .have f:min (Int.tmod (c:Int) 64).toNat IntKind.u64.bits=c % 64:=by
   have:IntKind.u64.bits=64:=rfl;rw[this,e];omega
  rw[f];refine ZB rr rfl (.b _) ?_;unfold hasN;generalize Zgu x (c / 64)=y at hp;have h:0<=y.fdiv ((2:Int) ^ (c % 64)):=by
   rw[Int.fdiv_eq_ediv_of_nonneg _ (Int.le_of_lt (Int.pow_pos dc))];exact Int.ediv_nonneg hp (Int.le_of_lt (Int.pow_pos dc))
  rw[Int.tmod_eq_emod_of_nonneg h]
def Qe(c:UInt8):List UInt8:=if(c=93\/c=45)\/c=92 then [92,c]else [c]
theorem Zdk(c:UInt8):UInt8.ofNat ((c.toNat:Nat):Int).toNat=c:=by rw[qdq];simp
theorem Zf7(c:UInt8):PCon UY 161 [.i .u8 (c.toNat:Nat)] (· = .s (Qe c)):=by
 refine Zw UK (fn:=Tryz.f161) rfl ZLz rfl ?_;rw[Zdk];refine Zf (λa=> ?_) (λa=>Zf (λe=> ?_) (λe=>Zf (λf=> ?_) (λf=> ?_)))
 .have a:=ZO (d:=93) a;exact⟨_,rfl,sm,ZB rr rfl (.s _) (by unfold Qe;rw[uF (.inl (.inl a))];rfl)⟩
 .have e:=ZO (d:=45) e;exact⟨_,rfl,sm,ZB rr rfl (.s _) (by unfold Qe;rw[uF (.inl (.inr e))];rfl)⟩
 .have f:=ZO (d:=92) f;exact⟨_,rfl,sm,ZB rr rfl (.s _) (by unfold Qe;rw[uF (.inr f)];rfl)⟩
 .have a:=ZH (d:=93) a;have e:=ZH (d:=45) e;have f:=ZH (d:=92) f;exact⟨_,rfl,ZB rr rfl (.s _) (by unfold Qe;rw[uE (by rintro((h|h)|h)<;>contradiction)])⟩
def Za8(p:UInt8×UInt8):List UInt8:=if p.2=p.1 then Qe p.1 else Qe p.1++ [45]++Qe p.2
theorem WN(c:UInt8):(Qe c).length<=2:=by unfold Qe;split<;>simp
theorem Zhx(a c:UInt8):PCon UY 125 [.ts [.i .u8 (a.toNat:Nat), .i .u8 (c.toNat:Nat)] 1 (some 1)] (· = .s (Za8 (a,c))):=by
 refine PCon.wkD (.cons _ _ _ _ (.ts _ _ _ _ (.cons _ _ _ _ (.same _) (.cons _ _ _ _ (.same _) .nil))) .nil) ?_;refine ZG UK (fn:=Tryz.f125) rfl ?_;refine Zh UK 40 ZLx rfl ?_;refine⟨rfl,ZN [0,3,4] [0,3,4] (λm d g=>(m=1/\d= [.ts [.i .u8 (a.toNat:Nat), .i .u8 (c.toNat:Nat)] 1 none, .s [],I 0])\/(m=0/\d= [.ts [.i .u8 (a.toNat:Nat), .i .u8 (c.toNat:Nat)] 1 none, .s (Za8 (a,c)),I 1])) 1 ZA (.inl ⟨rfl,rfl⟩) ?_⟩;rintro m d g (⟨rfl,rfl⟩|⟨rfl,rfl⟩)
 .refine Zn UK ZCu rfl ?_;have w1:=WN a;have k:=WN c;refine ifT rfl ⟨⟨dc,dc⟩,_,rfl,_,Zf7 a,by simp;omega,⟨dc,dc⟩,_,rfl,⟨dc,dc⟩,_,rfl,Zf (λh=> ?_) (λh=> ?_)⟩
  .have f:c≠a:=by
    intro e;subst e;simp at h
   refine⟨by simp;omega,⟨dc,dc⟩,_,rfl,_,Zf7 c,by simp;omega,rfl,0,dc, .inr ⟨rfl,?_⟩⟩;unfold Za8;rw[uE f];rfl
  .have j:c=a:=by
    have:((c.toNat:Nat):Int)=((a.toNat:Nat):Int):=by simpa using h
    exact UInt8.toNat_inj.1 om
   refine⟨rfl,0,dc, .inr ⟨rfl,?_⟩⟩;unfold Za8;rw[uF j];rfl
 .refine Zn UK ZCu rfl ?_;refine ifF rfl ?_;refine Zj [3] ?_;refine Zo UK ZLy rfl ?_;exact ZB rr rfl (.s _) rfl
theorem Zwy{x y:Int}(A:0<=x/\x<=8)(g:y= -1\/(x<=y/\y<=8)):PCon UY 81 [I x,I y] (· = .s (Zn2 x y)):=by
 refine Zw UK (fn:=Tryz.f81) rfl ZRt rfl ?_;have l:UInt8.ofNat (IntKind.u8.wrap (wW (48+x))).toNat=UInt8.ofNat (48+x.toNat):=by
  have e:48+x=((48+x.toNat:Nat):Int):=om;rw[e,ZI om om,Zfk om,qdq]
 have v:(y !=x)= !(x==y):=by
  have:(y==x)=(x==y):=by
   by_cases h:x=y
   .subst h;rfl
   .rw[beq_eq_false_iff_ne.2 h,beq_eq_false_iff_ne.2 (Ne.symm h)]
  rw[bne,this]
 have r:leI 0 y= !(y== -1):=by
  rcases g with rfl|g
  .rfl
  .have u:(y== -1)=false:=by rw[beq_eq_false_iff_ne];omega
   have w:leI 0 y=true:=by simp[leI];omega
   rw[u,w];rfl
 have a:(y== -1)=false->UInt8.ofNat (IntKind.u8.wrap (wW (48+y))).toNat=UInt8.ofNat (48+y.toNat):=by
  intro h;have h:y≠ -1:=by simpa using h
  have e:48+y=((48+y.toNat:Nat):Int):=om;rw[e,ZI om om,Zfk om,qdq]
 rw[v,r,l];unfold Zn2;revert a;generalize UInt8.ofNat (IntKind.u8.wrap (wW (48+y))).toNat=B;intro a;have m:XC x.toNat= [UInt8.ofNat (48+x.toNat)]:=rfl;have o:XC y.toNat= [UInt8.ofNat (48+y.toNat)]:=rfl;rw[m,o];revert a;generalize UInt8.ofNat (48+x.toNat)=z;generalize UInt8.ofNat (48+y.toNat)=k;intro a;generalize (x==0)=d;generalize (y== -1)=t at a ⊢;generalize (x==1)=f;generalize (y==1)=j;generalize (x==y)=c;cases t
 .have a:=a rfl;subst a;cases d<;>cases f<;>cases j<;>cases c<;>first
   |exact ZB (n:=46) rr rfl (.s _) rfl
   |exact⟨_,rfl,sm,sm,ZB (n:=46) rr rfl (.s _) rfl⟩
   |exact⟨_,rfl,sm,sm,_,rfl,sm,sm,ZB (n:=46) rr rfl (.s _) rfl⟩
 .clear a;cases d<;>cases f<;>cases j<;>cases c<;>first
   |exact ZB (n:=46) rr rfl (.s _) rfl
   |exact⟨_,rfl,sm,sm,ZB (n:=46) rr rfl (.s _) rfl⟩
   |exact⟨_,rfl,sm,sm,sm,ZB (n:=46) rr rfl (.s _) rfl⟩
end Go.Y
namespace Go.Y
set_option maxRecDepth 1000000
set_option maxHeartbeats 0
theorem Wt(p:Nat->Bool){c:Nat}(h:c<256):hasN (ZC p) c=p c:=by
 have a: ∀k,k<4->Zgu (ZC p) k=((Xf p k 64:Nat):Int):=λk g=>by
  match k,g with
  |0,_=>rfl
  |1,_=>rfl
  |2,_=>rfl
  |3,_=>rfl
 unfold hasN;rw[a _ om];have f:=Jx p (c / 64) (c % 64) 64;rw[uN (show c % 64<64 from om),uT,show 64*(c / 64)+c % 64=c from om]at f;rw[<-f,Nat.testBit_eq_decide_div_mod_eq];generalize Xf p (c / 64) 64=w;have e:((w:Int)).fdiv ((2:Int) ^ (c % 64))=((w / 2 ^ (c % 64):Nat):Int):=by
  rw[Int.fdiv_eq_ediv_of_nonneg _ (Int.le_of_lt (Int.pow_pos dc))]
  norm_cast
 rw[e];generalize w / 2 ^ (c % 64)=y;by_cases d:y % 2=1
 .rw[uN d];have:(y:Int) % 2=1:=om;rw[this];rfl
 .rw[uK d];have:(y:Int) % 2=0:=om;rw[this];rfl
theorem Zwz(p:Nat->Bool): ∀(f c x:Nat),c<=x->x<runE p f c->p x=true
 |0,c,x,e,a=>by rw[runE]at a;omega
 |f+1,c,x,e,a=>by
  by_cases hp:p c=true
  .rw[runE,uF hp]at a;by_cases d:x=c
   .subst d;exact hp
   .exact Zwz p f (c+1) x om a
  .rw[runE,uE hp]at a;omega
theorem Zw0(p:Nat->Bool): ∀(f c:Nat),runE p f c<=c+f
 |0,c=>by rw[runE];omega
 |f+1,c=>by
  rw[runE];split
  .have:=Zw0 p f (c+1);omega
  .omega
theorem Zqu(p:Nat->Bool): ∀(f c:Nat),(∀x,c<=x->x<c+f->p x=true)->runE p f c=c+f
 |0,c,_=>rfl
 |f+1,c,h=>by rw[runE,uF (h c (qnq _) om),Zqu p f (c+1) λx a d=>h x om om];omega
theorem ZCv(p:Nat->Bool): ∀(f c:Nat) (a:List PR2),(∀q∈a,∀x,q.1.toNat<=x->x<=q.2.toNat->p x=true)-> ∀q∈goF p f c a,∀x,q.1.toNat<=x->x<=q.2.toNat->p x=true
 |0,c,a,h=>by rw[goF];exact h
 |f+1,c,a,h=>by
  rw[goF];split
  .rename_i n;refine ZCv p f _ _ ?_;intro q d x e g;split at d
   .rename_i m;rcases qA.1 d with d|d
    .exact h q d x e g
    .rw[vE]at d;subst d;have j:=Zw0 p (256-c) c;have l:(UInt8.ofNat c).toNat=c:=by rw[UInt8.toNat_ofNat'];omega
     have k:(UInt8.ofNat (runE p (256-c) c-1)).toNat=runE p (256-c) c-1:=by rw[UInt8.toNat_ofNat'];omega
     simp only[l,k]at e g;exact Zwz p (256-c) c x e om
   .exact h q d x e g
  .exact h
theorem ZF0:maxU=((2 ^ 64-1:Nat):Int):=by
 have:=Zqh (n:=0) dc;exact this
theorem Zhy(k:Nat): ∀m,Xf (λ_=>true) k m=2 ^ m-1
 |0=>rfl
 |m+1=>by
  rw[XZ,Zhy k m,Nat.pow_succ];have:0<2 ^ m:=Nat.pow_pos dc;simp;omega
theorem Zhz:ZC (λ_=>true)=(maxU,maxU,maxU,maxU):=by
 simp only[ZC,Zbv,Zhy,ZF0]
def allM(x:S4):Bool:=x.1==maxU&&(x.2.1==maxU&&(x.2.2.1==maxU&&(x.2.2.2==maxU&&true)))
theorem ZAl(p:Nat->Bool):allM (ZC p)=true↔Qv (hasN (ZC p))= [(0,255)]:=by
 constructor
 .intro h;have e:ZC p=(maxU,maxU,maxU,maxU):=by
   unfold allM at h;simp only[qrq,vM,Bool.and_true]at h;obtain⟨a,b,c,d⟩:=h;exact Prod.ext a (Prod.ext b (Prod.ext c d))
  have hp: ∀x,0<=x->x<0+256->hasN (ZC p) x=true:=λx _ j=>by
   rw[e,<-Zhz,Wt _ om]
  unfold Qv;rw[goF,uF dc,show 256-0=256 from rfl,Zqu _ 256 0 hp,uF dc];rw[Zvy _ _ dc]
  rfl
 .intro h;have f: ∀x,x<256->hasN (ZC p) x=true:=λx j=>by
   have:=ZCv (hasN (ZC p)) 257 0 [] (λq k=>by cases k);unfold Qv at h;rw[h]at this;exact this (0,255) sm x (qx _) (by show x<=255;omega)
  have e:ZC p=ZC λ_=>true:=Zlr λc g=>by rw[<-Wt p g,f c g]
  rw[e,Zhz]
  decide
theorem Zl4(c:UInt8)(m:List UInt8):Zb5 c m=if m.contains c=true then [92,c]else [c]:=by unfold Zb5;rw[Zwd]
def WU(a c:UInt8):List UInt8:=(if a=94 then [92]else [])++(if a≠c/\c=94 then Za8 (a,a)++ [45,92,94]else Za8 (a,c))
theorem Zqv(c:UInt8):Zb5 c Zfr=if c=94 then [92,c]else Qe c:=by
 rw[Zl4];unfold Qe;by_cases h:c=94
 .subst h;rfl
 .rw[uE h];by_cases a:(c=93\/c=45)\/c=92
  .rw[uF a,uF];rcases a with (rfl|rfl)|rfl<;>rfl
  .rw[uE a,uE];simp only[List.contains_cons,List.contains_nil,Bool.or_false,uS,vM];rintro(h3|h3|h3|h3)
   .exact a (.inl (.inl h3))
   .exact a (.inl (.inr h3))
   .exact a (.inr h3)
   .exact h h3
theorem Zw1(f c:UInt8):WU f c=XL (f,c):=by
 unfold WU XL;rw[Zqv,Zqv];have e:((((c.toNat:Nat):Int) !=((f.toNat:Nat):Int))=true)↔c≠f:=by
  rw[bne_iff_ne];constructor
  .intro h e;subst e;exact h rfl
  .intro h e;exact h (UInt8.toNat_inj.1 om)
 have j:Qe 94= [94]:=dc;by_cases g:f=94
 .subst g;by_cases a:c=94
  .subst a;rw[uE (λh=>e.1 h rfl)]
   decide
  .rw[uF (e.2 a),uF rfl,uE (λh=>a h.2),uF rfl,uE a];unfold Za8;rw[uE a];simp[j]
 .rw[uE g,qy,uE g];by_cases d:c=f
  .subst d;rw[uE (λh=>e.1 h rfl),uE (λh=>h.1 rfl)];unfold Za8;rw[uF rfl]
  .rw[uF (e.2 d)];by_cases a:c=94
   .subst a;rw[uF ⟨g,rfl⟩,uF rfl];unfold Za8;rw[uF rfl];simp
   .rw[uE (λh=>a h.2),uE a];unfold Za8;rw[uE d];simp
end Go.Y
namespace Go.Y
open Go.Proofs
set_option maxRecDepth 1000000
set_option maxHeartbeats 0
def Zw2:List Code->Bool
 | .cond _ _ _::_=>true
 |_=>false
theorem Xy{Y:YP}(n:Nat)(a:List Nat){g:St}{l:List Code}{Q:Out->St->Prop}(k:Zw2 l=true)(m:(l.drop 1).isEmpty=false){b:Bool}(u:ev g.env (ZH6 l)= .b b)
  (h:TriL Y (flat (if b then QU l else ZT l)) g (VQ a (PreV Y n a (l.drop 1) Q))):TriL Y l g Q:=by
 unfold Zw2 at k;split at k
 .rename_i x p q r;have j:r≠ []:=λe=>by subst e;cases m
  have t:=XP (c:=if b then p else q) (r:= []) (by rw[qi];exact h);refine XB (Ziq u (Tri.mono t λo d f=> ?_))
  cases o with
  |normal=>exact QM j f.1 rfl rfl f.2
  |exit i=>exact f d rfl rfl rfl
  |ret=>exact f d rfl rfl rfl
 .cases k
theorem slo{a off:Nat}{n:Prop}{p:Nat->Nat->Prop}(h:p a off):SlO (some (a,off)) n p:=h
theorem ZL0{h}{a}{l:Nat}{c}{n:Nat}{d:List PR2}(x:PR2){new}(o:encP x=new)(u:LX encP 2 h a l c n d)(v:d.length<2 ^ 29):
  ∃j g m k f,Zk UY h 57 57 (.sl a l c n) (.ts new 1 (some 1))=some (.sl j g m k,f)/\LX encP 2 f j g m k (d++ [x]):=by
 obtain⟨j,g,m,k,f,t,r,_⟩:=LX.app (Y:=UY) (e:=155) (te:=⟨2,2, .struct [(0,5),(1,5)],[.i .u8 0, .i .u8 0]⟩) x o Zb6 kr kr rfl dc (by rw[<-o];rfl) dc u v;exact⟨j,g,m,k,f,t,r⟩
theorem Zjm{h:Heap}{a:Nat}{L:List PR2}(c:h.get a=some (.arr (row encP L) true)){i:Nat}(e:i<L.length):
  Zb h a (0+(i:Int).toNat*2+0) 1=some [.i .u8 (L[i].1.toNat:Nat)]/\Zb h a (0+(i:Int).toNat*2+1) 1=some [.i .u8 (L[i].2.toNat:Nat)]/\Zb h a (0+(i:Int).toNat*2) 2=some [.i .u8 (L[i].1.toNat:Nat), .i .u8 (L[i].2.toNat:Nat)]:=by
 have d:=VN (f:=encP) (k:=2) Zb6 L e;rw[qdq,uJ];refine⟨?_,?_,?_⟩
 .rw[Zs c,Nat.add_zero,d];rfl
 .rw[Zs c,<-vH,d];rfl
 .rw[Zs c,d];rfl
theorem ZF1{h:Heap}{e:Nat}{a:List PR2}{q:PR2}(g:h.get e=some (.arr (row encP (a++ [q])) true))(c:UInt8):
  Zi h e (0+a.length*2+1) [.i .u8 (c.toNat:Nat)]=some (h.set e (some (.arr (row encP (a++ [(q.1,c)])) true))):=by
 have f:row encP (a++ [q])=(row encP a++ [.i .u8 (q.1.toNat:Nat)])++ [.i .u8 (q.2.toNat:Nat)]:=by rw[Xz];simp[row]
 have j:row encP (a++ [(q.1,c)])=(row encP a++ [.i .u8 (q.1.toNat:Nat)])++ [.i .u8 (c.toNat:Nat)]:=by rw[Xz];simp[row]
 have d:(row encP a++ [V.i .u8 (q.1.toNat:Nat)]).length=0+a.length*2+1:=by rw[qf,Xh Zb6];simp
 rw[Zf4 g (by rw[f,qf,d];simp),f,j,<-d,Zdg]
 rfl
def StI(x:S4)(m:Nat)(g:List V)(h:Heap):Prop:=
 ∃(c:Nat) (a:Option (Nat×Nat)) (l:Nat) (f:Option Nat) (e:Nat) (d:List PR2),g= [.lb (setC x), .sl a l f e, .i .i64 (c:Nat), .undef]/\c<=256/\m=256-c/\LX encP 2 h a l f e d/\d.length<=c/\Zdj (hasN x) (256-c) c d=Qv (hasN x)
theorem ZAm(x)(hx:nnS x):PCon UY 80 [.agg (setC x)] (· = .s (setT x)):=by
  refine ZG UK (fn:=Tryz.f80) rfl ?_;refine Zh UK 168 ZRj rfl ?_;refine⟨rfl,ZN [1,3,4,10] [1,3,4,10,11] (StI x) 256 ZA ⟨0,none,0,some 0,0,[],rfl,om,om,LX.start _ _ _ _ _,qnq _,Zsp _⟩ ?_⟩;rintro m vs h ⟨c,a,l,cp,kk,o,rfl,hc,rfl,hL,b4,y⟩;refine Zn UK ZRk rfl ?_;refine Xr (λw=> ?_) (λa8=> ?_)
  · have w:c<256:=om
    obtain⟨n,hn⟩: ∃n,256-c=n+1:=⟨255-c,om⟩;rw[hn,Zdj]at y;have c4:n=256-(c+1):=om;subst c4;have hh:=Zqt x hx c w;rw[Zfk w];refine⟨_,hh,Zf (λZ=> ?_) (λZ=> ?_)⟩
    · have Z:hasN x c=false:=by simpa using Z
      have:Zag (hasN x) c o=o:=by unfold Zag;rw[uE (by rw[Z];decide)]
      rw[this]at y;exact⟨rfl,256-(c+1),om,c+1,a,l,cp,kk,o,by rw[Ze om];rfl,om,rfl,hL,om,y⟩
    have Z:hasN x c=true:=by simpa using Z
    have e8:(c:Int)=(((UInt8.ofNat c).toNat:Nat):Int):=by rw[UInt8.toNat_ofNat',Nat.mod_eq_of_lt w]
    have G:=hL.len;have more:Zag (hasN x) c o=o++ [(UInt8.ofNat c,UInt8.ofNat c)]-> ∃a' l' c' k' P,Zk UY h 57 57 (.sl a l cp kk) (.ts [.i .u8 (c:Nat), .i .u8 (c:Nat)] 1 (some 1))=some (.sl a' l' c' k',P)/\StI x (256-(c+1)) [.lb (setC x), .sl a' l' c' k',I (wW ((c:Nat)+1)), .undef] P:=by
      intro hs;rw[hs]at y;obtain⟨a',l',c',k',P,q1,q2⟩:=ZL0 (UInt8.ofNat c,UInt8.ofNat c) (new:= [.i .u8 (c:Nat), .i .u8 (c:Nat)]) (by rw[e8]) hL om;exact⟨a',l',c',k',P,q1,c+1,a',l',c',k',_,by rw[Ze om],om,rfl,q2,by simp;omega,y⟩
    by_cases j:o= []
    · have ha:=hL.nil j
      subst j ha;have a9:l=0:=G;subst a9;obtain⟨a',l',c',k',P,q1,q2⟩:=more (by unfold Zag;rw[uF Z];rfl);exact ifF rfl ⟨a',l',c',k',P,q1,rfl,256-(c+1),om,q2⟩
    · obtain⟨H,rfl,rfl,b6,hg,a6⟩:=hL.cells j
      have b2:0<o.length:=List.length_pos_iff.2 j;obtain⟨f,q,rfl⟩: ∃f q,o=f++ [q]:=⟨o.dropLast,o.getLast j,(List.dropLast_concat_getLast j).symm⟩;have b8:l=f.length+1:=by rw[G];simp
      subst b8;have hi:f.length<(f++ [q]).length:=sm;have u:=Zjm hg hi;have hq:(f++ [q])[f.length]=q:=sm;rw[hq]at u;have w1:wW (((f.length+1:Nat):Int)-1)=((f.length:Nat):Int):=by rw[ZI om om];omega
      have c7:=q.2.toNat_lt;have w2:wW ((q.2.toNat:Nat):Int)=(q.2.toNat:Nat):=ZI om om;have w3:wW ((c:Int)-1)=(c:Int)-1:=ZI om om;have bnd:(0:Int)<=((f.length:Nat):Int)/\((f.length:Nat):Int)<((f.length+1:Nat):Int):=⟨om,om⟩;have a3:(f++ [q]).getLast? =some q:=sm;rw[w1,w3];refine Xr (λ_=>slo ⟨bnd,rfl,_,u.2.1,?_⟩) (λh0=>om);rw[w2];refine Zf (λa0=>slo ⟨bnd,rfl,?_⟩) (λa0=> ?_)
      · have a0:((q.2.toNat:Nat):Int)=(c:Int)-1:=by simpa using a0
        have a7:Zag (hasN x) c (f++ [q])=f++ [(q.1,UInt8.ofNat c)]:=by
          unfold Zag;rw[uF Z,a3];simp only[];rw[uF om,List.dropLast_concat]
        rw[a7]at y;have hp:=ZF1 hg (UInt8.ofNat c);rw[<-e8]at hp;refine⟨_,hp,rfl,256-(c+1),om,c+1,some (H,0),f.length+1,cp,2,f++ [(q.1,UInt8.ofNat c)],by rw[Ze om];rfl,om,rfl,⟨λe=>by simp at e,λ_=>⟨H,rfl,rfl,b6,by rw[qc,uF rfl],a6⟩,sm⟩,by simp at b4 ⊢;omega,y⟩
      · have a0:((q.2.toNat:Nat):Int)≠(c:Int)-1:=by simpa using a0
        have a7:Zag (hasN x) c (f++ [q])=(f++ [q])++ [(UInt8.ofNat c,UInt8.ofNat c)]:=by
          unfold Zag;rw[uF Z,a3];simp only[];rw[uE om]
        obtain⟨a',l',c',k',P,q1,q2⟩:=more a7;exact⟨a',l',c',k',P,q1,rfl,256-(c+1),om,q2⟩
  · have W:c=256:=om
    subst W;have y:o=Qv (hasN x):=y;refine Zj [3,10,11] ?_;refine Zh UK 168 ZRl rfl ?_;obtain⟨p,rfl⟩:=hx;have C:=ZAl p;rw[<-y]at C;generalize F:setT (ZC p)=T;unfold setT at F;rw[<-y]at F;clear y;have G:=hL.len;by_cases j:o= []
    · have ha:=hL.nil j
      subst j ha;have a9:l=0:=G;subst a9;exact ifT rfl (fin1 rr rfl (.s _) (by rw[<-F]))
    obtain⟨H,rfl,rfl,b6,hg,a6⟩:=hL.cells j;subst G;have b2:0<o.length:=List.length_pos_iff.2 j;obtain⟨q,L,rfl⟩: ∃q L,o=q::L:=by
      cases o with
      |nil=>exact absurd rfl j
      |cons q L=>exact⟨q,L,rfl⟩
    simp only[]at F
    replace F:(if allM (ZC p)=true then [46]else if L= []/\(((q.1.toNat:Nat):Int)==((q.2.toNat:Nat):Int))=true then Zb5 q.1 specB else [91]++(q::L).flatMap XL++ [93])=T:=F
    have u:=Zjm hg (i:=0) sm;have b0:(0:Int)<=0/\(0:Int)<(((q::L).length:Nat):Int):=⟨dc,om⟩;refine Zf (λh0=>absurd h0 (by simp;omega)) (λ_=> ?_);have a2: ¬(allM (ZC p)=true)-> ¬(L= []/\(((q.1.toNat:Nat):Int)==((q.2.toNat:Nat):Int))=true)-> ∀(v2 c8:V),PreV UY 168 [2,3,11,85] (post ((post (flat (Za Tryz.f80))).drop 1)) (FinS UY Tryz.f80 λv h=> ∃r,Frz h v r/\r= .s T) .normal 168 [.undef, .sl (some (H,0)) (q::L).length cp 2,I 256, .b false] h:=by
      intro O b5 _ _;rw[uE O,uE b5]at F;refine⟨rfl,Xy 168 [3,11] (b:=false) kr kr kr ?_⟩;refine Zn UK ZRp rfl ?_;refine⟨rfl,?_⟩;refine Zh UK 168 ZRq rfl ?_;clear O b5 C u b0 hL;generalize q::L=L at F hg b4;refine⟨rfl,ZN [3,8,9,11] [3,8,9,11] (λm vs g=> ∃i:Nat,vs= [.sl (some (H,0)) L.length cp 2, .s ([91]++(L.take i).flatMap XL),I (i:Nat),I 256]/\i<=L.length/\m=L.length-i/\g=h) L.length ZA ⟨0,rfl,om,om,rfl⟩ ?_⟩;rintro m vs g ⟨i,rfl,hi,rfl,rfl⟩;refine Zn UK ZRr rfl ?_;have b7:=VV (L.take i);rw[uO]at b7;refine Zq (λw=> ?_) (λa8=> ?_)
      · have a5:(L.take (i+1)).flatMap XL=(L.take i).flatMap XL++XL L[i]:=by rw[qa w,ug];simp
        have b9:XL L[i]=WU L[i].1 L[i].2:=(Zw1 _ _).symm;have u:=Zjm hg w;rw[b9]at a5;have N:=Zu w;generalize L[i].1=z at u a5;generalize L[i].2=k at u a5;obtain⟨c0,c1,c2⟩:=u;have w1:=WN z;have w2:=WN k;have c9:(Za8 (z,z)).length<=2:=by unfold Za8;rw[uF rfl];exact w1
        have c6:(Za8 (z,k)).length<=5:=by
          show(if k=z then Qe z else Qe z++ [45]++Qe k).length<=5;split
          · omega
          · simp only[qf,qh,qp];omega
        have hX:([91]++(L.take i).flatMap XL).length<=2000:=by
          simp only[qf,qh,qp];omega
        have E: ∀str:List UInt8,str=([91]++(L.take i).flatMap XL)++WU z k->XE UY 168 [3,8,9,11] [3,8,9,11] (λm vs g'=> ∃i:Nat,vs= [.sl (some (H,0)) L.length cp 2, .s ([91]++(L.take i).flatMap XL),I (i:Nat),I 256]/\i<=L.length/\m=L.length-i/\g'=g) (L.length-i) (Xd (post ((post ((post (flat (Za Tryz.f80))).drop 1)).drop 1))) ((post ((post ((post (flat (Za Tryz.f80))).drop 1)).drop 1)).drop 1) (FinS UY Tryz.f80 λv h=> ∃r,Frz h v r/\r= .s T) .normal 168 [.sl (some (H,0)) L.length cp 2, .s str,I (wW ((i:Nat)+1)),I 256] g:=λstr b1=>
          ⟨rfl,L.length-(i+1),om,i+1,by rw[Ze om,a5,b1,<-uU];rfl,om,rfl,rfl⟩
        revert E;generalize [91]++(L.take i).flatMap XL=X at hX;generalize XE UY 168 [3,8,9,11] [3,8,9,11] _ _ _ _ _=K;intro E;refine slo ⟨N,rfl,_,c0,Zf (λA=> ?_) (λA=> ?_)⟩
        · have A:=ZO (d:=94) A
          have hu: ∀t,WU z k= [92]++t->X++ [92]++t=X++WU z k:=λt ht=>by rw[ht];simp
          refine⟨by simp;omega,slo ⟨N,rfl,_,c0,slo ⟨N,rfl,_,c1,Zf (λj=>slo ⟨N,rfl,_,c1,Zf (λB=>slo ⟨N,rfl,_,c0,slo ⟨N,rfl,_,c0,_,Zhx z z,?_,?_,E _ ?_⟩⟩) (λB=>slo ⟨N,rfl,_,_,c2,_,Zhx z k,?_,E _ ?_⟩)⟩) (λj=>slo ⟨N,rfl,_,_,c2,_,Zhx z k,?_,E _ ?_⟩)⟩⟩⟩
          · simp only[qf,qh,qp];omega
          · simp only[qf,qh,qp];omega
          · have B:=ZO (d:=94) B
            have j:z≠k:=λe=>by subst e;simp at j
            rw[uU (X++ [92])];refine hu _ ?_;unfold WU;rw[uF A,uF ⟨j,B⟩]
          · simp only[qf,qh,qp];omega
          · have B:=ZH (d:=94) B
            refine hu _ ?_;unfold WU;rw[uF A,uE (λh=>B h.2)]
          · simp only[qf,qh,qp];omega
          · have j:z=k:=by
              have:((z.toNat:Nat):Int)=((k.toNat:Nat):Int):=by simpa using j
              exact UInt8.toNat_inj.1 om
            refine hu _ ?_;unfold WU;rw[uF A,uE (λh=>h.1 j)]
        · have A:=ZH (d:=94) A
          refine slo ⟨N,rfl,_,c0,slo ⟨N,rfl,_,c1,Zf (λj=>slo ⟨N,rfl,_,c1,Zf (λB=>slo ⟨N,rfl,_,c0,slo ⟨N,rfl,_,c0,_,Zhx z z,?_,?_,E _ ?_⟩⟩) (λB=>slo ⟨N,rfl,_,_,c2,_,Zhx z k,?_,E _ ?_⟩)⟩) (λj=>slo ⟨N,rfl,_,_,c2,_,Zhx z k,?_,E _ ?_⟩)⟩⟩
          · omega
          · simp only[qf,qh,qp];omega
          · have B:=ZO (d:=94) B
            have j:z≠k:=λe=>by subst e;simp at j
            unfold WU;rw[uE A,uF ⟨j,B⟩,qy,uU]
          · omega
          · have B:=ZH (d:=94) B
            unfold WU;rw[uE A,uE (λh=>B h.2),qy]
          · omega
          · have j:z=k:=by
              have:((z.toNat:Nat):Int)=((k.toNat:Nat):Int):=by simpa using j
              exact UInt8.toNat_inj.1 om
            unfold WU;rw[uE A,uE (λh=>h.1 j),qy]
      · have W:i=L.length:=om
        subst W;refine Zj [8] ?_;refine Zo UK ZRs rfl ?_;rw[qm]at b7 ⊢;exact⟨by simp only[qf,qh,qp];omega,ZB rr rfl (.s _) (by rw[<-F])⟩
    have one:L= []-> ¬(allM (ZC p)=true)-> ∀b:Bool,b=(((q.1.toNat:Nat):Int)==((q.2.toNat:Nat):Int))->PreV UY 168 [2,3,11,85] (post ((post (flat (Za Tryz.f80))).drop 1)) (FinS UY Tryz.f80 λv h=> ∃r,Frz h v r/\r= .s T) .normal 168 [.undef, .sl (some (H,0)) (q::L).length cp 2,I 256, .b b] h:=by
      intro D O b Z;cases b
      · exact a2 O (λh=>by rw[<-Z]at h;exact absurd h.2 dc) .undef .undef
      · rw[uE O,uF ⟨D,Z.symm⟩]at F
        refine⟨rfl,Xy 168 [2,3,11] (b:=true) kr kr kr ?_⟩;refine Zh UK 168 ZRm rfl ?_;refine slo ⟨b0,rfl,_,u.1,rfl,ZN [5,6,7] [2,5,6,7] (λm vs g=> ∃i:Nat,vs= [.i .u8 (q.1.toNat:Nat), .s specB,I (i:Nat)]/\i<=specB.length/\m=specB.length-i/\(specB.take i).contains q.1=false) specB.length ZA ⟨0,rfl,dc,rfl,rfl⟩ ?_⟩;rintro m vs g ⟨i,rfl,hi,rfl,a4⟩;refine Zn UK ZRn rfl ?_;rw[Zl4]at F;refine Zq (λw=> ?_) (λa8=> ?_)
        · refine⟨specB[i],Za1 w,Zf (λW=> ?_) (λW=> ?_)⟩
          · have W:=ZO W
            rw[uF (by rw[List.contains_iff_mem,<-W];exact qe w)]at F;refine⟨_,rfl,sm,?_⟩;refine ZDx λτ _ B _=> ?_;have e2:lv 2 τ= .s [92,q.1]:=by
              have h3:=congrArg (λl=>l.head?) B;have h4:lv 2 τ=V.s ([92]++(λx=>UInt8.ofNat (((q.1.toNat:Nat):Int)).toNat::x) []):=by simpa using h3
              rw[h4,Zdk];rfl
            show AtV [2,3,11] (FinS UY Tryz.f80 λv h=> ∃r,Frz h v r/\r= .s T) .ret 168 [lv 2 τ,lv 3 τ,lv 11 τ] g;rw[e2];exact fin1 rr rfl (.s _) (by rw[<-F])
          · have W:=ZH W
            have c5:i<12:=w;refine⟨rfl,specB.length-(i+1),by show 12-(i+1)<12-i;omega,i+1,by rw[Ze om];rfl,by show i+1<=12;omega,rfl,?_⟩;rw[qa w];rw[Bool.eq_false_iff]at a4 ⊢;intro hc;rw[List.contains_iff_mem,qA]at hc;rcases hc with hc|hc
            · exact a4 (by rw[List.contains_iff_mem];exact hc)
            · rw[vE]at hc;exact W hc.symm
        · have W:i=specB.length:=by
            have P:i<=12:=hi;have B:12<=i:=a8;show i=12;omega
          subst W;rw[qm]at a4;rw[uE (by rw[a4];decide)]at F;refine Zj [5] ?_;refine Zn UK ZRo rfl ?_;exact⟨_,rfl,fin1 rr rfl (.s _) (by rw[Zdk,<-F])⟩
    refine Zf (λP=> ?_) (λP=> ?_)
    · have D:L= []:=by
        have:(((q::L).length:Nat):Int)=1:=by simpa using P
        exact qg (by simp at this;omega)
      have a1: ¬(allM (ZC p)=true)->If ((((q::L).length:Nat):Int)==1) (SlO (some (H,0)) False λH off=>((0:Int)<=0/\(0:Int)<(((q::L).length:Nat):Int))/\2=2/\ ∃n:Int,Zb h H (off+Int.toNat (0:Int)*2+0) 1=some [.i .u8 n]/\SlO (some (H,0)) False λH off=>((0:Int)<=0/\(0:Int)<(((q::L).length:Nat):Int))/\2=2/\ ∃b3:Int,Zb h H (off+Int.toNat (0:Int)*2+1) 1=some [.i .u8 b3]/\PreV UY 168 [2,3,11,85] (post ((post (flat (Za Tryz.f80))).drop 1)) (FinS UY Tryz.f80 λv h=> ∃r,Frz h v r/\r= .s T) .normal 168 [.undef, .sl (some (H,0)) (q::L).length cp 2,I 256, .b (n==b3)] h)
          (PreV UY 168 [2,3,11,85] (post ((post (flat (Za Tryz.f80))).drop 1)) (FinS UY Tryz.f80 λv h=> ∃r,Frz h v r/\r= .s T) .normal 168 [.undef, .sl (some (H,0)) (q::L).length cp 2,I 256, .b false] h):=λO=>
        ifT P (slo ⟨b0,rfl,_,u.1,slo ⟨b0,rfl,_,u.2.1,one D O _ rfl⟩⟩)
      refine slo ⟨b0,rfl,_,u.1,Zf (λhz=>slo ⟨b0,rfl,_,u.2.1,Zf (λhy=> ?_) (λhy=>a1 ?_)⟩) (λhz=>a1 ?_)⟩
      · have hz:=ZO (d:=0) hz
        have hy:=ZO (d:=255) hy;have hq:q::L= [(0,255)]:=by
          rw[D];show [(q.1,q.2)]=_;have hz:q.1=0:=hz;have hy:q.2=255:=hy;rw[hz,hy]
        rw[uF (C.2 hq)]at F;exact fin1 rr rfl (.s _) (by rw[<-F])
      · intro ha
        have:=C.1 ha;rw[D]at this;have hy:=ZH (d:=255) hy;exact hy (by have B:q=(0,255):=(by simpa using this);show q.2=255;rw[B])
      · intro ha
        have:=C.1 ha;rw[D]at this;have hz:=ZH (d:=0) hz;exact hz (by have B:q=(0,255):=(by simpa using this);show q.1=0;rw[B])
    · have D:L≠ []:=by
        intro e;subst e;simp at P
      refine ifF P (a2 ?_ (λh=>D h.1) .undef .undef);intro ha;have:=C.1 ha;simp at this;exact D this.2
end Go.Y
