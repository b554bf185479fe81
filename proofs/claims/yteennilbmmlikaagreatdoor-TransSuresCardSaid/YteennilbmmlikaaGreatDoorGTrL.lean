/- A part of the proof. -/
import Derived.Test.YteennilbmmlikaaGreatDoorGTrJ
import Derived.Test.YteennilbmmlikaaGreatDoorYLoop
import Derived.Test.YteennilbmmlikaaGreatDoorYAny3
import Derived.Test.YteennilbmmlikaaGreatDoorGRise
import Derived.Test.YteennilbmmlikaaGreatDoorYExo
import Derived.Test.YteennilbmmlikaaGreatDoorGN0
namespace Go.Y
open Go.Proofs
set_option maxRecDepth 1000000
set_option maxHeartbeats 0
theorem Zrk(x)(j:nnS x)(c:Nat)(l:c<256):PCon UY 124 [.agg (setC x), .i .u8 (c:Nat)] (· = .b (hasN x c)):=by
 refine PCon.hz (Zv hK_ (fn:=Tryz.f124) rfl ZGz rfl ?_);have a:c / 64<4:=om;have e:IntKind.u8.wrap (Int.tdiv (c:Int) 64)=((c / 64:Nat):Int):=by rw[Zvv,Zfy om]
 have f:(Int.tmod (c:Int) 64).toNat=c % 64:=by rw[Zho];rfl
 have d:0<=Zd9 x (c / 64):=by
  generalize c / 64=k at a;obtain⟨p,rfl⟩:=j
  match k,a with
  |0,_=>exact Int.natCast_nonneg _
  |1,_=>exact Int.natCast_nonneg _
  |2,_=>exact Int.natCast_nonneg _
  |3,_=>exact Int.natCast_nonneg _
 rw[e];refine⟨dc,⟨om,om⟩,Zd9 x (c / 64),?_,dc,by rw[Zho];omega,dc,?_⟩
 .rw[Zr (cs:= [U x.1,U x.2.1,U x.2.2.1,U x.2.2.2]) (wr:=true) sm,qdq];generalize c / 64=k at a
  match k,a with
  |0,_=>rfl
  |1,_=>rfl
  |2,_=>rfl
  |3,_=>rfl
 .have g:min (Int.tmod (c:Int) 64).toNat IntKind.u64.bits=c % 64:=by
   have:IntKind.u64.bits=64:=rfl;rw[this,f];omega
  rw[g];refine ZB rr rfl (.b _) ?_;unfold hasN;generalize Zd9 x (c / 64)=y at d;have h:0<=y.fdiv ((2:Int) ^ (c % 64)):=by
   rw[Int.fdiv_eq_ediv_of_nonneg _ (Int.le_of_lt (Int.pow_pos dc))];exact Int.ediv_nonneg d (Int.le_of_lt (Int.pow_pos dc))
  rw[Int.tmod_eq_emod_of_nonneg h]
def Qf(c:UInt8):List UInt8:=if(c=93\/c=45)\/c=92 then [92,c]else [c]
theorem Zds(c:UInt8):UInt8.ofNat ((c.toNat:Nat):Int).toNat=c:=by rw[qdq];simp
theorem Zgl(c:UInt8):PCon UY 161 [.i .u8 (c.toNat:Nat)] (· = .s (Qf c)):=by
 refine Zv UK (fn:=Tryz.f161) rfl ZM6 rfl ?_;rw[Zds];refine Zf (λa=> ?_) (λa=>Zf (λb=> ?_) (λb=>Zf (λe=> ?_) (λe=> ?_)));have a:=ZN (d:=93) a;exact⟨_,rfl,sm,ZB rr rfl (.s _) (by unfold Qf;rw[uF (.inl (.inl a))];rfl)⟩;have b:=ZN (d:=45) b;exact⟨_,rfl,sm,ZB rr rfl (.s _) (by unfold Qf;rw[uF (.inl (.inr b))];rfl)⟩;have e:=ZN (d:=92) e;exact⟨_,rfl,sm,ZB rr rfl (.s _) (by unfold Qf;rw[uF (.inr e)];rfl)⟩
 .have a:=ZH (d:=93) a;have b:=ZH (d:=45) b;have e:=ZH (d:=92) e;exact⟨_,rfl,ZB rr rfl (.s _) (by unfold Qf;rw[uE (by rintro((h|h)|h)<;>contradiction)])⟩
def Zbb(p:UInt8×UInt8):List UInt8:=if p.2=p.1 then Qf p.1 else Qf p.1++ [45]++Qf p.2
theorem WS(c:UInt8):(Qf c).length<=2:=by unfold Qf;split<;>simp
theorem Zic(b a:UInt8):PCon UY 125 [.ts [.i .u8 (b.toNat:Nat), .i .u8 (a.toNat:Nat)] 1 (some 1)] (· = .s (Zbb (b,a))):=by
 refine PCon.wkD (.cons _ _ _ _ (.ts _ _ _ _ (.cons _ _ _ _ (.same _) (.cons _ _ _ _ (.same _) .nil))) .nil) ?_;refine ZF UK (fn:=Tryz.f125) rfl ?_;refine Zh UK 40 ZM4 rfl ?_;refine⟨rfl,ZM [0,3,4] [0,3,4] (λm d g=>(m=1/\d= [.ts [.i .u8 (b.toNat:Nat), .i .u8 (a.toNat:Nat)] 1 none, .s [],I 0])\/(m=0/\d= [.ts [.i .u8 (b.toNat:Nat), .i .u8 (a.toNat:Nat)] 1 none, .s (Zbb (b,a)),I 1])) 1 ZA (.inl ⟨rfl,rfl⟩) ?_⟩;rintro m d g (⟨rfl,rfl⟩|⟨rfl,rfl⟩)
 .refine Zm UK ZDz rfl ?_;have j:=WS b;have k:=WS a;refine ifT rfl ⟨⟨dc,dc⟩,_,rfl,_,Zgl b,by simp;omega,⟨dc,dc⟩,_,rfl,⟨dc,dc⟩,_,rfl,Zf (λh=> ?_) (λh=> ?_)⟩
  .have c:a≠b:=by
    intro e;subst e;simp at h
   refine⟨by simp;omega,⟨dc,dc⟩,_,rfl,_,Zgl a,by simp;omega,rfl,0,dc, .inr ⟨rfl,?_⟩⟩;unfold Zbb;rw[uE c];rfl
  .have f:a=b:=by
    have:((a.toNat:Nat):Int)=((b.toNat:Nat):Int):=su h;exact UInt8.toNat_inj.1 om
   refine⟨rfl,0,dc, .inr ⟨rfl,?_⟩⟩;unfold Zbb;rw[uF f];rfl
 .refine Zm UK ZDz rfl ?_;refine ifF rfl ?_;refine Zj [3] ?_;refine Zo UK ZM5 rfl ?_;exact ZB rr rfl (.s _) rfl
theorem Zx0{x y:Int}(v:0<=x/\x<=8)(g:y= -1\/(x<=y/\y<=8)):PCon UY 81 [I x,I y] (· = .s (Zow x y)):=by
 refine Zv UK (fn:=Tryz.f81) rfl ZSv rfl ?_;have r:UInt8.ofNat (IntKind.u8.wrap (wW (48+x))).toNat=UInt8.ofNat (48+x.toNat):=by
  have e:48+x=((48+x.toNat:Nat):Int):=om;rw[e,ZI om om,Zfy om,qdq]
 have k:(y !=x)= !(x==y):=by
  have:(y==x)=(x==y):=by
   by_cases h:x=y;subst h;rfl;rw[beq_eq_false_iff_ne.2 h,beq_eq_false_iff_ne.2 (Ne.symm h)]
  rw[bne,this]
 have l:leI 0 y= !(y== -1):=by
  rcases g with rfl|g;rfl
  .have m:(y== -1)=false:=by rw[beq_eq_false_iff_ne];omega
   have o:leI 0 y=true:=by simp[leI];omega
   rw[m,o];rfl
 have a:(y== -1)=false->UInt8.ofNat (IntKind.u8.wrap (wW (48+y))).toNat=UInt8.ofNat (48+y.toNat):=by
  intro h;have h:y≠ -1:=su h;have e:48+y=((48+y.toNat:Nat):Int):=om;rw[e,ZI om om,Zfy om,qdq]
 rw[k,l,r];unfold Zow;revert a;generalize UInt8.ofNat (IntKind.u8.wrap (wW (48+y))).toNat=u;intro a;have p:XD x.toNat= [UInt8.ofNat (48+x.toNat)]:=rfl;have q:XD y.toNat= [UInt8.ofNat (48+y.toNat)]:=rfl;rw[p,q];revert a;generalize UInt8.ofNat (48+x.toNat)=t;generalize UInt8.ofNat (48+y.toNat)=j;intro a;generalize (x==0)=b;generalize (y== -1)=i at a ⊢;generalize (x==1)=c;generalize (y==1)=d;generalize (x==y)=f;cases i
 .have a:=a rfl;subst a;cases b<;>cases c<;>cases d<;>cases f<;>first
   |exact ZB (n:=46) rr rfl (.s _) rfl
   |exact⟨_,rfl,sm,sm,ZB (n:=46) rr rfl (.s _) rfl⟩
   |exact⟨_,rfl,sm,sm,_,rfl,sm,sm,ZB (n:=46) rr rfl (.s _) rfl⟩
 .clear a;cases b<;>cases c<;>cases d<;>cases f<;>first
   |exact ZB (n:=46) rr rfl (.s _) rfl
   |exact⟨_,rfl,sm,sm,ZB (n:=46) rr rfl (.s _) rfl⟩
   |exact⟨_,rfl,sm,sm,sm,ZB (n:=46) rr rfl (.s _) rfl⟩
end Go.Y
namespace Go.Y
set_option maxRecDepth 1000000
set_option maxHeartbeats 0
theorem Zac(p:Nat->Bool){c:Nat}(h:c<256):hasN (ZD p) c=p c:=by
 have a: ∀k,k<4->Zd9 (ZD p) k=((Xe p k 64:Nat):Int):=λk f=>by
  match k,f with
  |0,_=>rfl
  |1,_=>rfl
  |2,_=>rfl
  |3,_=>rfl
 unfold hasN;rw[a _ om];have b:=Jv p (c / 64) (c % 64) 64;rw[uN (show c % 64<64 from om),uT,show 64*(c / 64)+c % 64=c from om]at b;rw[<-b,Nat.testBit_eq_decide_div_mod_eq];generalize Xe p (c / 64) 64=w;have e:((w:Int)).fdiv ((2:Int) ^ (c % 64))=((w / 2 ^ (c % 64):Nat):Int):=by
  rw[Int.fdiv_eq_ediv_of_nonneg _ (Int.le_of_lt (Int.pow_pos dc))]
  norm_cast
 rw[e];generalize w / 2 ^ (c % 64)=y;by_cases d:y % 2=1;rw[uN d];have:(y:Int) % 2=1:=om;rw[this];rfl;rw[uK d];have:(y:Int) % 2=0:=om;rw[this];rfl
theorem Zx1(p:Nat->Bool): ∀(f c x:Nat),c<=x->x<runE p f c->p x=true
 |0,c,x,d,a=>by rw[runE]at a;omega
 |f+1,c,x,d,a=>by
  by_cases b:p c=true;rw[runE,uF b]at a;by_cases e:x=c;subst e;exact b;exact Zx1 p f (c+1) x om a;rw[runE,uE b]at a;omega
theorem Zx2(p): ∀(f c:Nat),runE p f c<=c+f
 |0,c=>by rw[runE];omega
 |f+1,c=>by
  rw[runE];split;have:=Zx2 p f (c+1);omega;omega
theorem Zrl(p:Nat->Bool): ∀(f c:Nat),(∀x,c<=x->x<c+f->p x=true)->runE p f c=c+f
 |0,c,_=>rfl
 |f+1,c,h=>by rw[runE,uF (h c (qnq _) om),Zrl p f (c+1) λx a b=>h x om om];omega
theorem ZD0(p:Nat->Bool): ∀(f c:Nat) (a:List PR2),(∀q∈a,∀x,q.1.toNat<=x->x<=q.2.toNat->p x=true)-> ∀q∈goF p f c a,∀x,q.1.toNat<=x->x<=q.2.toNat->p x=true
 |0,c,a,h=>by rw[goF];exact h
 |f+1,c,a,h=>by
  rw[goF];split
  .rename_i l;refine ZD0 p f _ _ ?_;intro q b x d e;split at b
   .rename_i k;rcases qA.1 b with b|b;exact h q b x d e
    .rw[vE]at b;subst b;have j:=Zx2 p (256-c) c;have g:(UInt8.ofNat c).toNat=c:=by rw[UInt8.toNat_ofNat'];omega
     have i:(UInt8.ofNat (runE p (256-c) c-1)).toNat=runE p (256-c) c-1:=by rw[UInt8.toNat_ofNat'];omega
     simp only[g,i]at d e;exact Zx1 p (256-c) c x d om
   .exact h q b x d e
  .exact h
theorem ZG0:maxU=((2 ^ 64-1:Nat):Int):=by have:=Zq7 (n:=0) dc;exact this
theorem Zid(k:Nat): ∀m,Xe (λ_=>true) k m=2 ^ m-1
 |0=>rfl
 |m+1=>by
  rw[Qa,Zid k m,Nat.pow_succ];have:0<2 ^ m:=Nat.pow_pos dc;simp;omega
theorem Zie:ZD (λ_=>true)=(maxU,maxU,maxU,maxU):=by simp only[ZD,Zb0,Zid,ZG0]
def allM(x:S4):Bool:=x.1==maxU&&(x.2.1==maxU&&(x.2.2.1==maxU&&(x.2.2.2==maxU&&true)))
theorem ZBo(p):allM (ZD p)=true↔Wr (hasN (ZD p))= [(0,255)]:=by
 constructor
 .intro h;have e:ZD p=(maxU,maxU,maxU,maxU):=by
   unfold allM at h;simp only[qrq,vO,Bool.and_true]at h;obtain⟨a,b,c,d⟩:=h;exact Prod.ext a (Prod.ext b (Prod.ext c d))
  have i: ∀x,0<=x->x<0+256->hasN (ZD p) x=true:=λx _ k=>by
   rw[e,<-Zie,Zac _ om]
  unfold Wr;rw[goF,uF dc,show 256-0=256 from rfl,Zrl _ 256 0 i,uF dc];rw[Zw0 _ _ dc]
  rfl
 .intro h;have f: ∀x,x<256->hasN (ZD p) x=true:=λx k=>by
   have:=ZD0 (hasN (ZD p)) 257 0 [] (λq j=>by cases j);unfold Wr at h;rw[h]at this;exact this (0,255) sm x (qx _) (by show x<=255;omega)
  have e:ZD p=ZD λ_=>true:=Zmg λc g=>by rw[<-Zac p g,f c g]
  rw[e,Zie]
  decide
theorem Zmu(c:UInt8)(m:List UInt8):Zcc c m=if m.contains c=true then [92,c]else [c]:=by unfold Zcc;rw[Zxf]
def WZ(a b:UInt8):List UInt8:=(if a=94 then [92]else [])++(if a≠b/\b=94 then Zbb (a,a)++ [45,92,94]else Zbb (a,b))
theorem Zrm(c:UInt8):Zcc c Zf4=if c=94 then [92,c]else Qf c:=by
 rw[Zmu];unfold Qf;by_cases h:c=94;subst h;rfl
 .rw[uE h];by_cases a:(c=93\/c=45)\/c=92
  .rw[uF a,uF];rcases a with (rfl|rfl)|rfl<;>rfl
  .rw[uE a,uE];simp only[List.contains_cons,List.contains_nil,Bool.or_false,uS,vO];rintro(h3|h3|h3|h3);exact a (.inl (.inl h3));exact a (.inl (.inr h3));exact a (.inr h3);exact h h3
theorem Zx3(d b:UInt8):WZ d b=XM (d,b):=by
 unfold WZ XM;rw[Zrm,Zrm];have e:((((b.toNat:Nat):Int) !=((d.toNat:Nat):Int))=true)↔b≠d:=by
  rw[bne_iff_ne];constructor;intro h e;subst e;exact h rfl;intro h e;exact h (UInt8.toNat_inj.1 om)
 have g:Qf 94= [94]:=dc;by_cases f:d=94
 .subst f;by_cases a:b=94
  .subst a;rw[uE (λh=>e.1 h rfl)]
   decide
  .rw[uF (e.2 a),uF rfl,uE (λh=>a h.2),uF rfl,uE a];unfold Zbb;rw[uE a];simp[g]
 .rw[uE f,qy,uE f];by_cases c:b=d;subst c;rw[uE (λh=>e.1 h rfl),uE (λh=>h.1 rfl)];unfold Zbb;rw[uF rfl];rw[uF (e.2 c)];by_cases a:b=94;subst a;rw[uF ⟨f,rfl⟩,uF rfl];unfold Zbb;rw[uF rfl];simp;rw[uE (λh=>a h.2),uE a];unfold Zbb;rw[uE c];simp
end Go.Y
namespace Go.Y
open Go.Proofs
set_option maxRecDepth 1000000
set_option maxHeartbeats 0
def Zx4:List Code->Bool
 | .cond _ _ _::_=>true
 |_=>false
theorem Xy{Y:YP}(n:Nat)(a:List Nat){k:St}{l:List Code}{Q:Out->St->Prop}(g:Zx4 l=true)(s:(l.drop 1).isEmpty=false){b:Bool}(t:ev k.env (ZJd l)= .b b)
  (h:TriL Y (flat (if b then QT l else ZP l)) k (VQ a (PreV Y n a (l.drop 1) Q))):TriL Y l k Q:=by
 unfold Zx4 at g;split at g
 .rename_i x p q r;have j:r≠ []:=λe=>by subst e;cases s
  have m:=XQ (c:=if b then p else q) (r:= []) (by rw[qi];exact h);refine XC (Zi4 t (Tri.mono m λo d f=> ?_))
  cases o with
  |normal=>exact QM j f.1 rfl rfl f.2
  |exit i=>exact f d rfl rfl rfl
  |ret=>exact f d rfl rfl rfl
 .cases g
theorem slo{b a:Nat}{n:Prop}{p:Nat->Nat->Prop}(h:p b a):SlO (some (b,a)) n p:=h
theorem ZM7{h}{a}{l:Nat}{c}{n:Nat}{b:List PR2}(x:PR2){new}(m:encP x=new)(p:LX encP 2 h a l c n b)(o:b.length<2 ^ 29):
  ∃d k f j g,Zk UY h 57 57 (.sl a l c n) (.ts new 1 (some 1))=some (.sl d k f j,g)/\LX encP 2 g d k f j (b++ [x]):=by
 obtain⟨d,k,f,j,g,q,r,_⟩:=LX.app (Y:=UY) (e:=155) (te:=⟨2,2, .struct [(0,5),(1,5)],[.i .u8 0, .i .u8 0]⟩) x m Zcd kr kr rfl dc (by rw[<-m];rfl) dc p o;exact⟨d,k,f,j,g,q,r⟩
theorem Zj4{h:Heap}{a:Nat}{L:List PR2}(c:h.get a=some (.arr (row encP L) true)){i:Nat}(d:i<L.length):
  Zb h a (0+(i:Int).toNat*2+0) 1=some [.i .u8 (L[i].1.toNat:Nat)]/\Zb h a (0+(i:Int).toNat*2+1) 1=some [.i .u8 (L[i].2.toNat:Nat)]/\Zb h a (0+(i:Int).toNat*2) 2=some [.i .u8 (L[i].1.toNat:Nat), .i .u8 (L[i].2.toNat:Nat)]:=by
 have b:=VP (f:=encP) (k:=2) Zcd L d;rw[qdq,uJ];refine⟨?_,?_,?_⟩;rw[Zr c,Nat.add_zero,b];rfl;rw[Zr c,<-vI,b];rfl;rw[Zr c,b];rfl
theorem ZG1{h:Heap}{d:Nat}{a:List PR2}{q:PR2}(g:h.get d=some (.arr (row encP (a++ [q])) true))(c:UInt8):
  Zi h d (0+a.length*2+1) [.i .u8 (c.toNat:Nat)]=some (h.set d (some (.arr (row encP (a++ [(q.1,c)])) true))):=by
 have e:row encP (a++ [q])=(row encP a++ [.i .u8 (q.1.toNat:Nat)])++ [.i .u8 (q.2.toNat:Nat)]:=by rw[XA];simp[row]
 have f:row encP (a++ [(q.1,c)])=(row encP a++ [.i .u8 (q.1.toNat:Nat)])++ [.i .u8 (c.toNat:Nat)]:=by rw[XA];simp[row]
 have b:(row encP a++ [V.i .u8 (q.1.toNat:Nat)]).length=0+a.length*2+1:=by rw[qf,Xf Zcd];simp
 rw[Zgg g (by rw[e,qf,b];simp),e,f,<-b,Zdq]
 rfl
def StI(x:S4)(m:Nat)(f:List V)(h:Heap):Prop:=
 ∃(c:Nat) (a:Option (Nat×Nat)) (l:Nat) (d:Option Nat) (e:Nat) (b:List PR2),f= [.lb (setC x), .sl a l d e, .i .i64 (c:Nat), .undef]/\c<=256/\m=256-c/\LX encP 2 h a l d e b/\b.length<=c/\Zdr (hasN x) (256-c) c b=Wr (hasN x)
theorem ZBp(x)(hx:nnS x):PCon UY 80 [.agg (setC x)] (· = .s (setT x)):=by
  refine ZF UK (fn:=Tryz.f80) rfl ?_;refine Zh UK 168 ZSl rfl ?_;refine⟨rfl,ZM [1,3,4,10] [1,3,4,10,11] (StI x) 256 ZA ⟨0,none,0,some 0,0,[],rfl,om,om,LX.start _ _ _ _ _,qnq _,Ztp _⟩ ?_⟩;rintro m vs h ⟨c,a,l,cp,kk,o,rfl,hc,rfl,hL,b4,y⟩;refine Zm UK ZSm rfl ?_;refine Xr (λw=> ?_) (λa6=> ?_)
  · have w:c<256:=om
    obtain⟨n,hn⟩: ∃n,256-c=n+1:=⟨255-c,om⟩;rw[hn,Zdr]at y;have c3:n=256-(c+1):=om;subst c3;have hh:=Zrk x hx c w;rw[Zfy w];refine⟨_,hh,Zf (λY=> ?_) (λY=> ?_)⟩
    · have Y:hasN x c=false:=su Y
      have:Zak (hasN x) c o=o:=by unfold Zak;rw[uE (by rw[Y];decide)]
      rw[this]at y;exact⟨rfl,256-(c+1),om,c+1,a,l,cp,kk,o,by rw[Ze om];rfl,om,rfl,hL,om,y⟩
    have Y:hasN x c=true:=su Y;have e8:(c:Int)=(((UInt8.ofNat c).toNat:Nat):Int):=by rw[UInt8.toNat_ofNat',Nat.mod_eq_of_lt w]
    have G:=hL.len;have more:Zak (hasN x) c o=o++ [(UInt8.ofNat c,UInt8.ofNat c)]-> ∃a' l' c' k' O,Zk UY h 57 57 (.sl a l cp kk) (.ts [.i .u8 (c:Nat), .i .u8 (c:Nat)] 1 (some 1))=some (.sl a' l' c' k',O)/\StI x (256-(c+1)) [.lb (setC x), .sl a' l' c' k',I (wW ((c:Nat)+1)), .undef] O:=by
      intro hs;rw[hs]at y;obtain⟨a',l',c',k',O,q1,q2⟩:=ZM7 (UInt8.ofNat c,UInt8.ofNat c) (new:= [.i .u8 (c:Nat), .i .u8 (c:Nat)]) (by rw[e8]) hL om;exact⟨a',l',c',k',O,q1,c+1,a',l',c',k',_,by rw[Ze om],om,rfl,q2,by simp;omega,y⟩
    by_cases j:o= []
    · have ha:=hL.nil j
      subst j ha;have a7:l=0:=G;subst a7;obtain⟨a',l',c',k',O,q1,q2⟩:=more (by unfold Zak;rw[uF Y];rfl);exact ifF rfl ⟨a',l',c',k',O,q1,rfl,256-(c+1),om,q2⟩
    · obtain⟨H,rfl,rfl,b2,hg,a5⟩:=hL.cells j
      have b6:0<o.length:=List.length_pos_iff.2 j;obtain⟨f,q,rfl⟩: ∃f q,o=f++ [q]:=⟨o.dropLast,o.getLast j,(List.dropLast_concat_getLast j).symm⟩;have b9:l=f.length+1:=by rw[G];simp
      subst b9;have hi:f.length<(f++ [q]).length:=sm;have u:=Zj4 hg hi;have hq:(f++ [q])[f.length]=q:=sm;rw[hq]at u;have w1:wW (((f.length+1:Nat):Int)-1)=((f.length:Nat):Int):=by rw[ZI om om];omega
      have c6:=q.2.toNat_lt;have w2:wW ((q.2.toNat:Nat):Int)=(q.2.toNat:Nat):=ZI om om;have w3:wW ((c:Int)-1)=(c:Int)-1:=ZI om om;have bnd:(0:Int)<=((f.length:Nat):Int)/\((f.length:Nat):Int)<((f.length+1:Nat):Int):=⟨om,om⟩;have a1:(f++ [q]).getLast? =some q:=sm;rw[w1,w3];refine Xr (λ_=>slo ⟨bnd,rfl,_,u.2.1,?_⟩) (λh0=>om);rw[w2];refine Zf (λa0=>slo ⟨bnd,rfl,?_⟩) (λa0=> ?_)
      · have a0:((q.2.toNat:Nat):Int)=(c:Int)-1:=su a0
        have a8:Zak (hasN x) c (f++ [q])=f++ [(q.1,UInt8.ofNat c)]:=by
          unfold Zak;rw[uF Y,a1];simp only[];rw[uF om,List.dropLast_concat]
        rw[a8]at y;have hp:=ZG1 hg (UInt8.ofNat c);rw[<-e8]at hp;refine⟨_,hp,rfl,256-(c+1),om,c+1,some (H,0),f.length+1,cp,2,f++ [(q.1,UInt8.ofNat c)],by rw[Ze om];rfl,om,rfl,⟨λe=>by simp at e,λ_=>⟨H,rfl,rfl,b2,by rw[qc,uF rfl],a5⟩,sm⟩,by simp at b4 ⊢;omega,y⟩
      · have a0:((q.2.toNat:Nat):Int)≠(c:Int)-1:=su a0
        have a8:Zak (hasN x) c (f++ [q])=(f++ [q])++ [(UInt8.ofNat c,UInt8.ofNat c)]:=by
          unfold Zak;rw[uF Y,a1];simp only[];rw[uE om]
        obtain⟨a',l',c',k',O,q1,q2⟩:=more a8;exact⟨a',l',c',k',O,q1,rfl,256-(c+1),om,q2⟩
  · have W:c=256:=om
    subst W;have y:o=Wr (hasN x):=y;refine Zj [3,10,11] ?_;refine Zh UK 168 ZSn rfl ?_;obtain⟨p,rfl⟩:=hx;have C:=ZBo p;rw[<-y]at C;generalize F:setT (ZD p)=T;unfold setT at F;rw[<-y]at F;clear y;have G:=hL.len;by_cases j:o= []
    · have ha:=hL.nil j
      subst j ha;have a7:l=0:=G;subst a7;exact ifT rfl (fin1 rr rfl (.s _) (by rw[<-F]))
    obtain⟨H,rfl,rfl,b2,hg,a5⟩:=hL.cells j;subst G;have b6:0<o.length:=List.length_pos_iff.2 j;obtain⟨q,L,rfl⟩: ∃q L,o=q::L:=by
      cases o with
      |nil=>exact absurd rfl j
      |cons q L=>exact⟨q,L,rfl⟩
    simp only[]at F
    replace F:(if allM (ZD p)=true then [46]else if L= []/\(((q.1.toNat:Nat):Int)==((q.2.toNat:Nat):Int))=true then Zcc q.1 specB else [91]++(q::L).flatMap XM++ [93])=T:=F
    have u:=Zj4 hg (i:=0) sm;have b0:(0:Int)<=0/\(0:Int)<(((q::L).length:Nat):Int):=⟨dc,om⟩;refine Zf (λh0=>absurd h0 (by simp;omega)) (λ_=> ?_);have a2: ¬(allM (ZD p)=true)-> ¬(L= []/\(((q.1.toNat:Nat):Int)==((q.2.toNat:Nat):Int))=true)-> ∀(v2 c7:V),PreV UY 168 [2,3,11,85] (post ((post B_80).drop 1)) (FinS UY Tryz.f80 λv h=> ∃r,Frz h v r/\r= .s T) .normal 168 [.undef, .sl (some (H,0)) (q::L).length cp 2,I 256, .b false] h:=by
      intro P b3 _ _;rw[uE P,uE b3]at F;refine⟨rfl,Xy 168 [3,11] (b:=false) kr kr kr ?_⟩;refine Zm UK ZSr rfl ?_;refine⟨rfl,?_⟩;refine Zh UK 168 ZSs rfl ?_;clear P b3 C u b0 hL;generalize q::L=L at F hg b4;refine⟨rfl,ZM [3,8,9,11] [3,8,9,11] (λm vs g=> ∃i:Nat,vs= [.sl (some (H,0)) L.length cp 2, .s ([91]++(L.take i).flatMap XM),I (i:Nat),I 256]/\i<=L.length/\m=L.length-i/\g=h) L.length ZA ⟨0,rfl,om,om,rfl⟩ ?_⟩;rintro m vs g ⟨i,rfl,hi,rfl,rfl⟩;refine Zm UK ZSt rfl ?_;have b5:=VZ (L.take i);rw[uO]at b5;refine Zq (λw=> ?_) (λa6=> ?_)
      · have a4:(L.take (i+1)).flatMap XM=(L.take i).flatMap XM++XM L[i]:=by rw[qa w,ug];simp
        have c4:XM L[i]=WZ L[i].1 L[i].2:=(Zx3 _ _).symm;have u:=Zj4 hg w;rw[c4]at a4;have N:=Zu w;generalize L[i].1=z at u a4;generalize L[i].2=k at u a4;obtain⟨c0,c1,c2⟩:=u;have w1:=WS z;have w2:=WS k;have c9:(Zbb (z,z)).length<=2:=by unfold Zbb;rw[uF rfl];exact w1
        have c8:(Zbb (z,k)).length<=5:=by
          show(if k=z then Qf z else Qf z++ [45]++Qf k).length<=5;split
          · omega
          · simp only[qf,qh,qp];omega
        have hX:([91]++(L.take i).flatMap XM).length<=2000:=by
          simp only[qf,qh,qp];omega
        have E: ∀b1:List UInt8,b1=([91]++(L.take i).flatMap XM)++WZ z k->XF UY 168 [3,8,9,11] [3,8,9,11] (λm vs g'=> ∃i:Nat,vs= [.sl (some (H,0)) L.length cp 2, .s ([91]++(L.take i).flatMap XM),I (i:Nat),I 256]/\i<=L.length/\m=L.length-i/\g'=g) (L.length-i) (Xb (post ((post ((post B_80).drop 1)).drop 1))) ((post ((post ((post B_80).drop 1)).drop 1)).drop 1) (FinS UY Tryz.f80 λv h=> ∃r,Frz h v r/\r= .s T) .normal 168 [.sl (some (H,0)) L.length cp 2, .s b1,I (wW ((i:Nat)+1)),I 256] g:=λb1 b7=>
          ⟨rfl,L.length-(i+1),om,i+1,by rw[Ze om,a4,b7,<-uU];rfl,om,rfl,rfl⟩
        revert E;generalize [91]++(L.take i).flatMap XM=X at hX;generalize XF UY 168 [3,8,9,11] [3,8,9,11] _ _ _ _ _=K;intro E;refine slo ⟨N,rfl,_,c0,Zf (λA=> ?_) (λA=> ?_)⟩
        · have A:=ZN (d:=94) A
          have hu: ∀t,WZ z k= [92]++t->X++ [92]++t=X++WZ z k:=λt ht=>by rw[ht];simp
          refine⟨by simp;omega,slo ⟨N,rfl,_,c0,slo ⟨N,rfl,_,c1,Zf (λj=>slo ⟨N,rfl,_,c1,Zf (λB=>slo ⟨N,rfl,_,c0,slo ⟨N,rfl,_,c0,_,Zic z z,?_,?_,E _ ?_⟩⟩) (λB=>slo ⟨N,rfl,_,_,c2,_,Zic z k,?_,E _ ?_⟩)⟩) (λj=>slo ⟨N,rfl,_,_,c2,_,Zic z k,?_,E _ ?_⟩)⟩⟩⟩
          · simp only[qf,qh,qp];omega
          · simp only[qf,qh,qp];omega
          · have B:=ZN (d:=94) B
            have j:z≠k:=λe=>by subst e;simp at j
            rw[uU (X++ [92])];refine hu _ ?_;unfold WZ;rw[uF A,uF ⟨j,B⟩]
          · simp only[qf,qh,qp];omega
          · have B:=ZH (d:=94) B
            refine hu _ ?_;unfold WZ;rw[uF A,uE (λh=>B h.2)]
          · simp only[qf,qh,qp];omega
          · have j:z=k:=by
              have:((z.toNat:Nat):Int)=((k.toNat:Nat):Int):=su j;exact UInt8.toNat_inj.1 om
            refine hu _ ?_;unfold WZ;rw[uF A,uE (λh=>h.1 j)]
        · have A:=ZH (d:=94) A
          refine slo ⟨N,rfl,_,c0,slo ⟨N,rfl,_,c1,Zf (λj=>slo ⟨N,rfl,_,c1,Zf (λB=>slo ⟨N,rfl,_,c0,slo ⟨N,rfl,_,c0,_,Zic z z,?_,?_,E _ ?_⟩⟩) (λB=>slo ⟨N,rfl,_,_,c2,_,Zic z k,?_,E _ ?_⟩)⟩) (λj=>slo ⟨N,rfl,_,_,c2,_,Zic z k,?_,E _ ?_⟩)⟩⟩
          · omega
          · simp only[qf,qh,qp];omega
          · have B:=ZN (d:=94) B
            have j:z≠k:=λe=>by subst e;simp at j
            unfold WZ;rw[uE A,uF ⟨j,B⟩,qy,uU]
          · omega
          · have B:=ZH (d:=94) B
            unfold WZ;rw[uE A,uE (λh=>B h.2),qy]
          · omega
          · have j:z=k:=by
              have:((z.toNat:Nat):Int)=((k.toNat:Nat):Int):=su j;exact UInt8.toNat_inj.1 om
            unfold WZ;rw[uE A,uE (λh=>h.1 j),qy]
      · have W:i=L.length:=om
        subst W;refine Zj [8] ?_;refine Zo UK ZSu rfl ?_;rw[qm]at b5 ⊢;exact⟨by simp only[qf,qh,qp];omega,ZB rr rfl (.s _) (by rw[<-F])⟩
    have one:L= []-> ¬(allM (ZD p)=true)-> ∀b:Bool,b=(((q.1.toNat:Nat):Int)==((q.2.toNat:Nat):Int))->PreV UY 168 [2,3,11,85] (post ((post B_80).drop 1)) (FinS UY Tryz.f80 λv h=> ∃r,Frz h v r/\r= .s T) .normal 168 [.undef, .sl (some (H,0)) (q::L).length cp 2,I 256, .b b] h:=by
      intro D P b Y;cases b
      · exact a2 P (λh=>by rw[<-Y]at h;exact absurd h.2 dc) .undef .undef
      · rw[uE P,uF ⟨D,Y.symm⟩]at F
        refine⟨rfl,Xy 168 [2,3,11] (b:=true) kr kr kr ?_⟩;refine Zh UK 168 ZSo rfl ?_;refine slo ⟨b0,rfl,_,u.1,rfl,ZM [5,6,7] [2,5,6,7] (λm vs g=> ∃i:Nat,vs= [.i .u8 (q.1.toNat:Nat), .s specB,I (i:Nat)]/\i<=specB.length/\m=specB.length-i/\(specB.take i).contains q.1=false) specB.length ZA ⟨0,rfl,dc,rfl,rfl⟩ ?_⟩;rintro m vs g ⟨i,rfl,hi,rfl,a3⟩;refine Zm UK ZSp rfl ?_;rw[Zmu]at F;refine Zq (λw=> ?_) (λa6=> ?_)
        · refine⟨specB[i],Za4 w,Zf (λW=> ?_) (λW=> ?_)⟩
          · have W:=ZN W
            rw[uF (by rw[List.contains_iff_mem,<-W];exact qe w)]at F;refine⟨_,rfl,sm,?_⟩;refine ZE1 λτ _ B _=> ?_;have e2:lv 2 τ= .s [92,q.1]:=by
              have h3:=congrArg (λl=>l.head?) B;have h4:lv 2 τ=V.s ([92]++(λx=>UInt8.ofNat (((q.1.toNat:Nat):Int)).toNat::x) []):=su h3;rw[h4,Zds];rfl
            show AtV [2,3,11] (FinS UY Tryz.f80 λv h=> ∃r,Frz h v r/\r= .s T) .ret 168 [lv 2 τ,lv 3 τ,lv 11 τ] g;rw[e2];exact fin1 rr rfl (.s _) (by rw[<-F])
          · have W:=ZH W
            have c5:i<12:=w;refine⟨rfl,specB.length-(i+1),by show 12-(i+1)<12-i;omega,i+1,by rw[Ze om];rfl,by show i+1<=12;omega,rfl,?_⟩;rw[qa w];rw[Bool.eq_false_iff]at a3 ⊢;intro hc;rw[List.contains_iff_mem,qA]at hc;rcases hc with hc|hc
            · exact a3 (by rw[List.contains_iff_mem];exact hc)
            · rw[vE]at hc;exact W hc.symm
        · have W:i=specB.length:=by
            have O:i<=12:=hi;have B:12<=i:=a6;show i=12;omega
          subst W;rw[qm]at a3;rw[uE (by rw[a3];decide)]at F;refine Zj [5] ?_;refine Zm UK ZSq rfl ?_;exact⟨_,rfl,fin1 rr rfl (.s _) (by rw[Zds,<-F])⟩
    refine Zf (λO=> ?_) (λO=> ?_)
    · have D:L= []:=by
        have:(((q::L).length:Nat):Int)=1:=su O;exact qg (by simp at this;omega)
      have Z: ¬(allM (ZD p)=true)->If ((((q::L).length:Nat):Int)==1) (SlO (some (H,0)) False λH a9=>((0:Int)<=0/\(0:Int)<(((q::L).length:Nat):Int))/\2=2/\ ∃n:Int,Zb h H (a9+Int.toNat (0:Int)*2+0) 1=some [.i .u8 n]/\SlO (some (H,0)) False λH a9=>((0:Int)<=0/\(0:Int)<(((q::L).length:Nat):Int))/\2=2/\ ∃b8:Int,Zb h H (a9+Int.toNat (0:Int)*2+1) 1=some [.i .u8 b8]/\PreV UY 168 [2,3,11,85] (post ((post B_80).drop 1)) (FinS UY Tryz.f80 λv h=> ∃r,Frz h v r/\r= .s T) .normal 168 [.undef, .sl (some (H,0)) (q::L).length cp 2,I 256, .b (n==b8)] h)
          (PreV UY 168 [2,3,11,85] (post ((post B_80).drop 1)) (FinS UY Tryz.f80 λv h=> ∃r,Frz h v r/\r= .s T) .normal 168 [.undef, .sl (some (H,0)) (q::L).length cp 2,I 256, .b false] h):=λP=>
        ifT O (slo ⟨b0,rfl,_,u.1,slo ⟨b0,rfl,_,u.2.1,one D P _ rfl⟩⟩)
      refine slo ⟨b0,rfl,_,u.1,Zf (λhz=>slo ⟨b0,rfl,_,u.2.1,Zf (λhy=> ?_) (λhy=>Z ?_)⟩) (λhz=>Z ?_)⟩
      · have hz:=ZN (d:=0) hz
        have hy:=ZN (d:=255) hy;have hq:q::L= [(0,255)]:=by
          rw[D];show [(q.1,q.2)]=_;have hz:q.1=0:=hz;have hy:q.2=255:=hy;rw[hz,hy]
        rw[uF (C.2 hq)]at F;exact fin1 rr rfl (.s _) (by rw[<-F])
      · intro ha
        have:=C.1 ha;rw[D]at this;have hy:=ZH (d:=255) hy;exact hy (by have B:q=(0,255):=(su this);show q.2=255;rw[B])
      · intro ha
        have:=C.1 ha;rw[D]at this;have hz:=ZH (d:=0) hz;exact hz (by have B:q=(0,255):=(su this);show q.1=0;rw[B])
    · have D:L≠ []:=by
        intro e;subst e;simp at O
      refine ifF O (a2 ?_ (λh=>D h.1) .undef .undef);intro ha;have:=C.1 ha;simp at this;exact D this.2
def TxR(r:Re):Prop:=PCon UY 37 [.agg (Zd r)] (· = .s (textF r))
theorem Zo8{k:Int}{l:List Re}(h:cntN.cntsN l<=10000)(i:Nat):(textF.textsF k false (l.take i)).length<=14000000:=by have a:=Zdj k l i;have b:=Zdh k false l;omega
theorem Ztq{B:Nat}(hB:B<2 ^ 20){k:Int}{s}{a:List Re}{u q n:Int}(r:wfRe B (.mk k s a u q n))(E:nnS s)(p:cntN.cntsN a<=10000)(Z: ∀x∈a,TxR x/\(textF x).length<=14000000):TxR (.mk k s a u q n):=by
 unfold TxR;rw[wfRe]at r;obtain⟨O,o,hl,_⟩:=r;rw[ZJ,textF];refine ZF UK (fn:=Tryz.f37) rfl ?_;refine Zh UK 58 ZSw rfl ?_;refine Zf (λz=> ?_) (λz=>Zf (λA=> ?_) (λA=>Zf (λC=> ?_) (λC=> ?_)));have d:k=1:=su z;subst d;have b:=o dc dc dc dc;subst b;refine⟨_,ZBp s E,fin1 rr rfl (.s _) ?_⟩;simp[preT,Zaj,textF.textsF];have d:k=2:=su A;subst d;have b:=o dc dc dc dc;subst b;refine fin1 rr rfl (.s _) ?_;simp[preT,Zaj,textF.textsF];have d:k=3:=su C;subst d;have b:=o dc dc dc dc;subst b;refine fin1 rr rfl (.s _) ?_;simp[preT,Zaj,textF.textsF];have G:=λi=>Zo8 (k:=k) p i;refine⟨rfl,ZM [1,2,3,4] [1,2,3,4] (λm H g=> ∃i:Nat,H= [.lb [I k,U s.1,U s.2.1,U s.2.2.1,U s.2.2.2,lst Zd a,I u,I q,I n], .s [], .s (textF.textsF k false (a.take i)),I (i:Nat)]/\i<=a.length/\m=a.length-i) a.length ZA ⟨0,rfl,om,om⟩ ?_⟩;rintro m H g ⟨i,rfl,X,rfl⟩;refine Zm UK ZSx rfl ?_;have F:=G i;refine Zq (λe=> ?_) (λW=> ?_);obtain⟨l,D⟩:=Z a[i] (qe e);unfold TxR at l;have c:=Za7 e;have f:=Zf5 k a e;generalize textF a[i]=t at l D f;generalize a[i]=x at l c;obtain⟨xk,xs,xl,a1,a0,xn⟩:=x;rw[Zn]at c;rw[ZJ]at l;have y:=Zu e;refine Xr (λN=>Zf (λv=> ?_) (λv=> ?_)) (λN=> ?_);refine⟨by simp only[qh,qp];omega,y,_,_,_,_,_,_,_,_,_,_,_,c,_,l,by simp only[qf,qh,qp];omega,rfl,a.length-(i+1),om,i+1,?_,om,rfl⟩;rw[Ze om,f,uF ⟨om,v⟩,<-uU];rfl;refine⟨y,_,_,_,_,_,_,_,_,_,_,_,c,_,l,om,rfl,a.length-(i+1),om,i+1,?_,om,rfl⟩;rw[Ze om,f,uE (λh=>by rw[h.2]at v;cases v),qy];rfl;refine⟨y,_,_,_,_,_,_,_,_,_,_,_,c,_,l,om,rfl,a.length-(i+1),om,i+1,?_,om,rfl⟩;rw[Ze om,f,uE (λh=>om),qy];rfl
 .have P:i=a.length:=om;subst P;rw[qm]at F;refine Zj [1,3] ?_;refine Zo UK ZSy rfl ?_;rw[qm];refine Zf (λw=> ?_) (λw=>Zf (λj=> ?_) (λj=> ?_));have d:k=7:=su w;subst d;refine⟨by simp only[qh,qp];omega,by simp only[qf,qh,qp];omega,ZB rr rfl (.s _) ?_⟩;simp[preT,Zaj];have d:k=6:=su j;subst d;obtain⟨q1,q2,q3,_⟩:=O rfl;have Y:=Zf3 u q;refine⟨_,Zx0 ⟨q1,q2⟩ q3,om,ZB rr rfl (.s _) ?_⟩;simp[preT,Zaj]
  .refine ZB rr rfl (.s _) ?_;have K:preT k s= []:=by unfold preT;rw[uE (by rw[z];decide),uE (by rw[A];decide),uE (by rw[C];decide),uE (by rw[w];decide)]
   have L:Zaj k u q= []:=by unfold Zaj;rw[uE (by rw[j];decide),uE (by rw[w];decide)]
   rw[K,L,qy,qi]
mutual
theorem Zo9{B:Nat}(d:B<2 ^ 20): ∀r:Re,wfRe B r->nnRe r->cntN r<=10000->TxR r
 | .mk k s a g f n,h,b,e=>by
  have c:=h;rw[wfRe]at c;rw[nnRe]at b;rw[cntN]at e;exact Ztq d h b.1 om (Zrn d a c.2.2.2 b.2 om)
theorem Zrn{B:Nat}(c:B<2 ^ 20): ∀l:List Re,wfRe.wfRes B l->nnRe.nnRes l->cntN.cntsN l<=10000-> ∀x∈l,TxR x/\(textF x).length<=14000000
 | [],_,_,_,x,a=>by cases a
 |r::l,h,b,g,x,a=>by
  rw[wfRe.wfRes]at h;rw[nnRe.nnRes]at b;rw[cntN.cntsN]at g;have d:=Zo9 c r h.1 b.1 om;have f:=Zrn c l h.2 b.2 om;have i:=Vt r;rcases qu.1 a with e|a;rw[e];exact⟨d,om⟩;exact f x a
end
structure FineR(r:Re):Prop where
 wf:wfRe 1000 r
 nn:nnRe r
 cnt:cntN r<=10000
theorem ZBq(r:Re):mayE r=((formF r 0 0 0).1&&decide ((textF r).length<=200)):=by rw[ZGy];rfl
theorem Zgm{r}(h:FineR r):PCon UY 42 [.agg (Zd r)] (· = .b (mayE r)):=by
 have e:=Zo9 (B:=1000) dc r h.wf h.nn h.cnt;have f:=ZM3 (B:=1000) dc r h.wf 0 0 0;unfold TxR at e;rw[ZBq];generalize formF r 0 0 0=q at f;generalize textF r=t at e;have c:PCon UY 93 [.agg (Zd r)] (· =if q.1=false then .tup [.s [],I 5]else if 200<t.length then .tup [.s [],I 2]else .tup [.s t,I 0]):=by
  obtain⟨m,p,n,j,g,o⟩:=r;rw[ZJ]at e f ⊢;refine Zv UK (fn:=Tryz.f93) rfl ZS0 rfl ?_;refine⟨_,_,f,Zf (λa=> ?_) (λa=>⟨_,e,Xr (λl=> ?_) (λl=> ?_)⟩)⟩;have a:q.1=false:=su a;exact Zdp rr rfl (.s _) (.i _ _) (by rw[uF a]);have a:q.1=true:=su a;exact Zdp rr rfl (.s _) (.i _ _) (by rw[uE (by rw[a];decide),uF om]);have a:q.1=true:=su a;exact Zdp rr rfl (.s _) (.i _ _) (by rw[uE (by rw[a];decide),uE om])
 obtain⟨m,p,n,j,g,o⟩:=r;rw[ZJ]at c ⊢;refine Zv UK (fn:=Tryz.f42) rfl ZSz rfl ?_;by_cases d:q.1=false;rw[uF d]at c;exact⟨_,_,c,ZB rr rfl (.b _) (by rw[d];rfl)⟩;rw[uE d]at c;have d:q.1=true:=su d;by_cases k:200<t.length;rw[uF k]at c;exact⟨_,_,c,ZB rr rfl (.b _) (by rw[d,uK om];rfl)⟩;rw[uE k]at c;exact⟨_,_,c,ZB rr rfl (.b _) (by rw[d,uN om];rfl)⟩
theorem Zj5(t):FineR (ereL t):=⟨Zmo t,ZDx t,by have:=Zo5 t;omega⟩
theorem Zck(k:Int)(t):PCon UY 15 [.agg [I k, .s t]] (· = .b (mayP k t)):=by
 refine Zv UK (fn:=Tryz.f15) rfl ZSd rfl ?_;generalize a:mayP k t=M;unfold mayP at a;refine Zf (λf=> ?_) (λf=> ?_);rw[uF f]at a;exact ZB rr rfl (.b _) (by rw[a]);rw[uE (by rw[f];decide)]at a;refine Zf (λg=> ?_) (λg=> ?_);rw[uF g]at a;have c:=Zh5 t;rw[Zci]at c;exact⟨_,_,_,_,_,c,ZB rr rfl (.b _) (by rw[a])⟩;rw[uE (by rw[g];decide)]at a;refine Zf (λh=> ?_) (λh=> ?_);rw[uF h]at a;have c:=Zdn t;rw[Wu]at c;have d:=Zgm (Zj5 t);revert a d c;generalize ereL t=x;generalize ereE t=e;intro a c d;obtain⟨m,p,n,l,j,o⟩:=x;rw[ZJ]at d c;refine⟨_,_,_,_,_,_,_,_,_,_,_,_,_,c,Zf (λi=> ?_) (λi=> ?_)⟩;rw[uF i]at a;exact⟨_,d,ZB rr rfl (.b _) (by rw[a])⟩;rw[uE (by rw[i];decide)]at a;exact ZB rr rfl (.b _) (by rw[a]);rw[uE (by rw[h];decide)]at a;exact ZB rr rfl (.b _) (by rw[a])
theorem Zro{l}(a:FewL l)(b:nnRe.nnRes l):FineR (sevS 4 l):=⟨a.re,Zmr b,by have c:=Zdg 4 l;have d:=a.cnt;omega⟩
def ZG2(r:Re)(e:Int):V:= .tup [.agg (Zd r), .i .i64 e]
theorem ZG3:wfRe 1000 XG:=by unfold XG;rw[wfRe];exact⟨λh=>absurd h dc,λ_ _ _ _=>rfl,dc,by rw[wfRe.wfRes];trivial⟩
end Go.Y
namespace Go.Proofs.YteennilbmmlikaaGreatDoor
open Go.Y Go.RowKit
open Go.Proofs
set_option maxRecDepth 100000
theorem own:ownKnob Tryz.prog.godebug=none:=kr
theorem Zpa:laidOutB Tryz.prog=true:=kr
theorem shp9{n:Nat}{vs}(h:Shp UY n 9 vs): ∃s:List UInt8,vs= [.s s]:=by obtain⟨s,h,_⟩:=ZE4 kr h;exact⟨s,h⟩
theorem ZM8{n:Nat}{vs}(h:Shp UY n 44 vs): ∃x:Int×List UInt8,vs= [I x.1, .s x.2]:=by obtain⟨m,rfl,h⟩:=Zsx (show UY.kd 44=some (.struct [(0,3),(1,9)]) from kr) h;obtain⟨a,b,rfl,e,c,d,rfl,f,rfl⟩:=h;obtain⟨k,rfl,_⟩:=ZE3 (show UY.kd 3=some (.int .i64) from kr) e;obtain⟨p,rfl⟩:=shp9 f;exact⟨(k,p),rfl⟩
theorem ZG4: ∀n,Za0 UY n 9=true
 |0=>kr
 |n+1=>kr
theorem Zrp: ∀n,Za0 UY n 44=true
 |0=>kr
 |1=>kr
 |n+2=>kr
end Go.Proofs.YteennilbmmlikaaGreatDoor
namespace Go.Y
open Go.Proofs
set_option maxRecDepth 1000000
set_option maxHeartbeats 0
def Tryd.locs:List (List Nat):=Tryz.locs.set 38 [2,4,30,81]
noncomputable def dY_:YP:=⟨Go.Proofs.Tryz.prog,Tryz.tys,Tryd.locs,Tryz.modes,[182,5],[(185,1),(197,2)],[26,27,28,32]⟩
theorem dK_:YOK dY_:=Vk kr Tryz.extok
theorem ZM9{a o0 c c0 b h}(K):CP dY_ 85 (pre B_85) (S (some (a,o0)) c c0 1::V.fn (.func 86) [] [p_P b]::Rp 17) h [0,1,7,8] K=(K .normal 19 [S (some (a,o0)) c c0 1, .fn (Fn.func 86) [] [p_P b],I (c:Int),I 0] h):=kr
theorem ZNa{a o0 g c0 d x8 h}(K):CP dY_ 85 (lp_ B_85) (MZ 19 [0,1,7,8] [S (some (a,o0)) g c0 1,V.fn (Fn.func 86) [] [p_P d],I (g:Int),I x8]) h [0,1,4,7,8] K=(If (ltI x8 g) ((0<=x8/\x8<g)/\1=1/\ ∃b c e,Zb h a (o0+x8.toNat*1) 1=some [J b c e]/\ ∃f,RCon dY_ 86 [J b c e,p_P d] h (.b f)/\If f (K .ret 19 [S (some (a,o0)) g c0 1, .fn (Fn.func 86) [] [p_P d],I x8,I (g:Int),I x8] h) (K .normal 19 [S (some (a,o0)) g c0 1, .fn (Fn.func 86) [] [p_P d],Ud,I (g:Int),I (wW (x8+(1:Int)))] h)) (K (.exit 0) 19 [S (some (a,o0)) g c0 1, .fn (Fn.func 86) [] [p_P d],Ud,I (g:Int),I x8] h)):=kr
theorem ZNb{h}(K):CP dY_ 85 ((post B_85).drop 1) (MZ 19 [] []) h [4] K=(K .ret 19 [I (-1)] h):=kr
theorem ZNc{a g d h}(K):CP dY_ 86 (flat (Za Tryz.f86)) (J a g none::p_P d::Rp 5) h [3] K=(∃b c e,Zb h d 0 1=some [J b c e]/\ ∃f,(PCon dY_ 87 [J a g none,J b c e] λv=>v=.b f)/\K .ret 7 [.b f] h):=kr
theorem ZS1{e f a d g j m n o x1 h}(K):CP UY 83 (flat (Za Tryz.f83)) (.agg [J e f none,J a d none,J g j none,J m n none,.b o]::.i .u8 x1::Rp 11) h [4] K=(∃c,(PCon UY 26 [.agg [J e f none,J a d none,J g j none,J m n none,.b o]] λv=>v=.b c)/\If (!c) (K .ret 13 [S0] h) (∃l p q,(PCon UY 34 [.agg [J e f none,J a d none,J g j none,J m n none,.b o],J a d none,.i .u8 x1] λv=>v=J l p q)/\K .ret 13 [J l p q] h)):=kr
theorem ZS2{a d e f g j m n o p n1 x2 h}(K):CP UY 84 (flat (Za Tryz.f84)) (.agg [J a d none,J e f none,J g j none,J m n none,.b o]::J p n1 none::.i .u8 x2::Rp 11) h [6] K=(∃c,(PCon UY 26 [.agg [J a d none,J e f none,J g j none,J m n none,.b o]] λv=>v=.b c)/\If (!c) (K .ret 14 [S0] h) (∃l q r,(PCon UY 35 [.agg [J a d none,J e f none,J g j none,J m n none,.b o],J p n1 none,.i .u8 x2] λv=>v=J l q r)/\K .ret 14 [J l q r] h)):=kr
theorem ZS3{a c d e f g i j l m n1 h}(K):CP UY 88 (flat (Za Tryz.f88)) (.agg [J a c none,J d e none,J f g none,J i j none,.b l]::J m n1 none::Rp 10) h [4] K=(∃n,(PCon UY 26 [.agg [J a c none,J d e none,J f g none,J i j none,.b l]] λv=>v=.b n)/\If n (∃o,(PCon UY 36 [.agg [J a c none,J d e none,J f g none,J i j none,.b l],J m n1 none] λv=>v=.b o)/\K .ret 12 [.b o] h) (K .ret 12 [.b false] h)):=kr
theorem ZG5{a c h}(K):CP UY 163 (pre (flat (Za Tryz.f163))) (J a c none::Rp 24) h [0,3,4] K=(If (ltI (c:Int) (1:Int)) False (((0:Int)<=(0:Int)/\(0:Int)<(c:Int))/\ ∃b,Zs 1 a=some [I b]/\K .normal 25 [J a c none,I b,I 1] h)):=kr
theorem ZG6{a n0 x3 x4 h}(K):CP UY 163 (lp_ (flat (Za Tryz.f163))) (MZ 25 [0,3,4] [J a n0 none,I x3,I x4]) h [0,3,4] K=(If (ltI x4 n0) ((0<=x4/\x4<n0)/\ ∃b,Zs 1 (List.drop (x4.toNat*1) a)=some [I b]/\K .normal 25 [J a n0 none,I ((fun(x y:Int)=>if y>x then y else x) x3 b),I (wW (x4+(1:Int)))] h) (K (.exit 0) 25 [J a n0 none,I x3,I x4] h)):=kr
theorem ZG7{x3 h}(K):CP UY 163 ((post (flat (Za Tryz.f163))).drop 1) (MZ 25 [3] [I x3]) h [2] K=(K .ret 25 [I x3] h):=kr
theorem ZG8{a c h}(K):CP UY 164 (pre (flat (Za Tryz.f164))) (J a c none::Rp 24) h [0,3,4] K=(If (ltI (c:Int) (1:Int)) False (((0:Int)<=(0:Int)/\(0:Int)<(c:Int))/\ ∃b,Zs 1 a=some [I b]/\K .normal 25 [J a c none,I b,I 1] h)):=kr
theorem ZG9{a n0 x3 x4 h}(K):CP UY 164 (lp_ (flat (Za Tryz.f164))) (MZ 25 [0,3,4] [J a n0 none,I x3,I x4]) h [0,3,4] K=(If (ltI x4 n0) ((0<=x4/\x4<n0)/\ ∃b,Zs 1 (List.drop (x4.toNat*1) a)=some [I b]/\K .normal 25 [J a n0 none,I ((fun(x y:Int)=>if y<x then y else x) x3 b),I (wW (x4+(1:Int)))] h) (K (.exit 0) 25 [J a n0 none,I x3,I x4] h)):=kr
theorem ZHa{x3 h}(K):CP UY 164 ((post (flat (Za Tryz.f164))).drop 1) (MZ 25 [3] [I x3]) h [2] K=(K .ret 25 [I x3] h):=kr
theorem ZNd{a d c e h}(K):CP UY 87 (pre (flat (Za Tryz.f87))) (J a d none::J c e none::Rp 24) h [0,1,4,12,13] K=(If ((↑d:Int) !=(e:Int)) (K .ret 26 [J a d none,J c e none, .b false,Ud,Ud] h) (K .normal 26 [J a d none,J c e none, .b false,I (d:Int),I 0] h)):=kr
theorem ZNe{c g d n1 a h}(K):CP UY 87 (lp_ (flat (Za Tryz.f87))) (MZ 26 [0,1,12,13] [J c g none,J d n1 none,I (g:Int),I a]) h [0,1,4,12,13] K=(If (ltI a g) ((0<=a/\a<g)/\ ∃e,Zs 1 (List.drop (a.toNat*1) c)=some [I e]/\(0<=a/\a<n1)/\ ∃f,Zs 1 (List.drop (a.toNat*1) d)=some [I f]/\If (e !=f) (K .ret 26 [J c g none,J d n1 none, .b false,I (g:Int),I a] h) (K .normal 26 [J c g none,J d n1 none,Ud,I (g:Int),I (wW (a+(1:Int)))] h)) (K (.exit 0) 26 [J c g none,J d n1 none,Ud,I (g:Int),I a] h)):=kr
theorem ZNf{h}(K):CP UY 87 ((post (flat (Za Tryz.f87))).drop 1) (MZ 26 [] []) h [4] K=(K .ret 26 [.b true] h):=kr
end Go.Y
namespace Go.Y
set_option maxRecDepth 1000000
set_option maxHeartbeats 0
def keyN(a:List Set4)(c:Nat):List UInt8:=a.map λs=>if hasN s c then 1 else 0
def srtS(a:List Set4):Nat->List Nat×List Nat
 |0=>([],[])
 |c+1=>
  let p:=srtS a c
  match p.2.findIdx? λd=>keyN a c==keyN a d with
  |some k=>(p.1++ [k],p.2)
  |none=>(p.1++ [p.2.length],p.2++ [c])
theorem JQ(a:List Set4): ∀c,(srtS a c).1.length=c/\(srtS a c).2.length<=c
 |0=>⟨rfl,Nat.le_refl _⟩
 |c+1=>by
  obtain⟨b,d⟩:=JQ a c;rw[srtS];split;simp only[List.length_append,List.length_cons,List.length_nil];omega;simp only[List.length_append,List.length_cons,List.length_nil];omega
theorem Zx5(a:List Set4): ∀c,∀d∈(srtS a c).2,d<c
 |0=>λd h=>by cases h
 |c+1=>λd h=>by
  have b:=Zx5 a c;rw[srtS]at h;split at h;have:=b d h;omega;rcases List.mem_append.1 h with h|h;have:=b d h;omega;simp at h;omega
theorem Zrq(a:List Set4): ∀c,0<(srtS a (c+1)).2.length
 |0=>by rw[srtS];simp[srtS]
 |c+1=>by
  have b:=Zrq a c;rw[srtS];split;exact b;simp
theorem Zmv(a:List Set4)(c:Nat)(h:0<c):0<(srtS a c).2.length:=by
 cases c with
 |zero=>omega
 |succ c=>exact Zrq a c
def esM(a:List Set4)(le:List Nat):List (V×V):=le.zipIdx.map λx=>(V.s (keyN a x.1),V.i .i64 (x.2:Nat))
theorem ZBr(a:List Set4)(le:List Nat)(c:Nat):esM a (le++ [c])=esM a le++ [(V.s (keyN a c),V.i .i64 (le.length:Nat))]:=by unfold esM;rw[List.zipIdx_append,uV];simp
theorem ZHb(k x:List UInt8)(v:V):Ji .str (.s k) (.s x,v)=(k==x):=rfl
theorem Zx6(a:List Set4)(k:List UInt8): ∀(le:List Nat) (n:Nat),XV .str (.s k) ((le.zipIdx n).map λx=>(V.s (keyN a x.1),V.i .i64 (x.2:Nat)))=(le.findIdx? λd=>k==keyN a d).map λi=>V.i .i64 ((i+n:Nat):Int)
 | [],n=>rfl
 |d::le,n=>by
  rw[List.zipIdx_cons,List.map_cons,XV,ZHb,List.findIdx?_cons];by_cases h:(k==keyN a d)=true;rw[uF h,uF h];simp
  .rw[uE h,uE h,Zx6 a k le (n+1)]
   cases le.findIdx? λd=>k==keyN a d with
   |none=>rfl
   |some i=>simp;omega
theorem Zj6(a:List Set4)(k): ∀(le:List Nat) (n:Nat),ZY .str (.s k) ((le.zipIdx n).map λx=>(V.s (keyN a x.1),V.i .i64 (x.2:Nat)))=true
 | [],n=>rfl
 |d::le,n=>by
  rw[List.zipIdx_cons,List.map_cons,ZY,Zj6 a k le (n+1)];rfl
theorem ZD1(k)(v): ∀(a:List (V×V)),XV .str (.s k) a=none->Xu .str (.s k) v a=a++ [(.s k,v)]
 | [],_=>rfl
 |e::a,h=>by
  rw[XV]at h;split at h;cases h;rename_i b;rw[Xu,uE b,ZD1 k v a h];rfl
def clsC(a:List Nat):List V:=a.map (λk=>V.i .i64 (k:Nat))++List.replicate (256-a.length) (V.i .i64 0)
theorem Zj7(a:List Nat)(h:a.length<=256):(clsC a).length=256:=by unfold clsC;simp;omega
theorem Zj8{a:Type} : ∀(l:List a) (x y:a) (m:List a),splice (l++x::m) l.length [y]=l++y::m
 | [],x,y,m=>rfl
 |v::l,x,y,m=>by
  show v::splice (l++x::m) l.length [y]=_;rw[Zj8 l x y m];rfl
theorem Zrr(a:List Nat)(k:Nat)(h:a.length<256):splice (clsC a) a.length [V.i .i64 (k:Nat)]=clsC (a++ [k]):=by
 unfold clsC;have e:256-a.length=(256-(a++ [k]).length)+1:=by simp;omega
 rw[e,uZ];have b:a.length=(a.map λk=>V.i .i64 ((k:Nat):Int)).length:=sm;rw[b,Zj8];simp
def Zal(T:List (List Int))(l:List Int):Option Nat:=T.findIdx? λx=>x==l
def stD(a:Au)(at_:Nat)(T:List (List Int))(c:Nat):List Int:=if 0<at_ then WN a (T.getD (at_-1) []) c else havL a.sets a.first c
def rowD(a:Au)(most at_:Nat):List Nat->List (List Int)->List Int->Option (List (List Int)×List Int)
 | [],T,r=>some (T,r)
 |c::cs,T,r=>match Zal T (stD a at_ T c) with
  |some i=>rowD a most at_ cs T (r++ [((i+1:Nat):Int)])
  |none=>if most<=T.length+1 then none else rowD a most at_ cs (T++ [stD a at_ T c]) (r++ [((T.length+1:Nat):Int)])
def Zec(a:Au)(at_:Nat)(T:List (List Int)):Bool:=if at_=0 then a.empty else Zb3 a (T.getD (at_-1) [])
def Jd(a:Au)(most:Nat)(le:List Nat):Nat->Nat->List (List Int)->List (List Int)->List Bool->Option (List (List Int)×List Bool)
 |0,_,_,N,G=>some (N,G)
 |f+1,at_,T,N,G=>if at_<T.length+1 then match rowD a most at_ le T [] with
   |none=>none
   |some (b,r)=>Jd a most le f (at_+1) b (N++ [r]) (G++ [Zec a at_ b])
  else some (N,G)
theorem Zx7{a}(b:OkA a)(at_:Nat)(T:List (List Int))(c:Nat):(stD a at_ T c).length<=300:=by unfold stD;split;exact Zwy b c _;exact uu (Zet _ _ _) b.nfirst
structure TOk(most:Nat)(T:List (List Int)):Prop where
 len:T.length+1<=most
 el: ∀x∈T,x.length<=300
theorem Zj9{a}(m:OkA a){most at_:Nat} : ∀ {g:List Nat} {T:List (List Int)} {r:List Int} {b:List (List Int)} {f:List Int},TOk most T->rowD a most at_ g T r=some (b,f)->
  TOk most b/\f.length=r.length+g.length/\T.length<=b.length/\ ∃X,b=T++X
 | [],T,r,b,f,e,h=>by
  rw[rowD]at h;cases h;exact⟨e,rfl,qnq _,[],sm⟩
 |c::g,T,r,b,f,e,h=>by
  rw[rowD]at h;split at h;obtain⟨i,j,k,X,l⟩:=Zj9 m e h;exact⟨i,by simp at j ⊢;omega,k,X,l⟩
  .split at h;cases h
   .rename_i n;obtain⟨i,j,k,X,l⟩:=Zj9 m (T:=T++ [stD a at_ T c]) ⟨by simp;omega,λx d=>by
     rcases qA.1 d with d|d;exact e.el x d
     .simp at d;subst d;exact Zx7 m _ _ _⟩ h
    exact⟨i,by simp at j ⊢;omega,by simp at k;omega,_,by rw[l,uU]⟩
theorem Zka{T X:List (List Int)}{i:Nat}(h:i<T.length):(T++X).getD i []=T.getD i []:=by simp[qw,vC h]
theorem Zx8(a){at_:Nat}{T X:List (List Int)}(h:at_<T.length+1)(c:Nat):stD a at_ (T++X) c=stD a at_ T c:=by unfold stD;split;rw[Zka om];rfl
end Go.Y
namespace Go.Y
open Go.Proofs
set_option maxRecDepth 1000000
set_option maxHeartbeats 0
theorem PCon.dz{f}{args}{Q:V->Prop}(c:PCon dY_ f args Q):PCon UY f args Q:=⟨c.body,c.tr⟩
theorem PCon.zd{f}{args}{Q:V->Prop}(c:PCon UY f args Q):PCon dY_ f args Q:=⟨c.body,c.tr⟩
/-! ### nfa's -/
theorem ZHc{a:Au}(b:OkA a)(c:Nat)(e:c<256):PCon UY 83 [.agg (auC a), .i .u8 (c:Nat)] (· =lst encI (havL a.sets a.first c)):=by refine Zv UK (fn:=Tryz.f83) rfl ZS1 rfl ?_;have d:=may7 a b.small;rw[b.may]at d;exact⟨true,d,ifF rfl ⟨_,_,_,Zq1 a a.first c e b.first (by have:=b.nfirst;omega),ZB rr rfl (.ts _ _ _ none (λx f=>by cases f)) rfl⟩⟩
theorem ZNg(j:ZQ UY.P 75)(e:ZE UY.P 76){a}(d:OkA a)(b:List Int)(c:Nat)(g:c<256)(h:b.length<=2 ^ 10):PCon UY 84 [.agg (auC a),lst encI b, .i .u8 (c:Nat)] (· =lst encI (WN a b c)):=by refine Zv UK (fn:=Tryz.f84) rfl ZS2 rfl ?_;have f:=may7 a d.small;rw[d.may]at f;exact⟨true,f,ifF rfl ⟨_,_,_,ZKh j e d b c g h,ZB rr rfl (.ts _ _ _ none (λx k=>by cases k)) rfl⟩⟩
theorem ZNh{a}(d:OkA a)(c:List Int)(f:c.length<=2 ^ 10):PCon UY 88 [.agg (auC a),lst encI c] (· = .b (Zb3 a c)):=by
 refine Zv UK (fn:=Tryz.f88) rfl ZS3 rfl ?_;have e:=may7 a d.small;rw[d.may]at e;exact⟨true,e,ifT rfl ⟨_,ZKp d.nlast c f,ZB rr rfl (.b _) rfl⟩⟩
/-! ### slices.Equal -/
theorem ZHd{x y:List Int}{i:Nat}(d:i<x.length)(e:i<y.length):(x.take (i+1)==y.take (i+1))=((x.take i==y.take i)&&(x[i]==y[i])):=by
 rw[qa d,qa e,Bool.eq_iff_iff];simp only[vO,qrq];constructor
 .intro h;have c:(x.take i).length=(y.take i).length:=by simp;omega
  obtain⟨a,b⟩:=List.append_inj h c;exact⟨a,su b⟩
 .rintro⟨a,b⟩;rw[a,b]
theorem ZHe(x y:List Int)(q:x.length<2 ^ 20):PCon UY 87 [lst encI x,lst encI y] (· = .b (x==y)):=by
 refine ZF UK (fn:=Tryz.f87) rfl ?_;refine Zh UK 26 ZNd rfl ?_;refine Zf (λc=> ?_) (λf=> ?_)
 .have c:x.length≠y.length:=by
   intro e;rw[e]at c;simp at c
  refine Xc rr rfl ⟨_, .b _,?_⟩;have:(x==y)=false:=by
   rw[Bool.eq_false_iff];intro h;rw[eq_of_beq h]at c;exact c rfl
  rw[this]
 have f:x.length=y.length:=by
  have:((x.length:Nat):Int)=(y.length:Nat):=su f;omega
 refine⟨rfl,ZM [0,1,12,13] [0,1,4,12,13] (λm k _=> ∃i:Nat,k= [lst encI x,lst encI y,I x.length,I (i:Nat)]/\i<=x.length/\(x.take i==y.take i)=true/\m=x.length-i) x.length ZA ⟨0,rfl,om,rfl,om⟩ ?_⟩;rintro m k h ⟨i,rfl,p,d,rfl⟩;refine Zm UK ZNe rfl ?_;refine Zq (λg=> ?_) (λn=> ?_)
 .have a:i<y.length:=om;have o:=ZHd g a;refine⟨Zu g,_,getI x g,Zu a,_,getI y a,Zf (λj=> ?_) (λj=> ?_)⟩
  .refine Xc rr rfl ⟨_, .b _,?_⟩;have:(x==y)=false:=by
    rw[Bool.eq_false_iff];intro h;have h:=eq_of_beq h;subst h;simp at j
   rw[this]
  .refine⟨rfl,x.length-(i+1),om,i+1,by rw[Ze om];rfl,om,?_,rfl⟩;rw[o,d];simpa using j
 .have l:i=x.length:=om;subst l;refine Zj [] ?_;refine Zo UK ZNf rfl ?_;rw[qm,f,qm]at d;exact ZB rr rfl (.b _) (by rw[d])
/-! ### a list among lists -/
theorem ZHf(x l:List Int)(e:x.length<2 ^ 20){h:Heap}{a:Nat}(d:h.get a=some (.arr [lst encI l] true)):Con dY_ 86 [lst encI x, p_P a] h λv c=>v= .b (x==l)/\c=h:=by refine Zx dK_ (fn:=Tryz.f86) (Zo dK_ ZNc rfl ?_);exact⟨_,_,_,by rw[Zr d];rfl,_,PCon.zd (ZHe x l e),finC rr rfl (.now ⟨rfl,rfl⟩)⟩
theorem ZNi(x l:List Int)(e:x.length<2 ^ 20){h:Heap}{a:Nat}(c:h.get a=some (.arr [lst encI l] true)):RCon dY_ 86 [lst encI x, p_P a] h (.b (x==l)):=
 ⟨h,ZHf x l e c,λ_ _=>rfl,λ_ d=>d⟩
theorem ZHg(T:List (List Int))(l)(p: ∀x∈T,x.length<2 ^ 20)(q:T.length<2 ^ 20){h:Heap}{id0 o0 id:Nat}{pre:List V}{c:Option Nat}(o:h.get id0=some (.arr (pre++T.map (lst encI)) true))(s:o0=pre.length)(r:h.get id=some (.arr [lst encI l] true)):
  Con dY_ 85 [.sl (some (id0,o0)) T.length c 1, .fn (.func 86) [] [p_P id]] h λv f=>v= I (match Zal T l with|some i=>((i:Nat):Int)|none=> -1)/\f=h:=by
 refine Zx dK_ (fn:=Tryz.f85) ?_;refine Zh dK_ 19 ZM9 rfl ?_;refine⟨rfl,ZM [0,1,7,8] [0,1,4,7,8] (λm n f=> ∃i:Nat,n= [.sl (some (id0,o0)) T.length c 1, .fn (.func 86) [] [p_P id],I T.length,I (i:Nat)]/\i<=T.length/\Zal (T.take i) l=none/\m=T.length-i/\f=h) T.length ZA ⟨0,rfl,om,rfl,om,rfl⟩ ?_⟩;rintro m n f ⟨i,rfl,t,b,rfl,rfl⟩;refine Zm dK_ ZNa rfl ?_;refine Zq (λa=> ?_) (λj=> ?_)
 .have e:Zb f id0 (o0+((i:Nat):Int).toNat*1) 1=some [lst encI T[i]]:=by
   rw[Zr o,qdq,s,uY,List.drop_append,qB om,qy,show pre.length+i-pre.length=i from om,uM (su a)];simp[Zs]
  have k:T.take (i+1)=T.take i++ [T[i]]:=qa a;have g:Zal (T.take (i+1)) l=if T[i]==l then some i else none:=by
   unfold Zal at b ⊢;rw[k,List.findIdx?_append,b];simp only[List.findIdx?_cons,List.findIdx?_nil,uO];by_cases d:(T[i]==l)=true;rw[uF d,uF d];simp;omega;rw[uE d,uE d];rfl
  refine⟨Zu a,rfl,_,_,_,e,_,ZNi T[i] l (p _ (qe a)) r,Zf (λd=> ?_) (λd=> ?_)⟩
  .refine Xc rr rfl (.now ⟨?_,rfl⟩);rw[uF d]at g;have:Zal T l=some i:=by
    unfold Zal at g ⊢;rw[<-vN (i+1) T,List.findIdx?_append,g];rfl
   rw[this];rfl
  .refine⟨rfl,T.length-(i+1),om,i+1,by rw[Ze om];rfl,om,?_,rfl,rfl⟩;rw[g,uE (by rw[d];decide)]
 .refine Zj [] ?_;refine Zo dK_ ZNb rfl ?_;rw[qt j]at b;exact finC rr rfl (.now ⟨by rw[b];rfl,rfl⟩)
/-! ### slices.Max, Min -/
def maxZ:List Int->Int
 | []=>0
 |x::r=>r.foldl (λx y=>if y>x then y else x) x
def minZ:List Int->Int
 | []=>0
 |x::r=>r.foldl (λx y=>if y<x then y else x) x
theorem Zx9{l:List Int}{i:Nat}(b:0<i)(a:i<l.length):maxZ (l.take (i+1))=if l[i]>maxZ (l.take i)then l[i]else maxZ (l.take i):=by
 rw[qa a]
 cases l with
 |nil=>simp at a
 |cons x r=>
  obtain⟨j,rfl⟩: ∃j,i=j+1:=⟨i-1,om⟩;simp only[List.take_succ_cons,qs,maxZ,List.foldl_append,uR,List.foldl_nil];rfl
theorem Zya{l:List Int}{i:Nat}(b:0<i)(a:i<l.length):minZ (l.take (i+1))=if l[i]<minZ (l.take i)then l[i]else minZ (l.take i):=by
 rw[qa a]
 cases l with
 |nil=>simp at a
 |cons x r=>
  obtain⟨j,rfl⟩: ∃j,i=j+1:=⟨i-1,om⟩;simp only[List.take_succ_cons,qs,minZ,List.foldl_append,uR,List.foldl_nil];rfl
theorem ZD2(l:List Int)(g:l≠ [])(k:l.length<2 ^ 20):PCon UY 163 [lst encI l] (· = I (maxZ l)):=by
 have e:0<l.length:=List.length_pos_iff.2 g;refine ZF UK (fn:=Tryz.f163) rfl ?_;refine Zh UK 25 ZG5 rfl ?_;refine Zq (b:=1) (λh=>om) (λ_=>⟨⟨om,om⟩,l[0],(getI l e:_),?_⟩);refine⟨rfl,ZM [0,3,4] [0,3,4] (λm f _=> ∃i:Nat,f= [lst encI l,I (maxZ (l.take i)),I (i:Nat)]/\0<i/\i<=l.length/\l.length<=m+i) l.length ZA ⟨1,?_,om,om,om⟩ ?_⟩
 .cases l with
  |nil=>simp at e
  |cons x r=>rfl
 rintro m f h ⟨i,rfl,d,j,n⟩;refine Zm UK ZG6 rfl ?_;refine Zq (λa=> ?_) (λc=> ?_);refine⟨Zu a,_,getI l a,rfl,l.length-(i+1),om,i+1,?_,om,om,om⟩;rw[Ze om,Zx9 d a];rfl;refine Zj [3] ?_;refine Zo UK ZG7 rfl ?_;rw[qt c];exact ZB rr rfl (.i _ _) rfl
theorem ZD3(l:List Int)(g:l≠ [])(k:l.length<2 ^ 20):PCon UY 164 [lst encI l] (· = I (minZ l)):=by
 have e:0<l.length:=List.length_pos_iff.2 g;refine ZF UK (fn:=Tryz.f164) rfl ?_;refine Zh UK 25 ZG8 rfl ?_;refine Zq (b:=1) (λh=>om) (λ_=>⟨⟨om,om⟩,l[0],(getI l e:_),?_⟩);refine⟨rfl,ZM [0,3,4] [0,3,4] (λm f _=> ∃i:Nat,f= [lst encI l,I (minZ (l.take i)),I (i:Nat)]/\0<i/\i<=l.length/\l.length<=m+i) l.length ZA ⟨1,?_,om,om,om⟩ ?_⟩
 .cases l with
  |nil=>simp at e
  |cons x r=>rfl
 rintro m f h ⟨i,rfl,d,j,n⟩;refine Zm UK ZG9 rfl ?_;refine Zq (λa=> ?_) (λc=> ?_);refine⟨Zu a,_,getI l a,rfl,l.length-(i+1),om,i+1,?_,om,om,om⟩;rw[Ze om,Zya d a];rfl;refine Zj [3] ?_;refine Zo UK ZHa rfl ?_;rw[qt c];exact ZB rr rfl (.i _ _) rfl
end Go.Y
