/- A part of the proof. -/
import Derived.KernelRfl
import Derived.Test.YteennilbmmlikaaGreatDoorYLoop
namespace Go.Y
set_option maxRecDepth 1000000
set_option maxHeartbeats 0
def FrzT(h:Heap)(v v':V):Prop:=FrzA h v v'∨ ∃vs vs',v= .tup vs∧v'= .tup vs'∧FrzAL h vs vs'

theorem FrzT.vr{W W':Vw}{h:Heap}{w:World}(z:Fz W h w W')(hle:Le W W'){v v':V}(f:FrzT h v v'){u:Value}(r:VR W v u):VR W' v' u:=by
 rcases f with f|⟨vs,vs',rfl,rfl,f⟩
 ·exact f.vr z hle r
 ·cases r with|tup _ us h1=>exact .tup _ _ (f.vr z hle h1)

def AfterZ(Q:V->Heap->Prop)(v:V)(h:Heap):Prop:= ∃(D:List Nat) (v':V),FrzT (VW h D) v v'∧Q v' (XT h D)

theorem AfterZ.now{Q:V->Heap->Prop}{v:V}{h:Heap}(hq:Q v h):AfterZ Q v h:=⟨[],v, .inl (.same v),hq⟩

theorem Con.freeze{Y:YP}{f:FuncId}{args:List V}{h:Heap}{Q:V->Heap->Prop}(c:Con Y f args h (AfterZ Q)):Con Y f args h Q:=
 ⟨c.body,fun W w us hr hv=>(c.tr W w us hr hv).mono fun e w' ⟨v,h1,W',u,⟨D,v',hf,hq⟩,he,hh,hvu,hst⟩=>by
  obtain⟨g1,g2⟩:=hh.frzD D
  exact⟨v',_,_,u,hq,he,g1,hf.vr (Fz.of hh D) (Vv hh D) hvu,hst.trans g2⟩⟩

theorem Zu{Y:YP}(hY:YOK Y){f:FuncId}{fn:Func}{args:List V}{h:Heap}{Q:V->Heap->Prop}
  (ht:TriL Y (flat (Za fn)) ⟨args++List.replicate (fn.ntmps-args.length) .undef,[],h⟩ (FinS Y fn (AfterZ Q))) (hf:Y.P.funcs[f]? =some fn:=by kernel_rfl) (hb:fn.body.isSome=true:=by kernel_rfl):Con Y f args h Q:=Con.freeze (Zwm hY hf hb ht)

theorem finC{Y:YP}{fn:Func}{slots:List Nat}{Q:V->Heap->Prop}{o:Out}{n:Nat}{vs:List V}{h:Heap}{v:V}(ho:o= .normal∨o= .ret)(hv:resV Y fn (slots.zip vs)=some v)(hq:AfterZ Q v h):
  Fin Y fn slots (AfterZ Q) o n vs h:=⟨ho,v,hv,hq⟩

/-! ### slices.Clone -/
theorem Zin{Y:YP}{st e:TypeId}{te:TI}(hk:Y.kd st=some (.slice e))(hte:Y.ty e=some te)(h0:te.size≠0)(hb:te.bytes<=1024){cs c:List V}{n:Nat}{cap:Option Nat}(hc:Zo ((n+1)*te.size) cs=some c)(ha:Zk c=true)(hn:n+1<=2 ^ 30)
  (h:Heap):Zf Y h st st (.ts [] 0 (some 0)) (.ts cs (n+1) cap)=some (.sl (some (h.nx,0)) (n+1) none te.size,h.push (.arr c true)):=by
 have hsrc:Xz Y ⟨[],[],h⟩ te st (.ts cs (n+1) cap)=some (n+1,c):=by
  simp only[Xz,hk,QL,XE,hc];rfl
 have hm:most=1099511627776:=by decide
 have h1:(n+1)*te.bytes<=2 ^ 30*1024:=Nat.mul_le_mul hn hb
 have h2: ¬((0+(n+1))*te.bytes>most∨0+(n+1)>most):=by rw[Nat.zero_add,hm];omega
 have h3: ¬(0+(n+1)<=0):=by omega
 simp only[Zf,ZR,hk,hte,hsrc]
 rw[if_neg (by simp[ha,h0])]
 simp only[Nat.succ_ne_zero,if_false]
 rw[if_neg h2]
 simp[Zo]
theorem ZG{n:Int}(h0: -2 ^ 62<=n)(h1:n<=2 ^ 62):IntKind.i64.wrap n=n:=by
 have e:(2:Int) ^ IntKind.i64.bits=18446744073709551616:=by decide
 have e2:(2:Int) ^ (IntKind.i64.bits-1)=9223372036854775808:=by decide
 unfold IntKind.wrap
 simp only[e,e2,IntKind.signed,Bool.true_and]
 by_cases h:0<=n
 ·have:n % 18446744073709551616=n:=Int.emod_eq_of_lt h (by omega)
  rw[this]
  simp;omega
 ·have:n % 18446744073709551616=n+18446744073709551616:=by omega
  rw[this]
  simp;omega

theorem Zh{i:Nat}(h:i<2 ^ 61):IntKind.i64.wrap ((i:Int)+1)=((i+1:Nat):Int):=by
 rw[ZG (by omega) (by omega)];omega

def FrO(h:Heap)(id:Nat)(h':Heap):Prop:=h.nx<=h'.nx∧ ∀j,j<h.nx->j≠id->h'.get j=h.get j
theorem FrO.refl(h:Heap)(id:Nat):FrO h id h:=⟨qnq _,fun _ _ _=>rfl⟩
theorem FrO.trans{a b c:Heap}{id:Nat}(h:FrO a id b)(g:FrO b id c):FrO a id c:=
 ⟨Nat.le_trans h.1 g.1,fun j hj hn=>by rw[g.2 j (qv hj h.1) hn,h.2 j hj hn]⟩
theorem FrO.set(h:Heap)(id:Nat)(o:Option YObj):FrO h id (h.set id o):=⟨qnq _,fun j _ hn=>by rw[qc,if_neg hn]⟩
structure Lst{α:Type}(f:α->List V)(k:Nat)(h:Heap)(a:Option (Nat×Nat))(l:Nat)(c:Option Nat)(kk:Nat)(out:List α):Prop where
 cells: ∃cells,IsL h k a l c kk cells∧ZQ cells=true∧FrzL .empty cells (row f out)
 len:l=out.length

theorem Lst.nil{α:Type}(f:α->List V)(k:Nat)(h:Heap)(c:Option Nat)(kk:Nat):Lst f k h none 0 c kk ([]:List α):=⟨⟨[],IsL.nil _ _ _ _,rfl, .nil⟩,rfl⟩

theorem QE: ∀ {l m},ZQ l=true->ZQ m=true->ZQ (l++m)=true
 | [],m,_,h=>h
 |v::l,m,h,g=>by
  simp only[ZQ,qrq]at h
  simp only[qs,ZQ,qrq]
  exact⟨h.1,QE h.2 g⟩

theorem IsL.fr{h h':Heap}{k:Nat}{a}{l:Nat}{c}{kk:Nat}{cs}(hl:IsL h k a l c kk cs)(hn:h.nx<=h'.nx)(hs: ∀j,a=some (j,0)->j<h.nx->h'.get j=h.get j):IsL h' k a l c kk cs:=by
 refine⟨hl.1,?_⟩
 rcases hl.2 with h1|⟨id,rfl,h2,h3,h4,h5⟩
 ·exact .inl h1
 ·exact .inr ⟨id,rfl,h2,h3,by omega,by rw[hs id rfl h4,h5]⟩

theorem Lst.fr{α:Type}{f:α->List V}{h h':Heap}{k:Nat}{a}{l:Nat}{c}{kk:Nat}{out:List α}(hl:Lst f k h a l c kk out)(hn:h.nx<=h'.nx)(hs: ∀j,a=some (j,0)->j<h.nx->h'.get j=h.get j):Lst f k h' a l c kk out:=by
 obtain⟨⟨cells,h1,h2,h3⟩,h4⟩:=hl
 exact⟨⟨cells,h1.fr hn hs,h2,h3⟩,h4⟩

theorem Lst.app{α:Type}{f:α->List V}{Y:YP}{h:Heap}{k:Nat}{a:Option (Nat×Nat)}{l:Nat}{c:Option Nat}{kk:Nat}{out:List α}{new:List V}{st e:TypeId}{te:TI}(xs:List α){cap:Option Nat}
  (hk:Y.kd st=some (.slice e)) (hte:Y.ty e=some te) (hs:te.size=k) (hk0:k≠0) (hl:Lst f k h a l c kk out) (hf:FrzL .empty new (row f xs)) (hcold:ZQ new=true) (hm:xs≠ []) (hn:new.length=xs.length*k) (hc:Zk new=true)
  (hb:(out.length+xs.length)*te.bytes<=most) (hb':out.length+xs.length<=most):
  ∃a' l' c' k' h',Zf Y h st st (.sl a l c kk) (.ts new xs.length cap)=some (.sl a' l' c' k',h')∧Lst f k h' a' l' c' k' (out++xs)∧Fr h a h'∧ ∃j,a'=some (j,0)∧h.nx<=j:=by
 obtain⟨⟨cells,h1,h2,h3⟩,h4⟩:=hl
 subst h4
 obtain⟨a',l',c',k',h',q1,q2,q3,q4,q5⟩:=Zaf (Y:=Y) (new:=new) (m:=xs.length) (cap:=cap) hk hte hs hk0 h1 (by simpa using hm) (ZA hn.symm) hc hb hb'
 exact⟨a',l',c',k',h',q1,⟨⟨cells++new,q2,QE h2 hcold,by rw[Xo];exact h3.append hf⟩,by simp[q4]⟩,q3,q5⟩

theorem Lst.app1{α:Type}{f:α->List V}{Y:YP}{h:Heap}{k:Nat}{a:Option (Nat×Nat)}{l:Nat}{c:Option Nat}{kk:Nat}{out:List α}{new:List V}{st e:TypeId}{te:TI}(x:α)
  (hk:Y.kd st=some (.slice e)) (hte:Y.ty e=some te) (hs:te.size=k) (hk0:k≠0) (hl:Lst f k h a l c kk out) (hf:FrzL .empty new (f x)) (hcold:ZQ new=true) (hn:new.length=k) (hc:Zk new=true)
  (hby:te.bytes<=1024) (hb:out.length<2 ^ 29):
  ∃a' l' c' k' h',Zf Y h st st (.sl a l c kk) (.ts new 1 (some 1))=some (.sl a' l' c' k',h')∧Lst f k h' a' l' c' k' (out++ [x])∧Fr h a h'∧ ∃j,a'=some (j,0)∧h.nx<=j:=by
 have hm:most=1099511627776:=by decide
 have h1:(out.length+1)*te.bytes<=2 ^ 29*1024:=Nat.mul_le_mul (by omega) hby
 exact Lst.app [x] hk hte hs hk0 hl (by simpa[row]using hf) hcold (by simp) (by simp[hn]) hc (by simp;omega) (by simp;omega)

theorem VA{h1 h2:Heap} : ∀ {l l'},ZQ l=true->FrzL h1 l l'->FrzL h2 l l':=Zbf

theorem Lst.frz{α:Type}{f:α->List V}{h:Heap}{k:Nat}(hk:k≠0)(hfl: ∀x,(f x).length=k){a}{l:Nat}{c}{kk:Nat}{out:List α}(hl:Lst f k h a l c kk out):Frz h (.sl a l c kk) (lst f out):=by
 obtain⟨⟨cells,h1,h2,h3⟩,h4⟩:=hl
 subst h4
 rcases h1.2 with ⟨rfl,h0,h5⟩|⟨id,rfl,rfl,rfl,h5,h6⟩
 ·have:out= []:=qg h0
  subst this
  exact .sln _ _ _ (fun x hx=>by cases hx)
 ·exact .sl _ _ _ _ _ _ _ _ _ _ h6 (by rw[ql,h1.1];exact Zdg _) (fun x hx=>by cases hx) hk (VA h2 h3)

theorem Lst.afterZ{α:Type}{f:α->List V}{h:Heap}{k:Nat}(hk:k≠0)(hfl: ∀x,(f x).length=k){a}{l:Nat}{c}{kk:Nat}{out:List α}(hl:Lst f k h a l c kk out):
  ∃D:List Nat,Frz (VW h D) (.sl a l c kk) (lst f out)∧(∀j,j∈D->a=some (j,0)):=by
 obtain⟨⟨cells,h1,h2,h3⟩,h4⟩:=hl
 subst h4
 rcases h1.2 with ⟨rfl,h0,h5⟩|⟨id,rfl,rfl,rfl,h5,h6⟩
 ·have:out= []:=qg h0
  subst this
  exact⟨[], .sln _ _ _ (fun x hx=>by cases hx),by simp⟩
 ·exact⟨[id], .sl _ _ _ _ _ cells true cells _ _ (by rw[QW,if_pos (by simp),h6]) (by rw[ql,h1.1];exact Zdg _) (fun x hx=>by cases hx) hk (VA h2 h3),by simp⟩

theorem Lst.off{α:Type}{f:α->List V}{h:Heap}{k:Nat}{a}{l:Nat}{c}{kk:Nat}{out:List α}(hl:Lst f k h a l c kk out){j o:Nat}(ha:a=some (j,o)):o=0:=by
 obtain⟨⟨cells,⟨_,hx|⟨id2,hx,_⟩⟩,_⟩,_⟩:=hl
 ·rw[hx.1]at ha;cases ha
 ·rw[hx]at ha;cases ha;rfl

theorem FrO.app{α:Type}{f:α->List V}{h0 h h':Heap}{id k:Nat}{a}{l:Nat}{c}{kk:Nat}{out:List α}(g:FrO h0 id h)(hl:Lst f k h a l c kk out)(hnew: ∀j,a=some (j,0)->h0.nx<=j)(q:Fr h a h'):FrO h0 id h':=
 ⟨Nat.le_trans g.1 q.1,fun j hj hn=>by
  rw[q.2 j (qv hj g.1) (fun o ho=>by
   have h0:=hl.off ho;subst h0
   have:=hnew j ho;omega)]
  exact g.2 j hj hn⟩

/-! ### Rows -/
theorem Zag{α:Type}{f:α->List V}{k:Nat}(hk: ∀x,(f x).length=k)(l:List α){i:Nat}(hi:i<l.length):(row f l).drop (i*k)=f l[i]++row f (l.drop (i+1)):=by
 rw[Zgm hk,List.drop_eq_getElem_cons hi];rfl

/-! ### Bytes -/
theorem Zqn(c d:UInt8):(((c.toNat:Nat):Int)==((d.toNat:Nat):Int))=(c==d):=by
 rw[Bool.eq_iff_iff]
 simp only[beq_iff_eq,Int.ofNat_inj]
 exact⟨fun h=>UInt8.toNat_inj.1 h,fun h=>by rw[h]⟩
structure Span where
 lo:Int
 hi:Int
 deriving DecidableEq,Inhabited
structure Glob where
 k:Int
 b:Int
 sp:List Span
 deriving DecidableEq,Inhabited

abbrev encS(x:Span):List V:= [.i .u8 x.lo, .i .u8 x.hi]
abbrev encG(x:Glob):List V:= [I x.k, .i .u8 x.b,lst encS x.sp]
theorem Zah(x:Span):(encS x).length=2:=rfl
theorem WU(x:Glob):(encG x).length=3:=rfl
def Zai(s:List UInt8)(i:Nat)(b:Bool):Int×Nat×Bool:=match s[i]? with
 |some c=>(c.toNat,i+1,b)
 |none=>(0,i,true)

def endS(s:List UInt8)(i:Nat):Except Nat (Int×Nat):=match s[i]? with
 |none=> .error i
 |some c=>if c=93∨c=45 then .error i else if c=92 then match s[i+1]? with
   |none=> .error (i+1)
   |some d=> .ok (d.toNat,i+2)
  else .ok (c.toNat,i+1)

def XJ(s:List UInt8)(i:Nat):Except Nat (Span×Nat):=match endS s i with
 | .error e=> .error e
 | .ok (lo,j)=>if s[j]? =some 45 then match endS s (j+1) with
   | .error e=> .error e
   | .ok (hi,k)=>if hi<lo then .error (k-1)else .ok (⟨lo,hi⟩,k)
  else .ok (⟨lo,lo⟩,j)

def setS:Nat->List UInt8->Nat->List Span->Except Nat (List Span×Nat)
 |0,_,i,_=> .error i
 |n+1,s,i,out=>if out≠ []∧s[i]? =some 93 then .ok (out,i+1)else match XJ s i with
  | .error e=> .error e
  | .ok (x,j)=>setS n s j (out++ [x])

def Xr(s:List UInt8)(i:Nat):Except Nat (Glob×Nat):=match s[i]? with
 |none=> .error i
 |some c=>if c=42 then .ok (⟨2,0,[]⟩,i+1)else if c=63 then .ok (⟨1,0,[]⟩,i+1) else
  if c=91 then match setS (s.length+1) s (i+1) [] with
   | .error e=> .error e
   | .ok (l,j)=> .ok (⟨3,0,l⟩,j)
  else if c=92 then match s[i+1]? with
   |none=> .error (i+1)
   |some d=> .ok (⟨0,d.toNat,[]⟩,i+2)
  else .ok (⟨0,c.toNat,[]⟩,i+1)

def Qu:Nat->List UInt8->Nat->List Glob->Except Nat (List Glob)
 |0,_,i,_=> .error i
 |n+1,s,i,out=>if i<s.length then match Xr s i with
   | .error e=> .error e
   | .ok (x,j)=>Qu n s j (out++ [x])
  else .ok out

theorem WA{s:List UInt8}{i:Nat}{c:Int}{j:Nat}(h:endS s i= .ok (c,j)):i<j∧j<=s.length∧j<=i+2:=by
 unfold endS at h
 split at h
 ·cases h
 ·rename_i c1 h1
  have hi:=(qb.1 h1).1
  split at h
  ·cases h
  ·split at h
   ·split at h
    ·cases h
    ·rename_i d h2
     have hi2:=(qb.1 h2).1
     cases h
     omega
   ·cases h
    omega

theorem Zgt{s:List UInt8}{i:Nat}{x:Span}{j:Nat}(h:XJ s i= .ok (x,j)):i<j∧j<=s.length:=by
 unfold XJ at h
 split at h
 ·cases h
 ·rename_i lo k h1
  have:=WA h1
  split at h
  ·split at h
   ·cases h
   ·rename_i hi k2 h2
    have:=WA h2
    split at h
    ·cases h
    ·cases h;omega
  ·cases h;omega

theorem VB{s:List UInt8} : ∀ {n i:Nat} {out l:List Span} {j:Nat},setS n s i out= .ok (l,j)->i<j∧j<=s.length
 |0,_,_,_,_,h=>by cases h
 |n+1,i,out,l,j,h=>by
  simp only[setS]at h
  split at h
  ·rename_i hc
   have:=(qb.1 hc.2).1
   cases h;omega
  ·split at h
   ·cases h
   ·rename_i x k h1
    have g1:=Zgt h1
    have g2:=VB h
    omega

theorem Zdj{s:List UInt8}{i:Nat}{x:Glob}{j:Nat}(h:Xr s i= .ok (x,j)):i<j∧j<=s.length:=by
 unfold Xr at h
 split at h
 ·cases h
 ·rename_i c h0
  have hi:=(qb.1 h0).1
  split at h
  ·cases h;omega
  ·split at h
   ·cases h;omega
   ·split at h
    ·split at h
     ·cases h
     ·rename_i l k h1
      have:=VB h1
      cases h;omega
    ·split at h
     ·split at h
      ·cases h
      ·rename_i d h1
       have:=(qb.1 h1).1
       cases h;omega
     ·cases h;omega
end Go.Y
namespace Go.Y.Gl

section
variable {has:Nat->UInt8->Bool} {fa fb f:Nat->Nat->Prop} {la lb l fst:Nat->Prop} {RA RB:Nat->Prop} {eb:Prop}

end

def Pow(L:List UInt8->Prop):Nat->List UInt8->Prop
 |0,w=>w= []
 |n+1,w=> ∃w1 w2,w=w1++w2∧L w1∧Pow L n w2

section
variable {has:Nat->UInt8->Bool} {fa f:Nat->Nat->Prop} {la fst:Nat->Prop} {RA:Nat->Prop}

end
end Go.Y.Gl
namespace Go.Y
open Gl

abbrev S4:=Int×Int×Int×Int
inductive Re where
 |mk (kind:Int) (set:S4) (kids:List Re) (lo hi n:Int)

end Go.Y
namespace Go.Y
set_option maxRecDepth 1000000
set_option maxHeartbeats 0
def Zob(p:Nat->Bool)(k:Nat):Int:=((List.range 64).foldl (fun(n:Nat) b=>if p (64*k+b)then n+2 ^ b else n) 0:Nat)
def Zw(p:Nat->Bool):S4:=(Zob p 0,Zob p 1,Zob p 2,Zob p 3)
def ZH(l:List Span)(c:Nat):Bool:=l.any fun x=>decide (x.lo<=(c:Int))&&decide ((c:Int)<=x.hi)

def sevS(kind:Int):List Re->Re
 | []=> .mk 0 (0,0,0,0) [] 0 0 0
 | [r]=>r
 |l=> .mk kind (0,0,0,0) l 0 0 0
def XY(s:S4):Re:= .mk 1 s [] 0 0 0
def Re.kind:Re->Int
 | .mk k _ _ _ _ _=>k

abbrev PR(α:Type):=Except (Int×Nat) (α×Nat×Nat)

def XI(s:List UInt8)(i:Nat)(least:Int):Except Nat (Int×Nat):=match s[i]? with
 |some c=>if 48<=c.toNat∧c.toNat<=56∧least<=(c.toNat:Int)-48 then .ok ((c.toNat:Int)-48,i+1)else .error i
 |none=> .error i
def ZW(s:List UInt8)(i:Nat):Except Nat (Int×Int×Nat):=match XI s i 0 with
 | .error e=> .error e
 | .ok (lo,j)=>if s[j]? =some 44 then
   (if s[j+1]? =some 125 then .ok (lo,-1,j+2)else match XI s (j+1) lo with
    | .error e=> .error e
    | .ok (hi,k)=>if s[k]? =some 125 then .ok (lo,hi,k+1)else .error k)
  else if s[j]? =some 125 then .ok (lo,lo,j+1)else .error j

def Qv(s:List UInt8)(i:Nat):Except Nat (S4×Nat):=
 let neg:=s[i]? =some 94
 let i:=if s[i]? =some 94 then i+1 else i
 match setS (s.length+1) s i [] with
 | .error e=> .error e
 | .ok (l,j)=> .ok (Zw (fun c=>ZH l c !=decide neg),j)

def Zgv(c:UInt8):Bool:=c==42||c==43||c==63||c==123

mutual
def altE:Nat->Nat->List UInt8->Nat->Nat->PR Re
 |0,_,_,i,_=> .error (1,i)
 |n+1,d,s,i,g=>match rowE n d s i g [] with
  | .error e=> .error e
  | .ok (r,i,g)=>JY n d s i g [r]
def JY:Nat->Nat->List UInt8->Nat->Nat->List Re->PR Re
 |0,_,_,i,_,_=> .error (1,i)
 |n+1,d,s,i,g,l=>if s[i]? =some 124 then match rowE n d s (i+1) g [] with
   | .error e=> .error e
   | .ok (r,i,g)=>JY n d s i g (l++ [r])
  else .ok (sevS 5 l,i,g)
def rowE:Nat->Nat->List UInt8->Nat->Nat->List Re->PR Re
 |0,_,_,i,_,_=> .error (1,i)
 |n+1,d,s,i,g,l=>match s[i]? with
  |none=> .ok (sevS 4 l,i,g)
  |some c=>if c=124∨c=41 then .ok (sevS 4 l,i,g)else match XR n d s i g with
   | .error e=> .error e
   | .ok (r,i,g)=>rowE n d s i g (l++ [r])
def XR:Nat->Nat->List UInt8->Nat->Nat->PR Re
 |0,_,_,i,_=> .error (1,i)
 |n+1,d,s,i,g=>match Jo n d s i g with
  | .error e=> .error e
  | .ok (r,i,g)=>match s[i]? with
   |none=> .ok (r,i,g)
   |some c=>if Zgv c then
     (if r.kind=2∨r.kind=3 then .error (1,i)
     else if c=42 then .ok (.mk 6 (0,0,0,0) [r] 0 (-1) 0,i+1,g)
     else if c=43 then .ok (.mk 6 (0,0,0,0) [r] 1 (-1) 0,i+1,g)
     else if c=63 then .ok (.mk 6 (0,0,0,0) [r] 0 1 0,i+1,g)
     else match ZW s (i+1) with
      | .error e=> .error (1,e)
      | .ok (lo,hi,j)=> .ok (.mk 6 (0,0,0,0) [r] lo hi 0,j,g))
    else .ok (r,i,g)
def Jo:Nat->Nat->List UInt8->Nat->Nat->PR Re
 |0,_,_,i,_=> .error (1,i)
 |n+1,d,s,i,g=>match s[i]? with
  |none=> .error (1,i)
  |some c=>if Zgv c then .error (1,i)
   else if c=40 then
    (if 64<=d then .error (8,i)else match altE n (d+1) s (i+1) (g+1) with
     | .error e=> .error e
     | .ok (r,j,g')=>if s[j]? =some 41 then .ok (.mk 7 (0,0,0,0) [r] 0 0 (if g+1<=9 then((g+1:Nat):Int)else 0),j+1,g')else .error (1,j))
   else if c=91 then match Qv s (i+1) with
    | .error e=> .error (1,e)
    | .ok (x,j)=> .ok (XY x,j,g)
   else if c=46 then .ok (XY (Zw fun _=>true),i+1,g)
   else if c=94 then .ok (.mk 2 (0,0,0,0) [] 0 0 0,i+1,g)
   else if c=36 then .ok (.mk 3 (0,0,0,0) [] 0 0 0,i+1,g)
   else if c=92 then match s[i+1]? with
    |none=> .error (1,i+1)
    |some d=> .ok (XY (Zw fun x=>x==d.toNat),i+2,g)
   else .ok (XY (Zw fun x=>x==c.toNat),i+1,g)
end

def Qg(s:List UInt8):Except (Int×Nat) Re:=
 if 200<s.length then .error (2,200)else match altE (6*s.length+10) 0 s 0 0 with
  | .error e=> .error e
  | .ok (r,i,_)=>if i<s.length then .error (1,i)else .ok r
def pick(so sl:List Nat)(vs:List V):List V:=sl.map fun s=>match Zae (so.zip vs) s with|some v=>v|none=> .undef

theorem Zio{σ:St} : ∀ {so:List Nat} {s:Nat},s∈so->Zae (so.zip (so.map fun i=>lv i σ)) s=some (lv s σ)
 |x::r,s,h=>by
  simp only[qz,List.zip_cons_cons,Zae]
  by_cases hx:x=s
  ·rw[if_pos hx,hx]
  ·rw[if_neg hx]
   exact Zio (by rcases qu.1 h with h|h;exact absurd h.symm hx;exact h)

theorem QZ{σ:St}{so sl:List Nat}(hs:sl.all so.contains=true){vs}(hv:(so.map fun i=>lv i σ)=vs):(sl.map fun i=>lv i σ)=pick so sl vs:=by
 subst hv
 unfold pick
 apply List.map_congr_left
 intro s hm
 have:=List.all_eq_true.1 hs s hm
 rw[Zio (by simpa using this)]

section
variable {Y:YP}
theorem Zqo{n:Nat}(sl:List Nat){σ:St}{l:List Code}{Q:Out->St->Prop}{vs}(hc:l.isEmpty=false)(hn:σ.env.length=n)(hv:(sl.map fun i=>lv i σ)=vs)(h:TriL Y l ⟨mk n (sl.zip vs),[],σ.h⟩ Q):TriL Y l σ Q:=
 Qt (fun e=>by rw[e]at hc;cases hc) hn hv rfl h

def XH(Y:YP)(n:Nat)(so sl:List Nat)(I:Nat->List V->Heap->Prop)(m id:Nat)(r:List Code)(Q:Out->St->Prop)(o:Out)(len:Nat)(vs:List V)(h:Heap):Prop:=
 match o with
 | .normal=>len=n∧ ∃m',m'<m∧I m' (pick so sl vs) h
 | .exit j=>if j=id then len=n∧ ∃sl':List Nat,sl'.all so.contains=true∧TriL Y r ⟨mk n (sl'.zip (pick so sl' vs)),[],h⟩ Q else AtV so Q (.exit j) len vs h
 | .ret=>AtV so Q .ret len vs h

theorem ZL{n:Nat}(sl so:List Nat){σ:St}{l:List Code}{Q:Out->St->Prop}(I:Nat->List V->Heap->Prop)(m0:Nat)(hn:σ.env.length=n)
  (h0:I m0 (sl.map fun i=>lv i σ) σ.h)
  (round: ∀m vs h,I m vs h->TriL Y (flat (Zx l)) ⟨mk n (sl.zip vs),[],h⟩ (VQ so (XH Y n so sl I m (Xa l) (l.drop 1) Q))) (hsub:sl.all so.contains=true:=by rfl) (hl:Zme l=true:=by kernel_rfl):TriL Y l σ Q:=by
 obtain⟨h1,h2⟩:=Zil hl
 rw[h1]
 refine QH (Zce (fun m τ=>τ.env.length=n∧I m (sl.map fun i=>lv i τ) τ.h) (n:=m0) ⟨hn,h0⟩ ?_)
 rintro m τ ⟨hτ,hI⟩
 have hr:=XG (c:=Zx l) (r:= []) (by rw[qi];exact round m _ _ hI)
 refine(Zad hτ rfl rfl hr).mono ?_
 intro o σ' ho
 cases o with
 |normal=>
  obtain⟨h1,m',h2,h3⟩:=ho
  exact⟨m',h2,h1,by rw[QZ hsub rfl];exact h3⟩
 |exit j=>
  have ho:XH Y n so sl I m (Xa l) (l.drop 1) Q (.exit j) σ'.env.length (so.map fun i=>lv i σ') σ'.h:=ho
  simp only[XH]at ho
  by_cases hj:j=Xa l
  ·rw[if_pos hj]at ho
   simp only[if_pos hj]
   obtain⟨h3,sl',h4,h5⟩:=ho
   exact Qt h2 h3 (QZ h4 rfl) rfl h5
  ·rw[if_neg hj]at ho
   simp only[if_neg hj]
   exact ho σ' rfl rfl rfl
 |ret=>exact ho σ' rfl rfl rfl

theorem Zi{n:Nat}{so sl:List Nat}{I:Nat->List V->Heap->Prop}{m id j:Nat}{r:List Code}{Q:Out->St->Prop}{len:Nat}{vs:List V}{h:Heap}(sl':List Nat)
  (ht:TriL Y r ⟨mk n (sl'.zip (pick so sl' vs)),[],h⟩ Q) (hj:j=id:=by kernel_rfl) (hn:len=n:=by rfl) (hs:sl'.all so.contains=true:=by rfl):XH Y n so sl I m id r Q (.exit j) len vs h:=by
 simp only[XH]
 rw[if_pos hj]
 exact⟨hn,sl',hs,ht⟩

def Zgp:List Code->Bool
 | [.block _ (.loop _)]=>true
 |_=>false
theorem Ze8{l:List Code}(h:Zgp l=true):l= [.block (Xa l) (.loop (Zx l))]:=by
 unfold Zgp at h
 split at h
 ·rfl
 ·cases h

def Zip(n:Nat)(so sl:List Nat)(I:Nat->List V->Heap->Prop)(m id:Nat)(Q:Out->St->Prop)(o:Out)(len:Nat)(vs:List V)(h:Heap):Prop:=
 match o with
 | .normal=>len=n∧ ∃m',m'<m∧I m' (pick so sl vs) h
 | .exit j=>if j=id then AtV so Q .normal len vs h else AtV so Q (.exit j) len vs h
 | .ret=>AtV so Q .ret len vs h

theorem Zn9{n:Nat}(sl so:List Nat){σ:St}{l:List Code}{Q:Out->St->Prop}(I:Nat->List V->Heap->Prop)(m0:Nat)(hn:σ.env.length=n)
  (h0:I m0 (sl.map fun i=>lv i σ) σ.h)
  (round: ∀m vs h,I m vs h->TriL Y (flat (Zx l)) ⟨mk n (sl.zip vs),[],h⟩ (VQ so (Zip n so sl I m (Xa l) Q))) (hsub:sl.all so.contains=true:=by rfl) (hl:Zgp l=true:=by kernel_rfl):TriL Y l σ Q:=by
 rw[Ze8 hl]
 refine QH (Zce (fun m τ=>τ.env.length=n∧I m (sl.map fun i=>lv i τ) τ.h) (n:=m0) ⟨hn,h0⟩ ?_)
 rintro m τ ⟨hτ,hI⟩
 have hr:=XG (c:=Zx l) (r:= []) (by rw[qi];exact round m _ _ hI)
 refine(Zad hτ rfl rfl hr).mono ?_
 intro o σ' ho
 cases o with
 |normal=>
  obtain⟨h1,m',h2,h3⟩:=ho
  exact⟨m',h2,h1,by rw[QZ hsub rfl];exact h3⟩
 |exit j=>
  have ho:Zip n so sl I m (Xa l) Q (.exit j) σ'.env.length (so.map fun i=>lv i σ') σ'.h:=ho
  simp only[Zip]at ho
  by_cases hj:j=Xa l
  ·rw[if_pos hj]at ho
   simp only[if_pos hj]
   exact ho σ' rfl rfl rfl
  ·rw[if_neg hj]at ho
   simp only[if_neg hj]
   exact ho σ' rfl rfl rfl
 |ret=>exact ho σ' rfl rfl rfl

def Zgq(Y:YP)(n:Nat)(so:List Nat)(id:Nat)(r:List Code)(Q:Out->St->Prop)(o:Out)(len:Nat)(vs:List V)(h:Heap):Prop:=
 match o with
 | .normal=>len=n∧ ∃sl':List Nat,sl'.all so.contains=true∧TriL Y r ⟨mk n (sl'.zip (pick so sl' vs)),[],h⟩ Q
 | .exit j=>if j=id then len=n∧ ∃sl':List Nat,sl'.all so.contains=true∧TriL Y r ⟨mk n (sl'.zip (pick so sl' vs)),[],h⟩ Q else AtV so Q (.exit j) len vs h
 | .ret=>AtV so Q .ret len vs h

theorem Wj{n:Nat}(so:List Nat){σ:St}{l:List Code}{Q:Out->St->Prop}(hl:Zkq l=true)
  (h:TriL Y (flat (Xj l)) σ (VQ so (Zgq Y n so (Wy l) (l.drop 1) Q))):TriL Y l σ Q:=by
 obtain⟨h1,h2⟩:=Zn8 hl
 rw[h1]
 have h3:=XG (c:=Xj l) (r:= []) (by rw[qi];exact h)
 refine QH (Tri.mono h3 ?_)
 intro o σ' ho
 cases o with
 |normal=>obtain⟨g1,sl',g2,g3⟩:=ho;exact Qt h2 g1 (QZ g2 rfl) rfl g3
 |ret=>exact ho σ' rfl rfl rfl
 |exit j=>
  have ho:Zgq Y n so (Wy l) (l.drop 1) Q (.exit j) _ _ _:=ho
  simp only[Zgq]at ho
  by_cases hj:j=Wy l
  ·rw[if_pos hj]at ho
   simp only[if_pos hj]
   obtain⟨g1,sl',g2,g3⟩:=ho
   exact Qt h2 g1 (QZ g2 rfl) rfl g3
  ·rw[if_neg hj]at ho
   simp only[if_neg hj]
   exact ho σ' rfl rfl rfl

theorem Qe{n:Nat}{so sl:List Nat}{K:KT}{o:Out}{vs}{h:Heap}(hs:sl.all so.contains=true)(hk:K o n (pick so sl vs) h):AtV so (VQ sl K) o n vs h:=by
 rintro τ rfl h2 rfl
 show K o τ.env.length (sl.map fun i=>lv i τ) τ.h
 rw[QZ hs h2]
 exact hk

def Two(so1:List Nat)(vs1:List V)(so2:List Nat)(vs2:List V):Prop:= ∃τ:St,(so1.map fun i=>lv i τ)=vs1∧(so2.map fun i=>lv i τ)=vs2
theorem Zgr{so1 so2 sl:List Nat}{vs1 vs2}(hc:Two so1 vs1 so2 vs2)(h1:sl.all so1.contains=true)(h2:sl.all so2.contains=true):pick so2 sl vs2=pick so1 sl vs1:=by
 obtain⟨τ,e1,e2⟩:=hc
 rw[<-QZ h1 e1,<-QZ h2 e2]

theorem Zyl(hY:YOK Y){loc:Nat->Bool}(fuel:Nat)(so1:List Nat){so2:List Nat}{σ:St}{l:List Code}{K:KT}(h:Zc Y loc fuel l σ (VQ so1 fun o n vs h=> ∀vs2,Two so1 vs so2 vs2->K o n vs2 h)):TriL Y l σ (VQ so2 K):=
 (Zac hY _ _ _ _ h).mono fun _ σ' ho=>ho _ ⟨σ',rfl,rfl⟩

theorem ZCb{n:Nat}{so1 so2:List Nat}{K:KT}{o:Out}{vs}{h:Heap}(hk: ∀vs2,Two so1 vs so2 vs2->K o n vs2 h):AtV so1 (VQ so2 K) o n vs h:=by
 rintro τ rfl h2 rfl
 exact hk _ ⟨τ,h2,rfl⟩

theorem Zgs{n:Nat}{so1 so sl:List Nat}{I:Nat->List V->Heap->Prop}{m id:Nat}{r:List Code}{Q:Out->St->Prop}{len:Nat}{vs vs2}{h:Heap}(ht:Two so1 vs so vs2)(h1:sl.all so1.contains=true)(h2:sl.all so.contains=true)(hn:len=n)(m':Nat)(hm:m'<m)
  (hi:I m' (pick so1 sl vs) h):XH Y n so sl I m id r Q .normal len vs2 h:=⟨hn,m',hm,by rw[Zgr ht h1 h2];exact hi⟩

theorem Ziq{n:Nat}{so1 so sl:List Nat}{I:Nat->List V->Heap->Prop}{m id j:Nat}{r:List Code}{Q:Out->St->Prop}{len:Nat}{vs vs2}{h:Heap}(sl':List Nat)(h2:Two so1 vs so vs2)(hj:j=id)(hn:len=n)(hs1:sl'.all so1.contains=true)(hs:sl'.all so.contains=true)
  (ht:TriL Y r ⟨mk n (sl'.zip (pick so1 sl' vs)),[],h⟩ Q):XH Y n so sl I m id r Q (.exit j) len vs2 h:=
 Zi sl' (by rw[Zgr h2 hs1 hs];exact ht) hj hn hs

end

theorem Xv{Y:YP}{fn:Func}{so:List Nat}{P:V->Heap->Prop}{o:Out}{n:Nat}{vs}{h:Heap}{v:V}(ho:o= .normal∨o= .ret)(hv:resV Y fn (so.zip vs)=some v)(hp:P v h):AtV so (FinS Y fn P) o n vs h:=
 Zij ⟨ho,v,hv,hp⟩
def Wk0(v v':V):Prop:=v=v'∨(∃c k c',v= .sl none 0 c k∧v'= .ts [] 0 c'∧ ∀x,c'=some x->x=0)∨ ∃cs n c,v= .ts cs n c∧v'= .ts cs n none
inductive WkL:List V->List V->Prop
 |nil:WkL [] []
 |cons (v v':V) (l l':List V) (h:Wk0 v v') (hl:WkL l l'):WkL (v::l) (v'::l')
def Wk(v v':V):Prop:=Wk0 v v'∨ ∃cs cs',v= .lb cs∧v'= .lb cs'∧WkL cs cs'

theorem Wk0.refl(v:V):Wk0 v v:= .inl rfl
theorem Wk.refl(v:V):Wk v v:= .inl (.inl rfl)
theorem Wk0.vr{W:Vw}{v v':V}(h:Wk0 v v'){u:Value}(r:VR W v u):VR W v' u:=by
 rcases h with rfl|⟨c,k,c',rfl,rfl,hc⟩|⟨cs,n,c,rfl,rfl⟩
 ·exact r
 ·cases r;exact .tsz _ hc
 ·cases r with
  |tsn _ _ a cap' hl hc=>exact .tsn _ _ a cap' hl (fun c h=>by cases h)
  |tsz _ hc=>exact .tsz _ (fun c h=>by cases h)
  |ts _ _ _ cap' blk off c e fr us hl hcap hs hc hr=>exact .ts _ _ _ cap' blk off c e fr us hl (fun c h=>by cases h) hs hc hr
theorem WkL.vr{W:Vw} : ∀ {l l'} {us:List Value},WkL l l'->VRs W l us->VRs W l' us
 |_,_,_, .nil,r=>by cases r;exact .nil
 |_,_,_, .cons _ _ _ _ h hl,r=>by cases r with|cons _ _ _ _ h1 h2=>exact .cons _ _ _ _ (h.vr h1) (hl.vr h2)

inductive WkA:List V->List V->Prop
 |nil:WkA [] []
 |one (v v':V) (l l':List V) (h:Wk0 v v') (hl:WkA l l'):WkA (v::l) (v'::l')
 |agg (cs cs' l l':List V) (h:WkL cs cs') (hl:WkA l l'):WkA (.agg cs::l) (.agg cs'::l')
theorem WkA.vr{W:Vw} : ∀ {l l'} {us:List Value},WkA l l'->VRs W l us->VRs W l' us
 |_,_,_, .nil,r=>by cases r;exact .nil
 |_,_,_, .one _ _ _ _ h hl,r=>by cases r with|cons _ _ _ _ h1 h2=>exact .cons _ _ _ _ (h.vr h1) (hl.vr h2)
 |_,_,_, .agg _ _ _ _ h hl,r=>by cases r with|cons _ _ _ _ h1 h2=>cases h1 with|agg _ _ h1=>exact .cons _ _ _ _ (.agg _ _ (h.vr h1)) (hl.vr h2)
theorem PCon.wk{Y:YP}{f:FuncId}{args args'}{P:V->Prop}(hw:WkA args args')(h:PCon Y f args' P):PCon Y f args P:=
 ⟨h.body,fun W w us hs hg hv=>h.tr W w us hs hg (hw.vr hv)⟩
theorem WkL.refl: ∀l:List V,WkL l l
 | []=> .nil
 |v::l=> .cons _ _ _ _ (.refl v) (WkL.refl l)

inductive WkE:List V->List V->Prop
 |nil:WkE [] []
 |cons (v v':V) (l l':List V) (h:Wk v v') (hl:WkE l l'):WkE (v::l) (v'::l')
theorem WkE.refl: ∀l:List V,WkE l l
 | []=> .nil
 |v::l=> .cons _ _ _ _ (.refl v) (WkE.refl l)
theorem WkE.length: ∀ {l l':List V},WkE l l'->l.length=l'.length
 |_,_, .nil=>rfl
 |_,_, .cons _ _ _ _ _ hl=>by simp[hl.length]
theorem WkE.get: ∀ {l l':List V},WkE l l'-> ∀ {t:Nat} {v':V},l'[t]? =some v'-> ∃v,l[t]? =some v∧Wk v v'
 |_,_, .nil,t,v',h=>by simp at h
 |_,_, .cons v v1 l l' hv hl,0,v',h=>by simp at h;subst h;exact⟨v,rfl,hv⟩
 |_,_, .cons v v1 l l' hv hl,t+1,v',h=>by simp at h;simpa using hl.get h
theorem WkE.set: ∀ {l l':List V} (t:Nat) {v v':V},WkE l l'->Wk v v'->WkE (l.set t v) (l'.set t v')
 |_,_,_,_,_, .nil,_=> .nil
 |_,_,0,_,_, .cons _ _ _ _ _ hl,h=> .cons _ _ _ _ h hl
 |_,_,t+1,_,_, .cons _ _ _ _ h1 hl,h=> .cons _ _ _ _ h1 (hl.set t h)
theorem WkE.mk{n:Nat} : ∀(sl:List Nat) {vs vs'},WkE vs vs'->WkE (mk n (sl.zip vs)) (mk n (sl.zip vs')):=by
 intro sl vs vs' h
 have key: ∀(sl:List Nat) {vs vs':List V} {e e':List V},WkE vs vs'->WkE e e'->WkE ((sl.zip vs).foldl (fun e p=>e.set p.1 p.2) e) ((sl.zip vs').foldl (fun e p=>e.set p.1 p.2) e'):=by
  intro sl
  induction sl with
  |nil=>intro vs vs' e e' _ he;simpa using he
  |cons s sl ih=>
   intro vs vs' e e' h he
   cases h with
   |nil=>simpa using he
   |cons v v' l l' hv hl=>simp only[List.zip_cons_cons,List.foldl_cons];exact ih hl (he.set s hv)
 exact key sl h (.refl _)

theorem Zqp{Y:YP}{e e'}{h:Heap}{c:Code}{Q:Out->St->Prop}(hw:WkE e e')(ht:Tri Y c ⟨e',[],h⟩ Q):Tri Y c ⟨e,[],h⟩ Q:=by
 intro W a w W0 own0 w0 hr hs
 have hbox: ∀t b,QC ⟨e',[],h⟩ a t b->QC ⟨e,[],h⟩ a t b:=by
  rintro t b ⟨⟨cs,h1⟩,h2⟩
  obtain⟨v,h3,h4⟩:=hw.get h1
  rcases h4 with (rfl|⟨_,_,_,_,h5,_⟩|⟨_,_,_,_,h5⟩)|⟨cs0,_,rfl,_,_⟩
  ·exact⟨⟨cs,h3⟩,h2⟩
  ·cases h5
  ·cases h5
  ·exact⟨⟨cs0,h3⟩,h2⟩
 have hr':Rel W ⟨e',[],h⟩ a w:=by
  refine⟨hr.heap,by rw[hr.size];exact hw.length,fun t v ht=> ?_,fun t t' b h1 h2=>hr.box t t' b (hbox _ _ h1) (hbox _ _ h2),fun _ _ _ hm=>by simp at hm,hr.defers⟩
  obtain⟨v0,h3,h4⟩:=hw.get ht
  obtain⟨u,h5,h6⟩:=hr.env t v0 h3
  refine⟨u,h5,?_⟩
  rcases h4 with h4|⟨cs,cs',rfl,rfl,hl⟩
  ·rcases h4 with rfl|h4
   ·exact h6
   ·have h7:=Wk0.vr (v:=v0) (v':=v) (.inr h4) (W:=W) (u:=u)
    rcases h4 with ⟨c,k,c',rfl,rfl,hc⟩|⟨cs,n,c,rfl,rfl⟩
    ·exact h7 h6
    ·exact h7 h6
  ·obtain⟨b,cc,et,hu,hb,hv,hsn⟩:=h6
   exact⟨b,cc,et,hu,hb,hl.vr hv,hsn⟩
 exact ht W a w W0 own0 w0 hr' (hs.weaken fun b hb=>by
  rcases hb with h1|⟨t,h1⟩|h1
  ·exact .inl h1
  ·exact .inr (.inl ⟨t,hbox _ _ h1⟩)
  ·exact .inr (.inr h1))

theorem Zym{Y:YP}{n:Nat}(sl:List Nat){σ:St}{l:List Code}{Q:Out->St->Prop}{vs}(vs':List V)(hc:l.isEmpty=false)(hn:σ.env.length=n)(hv:(sl.map fun i=>lv i σ)=vs)(hw:WkE vs vs')
  (h:TriL Y l ⟨mk n (sl.zip vs'),[],σ.h⟩ Q):TriL Y l σ Q:=by
 refine Zqo sl hc hn hv ?_
 match l,hc,h with
 |c::r,_,h=>exact Zqp (hw.mk sl) h
section
variable {Y:YP}
def Zb5(Y:YP)(n:Nat)(so sl:List Nat)(I:Nat->List V->Heap->Prop)(m id:Nat)(r:List Code)(Q:Out->St->Prop)(o:Out)(len:Nat)(vs:List V)(h:Heap):Prop:=
 match o with
 | .normal=>len=n∧ ∃m',m'<m∧ ∃vs',WkE (pick so sl vs) vs'∧I m' vs' h
 | .exit j=>if j=id then len=n∧ ∃sl':List Nat,sl'.all so.contains=true∧TriL Y r ⟨mk n (sl'.zip (pick so sl' vs)),[],h⟩ Q else AtV so Q (.exit j) len vs h
 | .ret=>AtV so Q .ret len vs h

theorem ZH2{n:Nat}(sl so:List Nat){σ:St}{l:List Code}{Q:Out->St->Prop}(hsub:sl.all so.contains=true)(hl:Zme l=true)(I:Nat->List V->Heap->Prop)(m0:Nat)(hn:σ.env.length=n)
  (h0: ∃vs',WkE (sl.map fun i=>lv i σ) vs'∧I m0 vs' σ.h)
  (round: ∀m vs h,I m vs h->TriL Y (flat (Zx l)) ⟨mk n (sl.zip vs),[],h⟩ (VQ so (Zb5 Y n so sl I m (Xa l) (l.drop 1) Q))):TriL Y l σ Q:=by
 obtain⟨h1,h2⟩:=Zil hl
 rw[h1]
 refine QH (Zce (fun m τ=>τ.env.length=n∧ ∃vs',WkE (sl.map fun i=>lv i τ) vs'∧I m vs' τ.h) (n:=m0) ⟨hn,h0⟩ ?_)
 rintro m τ ⟨hτ,vs',hw,hI⟩
 have hr:=XG (c:=Zx l) (r:= []) (by rw[qi];exact round m _ _ hI)
 refine(Zad hτ rfl rfl (Zqp (hw.mk sl) hr)).mono ?_
 intro o σ' ho
 cases o with
 |normal=>
  obtain⟨h1,m',h2,vs2,h3,h4⟩:=ho
  exact⟨m',h2,h1,vs2,by rw[QZ hsub rfl];exact h3,h4⟩
 |exit j=>
  have ho:Zb5 Y n so sl I m (Xa l) (l.drop 1) Q (.exit j) σ'.env.length (so.map fun i=>lv i σ') σ'.h:=ho
  simp only[Zb5]at ho
  by_cases hj:j=Xa l
  ·rw[if_pos hj]at ho
   simp only[if_pos hj]
   obtain⟨h3,sl',h4,h5⟩:=ho
   exact Qt h2 h3 (QZ h4 rfl) rfl h5
  ·rw[if_neg hj]at ho
   simp only[if_neg hj]
   exact ho σ' rfl rfl rfl
 |ret=>exact ho σ' rfl rfl rfl

theorem Zku{n:Nat}{so sl:List Nat}{I:Nat->List V->Heap->Prop}{m id j:Nat}{r:List Code}{Q:Out->St->Prop}{len:Nat}{vs:List V}{h:Heap}(sl':List Nat)(hj:j=id)(hn:len=n)(hs:sl'.all so.contains=true)
  (ht:TriL Y r ⟨mk n (sl'.zip (pick so sl' vs)),[],h⟩ Q):Zb5 Y n so sl I m id r Q (.exit j) len vs h:=by
 simp only[Zb5]
 rw[if_pos hj]
 exact⟨hn,sl',hs,ht⟩
end
abbrev encI(n:Int):List V:= [I n]
theorem Zgu(n:Int):(encI n).length=1:=rfl
theorem Zyn{α:Type}(f:α->V)(l:List α):row (fun a=> [f a]) l=l.map f:=by
 induction l with
 |nil=>rfl
 |cons a l ih=>simp only[row,qz,List.flatten_cons]at ih ⊢;rw[ih];rfl
theorem rowI(l:List Int):row encI l=l.map (.i .i64):=Zyn _ l
theorem JX(l:List Int):(row encI l).length=l.length:=by rw[rowI];simp
theorem Zch(l:List Int):Zk (row encI l)=true:=by
 rw[rowI]
 induction l with
 |nil=>rfl
 |cons a l ih=>simp only[qz,Zk,ih,Bool.and_true];rfl
theorem Zci(l:List Int)(h:Heap):FrzL h (row encI l) (row encI l):=by
 rw[rowI]
 induction l with
 |nil=>exact .nil
 |cons a l ih=>exact .cons _ _ _ _ (.i _ _) ih


theorem Zoa{p:Nat->Bool}{i:Nat}(h:(List.range i).all p=true)(hp:p i=true):(List.range (i+1)).all p=true:=by
 rw[List.range_succ,List.all_append,h];simp[hp]

theorem Zz{i n:Nat}(h:i<n):(0:Int)<=(i:Nat)∧(i:Int)<(n:Nat):=⟨by omega,by omega⟩
theorem Zl{Y:YP}(hY:YOK Y){loc:Nat->Bool}{fuel:Nat}(n:Nat){slots:List Nat}{σ:St}{env':List V}{h:Heap}{l:List Code}{Q:Out->St->Prop}{T:(KT)->Prop}
  (tree: ∀K,Zc Y loc fuel (pre l) ⟨env',[],h⟩ (VQ slots K)=T K) (hσ:σ=⟨env',[],h⟩) (hT:T (PreV Y n slots (post l) Q)) (hc:(post l).isEmpty=false:=by kernel_rfl):TriL Y l σ Q:=by
 refine Xm hY (n:=n) (loc:=loc) fuel slots hc ?_
 rw[hσ,tree]
 exact hT
theorem Zs{Y:YP}(hY:YOK Y){loc:Nat->Bool}{fuel:Nat}{slots:List Nat}{σ:St}{env':List V}{h:Heap}{l:List Code}{K:KT}{T:(KT)->Prop}
  (tree: ∀K,Zc Y loc fuel l ⟨env',[],h⟩ (VQ slots K)=T K) (hσ:σ=⟨env',[],h⟩) (hT:T K):TriL Y l σ (VQ slots K):=by
 refine ZT hY (loc:=loc) fuel slots ?_
 rw[hσ,tree]
 exact hT
theorem Zn{Y:YP}(hY:YOK Y){loc:Nat->Bool}{fuel:Nat}{slots:List Nat}{σ:St}{env':List V}{h:Heap}{l:List Code}{fn:Func}{P:V->Heap->Prop}{T:(KT)->Prop}
  (tree: ∀K,Zc Y loc fuel l ⟨env',[],h⟩ (VQ slots K)=T K) (hσ:σ=⟨env',[],h⟩) (hT:T (Fin Y fn slots P)):TriL Y l σ (FinS Y fn P):=by
 refine ZB hY (loc:=loc) fuel slots ?_
 rw[hσ,tree]
 exact hT
theorem Zmf{Y:YP}(hY:YOK Y){loc:Nat->Bool}{fuel:Nat}{so1 so2:List Nat}{σ:St}{env':List V}{h:Heap}{l:List Code}{K:KT}{T:(KT)->Prop}
  (tree: ∀K,Zc Y loc fuel l ⟨env',[],h⟩ (VQ so1 K)=T K) (hσ:σ=⟨env',[],h⟩) (hT:T fun o n vs h=> ∀vs2,Two so1 vs so2 vs2->K o n vs2 h):TriL Y l σ (VQ so2 K):=by
 refine Zyl hY (loc:=loc) fuel so1 ?_
 rw[hσ,tree]
 exact hT
theorem Zdk{Y:YP}{n:Nat}{so1 so sl':List Nat}{id:Nat}{r:List Code}{Q:Out->St->Prop}{len:Nat}{vs vs2}{h:Heap}(ht:Two so1 vs so vs2)(hn:len=n)(h1:sl'.all so1.contains=true)(h2:sl'.all so.contains=true)
  (hr:TriL Y r ⟨mk n (sl'.zip (pick so1 sl' vs)),[],h⟩ Q):Zgq Y n so id r Q .normal len vs2 h:=⟨hn,sl',h2,by rw[Zgr ht h1 h2];exact hr⟩
theorem Zr{h:Heap}{id:Nat}{cs:List V}{wr:Bool}(hg:h.get id=some (.arr cs wr))(off n:Nat):Zb h id off n=Zo n (cs.drop off):=by
 simp only[Zb,hg]

theorem Zt{Y:YP}(hY:YOK Y){f:FuncId}{fn:Func}{args}(hc:Xc args=true){P:V->Prop}{slots:List Nat}{env':List V}{T:(KT)->Prop}
  (tree: ∀K,Zc Y (Y.loc f) 100 (flat (Za fn)) ⟨env',[], .empty⟩ (VQ slots K)=T K) (he:args++List.replicate (fn.ntmps-args.length) .undef=env')
  (hfin:T (Fin Y fn slots (fun v h=> ∃r,Frz h v r∧P r))) (hf:Y.P.funcs[f]? =some fn:=by kernel_rfl) (hb:fn.body.isSome=true:=by kernel_rfl):PCon Y f args P:=by
 refine ZE hY hc ?_ hf hb
 rw[he]
 refine ZB hY (loc:=Y.loc f) 100 slots ?_
 rw[tree]
 exact hfin
theorem FrzAL.length{h:Heap} : ∀ {l l':List V},FrzAL h l l'->l.length=l'.length
 |_,_, .nil=>rfl
 |_,_, .cons _ _ _ _ _ hl=>by simp[hl.length]
theorem FrzAL.get{h:Heap} : ∀ {l l':List V},FrzAL h l l'-> ∀ {j:Nat} {v':V},l'[j]? =some v'-> ∃v,l[j]? =some v∧FrzA h v v'
 |_,_, .nil,j,v',h=>by simp at h
 |_,_, .cons v v1 l l' hv hl,0,v',h=>by simp at h;subst h;exact⟨v,rfl,hv⟩
 |_,_, .cons v v1 l l' hv hl,j+1,v',h=>by simp at h;simpa using hl.get h
theorem FrzAL.refl{h:Heap} : ∀l:List V,FrzAL h l l
 | []=> .nil
 |v::l=> .cons _ _ _ _ (.same v) (FrzAL.refl l)

theorem HRel.cool{W:Vw}{h:Heap}{w:World}(hr:HRel W h w)(D:List Nat){O:Nat}{cs cs'}{wr:Bool}(hg:h.get O=some (.arr cs wr))(hD:O∉D)(hf:FrzAL (VW h D) cs cs'):
  HRel (W.frzD D w) ((XT h D).set O (some (.arr cs' wr))) w:=by
 obtain⟨g1,g2⟩:=hr.frzD D
 have hk:(XT h D).get O=some (.arr cs wr):=by rw[Qr,if_neg hD];exact hg
 refine⟨fun j hj=> ?_,g1.lk,fun j=> ?_,fun j hj=> ?_,g1.snap,fun j o hj=> ?_,g1.inj,g1.apart,fun p hp=>g1.tg p hp,g1.gl⟩
 ·rw[Heap.raw_set]
  split
  ·rfl
  ·exact g1.kn j hj
 ·rw[qc]
  by_cases e:j=O
  ·subst e;rw[if_pos rfl,g1.lv j,hk];simp
  ·rw[if_neg e];exact g1.lv j
 ·rw[Heap.raw_set]at hj
  by_cases e:j=O
  ·subst e;exact g1.ltg (by rw[hk];rfl)
  ·rw[if_neg e]at hj;exact g1.lt j hj
 ·rw[qc]at hj
  by_cases e:j=O
  ·subst e
   rw[if_pos rfl]at hj
   simp only[Option.some.injEq]at hj
   subst hj
   obtain⟨c,e,fr,h1,h2,h3,h4,h5⟩:=hr.obj j _ hg
   refine⟨c,e,fr,h1,h2,by rw[<-hf.length];exact h3,fun i v' hi=> ?_,by rw[<-hf.length];exact h5⟩
   obtain⟨v,hv,hz⟩:=hf.get hi
   obtain⟨u,hu,hvu⟩:=h4 i v hv
   exact⟨u,hu,hz.vr (Fz.of hr D) (Vv hr D) hvu⟩
  ·rw[if_neg e]at hj;exact g1.obj j o hj

theorem Con.coolR{Y:YP}{f:FuncId}{args:List V}{h:Heap}{Q:V->Heap->Prop}
  (c:Con Y f args h fun v h'=> ∃(D:List Nat) (O:Nat) (cs cs':List V) (wr:Bool),h'.get O=some (.arr cs wr)∧O∉D∧FrzAL (VW h' D) cs cs'∧ ∃v',FrzA (VW h' D) v v'∧Q v' ((XT h' D).set O (some (.arr cs' wr)))):Con Y f args h Q:=
 ⟨c.body,fun W w us hr hv=>(c.tr W w us hr hv).mono fun e w' ⟨v,h',W',u,⟨D,O,cs,cs',wr,h1,h2,h3,v',h4,h5⟩,he,hh,hvu,hst⟩=>
  ⟨v',_,_,u,h5,he,hh.cool D h1 h2 h3,h4.vr (Fz.of hh D) (Vv hh D) hvu,hst.trans (hh.frzD D).2⟩⟩

theorem HRel.more{W:Vw}{h:Heap}{w w':World}(r:HRel W h w){s:Nat->Option Obj}(hs: ∀b o,W.snap b=some o->s b=some o)(hz:w.heap.size<=w'.heap.size)
  (hk: ∀b,b<w.heap.size->w'.heap[b]? =w.heap[b]?) (hn: ∀b o,s b=some o->w'.heap[b]? =some o) (hstr:Str w w'):
  HRel (W.more w.heap.size s) h w'∧Stp W W.own w (W.more w.heap.size s) (W.more w.heap.size s).own w':=by
 have hle:=Zpy (w:=w) hs
 have hsame:Same w w':=fun b o hb=>by rw[hk b (Zq hb)];exact hb
 have hlt: ∀id,W.lv id->(W.mu id).1<w.heap.size:=by
  intro id hl
  obtain⟨o,ho⟩:=r.block hl
  exact Zq ho
 refine⟨⟨r.kn,r.lk,r.lv,r.lt,?_,?_,r.inj,?_,fun p hp=>⟨(r.tg p hp).1,(((r.tg p hp).2).same hsame).mono hle (r.tg p hp).1⟩,r.gl.mono hle.snap⟩,⟨hle,hz,fun b hb _=>hk b hb,fun b hb=> .inl hb,?_,hstr⟩⟩
 ·intro b o hb
  simp only[Vw.more]at hb
  split at hb
  ·exact hn b o hb
  ·exact hsame b o (r.snap b o hb)
 ·intro id o ho
  exact((r.obj id o ho).same hsame).mono hle (r.known (by simp[ho]))
 ·intro id hl
  have:=hlt id hl
  simp only[Vw.more]
  rw[if_neg (by omega)]
  exact r.apart id hl
 ·intro b hb
  simp only[Vw.more]at hb
  split at hb
  ·rename_i h1;exact .inr (.inr h1)
  ·exact .inl hb

theorem Con.ofP{Y:YP}{f:FuncId}{args args'}{h:Heap}{P:V->Prop}(D:List Nat)(hf:FrzAL (VW h D) args args')(p:PCon Y f args' P):Con Y f args h fun v h'=>P v∧h'=XT h D:=
 ⟨p.body,fun W w us hr hv=>by
  obtain⟨g1,g2⟩:=hr.frzD D
  refine(p.tr (W.frzD D w) w us g1.snap g1.gl (hf.vr (Fz.of hr D) (Vv hr D) hv)).mono ?_
  rintro e w' ⟨r,W',u,h1,h2,h3,h4,h5,h6,h7,h8,h9,h10⟩
  obtain⟨k1,k2⟩:=g1.more (s:=W'.snap) h4 h7 h8 h5 h10
  refine⟨r,_,_,u,⟨h1,rfl⟩,h2,k1,h9 _ ?_,g2.trans k2⟩
  intro b o hb
  simp only[Vw.more]
  split
  ·exact hb
  ·rename_i hlt
   rcases h6 b (by simp[hb])with h9'|h9'
   ·cases hsn:(W.frzD D w).snap b with
    |none=>exact absurd hsn h9'
    |some o'=>rw[h4 b o' hsn]at hb;exact hb
   ·exact absurd h9' hlt⟩
end Go.Y
