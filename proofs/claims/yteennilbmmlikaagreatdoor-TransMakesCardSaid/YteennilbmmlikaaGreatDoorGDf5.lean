/- A part of the proof. -/
import Derived.Test.YteennilbmmlikaaGreatDoorGDf4
import Derived.Test.YteennilbmmlikaaGreatDoorGTShp
import Derived.Test.YteennilbmmlikaaGreatDoorYTryzP
import Derived.Test.YteennilbmmlikaaGreatDoorYLoop
namespace Go.Y
open Go.Proofs
set_option maxRecDepth 1000000
set_option maxHeartbeats 0
theorem appR{n:Nat}{h:Heap}{a}{l:Nat}{c}{k:Nat}{r:List Int}(x:Int)(o:LN h a l c k (ZV r))(hr:r.length<=256)(ha: ∀j,a=some (j,0)->n<=j):
  ∃a' l' c' k' h',Zf Tryd.Y h 32 32 (.sl a l c k) (.ts [I x] 1 (some 1))=some (.sl a' l' c' k',h')∧LN h' a' l' c' k' (ZV (r++ [x]))∧FrK 4 n h h'∧ ∃j,a'=some (j,0)∧h.nx<=j:=by
 obtain⟨a',l',c',k',h',q1,q2,q3,q4⟩:=appN (Y:=Tryd.Y) (st:=32) (e:=3) (te:=⟨1,8, .int .i64,[I 0]⟩) (q:=4) (n:=n) (I x) (by kernel_rfl) (by kernel_rfl) rfl (by decide) rfl o (by simp[ZV];omega) (fun hne=>WK (fun e=>hne (by rw[e];rfl)) hr) ha
 exact⟨a',l',c',k',h',q1,by simpa[ZV]using q2,q3,q4⟩

theorem ZGy{K:KT}{n0 w:Nat}{cl:List Nat}{T N:List (List Int)}{G:List Bool}{id8 id9 l9:Nat}{c9:Option Nat}{h2:Heap}{id14:Nat}{l:List Int}{a11:Option (Nat×Nat)}{l11:Nat}{c11:Option Nat}{k11:Nat}{r:List Int}{most at_ i:Nat}{A L7 N7:V}
  (s:MkI n0 w cl T N G id8 id9 l9 c9 h2) (hg:h2.get id14=some (.arr [lst encI l] true)) (h14:n0<=id14) (hT:TOk most T) (hm:most<=300) (hr:LN h2 a11 l11 c11 k11 (ZV r)) (hrl:r.length<256) (ha: ∀j,a11=some (j,0)->n0<=j)
  (hfull: ∀h',Za5 T l=none->most<=T.length+1->K Out.ret 108 [I most,A, .lb zDfa,I 9,L7, .p (some (id8,0)), .sl (some (id9,0)) l9 c9 1,I at_, .sl a11 l11 c11 k11,L7,N7,I (i:Nat)] h')
  (hnew: ∀id9' l9' c9' a' l' c' k' h',Za5 T l=none-> ¬most<=T.length+1->MkI n0 w cl (T++ [l]) N G id8 id9' l9' c9' h'->LN h' a' l' c' k' (ZV (r++ [((T.length+1:Nat):Int)]))->(∀j,a'=some (j,0)->n0<=j)->
   K Out.normal 108 [I most,A, .lb zDfa, .undef,L7, .p (some (id8,0)), .sl (some (id9',0)) l9' c9' 1,I at_, .sl a' l' c' k',L7,N7,I (IntKind.i64.wrap ((i:Nat)+1))] h')
  (hold: ∀j a' l' c' k' h',Za5 T l=some j->MkI n0 w cl T N G id8 id9 l9 c9 h'->LN h' a' l' c' k' (ZV (r++ [((j+1:Nat):Int)]))->(∀j,a'=some (j,0)->n0<=j)->
   K Out.normal 108 [I most,A, .lb zDfa, .undef,L7, .p (some (id8,0)), .sl (some (id9,0)) l9 c9 1,I at_, .sl a' l' c' k',L7,N7,I (IntKind.i64.wrap ((i:Nat)+1))] h'):
  1=1∧((0:Int)<=(1:Int)∧(1:Int)<=(l9:Int))∧
   Con Tryd.Y (85:Nat) [V.sl (some (id9,1)) (l9-Int.toNat (1:Int)) (Option.map (fun(x:Nat)=>x-Int.toNat (1:Int)) c9) 1,V.fn (Fn.func (86:Nat)) [] [V.p (some (id14,0))]] h2 fun(v:V) (h':Heap)=>
    ∃(n:Int),v=V.i IntKind.i64 n∧
     If (IntKind.i64.wrap ((1:Int)+n)==(0:Int))
      (If (leI (most:Nat) (l9:Int))
       (K Out.ret 108 [I most,A, .lb zDfa,I 9,L7, .p (some (id8,0)), .sl (some (id9,0)) l9 c9 1,I at_, .sl a11 l11 c11 k11,L7,N7,I (i:Nat)] h')
       (∃(cs:List V) (l:Nat) (c:Option Nat),Zb h' id14 0 1=some [V.ts cs l c]∧
        ∃(a:Option (Nat×Nat)) (l_1:Nat) (c_1:Option Nat) (k:Nat) (h:Heap),Zf Tryd.Y h' 33 33 (V.sl (some (id9,0)) l9 c9 1) (V.ts [V.ts cs l c] 1 (some 1))=some (V.sl a l_1 c_1 k,h)∧
        ∃(a_1:Option (Nat×Nat)) (l:Nat) (c:Option Nat) (k_1:Nat) (h_2:Heap),Zf Tryd.Y h 32 32 (V.sl a11 l11 c11 k11) (V.ts [V.i IntKind.i64 (l9:Int)] 1 (some 1))=some (V.sl a_1 l c k_1,h_2)∧
        K Out.normal 108 [I most,A, .lb zDfa, .undef,L7, .p (some (id8,0)), .sl a l_1 c_1 k,I at_, .sl a_1 l c k_1,L7,N7,I (IntKind.i64.wrap ((i:Nat)+1))] h_2))
      (∃(a:Option (Nat×Nat)) (l:Nat) (c:Option Nat) (k:Nat) (h:Heap),Zf Tryd.Y h' 32 32 (V.sl a11 l11 c11 k11) (V.ts [V.i IntKind.i64 (IntKind.i64.wrap ((1:Int)+n))] 1 (some 1))=some (V.sl a l c k,h)∧
       K Out.normal 108 [I most,A, .lb zDfa, .undef,L7, .p (some (id8,0)), .sl (some (id9,0)) l9 c9 1,I at_, .sl a l c k,L7,N7,I (IntKind.i64.wrap ((i:Nat)+1))] h):=by
 have hl9:l9=T.length+1:=by have:=s.li.len;simpa using this
 have hTl:=hT.len
 subst hl9
 obtain⟨jj,e,_,hj9,hg9,_⟩:=s.li.cells (by simp)
 cases e
 rw[Zjt]at hg9
 refine⟨rfl,⟨by omega,by omega⟩,?_⟩
 have hix:=ZA2 T l (fun x hx=>by have:=hT.el x hx;omega) (by omega) (h:=h2) (id0:=id9) (o0:=1) (id:=id14) (pre:= [nilC]) (c:=Option.map (fun x=>x-Int.toNat (1:Int)) c9) hg9 rfl hg
 rw[show T.length+1-Int.toNat (1:Int)=T.length from rfl]
 refine hix.mono fun v h' ⟨e1,e2⟩=> ?_
 subst e2
 cases hf:Za5 T l with
 |some j=>
  rw[hf]at e1
  have hjl:j<T.length:=by
   unfold Za5 at hf
   exact(List.findIdx?_eq_some_iff_getElem.1 hf).1
  have hw:IntKind.i64.wrap ((1:Int)+((j:Nat):Int))=((j+1:Nat):Int):=by rw[Int.add_comm];exact Zh (by omega)
  refine⟨_,e1,Zg (fun hc=> ?_) (fun _=> ?_)⟩
  ·rw[hw]at hc;simp at hc;omega
  ·rw[hw]
   obtain⟨a',l',c',k',h3,q1,q2,q3,j',q4,q5⟩:=appR (((j+1:Nat):Int)) hr (by omega) ha
   exact⟨a',l',c',k',h3,q1,hold j _ _ _ _ _ hf (s.row q3) q2 (fun i e=>by rw[q4]at e;cases e;have:=s.n0;omega)⟩
 |none=>
  rw[hf]at e1
  have hw:IntKind.i64.wrap ((1:Int)+(-1))=0:=by decide
  refine⟨_,e1,Zg (fun _=> ?_) (fun hc=> ?_)⟩
  ·refine Wx (fun hle=>hfull _ hf (by omega)) (fun hgt=> ?_)
   obtain⟨id',l',c',h3,q1,q2,q3⟩:=s.list l (by omega) hr (by omega)
   obtain⟨a',l2,c2,k2,h4,p1,p2,p3,j',p4,p5⟩:=appR (((T.length+1:Nat):Int)) q3 (by omega) ha
   exact⟨_,_,_,by rw[Zr hg];rfl,_,_,_,_,h3,q1,a',l2,c2,k2,h4,p1,hnew _ _ _ _ _ _ _ _ hf (by omega) (q2.row p3) p2 (fun i e=>by rw[p4]at e;cases e;have:=q2.n0;omega)⟩
  ·rw[hw]at hc;simp at hc
theorem Xl{h:Heap}{id off:Nat}{cs new:List V}(hg:h.get id=some (.arr cs true))(hl:off+new.length<=cs.length):Zj h id off new=some (h.set id (some (.arr (splice cs off new) true))):=by
 simp only[Zj,hg];rw[if_pos hl]
theorem ZL2(cl:List Nat)(h:cl.length=256)(x y z:V):splice (clsI cl++ [x,y]) 256 [z]=clsI cl++ [z,y]:=by
 have:=Zhj (clsI cl) x z [y]
 rwa [show(clsI cl).length=256 by simp[clsI,h]]at this
theorem ZGz(cl:List Nat)(h:cl.length=256)(x y z:V):splice (clsI cl++ [x,y]) 257 [z]=clsI cl++ [x,z]:=by
 have:=Zhj (clsI cl++ [x]) y z []
 rw[show(clsI cl++ [x]).length=257 by simp[clsI,h]]at this
 simpa using this
theorem ZA6{h:Heap}{id:Nat}{cl:List Nat}{x y:V}(hg:h.get id=some (.arr (clsI cl++ [x,y]) true))(hl:cl.length=256):Zb h id 256 1=some [x]∧Zb h id 257 1=some [y]:=by
 have e:(clsI cl).length=256:=by simp[clsI,hl]
 constructor
 ·rw[Zr hg,List.drop_append,e,List.drop_of_length_le (by omega)];rfl
 ·rw[Zr hg,List.drop_append,e,List.drop_of_length_le (by omega)];rfl
theorem frK5{h:Heap}{id:Nat}{cl:List Nat}{x y:V}{o:Option YObj}(hg:h.get id=some (.arr (clsI cl++ [x,y]) true))(hl:cl.length=256):FrK 5 0 h (h.set id o):=
 ⟨qnq _,fun j cs wr hj hgj hc=>by
  by_cases e:j=id
  ·subst e
   rw[hg]at hgj;cases hgj
   rcases hc with hc|hc
   ·exact absurd (Zju hl x y) hc
   ·omega
  ·rw[qc,if_neg e]⟩

theorem ZL3{n0 w:Nat}{cl:List Nat}{T N:List (List Int)}{G:List Bool}{id8 id9 l9:Nat}{c9:Option Nat}{h:Heap}{a11:Option (Nat×Nat)}{l11:Nat}{c11:Option Nat}{k11:Nat}{r:List Int}
  (s:MkI n0 w cl T N G id8 id9 l9 c9 h) (hr:LN h a11 l11 c11 k11 (ZV r)) (hrl:r.length=w) (hN:N.length<2 ^ 20):
  ∃(a:Option (Nat×Nat)) (l:Nat) (c:Option Nat) (k:Nat),Zb h id8 256 1=some [V.sl a l c k]∧ ∃(a_1:Option (Nat×Nat)) (l_1:Nat) (c_1:Option Nat) (k_1:Nat) (h_1:Heap),
   Zf Tryd.Y (h.push (YObj.arr [V.sl a11 l11 c11 k11] true)) 33 33 (V.sl a l c k) (V.sl (some (h.nx,0)) 1 (some 1) 1)=some (V.sl a_1 l_1 c_1 k_1,h_1)∧
   ∃(h2:Heap),Zj h_1 id8 256 [V.sl a_1 l_1 c_1 k_1]=some h2∧MkI h2.nx w cl T (N++ [r]) G id8 id9 l9 c9 h2:=by
 obtain⟨an,ln,cn,kn,ag,lg,cg,kg,cells,h1,h2,h3,h4⟩:=s.ex
 have hw:=s.w
 rcases hr with ⟨_,_,he⟩|⟨jr,rfl,rfl,rfl,hj,hgr,hne,hll⟩
 ·exfalso
  have:r= []:=by cases r with|nil=>rfl|cons x r=>simp[ZV]at he
  subst this;simp at hrl;omega
 have hl11:l11=w:=by rw[hll];simp[ZV,hrl]
 subst hl11
 obtain⟨a',l',c',k',h1',q1,q2,q3,j',q4,q5⟩:=ZLz (Y:=Tryd.Y) (st:=33) (e:=32) (te:=⟨1,24, .slice 3,[.sl none 0 (some 0) 0]⟩) (q:=2) (n:=0) (.sl (some (jr,0)) l11 none 1) (by kernel_rfl) (by kernel_rfl) rfl (by decide) rfl h2 (by rw[h3.1];omega) h3.kind (fun _ _=>qx _)
 have hd1:h1'.get id8=some (.arr (clsI cl++ [.sl an ln cn kn, .sl ag lg cg kg]) true):=by rw[q3.keep _ _ _ s.l8 h1 (.inl (by rw[Zju s.cl];decide)),h1]
 have hlen:(clsI cl++ [V.sl an ln cn kn, .sl ag lg cg kg]).length=258:=by simp[clsI,s.cl]
 refine⟨an,ln,cn,kn,(ZA6 h1 s.cl).1,a',l',c',k',h1',q1,_,Xl hd1 (by rw[hlen];simp),?_⟩
 rw[ZL2 _ s.cl]
 have f5:=frK5 (o:=some (.arr (clsI cl++ [.sl a' l' c' k', .sl ag lg cg kg]) true)) hd1 s.cl
 have hnest:NestZ h1'.nx l11 h1' cells N:=(h3.keep q3 hw (.inl (by decide))).more (Nat.le_trans s.n0 q3.nx)
 have hgr1:h1'.get jr=some (.arr (ZV r) true):=by rw[q3.keep _ _ _ hj hgr (.inl (by rw[WK (fun e=>by rw[e]at hrl;simp at hrl;omega) (by omega)];decide)),hgr]
 have hjr:jr<h1'.nx:=qv hj q3.nx
 have hn2:=hnest.snoc hrl hgr1 (qnq _) hjr hjr
 have hli:=(s.li.keepK q3 (by decide)).keepK f5 (by decide)
 have hgd:=(h4.keep q3 (.inl (h4.kindne (Zfy G) (by decide) (by decide)))).keep f5 (.inl (h4.kindne (Zfy G) (by decide) (by decide)))
 have hk2:VL (cells++ [V.sl (some (jr,0)) l11 none 1])=2:=hn2.kind (by simp)
 exact⟨⟨a',l',c',k',ag,lg,cg,kg,_,by rw[qc,if_pos rfl],q2.keep f5 (.inl (by rw[hk2];decide)),hn2.keep f5 hw (.inl (by decide)),hgd⟩,hli,by rw[Heap.nx_set];exact qv s.l8 q3.nx,qnq _,s.cl,hw⟩

theorem ZG0{n0 w:Nat}{cl:List Nat}{T N:List (List Int)}{G:List Bool}{id8 id9 l9:Nat}{c9}{h:Heap}(s:MkI n0 w cl T N G id8 id9 l9 c9 h)(hG:G.length<2 ^ 20):
  ∃(a:Option (Nat×Nat)) (l:Nat) (c:Option Nat) (k:Nat),Zb h id8 257 1=some [V.sl a l c k]∧ ∀b,∃(a_2:Option (Nat×Nat)) (l_2:Nat) (c_2:Option Nat) (k_2:Nat) (h_2:Heap),Zf Tryd.Y h 96 96 (V.sl a l c k) (V.ts [V.b b] 1 (some 1))=some (V.sl a_2 l_2 c_2 k_2,h_2)∧
   ∃(h':Heap),Zj h_2 id8 257 [V.sl a_2 l_2 c_2 k_2]=some h'∧MkI h'.nx w cl T N (G++ [b]) id8 id9 l9 c9 h':=by
 obtain⟨an,ln,cn,kn,ag,lg,cg,kg,cells,h1,h2,h3,h4⟩:=s.ex
 have hw:=s.w
 refine⟨ag,lg,cg,kg,(ZA6 h1 s.cl).2,fun b=> ?_⟩
 obtain⟨a',l',c',k',h1',q1,q2,q3,j',q4,q5⟩:=appN (Y:=Tryd.Y) (st:=96) (e:=4) (te:=⟨1,1, .bool,[.b false]⟩) (q:=3) (n:=0) (.b b) (by kernel_rfl) (by kernel_rfl) rfl (by decide) rfl h4 (by simp;omega) (Zfy G) (fun _ _=>qx _)
 have hd1:h1'.get id8=some (.arr (clsI cl++ [.sl an ln cn kn, .sl ag lg cg kg]) true):=by rw[q3.keep _ _ _ s.l8 h1 (.inl (by rw[Zju s.cl];decide)),h1]
 have hlen:(clsI cl++ [V.sl an ln cn kn, .sl ag lg cg kg]).length=258:=by simp[clsI,s.cl]
 refine⟨a',l',c',k',h1',q1,_,Xl hd1 (by rw[hlen];simp),?_⟩
 rw[ZGz _ s.cl]
 have f5:=frK5 (o:=some (.arr (clsI cl++ [.sl an ln cn kn, .sl a' l' c' k']) true)) hd1 s.cl
 have e2:G.map V.b++ [V.b b]=(G++ [b]).map V.b:=by simp
 rw[e2]at q2
 have hli:=(s.li.keepK q3 (by decide)).keepK f5 (by decide)
 have hnx:=(h2.keep q3 (.inl (h2.kindne h3.kind (by decide) (by decide)))).keep f5 (.inl (h2.kindne h3.kind (by decide) (by decide)))
 have hns:=((h3.keep q3 hw (.inl (by decide))).keep f5 hw (.inl (by decide))).more (Nat.le_trans s.n0 q3.nx)
 exact⟨⟨an,ln,cn,kn,a',l',c',k',cells,by rw[qc,if_pos rfl],hnx,hns,q2.keep f5 (.inl (q2.kindne (Zfy _) (by decide) (by decide)))⟩,hli,by rw[Heap.nx_set];exact qv s.l8 q3.nx,qnq _,s.cl,hw⟩

def dfaC(cl:List Nat)(N:List (List Int))(G:List Bool):List V:=clsI cl++ [lst ZY N,lst Zs9 G]
def zDfaF:List V:=List.replicate 256 (.i .i64 0)++ [.ts [] 0 none, .ts [] 0 none]
def Zjw(a:Au)(most:Nat)(cl le:List Nat):V:=match Jt a most le (most+1) 0 [] [] [] with
 |some (N,G)=> .tup [.agg (dfaC cl N G), .i .i64 0]
 |none=> .tup [.agg zDfaF, .i .i64 9]
def Zo5(a:Au)(most:Nat):V:=Zjw a most (srtS a.sets 256).1 (srtS a.sets 256).2

theorem Zxs{l:List (Nat×V)}(cs:List V)(h:cs.length=258)(e:Int)(h4:Zae l 4=some (.lb cs))(h5:Zae l 5=some (I e)):resV Tryd.Y Tryz.f38 l=some (.tup [.agg cs,I e]):=by
 have hr:Tryz.f38.results.toList= [.cell 4 98, .tmp 5]:=by kernel_rfl
 have ht:Tryd.Y.ty 98=some (TI.mk 258 2096 (.struct [(0,95),(256,33),(257,96)]) zDfa):=by kernel_rfl
 have e1:Zca Tryd.Y l (.cell 4 98)=some (.agg cs):=by
  simp only[Zca,ht,h4]
  show(Zo 258 cs).bind _=_
  rw[ZA h.symm];rfl
 have e2:Zca Tryd.Y l (.tmp 5)=some (I e):=by simp only[Zca,h5];rfl
 unfold resV
 rw[hr,Zcb,Zcb,Zcb,e1,e2]
theorem XM:zDfa.length=258:=by unfold zDfa;simp
theorem Zxt(h:Heap): ∀n:Nat,FrzL h (List.replicate n (I 0)) (List.replicate n (I 0))
 |0=> .nil
 |n+1=>by rw[List.replicate_succ];exact .cons _ _ _ _ (.i _ _) (Zxt h n)
theorem Zv3(h:Heap):FrzL h zDfa zDfaF:=(Zxt h 256).append (.cons _ _ _ _ (.sln _ _ none (fun x hx=>by cases hx)) (.cons _ _ _ _ (.sln _ _ none (fun x hx=>by cases hx)) .nil))
theorem Zjx(h:Heap): ∀G:List Bool,FrzL h (G.map V.b) (row Zs9 G)
 | []=> .nil
 |b::G=> .cons _ _ _ _ (.b _) (Zjx h G)
theorem LN.frz{h:Heap}{a}{l:Nat}{c}{k:Nat}{cells cs':List V}(o:LN h a l c k cells)(hf:FrzL h cells cs'){n:Nat}(hn:n=cells.length):Frz h (.sl a l c k) (.ts cs' n none):=by
 subst hn
 rcases o with ⟨rfl,rfl,rfl⟩|⟨j,rfl,rfl,rfl,h1,h2,h3,rfl⟩
 ·cases hf;exact .sln _ _ none (fun x hx=>by cases hx)
 ·exact .sl _ _ _ _ _ _ true _ _ _ h2 (by rw[ql];exact ZA (by simp)) (fun x hx=>by cases hx) (by decide) hf
theorem MkI.frz{n0 w:Nat}{cl:List Nat}{T N:List (List Int)}{G:List Bool}{id8 id9 l9:Nat}{c9}{h:Heap}(s:MkI n0 w cl T N G id8 id9 l9 c9 h):
  ∃cs,cs.length=258∧Zk cs=true∧h.get id8=some (.arr cs true)∧FrzL h cs (dfaC cl N G):=by
 obtain⟨an,ln,cn,kn,ag,lg,cg,kg,cells,h1,h2,h3,h4⟩:=s.ex
 refine⟨_,by simp[clsI,s.cl],?_,h1,(frzN h cl).append (.cons _ _ _ _ (h2.frz h3.frz h3.1.symm) (.cons _ _ _ _ (h4.frz (Zjx h G) (by simp)) .nil))⟩
 have: ∀(x y:List V),Zk x=true->Zk y=true->Zk (x++y)=true:=by
  intro x
  induction x with
  |nil=>exact fun y _ h=>h
  |cons v x ih=>
   intro y hx hy
   simp only[Zk,qrq,qs]at hx ⊢
   exact⟨hx.1,ih y hx.2 hy⟩
 exact this _ _ (allI cl) rfl
theorem getU(l:List Nat){i:Nat}(h:i<l.length):Zo 1 (List.drop ((i:Int).toNat*1) (row encU l))=some [.i .u8 (l[i]:Nat)]:=by
 rw[qdq];exact Xi (f:=encU) (k:=1) Zct h

theorem Zjy(n:Nat)(h:n=258):zDfa.drop n= []:=List.drop_of_length_le (by rw[XM];omega)
theorem splz(cs:List V)(h:cs.length=256):splice zDfa 0 cs=cs++ [nilC,nilC]:=by
 rw[Qq,h]
 unfold zDfa
 rw[List.drop_append,List.drop_of_length_le (by simp)]
 rfl
theorem ZL4(cl:List Nat):Zk (clsI cl++ [nilC,nilC])=true:=by
 induction cl with
 |nil=>rfl
 |cons k r ih=>simp only[clsI,qz,qs,Zk,qrq];exact⟨rfl,ih⟩

theorem ZA7{cl:List Nat}(hcl:cl.length=256){w:Nat}(hw:0<w∧w<=256)(t1 t2:Option TypeId){K:List V->Heap->Nat->Heap->Prop}
  (hk: ∀id8 h9,MkI (h9.nx+1) w cl [] [] [] id8 h9.nx 1 (some 1) (h9.push (.arr [nilC] true))->K (clsI cl++ [nilC,nilC]) Heap.empty id8 h9):
  ∃h_1,Zj (Heap.empty.pushT t1 (.arr (List.replicate 256 (I 0)) true)) Heap.empty.nx 0 (clsI cl)=some h_1∧ ∃cs,Zb h_1 Heap.empty.nx 0 256=some cs∧ ∃cs_2,Zqg Tryd.Y 98 0 256 cs=some cs_2∧If (decide (cs_2.length=258)&&Zk cs_2)
   (∃h,Zj (h_1.pushT t2 (.arr zDfa true)) h_1.nx 0 cs_2=some h∧K cs_2 Heap.empty h_1.nx h) False:=by
 have e:(clsI cl).length=256:=by simp[clsI,hcl]
 have ht:Tryd.Y.ty 98=some (TI.mk 258 2096 (.struct [(0,95),(256,33),(257,96)]) zDfa):=by kernel_rfl
 have g1:(Heap.empty.pushT t1 (.arr (List.replicate 256 (I 0)) true)).get Heap.empty.nx=some (.arr (List.replicate 256 (I 0)) true):=by rw[qj,if_pos rfl]
 refine⟨_,Xl g1 (by rw[e];simp),clsI cl,?_,clsI cl++ [nilC,nilC],?_,ifT ?_ ?_⟩
 ·rw[Zr (by rw[qc,if_pos rfl]),ql,Qq,e,List.drop_of_length_le (by simp),qi]
  exact ZA e.symm
 ·unfold Zqg
  rw[ht]
  simp only[]
  rw[if_pos ⟨e,by rw[e,XM];omega,allI cl⟩,splz _ e]
 ·rw[ZL4];simp[clsI,hcl]
 ·have g2: ∀(h:Heap),(h.pushT t2 (.arr zDfa true)).get h.nx=some (.arr zDfa true):=fun h=>by rw[qj,if_pos rfl]
  refine⟨_,Xl (g2 _) (by rw[XM];simp[clsI,hcl]),hk _ _ ⟨⟨none,0,some 0,0,none,0,some 0,0,[],?_,LN.nil _ _ _,NestZ.nil _ _ _,LN.nil _ _ _⟩,?_,?_,?_,hcl,hw⟩⟩
  ·rw[qk,if_neg (by simp),qc,if_pos rfl]
   congr 2
   rw[Qq,Zjy _ (by simp[clsI,hcl]),qi]
  ·exact LX.one (fun v:V=> [v]) 1 _ nilC
  ·simp
  ·simp

def MkO(a:Au)(most:Nat)(cl le:List Nat)(m:Nat)(vs:List V)(h:Heap):Prop:=
 ∃(at_ n0:Nat) (T N:List (List Int)) (G:List Bool) (id8 id9 l9:Nat) (c9:Option Nat),vs= [.i .i64 (most:Nat), .lb (auC a), .lb zDfa,lst encU le, .p (some (id8,0)), .sl (some (id9,0)) l9 c9 1, .i .i64 (at_:Nat)]∧
  MkI n0 le.length cl T N G id8 id9 l9 c9 h∧TOk most T∧N.length=at_∧G.length=at_∧at_<=T.length+1∧m+at_=most+1∧Jt a most le (most+1) 0 [] [] []=Jt a most le m at_ T N G
def MkN(a:Au)(most:Nat)(cl le:List Nat)(at_ n0:Nat)(T N:List (List Int))(G:List Bool)(id8:Nat)(m:Nat)(vs:List V)(h:Heap):Prop:=
 ∃(i:Nat) (T1:List (List Int)) (r:List Int) (id9 l9:Nat) (c9:Option Nat) (a11:Option (Nat×Nat)) (l11:Nat) (c11:Option Nat) (k11:Nat),
  vs= [.i .i64 (most:Nat), .lb (auC a), .lb zDfa,lst encU le, .p (some (id8,0)), .sl (some (id9,0)) l9 c9 1, .i .i64 (at_:Nat), .sl a11 l11 c11 k11,lst encU le, .i .i64 (le.length:Nat), .i .i64 (i:Nat)]∧
  MkI n0 le.length cl T1 N G id8 id9 l9 c9 h∧LN h a11 l11 c11 k11 (ZV r)∧(∀j,a11=some (j,0)->n0<=j)∧r.length=i∧i<=le.length∧TOk most T1∧at_<T1.length+1∧m=le.length-i∧
  rowD a most at_ le T []=rowD a most at_ (le.drop i) T1 r

theorem ZG1{a:Au}{most:Nat}{cl le:List Nat}{at_ mm n0:Nat}{T N:List (List Int)}{G:List Bool}{id8 id9 l9:Nat}{c9:Option Nat}{h:Heap}{id:Nat}{rr:List Code}{Q:Out->St->Prop}(hat:at_<2 ^ 20)
  (s:MkI n0 le.length cl T N G id8 id9 l9 c9 h) (hT:TOk most T) (hN:N.length=at_+1) (hG:G.length=at_+1) (h1:at_+1<=T.length+1) (hm:mm+(at_+1)=most+1) (hp:Jt a most le (most+1) 0 [] [] []=Jt a most le mm (at_+1) T N G):
  TriL Tryd.Y ((post (flat (Zx (post (flat (Za Tryz.f38)))))).drop 1) ⟨mk 108 ([1,2,4,7,8,9,10].zip [I most, .lb (auC a), .lb zDfa,lst encU le, .p (some (id8,0)), .sl (some (id9,0)) l9 c9 1,I at_]),[],h⟩
   (VQ [1,2,4,5,7,8,9,10] (XH Tryd.Y 108 [1,2,4,5,7,8,9,10] [1,2,4,7,8,9,10] (MkO a most cl le) (mm+1) id rr Q)):=by
 refine Zmf Tryd.Yok ZGw rfl ?_
 refine fun vs2 ht=>Zgs ht rfl rfl rfl mm (by omega) ⟨at_+1,n0,T,N,G,id8,id9,l9,c9,by rw[Zh (by omega)];rfl,s,hT,hN,hG,h1,hm,hp⟩

theorem Zxu(hs:ZO UY.P 75)(hcm:ZC UY.P 76){a:Au}(ha:OkA a)(most:Nat)(hm1:1<=most)(hm:most<=300):PCon UY 38 [.agg (auC a),I most] (· =Zo5 a most):=by
 refine PCon.dz ?_
 refine ZE Tryd.Yok (fn:=Tryz.f38) rfl ?_
 refine Zl Tryd.Yok 108 ZGr rfl ?_
 have hmay:=may7 a ha.small
 rw[ha.may]at hmay
 have hso:=Zo4 a ha.nsets
 unfold Zeh at hso
 have hl1:=Wf a.sets 256
 have hl2:=Zs4 a.sets 256
 have hl3:=Zjs a.sets 256 (by decide)
 unfold Zo5
 revert hso hl1 hl2 hl3
 generalize srtS a.sets 256=p
 obtain⟨cl,le⟩:=p
 intro hso hl1 hl2 hl3
 simp only[]at hso hl1 hl2 hl3
 have hclc:clsC cl=clsI cl:=by unfold clsC;rw[hl1.1];simp
 rw[hclc]at hso
 refine⟨true,PCon.zd hmay,ifF rfl ⟨clsI cl,_,_,_,PCon.zd hso,ifT ?_ ?_⟩⟩
 ·rw[allI];simp[clsI,hl1.1]
 have emin:((fun(x y:Int)=>if y<x then y else x) ((fun(x y:Int)=>if y>x then y else x) (most:Int) (1:Int)) (300:Int))=(most:Int):=by
  simp only[]
  rw[show(if(1:Int)>(most:Int)then(1:Int)else(most:Int))=(most:Int) by split<;>omega]
  split<;>omega
 rw[emin]
 refine ZA7 hl1.1 (w:=le.length) ⟨hl3,hl1.2⟩ (Tryd.Y.tag 95) (Tryd.Y.tag 98) (K:=fun _ _ id8 h9=>PreV Tryd.Y 108 [1,2,4,5,7,8,9,10] (post (flat (Za Tryz.f38))) (FinS Tryd.Y Tryz.f38 fun v h=> ∃r,Frz h v r∧r=Zjw a most cl le) .normal 108
  [I most, .lb (auC a), .lb zDfa,I 0,lst encU le, .p (some (id8,0)), .sl (some (h9.nx,0)) 1 (some 1) 1,I 0] (h9.push (.arr [nilC] true))) fun id8 h9 hI=> ?_
 refine⟨rfl,ZL [1,2,4,7,8,9,10] [1,2,4,5,7,8,9,10] (MkO a most cl le) (most+1) Zy ⟨0,_,[],[],[],id8,_,_,_,rfl,hI,⟨by simp;omega,by simp⟩,rfl,rfl,by simp,by omega,rfl⟩ ?_⟩
 rintro m vs h ⟨at_,n0,T,N,G,id8,id9,l9,c9,rfl,hI,hT,hN,hG,hat,hm2,hp⟩
 have hTl:=hT.len
 have hl9:l9=T.length+1:=by have:=hI.li.len;simpa using this
 refine Zl Tryd.Yok 108 ZGs rfl ?_
 refine Zm (fun hlt=>⟨rfl,Wj (n:=108) [1,2,4,5,7,8,9,10] (by kernel_rfl) ?_⟩) (fun hge=> ?_)
 ·refine Zl Tryd.Yok 108 ZGt rfl ?_
  obtain⟨mm,rfl⟩: ∃mm,m=mm+1:=⟨m-1,by omega⟩
  refine⟨rfl,ZL [1,2,4,7,8,9,10,11,37,38,39] [1,2,4,5,7,8,9,10,11,37,38,39] (MkN a most cl le at_ h.nx T N G id8) le.length Zy ⟨0,T,[],id9,l9,c9,none,0,some 0,0,rfl,hI.more,LN.nil _ _ _,(fun j e=>by cases e),rfl,qx _,hT,by omega,by omega,rfl⟩ ?_⟩
  rintro m1 vs1 h1 ⟨i,T1,r,id9',l9',c9',a11,l11,c11,k11,rfl,hI1,hr,har,hrl,hi,hT1,hat1,rfl,hrow⟩
  have hl9':l9'=T1.length+1:=by have:=hI1.li.len;simpa using this
  refine Zs Tryd.Yok ZGu rfl ?_
  refine Zm (fun hlt1=> ?_) (fun hge1=> ?_)
  ·have hc:le[i]<256:=hl2 _ (qe hlt1)
   have hdrop:le.drop i=le[i]::le.drop (i+1):=List.drop_eq_getElem_cons hlt1
   have hg1: ∀(t:Option TypeId),(h1.pushT t (.arr [nilC] true)).get h1.nx=some (.arr [nilC] true):=fun t=>by rw[qj,if_pos rfl]
   refine⟨Zz hlt1,_,getU le hlt1,_,_,_,PCon.zd (ZAy ha _ hc),_,Xl (hg1 _) (by simp),?_⟩
   have body: ∀h2:Heap,h2.get h1.nx=some (.arr [lst encI (stD a at_ T1 le[i])] true)->h1.nx<=h2.nx->(∀j,j<h1.nx->h2.get j=h1.get j)->MkI h.nx le.length cl T1 N G id8 id9' l9' c9' h2∧LN h2 a11 l11 c11 k11 (ZV r):=fun h2 g1 g2 g3=>
    ⟨hI1.row (FrK.of g2 g3),hr.keep (FrK.of (q:=9) (n:=0) g2 g3) (.inl (by
     by_cases e:r= []
     ·subst e;decide
     ·rw[WK e (by have:=hl1.2;omega)];decide))⟩
   have hlp:Jt a most le (mm+1) at_ T N G=match rowD a most at_ (le.drop i) T1 r with
     |none=>none
     |some (T',r)=>Jt a most le mm (at_+1) T' (N++ [r]) (G++ [Zll a at_ T']):=by
    rw[Jt,if_pos (by omega),hrow]
    cases rowD a most at_ (le.drop i) T1 r<;>rfl
   rw[hlp,hdrop,rowD]at hp
   have hsl:=Zs6 ha at_ T1 le[i]
   have last:=fun(h2:Heap) (g1:h2.get h1.nx=some (.arr [lst encI (stD a at_ T1 le[i])] true)) (g2:h1.nx<=h2.nx) (g3: ∀j,j<h1.nx->h2.get j=h1.get j)=>
    ZGy (K:=XH Tryd.Y 108 [1,2,4,5,7,8,9,10,11,37,38,39] [1,2,4,7,8,9,10,11,37,38,39] (MkN a most cl le at_ h.nx T N G id8) (le.length-i) (Xa (post (flat (Xj (post (flat (Zx (post (flat (Za Tryz.f38)))))))))) ((post (flat (Xj (post (flat (Zx (post (flat (Za Tryz.f38))))))))).drop 1)
      (VQ [1,2,4,5,7,8,9,10] (Zgq Tryd.Y 108 [1,2,4,5,7,8,9,10] (Wy (post (flat (Zx (post (flat (Za Tryz.f38))))))) ((post (flat (Zx (post (flat (Za Tryz.f38)))))).drop 1) (VQ [1,2,4,5,7,8,9,10] (XH Tryd.Y 108 [1,2,4,5,7,8,9,10] [1,2,4,7,8,9,10] (MkO a most cl le) (mm+1) (Xa (post (flat (Za Tryz.f38)))) ((post (flat (Za Tryz.f38))).drop 1) (FinS Tryd.Y Tryz.f38 fun v h=> ∃r,Frz h v r∧r=Zjw a most cl le))))))
     (A:= .lb (auC a)) (L7:=lst encU le) (N7:= I (le.length:Nat)) (at_:=at_) (i:=i) (most:=most) (l:=stD a at_ T1 le[i]) (id14:=h1.nx) (body h2 g1 g2 g3).1 g1 hI1.n0 hT1 hm (body h2 g1 g2 g3).2 (by have:=hl1.2;omega) har
     (fun h' hf hle=>by
      rw[hf]at hp
      simp only[]at hp
      rw[if_pos hle]at hp
      refine Qe rfl (Qe rfl (Xv (v:= .tup [.agg zDfa,I 9]) (.inr rfl) (Zxs zDfa XM 9 rfl rfl) ⟨_, .tup _ _ (.cons _ _ _ _ (.agg _ _ (Zv3 _)) (.cons _ _ _ _ (.i _ _) .nil)),?_⟩))
      unfold Zjw;rw[hp])
     (fun id9n l9n c9n a' l' c' k' h' hf hle sI sr sa=>by
      have hrow2:rowD a most at_ (le.drop i) T1 r=rowD a most at_ (le.drop (i+1)) (T1++ [stD a at_ T1 le[i]]) (r++ [((T1.length+1:Nat):Int)]):=by
       rw[hdrop,rowD,hf];simp only[];rw[if_neg hle]
      refine⟨rfl,le.length-(i+1),by omega,i+1,T1++ [stD a at_ T1 le[i]],r++ [((T1.length+1:Nat):Int)],id9n,l9n,c9n,a',l',c',k',by rw[Zh (by have:=hl1.2;omega)];rfl,sI,sr,sa,by simp[hrl],by omega,⟨by simp;omega,fun x hx=> ?_⟩,by simp;omega,rfl,by rw[hrow,hrow2]⟩
      rcases qA.1 hx with hx|hx
      ·exact hT1.el x hx
      ·simp at hx;subst hx;exact hsl)
     (fun j a' l' c' k' h' hf sI sr sa=>by
      have hrow2:rowD a most at_ (le.drop i) T1 r=rowD a most at_ (le.drop (i+1)) T1 (r++ [((j+1:Nat):Int)]):=by
       rw[hdrop,rowD,hf]
      exact⟨rfl,le.length-(i+1),by omega,i+1,T1,r++ [((j+1:Nat):Int)],id9',l9',c9',a',l',c',k',by rw[Zh (by have:=hl1.2;omega)];rfl,sI,sr,sa,by simp[hrl],by omega,hT1,hat1,rfl,by rw[hrow,hrow2]⟩)
   refine Zm (a:=0) (fun h0=> ?_) (fun h0=> ?_)
   ·have hst:stD a at_ T1 le[i]=Zep a (T1.getD (at_-1) []) le[i]:=by unfold stD;rw[if_pos h0]
    obtain⟨jj,e,_,hj9,hg9,_⟩:=hI1.li.cells (by simp)
    cases e
    rw[Zjt]at hg9
    have hel:(T1.getD (at_-1) []).length<=300:=by
     rw[qw,qo (by omega)]
     exact hT1.el _ (qe _)
    have hcell: ∀h2:Heap,h2.get id9'=h1.get id9'->Zb h2 id9' (0+(at_:Int).toNat*1) 1=some [lst encI (T1.getD (at_-1) [])]:=fun h2 e=>by
     rw[Zr (by rw[e];exact hg9),qdq]
     obtain⟨k,rfl⟩: ∃k,at_=k+1:=⟨at_-1,by omega⟩
     have hk:k<T1.length:=by omega
     rw[show 0+(k+1)*1=k+1 by omega,List.drop_succ_cons,List.drop_eq_getElem_cons (by simpa using hk)]
     simp[Zo,hk]
    refine⟨⟨by omega,by omega⟩,rfl,_,_,_,hcell _ (by rw[qc,if_neg (by omega),qj,if_neg (by omega)]),_,_,_,PCon.zd (ZGg hs hcm ha (T1.getD (at_-1) []) le[i] hc (by omega)),_,Xl (by rw[qc,if_pos rfl]) (by simp[splice]),?_⟩
    rw[hst]at last
    exact last _ (by rw[qc,if_pos rfl];rfl) (by simp) (fun j hj=>by rw[qc,if_neg (by omega),qc,if_neg (by omega),qj,if_neg (by omega)])
   ·have hst:stD a at_ T1 le[i]=havL a.sets a.first le[i]:=by unfold stD;rw[if_neg (by omega)]
    rw[hst]at last
    exact last _ (by rw[qc,if_pos rfl];rfl) (by simp) (fun j hj=>by rw[qc,if_neg (by omega),qj,if_neg (by omega)])
  ·have he:i=le.length:=by omega
   subst he
   have hrow1:rowD a most at_ le T []=some (T1,r):=by rw[hrow,List.drop_length,rowD]
   have hlp:Jt a most le (mm+1) at_ T N G=Jt a most le mm (at_+1) T1 (N++ [r]) (G++ [Zll a at_ T1]):=by
    rw[Jt,if_pos (by omega),hrow1]
   rw[hlp]at hp
   have hT1l:=hT1.len
   refine Zi [1,2,4,7,8,9,10,11] ?_
   refine Zmf Tryd.Yok ZGv rfl ?_
   obtain⟨a1,l1,c1,k1,p1,a2,l2,c2,k2,h2,p2,h3,p3,s3⟩:=ZL3 hI1 hr hrl (by omega)
   obtain⟨a4,l4,c4,k4,p4,s4⟩:=ZG0 s3 (by omega)
   have fin:=fun(b:Bool) (h':Heap) (eb:b=Zll a at_ T1) (sI:MkI h'.nx le.length cl T1 (N++ [r]) (G++ [b]) id8 id9' l9' c9' h')=>
    ZG1 (at_:=at_) (mm:=mm) (id:=Xa (post (flat (Za Tryz.f38)))) (rr:=(post (flat (Za Tryz.f38))).drop 1) (Q:=FinS Tryd.Y Tryz.f38 fun v h=> ∃r,Frz h v r∧r=Zjw a most cl le) (by omega) sI hT1 (by simp[hN]) (by simp[hG]) (by omega) (by omega) (by rw[hp,eb])
   refine⟨a1,l1,c1,k1,p1,a2,l2,c2,k2,h2,p2,h3,p3,a4,l4,c4,k4,p4,?_⟩
   have cell: ∀k,at_=k+1->Zb h3 id9' (0+(at_:Int).toNat*1) 1=some [lst encI (T1.getD (at_-1) [])]:=fun k e=>by
    obtain⟨jj,e9,_,hj9,hg9,_⟩:=s3.li.cells (by simp)
    cases e9
    rw[Zjt]at hg9
    rw[Zr hg9,qdq]
    subst e
    have hk:k<T1.length:=by omega
    rw[show 0+(k+1)*1=k+1 by omega,List.drop_succ_cons,List.drop_eq_getElem_cons (by simpa using hk)]
    simp[Zo,hk]
   have hel:(T1.getD (at_-1) []).length<=300:=by
    by_cases hk:at_-1<T1.length
    ·rw[qw,qo hk]
     exact hT1.el _ (qe _)
    ·simp[qw,qq (Nat.le_of_not_lt hk)]
   have he88:=PCon.zd (ZGh ha (T1.getD (at_-1) []) (by omega))
   rcases Nat.eq_zero_or_pos at_ with h0|h0
   ·subst h0
    refine ifT rfl ?_
    have hgd:Zll a 0 T1=a.empty:=rfl
    refine Zg (fun hem=> ?_) (fun hem=>ifF rfl ?_)
    ·obtain⟨a5,l5,c5,k5,h5,p5,h6,p6,p7⟩:=s4 true
     exact⟨a5,l5,c5,k5,h5,p5,h6,p6,fun vs2 ht=>Zdk (sl':= [1,2,4,7,8,9,10]) ht rfl rfl rfl (fin true h6 (by rw[hgd,hem]) p7)⟩
    ·obtain⟨a5,l5,c5,k5,h5,p5,h6,p6,p7⟩:=s4 false
     exact⟨a5,l5,c5,k5,h5,p5,h6,p6,fun vs2 ht=>Zdk (sl':= [1,2,4,7,8,9,10]) ht rfl rfl rfl (fin false h6 (by rw[hgd,hem]) p7)⟩
   ·refine ifF (by simp;omega) ?_
    have hgd:Zll a at_ T1=Zdp a (T1.getD (at_-1) []):=by unfold Zll;rw[if_neg (by omega)]
    refine Zm (a:=0) (fun _=> ?_) (fun h=>by omega)
    obtain⟨a5,l5,c5,k5,h5,p5,h6,p6,p7⟩:=s4 (Zdp a (T1.getD (at_-1) []))
    exact⟨⟨by omega,by omega⟩,rfl,_,_,_,cell (at_-1) (by omega),_,he88,a5,l5,c5,k5,h5,p5,h6,p6,fun vs2 ht=>Zdk (sl':= [1,2,4,7,8,9,10]) ht rfl rfl rfl (fin _ h6 hgd.symm p7)⟩
 ·refine ZCb fun vs2 ht=>Ziq [4,8] ht rfl rfl rfl rfl ?_
  refine Zn Tryd.Yok ZGx rfl ?_
  obtain⟨cs,g1,g2,g3,g4⟩:=hI.frz
  refine⟨cs,(by rw[Zr g3,ql];exact ZA g1.symm),ifT ?_ ?_⟩
  ·rw[g2,XM];simp[g1]
  ·have e:splice zDfa 0 cs=cs:=by rw[Qq,Zjy _ g1,qi]
   rw[e]
   refine⟨.inr rfl,_,Zxs cs g1 0 rfl rfl,_, .tup _ _ (.cons _ _ _ _ (.agg _ _ g4) (.cons _ _ _ _ (.i _ _) .nil)),?_⟩
   obtain⟨mm,rfl⟩: ∃mm,m=mm+1:=⟨m-1,by omega⟩
   have hlast:Jt a most le (mm+1) at_ T N G=some (N,G):=by rw[Jt,if_neg (by omega)]
   rw[hlast]at hp
   unfold Zjw;rw[hp]
end Go.Y
namespace Go.Y
set_option maxRecDepth 1000000
set_option maxHeartbeats 0
structure DOk(cl:List Nat)(N:List (List Int))(G:List Bool)(w:Nat):Prop where
 c256:cl.length=256
 clt: ∀k∈cl,k<w
 cmx:w-1∈cl
 w1:0<w
 w2:w<=256
 n1:0<N.length
 n2:N.length<=300
 ng:G.length=N.length
 rl: ∀r∈N,r.length=w
 rx: ∀r∈N,∀x∈r,0<=x∧x<(N.length:Nat)

theorem Znn(sets:List Set4): ∀c,(∀k∈(srtS sets c).1,k<(srtS sets c).2.length)∧(∀j,j<(srtS sets c).2.length->j∈(srtS sets c).1)
 |0=>⟨fun k h=>(by cases h),fun j h=>(by simp[srtS]at h)⟩
 |c+1=>by
  obtain⟨h1,h2⟩:=Znn sets c
  rw[srtS]
  cases hf:(srtS sets c).2.findIdx? fun d=>keyN sets c==keyN sets d with
  |some k=>
   have hk:k<(srtS sets c).2.length:=by
    rw[List.findIdx?_eq_some_iff_findIdx_eq]at hf;exact hf.1
   refine⟨fun x hx=> ?_,fun j hj=> ?_⟩
   ·rcases qA.1 hx with hx|hx
    ·exact h1 x hx
    ·simp at hx;subst hx;exact hk
   ·exact List.mem_append_left _ (h2 j hj)
  |none=>
   refine⟨fun x hx=> ?_,fun j hj=> ?_⟩
   ·simp only[qf,qh,qp]
    rcases qA.1 hx with hx|hx
    ·have:=h1 x hx;omega
    ·simp at hx;omega
   ·simp only[qf,qh,qp]at hj
    by_cases e:j=(srtS sets c).2.length
    ·subst e;simp
    ·exact List.mem_append_left _ (h2 j (by omega))

theorem Zv4{T:List (List Int)}{l:List Int}{i:Nat}(h:Za5 T l=some i):i<T.length:=by
 unfold Za5 at h
 rw[List.findIdx?_eq_some_iff_findIdx_eq]at h;exact h.1
theorem Zln{a:Au}{most at_:Nat} : ∀ {cs:List Nat} {T:List (List Int)} {r:List Int} {T':List (List Int)} {r':List Int},rowD a most at_ cs T r=some (T',r')->
  (∀x∈r,0<=x∧x<=(T.length:Nat))->T.length<=T'.length∧ ∀x∈r',0<=x∧x<=(T'.length:Nat)
 | [],T,r,T',r',h,hr=>by rw[rowD]at h;cases h;exact⟨qnq _,hr⟩
 |c::cs,T,r,T',r',h,hr=>by
  rw[rowD]at h
  split at h
  ·rename_i i hf
   have:=Zv4 hf
   exact Zln h fun x hx=>by
    rcases qA.1 hx with hx|hx
    ·exact hr x hx
    ·simp at hx;subst hx;omega
  ·split at h
   ·cases h
   ·obtain⟨h1,h2⟩:=Zln h fun x hx=>by
     rcases qA.1 hx with hx|hx
     ·have:=hr x hx;simp only[qf,qh,qp];omega
     ·simp at hx;subst hx;simp only[qf,qh,qp];omega
    exact⟨by simp at h1;omega,h2⟩
theorem Zno{a:Au}(ha:OkA a){most w:Nat}{le:List Nat}(hw:le.length=w): ∀(f at_:Nat) {T N:List (List Int)} {G:List Bool} {N':List (List Int)} {G':List Bool},Jt a most le f at_ T N G=some (N',G')->
  f+at_=most+1->TOk most T->N.length=at_->G.length=at_->at_<=T.length+1->(∀r∈N,r.length=w∧ ∀x∈r,0<=x∧x<=(T.length:Nat))->
  G'.length=N'.length∧0<N'.length∧N'.length<=most∧ ∀r∈N',r.length=w∧ ∀x∈r,0<=x∧x<(N'.length:Nat)
 |0,at_,T,N,G,N',G',h,hf,hT,hN,hG,hat,hr=>by
  have:=hT.len;omega
 |f+1,at_,T,N,G,N',G',h,hf,hT,hN,hG,hat,hr=>by
  rw[Jt]at h
  split at h
  ·split at h
   ·cases h
   ·rename_i hlt T1 r hrow
    obtain⟨g1,g2,g3,_⟩:=Zlm ha hT hrow
    obtain⟨g4,g5⟩:=Zln hrow (fun x hx=>by cases hx)
    refine Zno ha hw f (at_+1) h (by omega) g1 (by simp[hN]) (by simp[hG]) (by omega) fun y hy=> ?_
    rcases qA.1 hy with hy|hy
    ·exact⟨(hr y hy).1,fun x hx=>by have:=(hr y hy).2 x hx;omega⟩
    ·simp at hy;subst hy
     exact⟨by rw[g2];simp[hw],g5⟩
  ·rename_i hge
   cases h
   have hTl:=hT.len
   have e:at_=T.length+1:=by omega
   refine⟨by omega,by omega,by omega,fun y hy=>⟨(hr y hy).1,fun x hx=> ?_⟩⟩
   have:=(hr y hy).2 x hx;omega
theorem ZA8{a:Au}(ha:OkA a){most:Nat}(h1:1<=most)(hm:most<=300){N:List (List Int)}{G:List Bool}(h:Jt a most (srtS a.sets 256).2 (most+1) 0 [] [] []=some (N,G)):
  DOk (srtS a.sets 256).1 N G (srtS a.sets 256).2.length:=by
 have c1:=Znn a.sets 256
 have c2:=Wf a.sets 256
 have c3:=Zjs a.sets 256 (by decide)
 obtain⟨g1,g2,g3,g4⟩:=Zno ha rfl (most+1) 0 h rfl ⟨by simp;omega,by simp⟩ rfl rfl (by simp) (by simp)
 exact⟨c2.1,c1.1,c1.2 _ (by omega),c3,c2.2,g2,by omega,g1,fun r hr=>(g4 r hr).1,fun r hr=>(g4 r hr).2⟩

/-! ### first -/
def nxt(cl:List Nat)(N:List (List Int))(x c:Nat):Nat:=((N.getD x []).getD (cl.getD c 0) 0).toNat
theorem DOk.row{cl:List Nat}{N:List (List Int)}{G:List Bool}{w:Nat}(d:DOk cl N G w){x c:Nat}(hx:x<N.length)(hc:c<256):
  ∃(k:Nat) (r:List Int) (hk:k<r.length),cl[c]? =some k∧N[x]? =some r∧r[k]=((nxt cl N x c:Nat):Int)∧nxt cl N x c<N.length:=by
 have hcl:c<cl.length:=by rw[d.c256];exact hc
 have hk:=d.clt cl[c] (qe hcl)
 have hr:=d.rl N[x] (qe hx)
 have hx2:=d.rx N[x] (qe hx) (N[x][cl[c]]'(by omega)) (qe _)
 have e:nxt cl N x c=(N[x][cl[c]]'(by omega)).toNat:=by
  unfold nxt
  simp only[qw,qo hx,qo hcl,Option.getD_some]
  rw[qo (by omega)];rfl
 exact⟨cl[c],N[x],by omega,qo hcl,qo hx,by rw[e];omega,by rw[e];omega⟩

structure Dn where
 cl:List Nat
 N:List (List Int)
 G:List Bool
def Zo6(d e:Dn)(p:Nat×Nat)(c:Nat):Nat×Nat:=(nxt d.cl d.N p.1 c,nxt e.cl e.N p.2 c)
def addQ(L:List (Nat×Nat))(q:Nat×Nat):List (Nat×Nat):=if q∈L then L else L++ [q]
def rowQ(d e:Dn)(p:Nat×Nat):Nat->List (Nat×Nat)->List (Nat×Nat)
 |0,L=>L
 |n+1,L=>addQ (rowQ d e p n L) (Zo6 d e p n)
def soQ(d e:Dn)(p:Nat×Nat):Bool:=d.G.getD p.1 false&& !e.G.getD p.2 false
def Ztc(d e:Dn):Nat->Nat->List (Nat×Nat)->Bool
 |0,_,_=>false
 |f+1,at_,L=>if at_<L.length then if soQ d e (L.getD at_ (0,0))then true else Ztc d e f (at_+1) (rowQ d e (L.getD at_ (0,0)) 256 L)else false
def Vp(d e:Dn):Bool:=Ztc d e (d.N.length*e.N.length+1) 0 [(0,0)]

structure LOk(d e:Dn)(L:List (Nat×Nat)):Prop where
 nd:L.Nodup
 lt: ∀p∈L,p.1<d.N.length∧p.2<e.N.length
theorem LOk.len{d e:Dn}{L:List (Nat×Nat)}(o:LOk d e L):L.length<=d.N.length*e.N.length:=by
 have inj: ∀p∈L,∀q∈L,p.1*e.N.length+p.2=q.1*e.N.length+q.2->p=q:=by
  intro p hp q hq h
  have h1:=o.lt p hp
  have h2:=o.lt q hq
  have e1:p.1=q.1:=by
   have a1:(p.1*e.N.length+p.2) / e.N.length=p.1:=by
    rw[Nat.mul_comm,Nat.mul_add_div (by omega),Nat.div_eq_of_lt h1.2];omega
   have a2:(q.1*e.N.length+q.2) / e.N.length=q.1:=by
    rw[Nat.mul_comm,Nat.mul_add_div (by omega),Nat.div_eq_of_lt h2.2];omega
   rw[<-a1,<-a2,h]
  rw[e1]at h
  exact Prod.ext e1 (by omega)
 have hn:(L.map fun p=>p.1*e.N.length+p.2).Nodup:=by
  rw[List.Nodup,List.pairwise_map]
  exact o.nd.imp_of_mem fun ha hb hne h=>hne (inj _ ha _ hb h)
 have:=List.Nodup.length_le_of_subset hn (l₂:=List.range (d.N.length*e.N.length)) fun x hx=>by
  obtain⟨p,hp,rfl⟩:=List.mem_map.1 hx
  have h1:=o.lt p hp
  rw[List.mem_range]
  calc p.1*e.N.length+p.2<p.1*e.N.length+e.N.length:=by omega
   _=(p.1+1)*e.N.length:=by rw[Nat.succ_mul]
   _<=d.N.length*e.N.length:=Nat.mul_le_mul_right _ (by omega)
 simpa using this
theorem LOk.add{d e:Dn}{L:List (Nat×Nat)}(o:LOk d e L){q:Nat×Nat}(hq:q.1<d.N.length∧q.2<e.N.length):LOk d e (addQ L q):=by
 unfold addQ
 split
 ·exact o
 ·rename_i hn
  refine⟨?_,fun p hp=> ?_⟩
  ·rw[List.nodup_append]
   exact⟨o.nd,by simp,fun a ha b hb e=>hn (by simp at hb;subst hb;rwa [e]at ha)⟩
  ·rcases qA.1 hp with hp|hp
   ·exact o.lt p hp
   ·simp at hp;subst hp;exact hq
theorem DOk.step{d e:Dn}{w1 w2:Nat}(hd:DOk d.cl d.N d.G w1)(he:DOk e.cl e.N e.G w2){p:Nat×Nat}(hp:p.1<d.N.length∧p.2<e.N.length){c:Nat}(hc:c<256):
  (Zo6 d e p c).1<d.N.length∧(Zo6 d e p c).2<e.N.length:=by
 obtain⟨_,_,_,_,_,_,h1⟩:=hd.row hp.1 hc
 obtain⟨_,_,_,_,_,_,h2⟩:=he.row hp.2 hc
 exact⟨h1,h2⟩
theorem LOk.zero{d e:Dn}{w1 w2:Nat}(hd:DOk d.cl d.N d.G w1)(he:DOk e.cl e.N e.G w2):LOk d e [(0,0)]:=
 ⟨by simp,fun p hp=>by simp at hp;subst hp;exact⟨hd.n1,he.n1⟩⟩
end Go.Y
namespace Go.Y
open Go.Proofs
set_option maxRecDepth 1000000
set_option maxHeartbeats 0
def Trye.locs:List (List Nat):=(((Tryz.locs.set 127 []).set 89 [12,14,27]).set 39 []).set 13 [3,4,12,13,16,17,20,46,63]
def Trye.modes:List Nat:=((Tryz.modes.set 39 0).set 127 7).set 166 0
noncomputable def Trye.Y:YP:=⟨Go.Proofs.Tryz.prog,Tryz.tys,Trye.locs,Trye.modes,[182,5],[(185,1),(197,2)],[26,27,28,32,33,96]⟩
theorem Trye.Yok:YOK Trye.Y:=Zc3 (by kernel_rfl) Tryz.extok
theorem PCon.ez{f:FuncId}{args:List V}{Q:V->Prop}(c:PCon Trye.Y f args Q):PCon UY f args Q:=⟨c.body,c.tr⟩
theorem PCon.ze{f:FuncId}{args:List V}{Q:V->Prop}(c:PCon UY f args Q):PCon Trye.Y f args Q:=⟨c.body,c.tr⟩
theorem ZG2{a n0 c d h}(K):CP Trye.Y 65 (flat (Za Tryz.f65)) (J a n0 none::V.fn (.func 165) [] [.p (some (c,0)),.p (some (d,0))]::Rp 7) h [4] K=(Con Trye.Y 85 [J a n0 none,V.fn (Fn.func 165) [] [.p (some (c,0)),.p (some (d,0))]] h fun(v:V) (h':Heap)=> ∃e,v=I e∧K .ret 9 [.b (leI 0 e)] h'):=by kernel_rfl
theorem ZG3{a n0 b c h}(K):CP Trye.Y 85 (pre (flat (Za Tryz.f85))) (J a n0 none::V.fn (.func 165) [] [.p (some (b,0)),.p (some (c,0))]::Rp 17) h [0,1,7,8] K=(K .normal 19 [J a n0 none, .fn (Fn.func 165) [] [.p (some (b,0)), .p (some (c,0))],I (n0:Int),I 0] h):=by kernel_rfl
theorem ZG4{a n0 d e x8 h}(K):CP Trye.Y 85 (flat (Zx (post (flat (Za Tryz.f85))))) (MZ 19 [0,1,7,8] [J a n0 none,V.fn (Fn.func 165) [] [.p (some (d,0)),.p (some (e,0))],I (n0:Int),I x8]) h [0,1,4,7,8] K=(If (ltI x8 n0) ((0<=x8∧x8<n0)∧ ∃b c f,Zo 1 (List.drop (x8.toNat*1) a)=some [J b c f]∧ ∃g,RCon Trye.Y 165 [J b c f,.p (some (d,0)),.p (some (e,0))] h (.b g)∧If g (K .ret 19 [J a n0 none, .fn (Fn.func 165) [] [.p (some (d,0)), .p (some (e,0))],I x8,I (n0:Int),I x8] h) (K .normal 19 [J a n0 none, .fn (Fn.func 165) [] [.p (some (d,0)), .p (some (e,0))],Ud,I (n0:Int),I (IntKind.i64.wrap (x8+(1:Int)))] h)) (K (.exit 0) 19 [J a n0 none, .fn (Fn.func 165) [] [.p (some (d,0)), .p (some (e,0))],Ud,I (n0:Int),I x8] h)):=by kernel_rfl
theorem ZG5{h}(K):CP Trye.Y 85 ((post (flat (Za Tryz.f85))).drop 1) (MZ 19 [] []) h [4] K=(K .ret 19 [I (-1)] h):=by kernel_rfl
theorem ZA9{a n0 c d h}(K):CP Trye.Y 165 (flat (Za Tryz.f165)) (J a n0 none::.p (some (c,0))::.p (some (d,0))::Rp 17) h [4] K=(∃e,Zb h c 0 1=some [I e]∧If ((↑n0:Int) !=e) (K .ret 20 [.b true] h) (∃f,(PCon Trye.Y 164 [J a n0 none] fun v=>v=I f)∧If (ltI f 0) (K .ret 20 [.b true] h) (∃g,(PCon Trye.Y 163 [J a n0 none] fun v=>v=I g)∧ ∃i,Zb h d 0 1=some [I i]∧K .ret 20 [.b (leI i g)] h))):=by kernel_rfl
theorem ZBa{cs h}(K):CP Trye.Y 127 (flat (Za Tryz.f127)) (.agg cs::Rp 39) h [2] K=(If (decide (cs.length=(258:Nat))&&Zk cs) (∃a b c,Zb (h.push (YObj.arr cs true)) h.nx 256 1=some [J a b c]∧ ∃d,Zj ((h.push (YObj.arr cs true)).pushT (Trye.Y.tag (3:Nat)) (YObj.arr [I 0] true)) (h.nx+(1:Nat)) 0 [I (b:Int)]=some d∧((1=0->False)∧ ∃e f,d.get h.nx=some (YObj.arr e f)∧256<=e.length)∧ ∃e,FCon Trye.Y (163:Nat) [S (some (h.nx,0)) 256 (some 256) 1] d (I e)∧ ∃f,Zj (d.pushT (Trye.Y.tag (3:Nat)) (YObj.arr [I 0] true)) d.nx 0 [I (IntKind.i64.wrap (e+(1:Int)))]=some f∧((1=0->False)∧ ∃g i,f.get h.nx=some (YObj.arr g i)∧256<=g.length)∧ ∃g,FCon Trye.Y (164:Nat) [S (some (h.nx,0)) 256 (some 256) 1] f (I g)∧If (ltI g 0) (K .ret 40 [.b false] f) (∃i,Zb f d.nx 0 1=some [I i]∧If (ltI 256 i) (K .ret 40 [.b false] f) (∃j,Zb f (h.nx+(1:Nat)) 0 1=some [I j]∧If (ltI j 1) (K .ret 40 [.b false] f) (∃l,Zb f (h.nx+(1:Nat)) 0 1=some [I l]∧If (ltI 300 l) (K .ret 40 [.b false] f) (∃m n o,Zb f h.nx 257 1=some [J m n o]∧ ∃q,Zb f (h.nx+(1:Nat)) 0 1=some [I q]∧If ((↑n:Int) !=q) (K .ret 40 [.b false] f) (∃r s t,Zb f h.nx 256 1=some [J r s t]∧Con Trye.Y 65 [J r s t,V.fn (Fn.func (165:Nat)) [] [.p (some (d.nx,0)),.p (some (h.nx+(1:Nat),0))]] f fun(v:V) (h':Heap)=> ∃u,v=.b u∧K .ret 40 [.b !u] h')))))) False):=by kernel_rfl
theorem Zfz: ∀(r:List Int) (a x:Int),(x=a∨x∈r)->x<=r.foldl (fun x y=>if y>x then y else x) a
 | [],a,x,h=>by
  rcases h with h|h
  ·rw[h];exact Int.le_refl _
  ·cases h
 |y::r,a,x,h=>by
  rw[List.foldl_cons]
  have ih:=Zfz r (if y>a then y else a)
  rcases h with h|h
  ·have:=ih _ (.inl rfl)
   subst h
   split at this<;>split<;>omega
  ·rcases qu.1 h with h|h
   ·have:=ih _ (.inl rfl)
    subst h
    split at this<;>split<;>omega
   ·exact ih x (.inr h)
theorem Zf0: ∀(r:List Int) (a b:Int),a<=b->(∀x∈r,x<=b)->r.foldl (fun x y=>if y>x then y else x) a<=b
 | [],a,b,h,_=>h
 |y::r,a,b,h,hr=>by
  rw[List.foldl_cons]
  refine Zf0 r _ b ?_ fun x hx=>hr x (.tail _ hx)
  have:=hr y (.head _)
  split<;>omega
theorem Zf1: ∀(r:List Int) (a b:Int),b<=a->(∀x∈r,b<=x)->b<=r.foldl (fun x y=>if y<x then y else x) a
 | [],a,b,h,_=>h
 |y::r,a,b,h,hr=>by
  rw[List.foldl_cons]
  refine Zf1 r _ b ?_ fun x hx=>hr x (.tail _ hx)
  have:=hr y (.head _)
  split<;>omega
theorem Ztd{l:List Int}{b:Int}(h0:l≠ [])(h: ∀x∈l,x<=b):maxZ l<=b:=by
 cases l with
 |nil=>exact absurd rfl h0
 |cons x r=>exact Zf0 r x b (h x (.head _)) fun y hy=>h y (.tail _ hy)
theorem ZBb{l:List Int}{x:Int}(h:x∈l):x<=maxZ l:=by
 cases l with
 |nil=>cases h
 |cons y r=>exact Zfz r y x (qu.1 h)
theorem Zte{l:List Int}{b:Int}(h0:l≠ [])(h: ∀x∈l,b<=x):b<=minZ l:=by
 cases l with
 |nil=>exact absurd rfl h0
 |cons x r=>exact Zf1 r x b (h x (.head _)) fun y hy=>h y (.tail _ hy)

theorem Znp: ∀l:List Nat,row encI (l.map fun(k:Nat)=>(k:Int))=clsI l
 | []=>rfl
 |k::l=>by
  have e:row encI ((k::l).map fun(k:Nat)=>(k:Int))=I (k:Nat)::row encI (l.map fun(k:Nat)=>(k:Int)):=rfl
  rw[e,Znp l];rfl

theorem ZBc(r:List Int)(w n:Nat)(h1:r.length=w)(hw:0<w∧w<=256)(hr: ∀x∈r,0<=x∧x<(n:Nat)){h:Heap}{id1 id2:Nat}(g1:h.get id1=some (.arr [I w] true))(g2:h.get id2=some (.arr [I n] true)):
  RCon Trye.Y 165 [lst encI r, .p (some (id1,0)), .p (some (id2,0))] h (.b false):=by
 have hne:r≠ []:=by intro e;subst e;simp at h1;omega
 have hc:Con Trye.Y 165 [lst encI r, .p (some (id1,0)), .p (some (id2,0))] h fun v h'=>v= .b false∧h'=h:=by
  refine Zu Trye.Yok (fn:=Tryz.f165) (Zn Trye.Yok ZA9 rfl ?_)
  refine⟨_,by rw[Zr g1];rfl,ifF (by rw[h1];simp) ⟨_,PCon.ze (Zxq r hne (by omega)),ifF ?_ ⟨_,PCon.ze (Zxp r hne (by omega)),_,(by rw[Zr g2];rfl),finC (.inr rfl) rfl (.now ⟨?_,rfl⟩)⟩⟩⟩
  ·have:=Zte hne fun x hx=>(hr x hx).1
   simp[ltI];omega
  ·have:=Ztd (b:=(n:Int)-1) hne fun x hx=>by have:=(hr x hx).2;omega
   simp only[leI]
   rw[decide_eq_false (by omega)];rfl
 exact⟨h,hc,fun _ _=>rfl,fun _ hp=>hp⟩

theorem Zv5(N:List (List Int))(w n:Nat)(hw:0<w∧w<=256)(hN: ∀r∈N,r.length=w∧ ∀x∈r,0<=x∧x<(n:Nat)){h:Heap}{id1 id2:Nat}(g1:h.get id1=some (.arr [I w] true))(g2:h.get id2=some (.arr [I n] true))(hl:N.length<=300):
  Con Trye.Y 85 [lst ZY N, .fn (.func 165) [] [.p (some (id1,0)), .p (some (id2,0))]] h fun v h'=>v= I (-1)∧h'=h:=by
 refine Zu Trye.Yok (fn:=Tryz.f85) ?_
 refine Zl Trye.Yok 19 ZG3 rfl ?_
 refine⟨rfl,ZL [0,1,7,8] [0,1,4,7,8] (fun m vs h'=> ∃i:Nat,vs= [lst ZY N, .fn (.func 165) [] [.p (some (id1,0)), .p (some (id2,0))],I N.length,I (i:Nat)]∧i<=N.length∧m=N.length-i∧h'=h) N.length Zy ⟨0,rfl,by omega,by omega,rfl⟩ ?_⟩
 rintro m vs h' ⟨i,rfl,hi,rfl,rfl⟩
 refine Zs Trye.Yok ZG4 rfl ?_
 refine Zm (fun hlt=> ?_) (fun hge=> ?_)
 ·have hx:=hN _ (qe hlt)
  refine⟨Zz hlt,_,_,_,getL N hlt,_,ZBc N[i] w n hx.1 hw hx.2 g1 g2,ifF rfl ?_⟩
  exact⟨rfl,N.length-(i+1),by omega,i+1,by rw[Zh (by omega)];rfl,by omega,rfl,rfl⟩
 ·refine Zi [] ?_
  refine Zn Trye.Yok ZG5 rfl ?_
  exact finC (.inr rfl) rfl (.now ⟨rfl,rfl⟩)
theorem Zlo(N:List (List Int))(w n:Nat)(hw:0<w∧w<=256)(hN: ∀r∈N,r.length=w∧ ∀x∈r,0<=x∧x<(n:Nat)){h:Heap}{id1 id2:Nat}(g1:h.get id1=some (.arr [I w] true))(g2:h.get id2=some (.arr [I n] true))(hl:N.length<=300):
  Con Trye.Y 65 [lst ZY N, .fn (.func 165) [] [.p (some (id1,0)), .p (some (id2,0))]] h fun v h'=>v= .b false∧h'=h:=by
 refine Zu Trye.Yok (fn:=Tryz.f65) (Zn Trye.Yok ZG2 rfl ?_)
 exact(Zv5 N w n hw hN g1 g2 hl).mono fun v h' ⟨e1,e2⟩=>⟨_,e1,finC (.inr rfl) rfl (.now ⟨rfl,e2⟩)⟩

theorem DOk.max{cl:List Nat}{N:List (List Int)}{G:List Bool}{w:Nat}(d:DOk cl N G w):maxZ (cl.map fun(k:Nat)=>(k:Int))=((w-1:Nat):Int):=by
 have hne:(cl.map fun(k:Nat)=>(k:Int))≠ []:=by
  intro e
  have:=congrArg List.length e
  rw[List.length_map,d.c256]at this;simp at this
 have h1:=Ztd (b:=((w-1:Nat):Int)) hne fun x hx=>by
  obtain⟨k,hk,rfl⟩:=List.mem_map.1 hx
  have:=d.clt k hk
  have:=d.w1
  omega
 have h2:=ZBb (l:=cl.map fun(k:Nat)=>(k:Int)) (List.mem_map.2 ⟨w-1,d.cmx,rfl⟩)
 omega
theorem DOk.min{cl:List Nat}{N:List (List Int)}{G:List Bool}{w:Nat}(d:DOk cl N G w):0<=minZ (cl.map fun(k:Nat)=>(k:Int)):=by
 refine Zte (fun e=> ?_) fun x hx=> ?_
 ·have:=congrArg List.length e
  rw[List.length_map,d.c256]at this;simp at this
 ·obtain⟨k,hk,rfl⟩:=List.mem_map.1 hx
  omega
theorem Qy(cl:List Nat)(N:List (List Int))(G:List Bool)(h:cl.length=256):(dfaC cl N G).length=258:=by simp[dfaC,clsI,h]
theorem VM(cl:List Nat)(N:List (List Int))(G:List Bool):Zk (dfaC cl N G)=true:=by
 unfold dfaC
 induction cl with
 |nil=>rfl
 |cons k r ih=>simp only[clsI,qz,qs,Zk,qrq];exact⟨rfl,ih⟩
theorem Wg(cl:List Nat)(N:List (List Int))(G:List Bool):ZQ (dfaC cl N G)=true:=by
 unfold dfaC
 induction cl with
 |nil=>rfl
 |cons k r ih=>simp only[clsI,qz,qs,ZQ,qrq];exact⟨rfl,ih⟩
theorem Ztf(cl:List Nat)(N:List (List Int))(G:List Bool):Xc [.agg (dfaC cl N G)]=true:=by
 show(ZQ (dfaC cl N G)&&true)=true
 rw[Wg];rfl
theorem Wh{h:Heap}{id:Nat}{cl:List Nat}{N:List (List Int)}{G:List Bool}(hg:h.get id=some (.arr (dfaC cl N G) true))(hl:cl.length=256):Zb h id 256 1=some [lst ZY N]∧Zb h id 257 1=some [lst Zs9 G]:=ZA6 hg hl
theorem Ztg{h:Heap}{id:Nat}{cl:List Nat}{N:List (List Int)}{G:List Bool}(hg:h.get id=some (.arr (dfaC cl N G) true)){c:Nat}(hc:c<cl.length)(o:Nat)(ho:o=c):Zb h id o 1=some [I (cl[c]:Nat)]:=by
 subst ho
 rw[Zr hg]
 unfold dfaC
 rw[List.drop_append_of_le_length (by simp[clsI];omega),List.drop_eq_getElem_cons (by simpa[clsI]using hc)]
 simp[Zo]
theorem Zth{h:Heap}{id:Nat}{cl:List Nat}{N:List (List Int)}{G:List Bool}(hg:h.get id=some (.arr (dfaC cl N G) true))(hl:cl.length=256):Frz h (.sl (some (id,0)) 256 (some 256) 1) (lst encI (cl.map fun(k:Nat)=>(k:Int))):=by
 have e:lst encI (cl.map fun(k:Nat)=>(k:Int))= .ts (clsI cl) 256 none:=by
  show V.ts _ _ _=_
  rw[Znp,List.length_map,hl]
 rw[e]
 refine .sl _ _ _ _ _ _ true (clsI cl) _ _ hg ?_ (fun x hx=>by cases hx) (by decide) (frzN h cl)
 rw[ql]
 unfold dfaC
 have e2:(clsI cl).length=256:=by simp[clsI,hl]
 rw[JW (by simp[e2]),List.take_left' e2]

theorem Zxv{cl:List Nat}{N:List (List Int)}{G:List Bool}{w:Nat}(d:DOk cl N G w):PCon Trye.Y 127 [.agg (dfaC cl N G)] (· = .b true):=by
 refine Zt Trye.Yok (fn:=Tryz.f127) (Ztf _ _ _) ZBa rfl ?_
 have htag:Trye.Y.tag 3=none:=by kernel_rfl
 rw[htag]
 have hne:(cl.map fun(k:Nat)=>(k:Int))≠ []:=by
  intro e
  have:=congrArg List.length e
  rw[List.length_map,d.c256]at this;simp at this
 have hmm:=d.max
 have hmn:=d.min
 have w1:=d.w1
 have w2:=d.w2
 have n1:=d.n1
 have n2:=d.n2
 have hlc:(cl.map fun(k:Nat)=>(k:Int)).length<2 ^ 20:=by rw[List.length_map,d.c256];decide
 generalize hcs:dfaC cl N G=cs
 have hlen:cs.length=258:=by rw[<-hcs];exact Qy _ _ _ d.c256
 have hall:Zk cs=true:=by rw[<-hcs];exact VM _ _ _
 refine ifT (by rw[hall];simp[hlen]) ?_
 have g0:(Heap.empty.push (.arr cs true)).get Heap.empty.nx=some (.arr (dfaC cl N G) true):=by rw[qk,if_pos rfl,hcs]
 refine⟨_,_,_,(Wh g0 d.c256).1,?_⟩
 obtain⟨h1,e1⟩: ∃h1,h1=((Heap.empty.push (.arr cs true)).pushT none (.arr [I 0] true)).set (Heap.empty.nx+1) (some (.arr [I (N.length:Nat)] true)):=⟨_,rfl⟩
 have s1:Zj ((Heap.empty.push (.arr cs true)).pushT none (.arr [I 0] true)) (Heap.empty.nx+1) 0 [I (N.length:Nat)]=some h1:=by
  rw[e1]
  exact Xl (cs:= [I 0]) (by rw[qj,if_pos (by simp)]) (by simp)
 have g1:h1.get Heap.empty.nx=some (.arr (dfaC cl N G) true):=by
  rw[e1,qc,if_neg (by omega),qj,if_neg (by simp)];exact g0
 have k1:h1.get (Heap.empty.nx+1)=some (.arr [I (N.length:Nat)] true):=by rw[e1,qc,if_pos rfl]
 have x1:h1.nx=Heap.empty.nx+2:=by rw[e1,Heap.nx_set];simp
 refine⟨h1,s1,⟨by decide,_,_,g1,by rw[Qy _ _ _ d.c256];decide⟩,_,⟨_, .cons _ _ _ _ (Zth g1 d.c256) .nil,PCon.ze (Zxp _ hne hlc)⟩,?_⟩
 rw[hmm,show(((w-1:Nat):Int)+1)=(w:Int) by omega]
 have ew:IntKind.i64.wrap (w:Int)=(w:Int):=by
  have:=Zh (i:=w-1) (by omega)
  rw[show((w-1:Nat):Int)+1=(w:Int) by omega]at this
  rw[this];omega
 rw[ew]
 obtain⟨h2,e2⟩: ∃h2,h2=(h1.pushT none (.arr [I 0] true)).set h1.nx (some (.arr [I w] true)):=⟨_,rfl⟩
 have s2:Zj (h1.pushT none (.arr [I 0] true)) h1.nx 0 [I w]=some h2:=by
  rw[e2]
  exact Xl (cs:= [I 0]) (by rw[qj,if_pos rfl]) (by simp)
 have g2:h2.get Heap.empty.nx=some (.arr (dfaC cl N G) true):=by
  rw[e2,qc,if_neg (by omega),qj,if_neg (by omega)];exact g1
 have k2:h2.get (Heap.empty.nx+1)=some (.arr [I (N.length:Nat)] true):=by
  rw[e2,qc,if_neg (by omega),qj,if_neg (by omega)];exact k1
 have k3:h2.get h1.nx=some (.arr [I w] true):=by rw[e2,qc,if_pos rfl]
 have c1:Zb h2 (Heap.empty.nx+1) 0 1=some [I (N.length:Nat)]:=by rw[Zr k2];rfl
 have c2:Zb h2 h1.nx 0 1=some [I w]:=by rw[Zr k3];rfl
 refine⟨h2,s2,⟨by decide,_,_,g2,by rw[Qy _ _ _ d.c256];decide⟩,_,⟨_, .cons _ _ _ _ (Zth g2 d.c256) .nil,PCon.ze (Zxq _ hne hlc)⟩,?_⟩
 refine ifF (by simp[ltI];omega) ⟨_,c2,ifF (by simp[ltI];omega) ⟨_,c1,ifF (by simp[ltI];omega) ⟨_,c1,ifF (by simp[ltI];omega) ⟨_,_,_,(Wh g2 d.c256).2,_,c1,ifF (by rw[d.ng];simp) ⟨_,_,_,(Wh g2 d.c256).1,?_⟩⟩⟩⟩⟩
 refine(Zlo N w N.length ⟨w1,w2⟩ (fun r hr=>⟨d.rl r hr,d.rx r hr⟩) k3 k2 n2).mono fun v h' ⟨q1,q2⟩=>⟨_,q1,Zv (.inr rfl) rfl (.b _) rfl⟩
end Go.Y
