/- Part 8 of the proof of fabricErrors.proved: FbBg FbBh FbBi. Several texts in one, blanks struck, what is not used left out. -/
import Derived.Deep.CutBlock
import Derived.Deep.DeepCutAuto
import Derived.Test.YtnjjkgjdhljfnaaGreatPk7
set_option maxRecDepth 100000
set_option maxHeartbeats 16000000
set_option linter.unusedVariables false
set_option linter.unusedSimpArgs false
namespace Go.Proofs.YtnjjkgjdhljfnaaGreat
open Go.RowKit Go.Maps
attribute [local go_sem ↓] Go.wp_at_zero Go.wp_at_succ
theorem Blk.set_id{w:World}{g:Nat}{t:TypeId}{cs:Array Value}(h:Blk w g t cs){i:Nat}{u:Value}(hu:cs[i]?=some u):w.setCell ⟨g,i,none⟩ u=w:=by
 have e:cs.setIfInBounds i u=cs:=by
  apply Array.ext_getElem?;intro j;rw[Array.getElem?_setIfInBounds];by_cases e:i=j
  ·subst e;have hl:i<cs.size:=by
    rcases Nat.lt_or_ge i cs.size with h|h
    ·exact h
    ·rw[Array.getElem?_eq_none h]at hu;cases hu
   simp[hl];simpa[hl]using hu.symm
  ·simp[e]
 unfold World.setCell;cases w with
 |mk heap tape drawn os output=>
  simp only[World.mk.injEq,and_true,true_and];apply Array.ext_getElem?;intro j;rw[Array.getElem?_modify];by_cases e2:g=j
  ·subst e2;have h':heap[g]?=some (.cells cs t (0,0)):=h;simp[h',e]
  ·simp[e2]
def arr8(f:Nat→Value):Array Value:=((List.range 8).map f).toArray
def rowsTo(V:Nat→Value)(p:Nat)(v:Value)(q:Nat):Value:=if q<p then V q else if q=p then v else .slice none 0 0
theorem arr8_at(f:Nat→Value){i:Nat}(h:i<8):(arr8 f)[i]?=some (f i):=range_arr 8 f h
theorem arr8_set(f g:Nat→Value)(j:Nat)(v:Value)(h:∀i,i<8→g i=if i=j then v else f i):(arr8 f).setIfInBounds j v=arr8 g:=range_arr_set 8 f g j v h
theorem rowsTo_set(V:Nat→Value)(p:Nat)(v v':Value):(arr8 (rowsTo V p v)).setIfInBounds p v'=arr8 (rowsTo V p v'):=arr8_set _ _ _ _ fun i _=>by
 unfold rowsTo;by_cases e:i=p
 ·subst e;simp
 ·simp[e]
theorem rowsTo_next(V:Nat→Value)(p:Nat)(v:Value):rowsTo (fun q=>if q=p then v else V q) (p+1) (.slice none 0 0)=rowsTo V p v:=by
 funext q;unfold rowsTo;by_cases e:q<p
 ·have e3:¬q=p:=by omega
  have e4:q<p+1:=by omega
  simp[e,e3,e4]
 ·by_cases e2:q=p
  ·subst e2;simp
  ·have e4:¬q<p+1:=by omega
   simp[e,e2,e4]
theorem lookQ_stop{ports:Nat}{rt:Fm→Option Nat}{f:Fm}{l:List Fm}{k:Nat}(h:rt f=some k)(hk:k<ports):lookQ ports rt (f::l)=(0,some k):=by unfold lookQ;simp[h,hk]
theorem lookQ_go{ports:Nat}{rt:Fm→Option Nat}{f:Fm}{l:List Fm}(h:∀k,rt f=some k→¬k<ports):lookQ ports rt (f::l)=((lookQ ports rt l).1+1,(lookQ ports rt l).2):=by
 rw[lookQ];cases hr:rt f with
 |none=>rfl
 |some k=>simp only;rw[if_neg (h k hr)]
theorem own_form{w:World}{base:Nat}{e:TypeId}{m n:Nat}{v:Value}{xs:List Value}(h:w.ownsRow base e m v n xs):∃a n c,v=.slice a n c:=by
 rcases h.2 with⟨rfl,_⟩|⟨g,cap,cur,rfl,_⟩
 ·exact⟨_,_,_,rfl⟩
 ·exact⟨_,_,_,rfl⟩
theorem rowsTo_slices(V:Nat→Value)(p:Nat)(h:∀q,q<p→∃a n c,V q=.slice a n c):∃(A:Nat→Option Addr) (Nn C:Nat→Nat),rowsTo V p (.slice none 0 0)=fun i=>.slice (A i) (Nn i) (C i):=by
 have h2:∀q,∃t:Option Addr×Nat×Nat,rowsTo V p (.slice none 0 0) q=.slice t.1 t.2.1 t.2.2:=fun q=>by
  unfold rowsTo;by_cases e:q<p
  ·obtain⟨a,n,c,e2⟩:=h q e;exact⟨(a,n,c),by simp[e,e2]⟩
  ·exact⟨(none,0,0),by simp[e]⟩
 exact⟨fun i=>(Classical.choose (h2 i)).1,fun i=>(Classical.choose (h2 i)).2.1,fun i=>(Classical.choose (h2 i)).2.2,funext fun i=>Classical.choose_spec (h2 i)⟩
def dropB(X:Bx)(route:Nat→Fm→Option Nat)(p c:Nat):Nat:=(lookQ X.ports (route p) (get2 X.q p c)).1
def outB(X:Bx)(route:Nat→Fm→Option Nat)(p c:Nat):Option Nat:=(lookQ X.ports (route p) (get2 X.q p c)).2
def rowD(X:Bx)(route:Nat→Fm→Option Nat)(p n:Nat):List Int:=(List.range n).map fun c=>(dropB X route p c:Int)
def rowO(X:Bx)(route:Nat→Fm→Option Nat)(p n:Nat):List Int:=(List.range n).map fun c=>optI (outB X route p c)
theorem rowD_succ(X:Bx)(route:Nat→Fm→Option Nat)(p n:Nat):rowD X route p (n+1)=rowD X route p n++[(dropB X route p n:Int)]:=by unfold rowD;rw[List.range_succ,List.map_append];rfl
theorem rowO_succ(X:Bx)(route:Nat→Fm→Option Nat)(p n:Nat):rowO X route p (n+1)=rowO X route p n++[optI (outB X route p n)]:=by unfold rowO;rw[List.range_succ,List.map_append];rfl
structure RowP(w:World)(K:Nat)(vD vO:Value)(lD lO:List Int):Prop where
 d:w.ownsRow K 3 1 vD lD.length (lD.flatMap cI)
 o:w.ownsRow K 3 1 vO lO.length (lO.flatMap cI)
 ap:∀g,vD.ownBlock=some g→vO.ownBlock≠some g
theorem RowP.ch{S:Nat→Prop}{w w':World}{K:Nat}{vD vO:Value}{lD lO:List Int}(h:RowP w K vD vO lD lO)(hc:Ch S w w')(hS:∀k,S k→k<K):RowP w' K vD vO lD lO:=
 ⟨own_ch h.d hc fun g hg s=>by have:=(h.d.lt g hg).1;have:=hS g s;omega,own_ch h.o hc fun g hg s=>by have:=(h.o.lt g hg).1;have:=hS g s;omega,h.ap⟩
structure LookM(w:World)(bD bO B:Nat)(X:Bx)(route:Nat→Fm→Option Nat)(p:Nat)(vD vO:Value)(V U:Nat→Value):Prop where
 d:Blk w bD 231 (arr8 (rowsTo V p vD))
 o:Blk w bO 231 (arr8 (rowsTo U p vO))
 ne:bD≠bO
 ld:bD<B
 lo:bO<B
 rows:∀q,q<p→RowP w B (V q) (U q) (rowD X route q X.classes) (rowO X route q X.classes)
theorem LookM.below{w w':World}{bD bO B:Nat}{X:Bx}{route:Nat→Fm→Option Nat}{p:Nat}{vD vO:Value}{V U:Nat→Value}(h:LookM w bD bO B X route p vD vO V U)(k:Below w.heap.size w w'):LookM w' bD bO B X route p vD vO V U:=
 ⟨h.d.below k h.d.lt,h.o.below k h.o.lt,h.ne,h.ld,h.lo,fun q hq=>(h.rows q hq).ch (S:=fun _=>False) (Ch.of_below k) (fun _ s=>s.elim)⟩
section
variable{wo wr w2 w4:World}{bD bO K B:Nat}{X:Bx}{route:Nat→Fm→Option Nat}{p:Nat}{vD vO v1 v3:Value}{V U:Nat→Value}{lD lO:List Int}{n o:Int}{o1 o2:Obj}
theorem LookM.push1(hm:LookM wr bD bO B X route p vD vO V U)(row:RowP wr K vD vO lD lO)(hK:B≤K)(hK2:K≤wr.heap.size)(own1:w2.ownsRow K 3 1 v1 (lD.length+1) (lD.flatMap cI++[.int .i64 n]))(gr1:(wr.alloc o1).grownBy w2 vD.ownBlock):Blk w2 bD 231 (arr8 (rowsTo V p vD))∧Blk (w2.setCell ⟨bD,p,none⟩ v1) bO 231 (arr8 (rowsTo U p vO))∧(w2.setCell ⟨bD,p,none⟩ v1).ownsRow K 3 1 vO lO.length (lO.flatMap cI):=by
 have l1:=hm.ld;have l2:=hm.lo;have f1:∀g,g<B→some g≠vD.ownBlock:=fun g hg e=>by have:=(row.d.lt g e.symm).1;omega
 have b2:Blk w2 bO 231 (arr8 (rowsTo U p vO)):=(hm.o.alloc o1).grown gr1 (f1 _ l2);refine⟨(hm.d.alloc o1).grown gr1 (f1 _ l1),b2.far (by simp only;exact hm.ne.symm) _,?_⟩;refine own_set ((row.o.alloc o1).kept gr1 ?_) v1 fun g hg=>?_
 ·cases e:vO.ownBlock with
  |none=>exact .inl rfl
  |some g=>exact .inr fun e2=>row.ap g e2.symm e
 ·have:=(row.o.lt g hg).1;simp only;omega
theorem LookM.push2(hm:LookM wr bD bO B X route p vD vO V U)(row:RowP wr K vD vO lD lO)(hK:B≤K)(hK2:K≤wr.heap.size)(hch:Ch (fun k=>k=bD∨k=bO) wo wr)(hKo:K=wo.heap.size)(hro:∀q,q<p→RowP wo B (V q) (U q) (rowD X route q X.classes) (rowO X route q X.classes))(own1:w2.ownsRow K 3 1 v1 (lD.length+1) (lD.flatMap cI++[.int .i64 n]))(gr1:(wr.alloc o1).grownBy w2 vD.ownBlock)(loc1:v1.ownBlock=vD.ownBlock∨v1.ownBlock=some (wr.heap.size+1))(own2:w4.ownsRow K 3 1 v3 (lO.length+1) (lO.flatMap cI++[.int .i64 o]))(gr2:((w2.setCell ⟨bD,p,none⟩ v1).alloc o2).grownBy w4 vO.ownBlock)(loc2:v3.ownBlock=vO.ownBlock∨v3.ownBlock=some (w2.heap.size+1)):Blk w4 bO 231 (arr8 (rowsTo U p vO))∧LookM (w4.setCell ⟨bO,p,none⟩ v3) bD bO B X route p v1 v3 V U∧RowP (w4.setCell ⟨bO,p,none⟩ v3) K v1 v3 (lD++[n]) (lO++[o])∧Ch (fun k=>k=bD∨k=bO) wo (w4.setCell ⟨bO,p,none⟩ v3):=by
 have l1:=hm.ld;have l2:=hm.lo;obtain⟨p1,p2,p3⟩:=hm.push1 row hK hK2 own1 gr1;have f2:∀g,g<B→some g≠vO.ownBlock:=fun g hg e=>by have:=(row.o.lt g e.symm).1;omega
 have s2:wr.heap.size+1≤w2.heap.size:=by have:=gr1.size;simpa using this
 have d4:Blk w4 bD 231 (arr8 (rowsTo V p v1)):=by have:=p1.set_ p v1;rw[rowsTo_set]at this;exact(this.alloc o2).grown gr2 (f2 _ l1)
 have o4:Blk w4 bO 231 (arr8 (rowsTo U p vO)):=(p2.alloc o2).grown gr2 (f2 _ l2);have v1lt:=own1.lt;have ap1:∀g,v1.ownBlock=some g→vO.ownBlock≠some g:=fun g h1 h2=>by
  rcases loc1 with q|q
  ·rw[q]at h1;exact row.ap g h1 h2
  ·rw[q]at h1;injection h1 with h1;have:=(row.o.lt g h2).2;omega
 have own1':w4.ownsRow K 3 1 v1 (lD.length+1) (lD.flatMap cI++[.int .i64 n]):=by
  refine((own_set own1 v1 fun g hg=>?_).alloc o2).kept gr2 ?_
  ·have:=(v1lt g hg).1;simp only;omega
  ·cases e:v1.ownBlock with
   |none=>exact .inl rfl
   |some g=>exact .inr fun e2=>ap1 g e e2.symm
 have C1:Ch (fun k=>k=bD∨k=bO) wo w4:=(((hch.alloc o1).grown gr1 fun g hg=>.inr (by have:=(row.d.lt g hg).1;omega)).setCell (p:=⟨bD,p,none⟩) (.inl (.inl rfl)) v1).alloc o2|>.grown gr2 fun g hg=>.inr (by have:=(row.o.lt g hg).1;omega);have C2:Ch (fun k=>k=bD∨k=bO) wo (w4.setCell ⟨bO,p,none⟩ v3):=C1.setCell (p:=⟨bO,p,none⟩) (.inl (.inr rfl)) v3;have rowsK:∀q,q<p→RowP (w4.setCell ⟨bO,p,none⟩ v3) B (V q) (U q) (rowD X route q X.classes) (rowO X route q X.classes):=fun q hq=>
  (hro q hq).ch C2 fun k s=>by rcases s with s|s<;>omega
 refine⟨o4,⟨d4.far (by simp only;exact hm.ne) _,?_,hm.ne,hm.ld,hm.lo,rowsK⟩,⟨?_,?_,?_⟩,C2⟩
 ·have:=o4.set_ p v3;rw[rowsTo_set]at this;exact this
 ·have:=own_set own1' (p:=⟨bO,p,none⟩) v3 fun g hg=>by have:=(v1lt g hg).1;simp only;omega
  simpa[cI]using this
 ·have:=own_set own2 (p:=⟨bO,p,none⟩) v3 fun g hg=>by have:=(own2.lt g hg).1;simp only;omega
  simpa[cI]using this
 ·intro g h1 h2;rcases loc2 with q|q
  ·rw[q]at h2;exact ap1 g h1 h2
  ·rw[q]at h2;injection h2 with h2;have:=(v1lt g h1).2;omega
end
def LookPost(X:Bx)(route:Nat→Fm→Option Nat)(w:World)(e:Ending)(w':World):Prop:=
 ∃V U,e=.returned (.tuple #[.agg (arr8 (rowsTo V X.ports (.slice none 0 0))),.agg (arr8 (rowsTo U X.ports (.slice none 0 0)))])∧(∀q,q<X.ports→RowP w' w.heap.size (V q) (U q) (rowD X route q X.classes) (rowO X route q X.classes))∧Below w.heap.size w w'
def RelLk1(X:Bx)(route:Nat→Fm→Option Nat)(w:World)(bD bO:Nat)(i:Value)(wr:World):Prop:=
 ∃p V U,p≤X.ports∧i=.int .i64 (p:Nat)∧LookM wr bD bO (bO+1) X route p (.slice none 0 0) (.slice none 0 0) V U∧Below w.heap.size w wr
def RelLk2(X:Bx)(route:Nat→Fm→Option Nat)(w wo:World)(bD bO p:Nat)(V U:Nat→Value)(i:Value)(wr:World):Prop:=
 ∃c vD vO,c≤X.classes∧i=.int .i64 (c:Nat)∧LookM wr bD bO (bO+1) X route p vD vO V U∧RowP wr wo.heap.size vD vO (rowD X route p c) (rowO X route p c)∧Ch (fun k=>k=bD∨k=bO) wo wr∧Below w.heap.size w wr
def RelLk3(X:Bx)(rt:Fm→Option Nat)(Q:List (Fm×Value))(wo:World)(n o i:Value)(wr:World):Prop:=
 ∃k:Nat,k≤Q.length∧i=.int .i64 k∧n=.int .i64 k∧o=.int .i64 (-1)∧lookQ X.ports rt (Q.map (·.1))=(k+(lookQ X.ports rt ((Q.drop k).map (·.1))).1,(lookQ X.ports rt ((Q.drop k).map (·.1))).2)∧Below wo.heap.size wo wr
theorem blook_any(N:Nat)(route:Nat→Fm→Option Nat)(c1 c2:Nat)(τ:Own)(o:Nat)(w:World)(b:Nat)(X:Bx)(L:BxL)(h:BxM τ o w b X L)(hx:BxOk X N)(hR:∀(p:Nat) (x:Fm) (v:Value) (w':World),Below w.heap.size w w'→p<X.ports→(∃c,c<X.classes∧x∈get2 X.q p c)→(∃a n cap,v=.slice a n cap)→Calls Tryz.prog 98 #[.int .i64 p,fmV x v,pt c1,pt c2] w' fun e w''=>e=.returned (.int .i64 (optI (route p x)))∧Below w'.heap.size w' w''):Calls Tryz.prog 126 #[pt b,.func (.func 98) #[] #[pt c1,pt c2]] w (LookPost X route w):=by
 obtain⟨w1,hw1⟩:∃w1:World,(w.alloc (.cells (arr8 (fun _=>.slice none 0 0)) 231)).alloc (.cells (arr8 (fun _=>.slice none 0 0)) 231)=w1:=⟨_,rfl⟩;have BW:Hid (Below w.heap.size w w1):=by rw[←hw1];exact((Below.refl _ _).alloc (Nat.le_refl _) _).alloc (by simp) _
 have HW:=Lib.hid hw1;have HB:=Lib.hid h;have HX:=Lib.hid hx;have HRT:=Lib.hid hR;have x1:=hx.p1;have xc1:=hx.c1;have c0:=(h.below BW.out).c0;have lb:=h.root.1.lt;have lb2:b<w.heap.size+1:=by omega
 have c0':=h.c0;have E8:arr8 (fun _=>Value.slice none 0 0)=#[.slice none 0 0,.slice none 0 0,.slice none 0 0,.slice none 0 0,.slice none 0 0,.slice none 0 0,.slice none 0 0,.slice none 0 0]:=by simp[arr8,List.range_succ]
 have HE8:=Lib.hid E8;clear hw1 h hx hR E8 c0;unfold pt
 go_enter Tryz.func126,Tryz.ntmps126
 go_wp2_with fail
 rw[←HE8.out,HW.out];have LM0:Hid (LookM w1 w.heap.size (w.heap.size+1) (w.heap.size+1+1) X route 0 (.slice none 0 0) (.slice none 0 0) (fun _=>.slice none 0 0) (fun _=>.slice none 0 0)):=by
  have e:rowsTo (fun _=>Value.slice none 0 0) 0 (.slice none 0 0)=fun _=>.slice none 0 0:=by funext q;unfold rowsTo;simp
  refine⟨?_,?_,by omega,by omega,by omega,fun q hq=>by omega⟩
  ·rw[←HW.out,e];exact(Blk.new w _ _).alloc _
  ·rw[←HW.out,e];have:=Blk.new (w.alloc (.cells (arr8 (fun _=>.slice none 0 0)) 231)) 231 (arr8 (fun _=>.slice none 0 0));simpa using this
 obtain⟨bD,hbD⟩:∃x,w.heap.size=x:=⟨_,rfl⟩;obtain⟨bO,hbO⟩:∃x,w.heap.size+1=x:=⟨_,rfl⟩;rw[hbO,hbD]at LM0;rw[hbO,hbD];have HbD:=Lib.hid hbD;have HbO:=Lib.hid hbO;clear hbD hbO c0' lb lb2 HW HE8
 go_loopw [17] (fun i wr=>RelLk1 X route w bD bO i wr) (fun i _=>X.ports-(RowKit.intOf i).toNat)
 case atStart=>exact⟨0,_,_,Nat.zero_le _,rfl,LM0.out,BW.out⟩
 case round=>
  obtain⟨p,V,U,hp,rfl,hm,bel⟩:=hrel;have HM:=Lib.hid hm;have BEL:=Lib.hid bel;have MB:=Lib.hid (HB.out.below bel);by_cases hpn:p<X.ports
  ·have p0:(0:Int)≤(p:Int):=by omega
   have p8:(p:Int)<8:=(by omega);have c1':=MB.out.c1;clear hm bel
   go_wp2_with fail
   clear c1';have BELo:=Lib.hid BEL.out;obtain⟨wo,rfl⟩:∃wo:World,wo=wr:=⟨_,rfl⟩
   go_loopw [24] (fun i wr=>RelLk2 X route w wo bD bO p V U i wr) (fun i _=>X.classes-(RowKit.intOf i).toNat)
   case atStart=>exact⟨0,.slice none 0 0,.slice none 0 0,Nat.zero_le _,rfl,HM.out,⟨World.ownsRow_nil _ _ _ _,World.ownsRow_nil _ _ _ _,by simp[Value.ownBlock]⟩,Ch.refl _ _,BEL.out⟩
   case round=>
    obtain⟨c,vD,vO,hc,rfl,hm2,hrow,hch,bel⟩:=hrel;have HM2:=Lib.hid hm2;have HROW:=Lib.hid hrow;have HCH:=Lib.hid hch;have BEL2:=Lib.hid bel;have MB2:=Lib.hid (HB.out.below bel);by_cases hcn:c<X.classes
    ·have cc0:(0:Int)≤(c:Int):=by omega
     have cc8:(c:Int)<(X.classes:Int):=(by omega);obtain⟨qa,qcap,Q,qe,q1,qr,q3⟩:=(MB2.out.q p c hpn hcn).1.rec_;have cq:=MB2.out.cq hpn x1;have cv:=MB2.out.cqv hpn hcn;rw[qe]at cv;have ql:=HX.out.qlen hpn hcn;rw[←q1,List.length_map]at ql;clear hm2 hrow hch bel;have QR:=Lib.hid qr;have Q1:=Lib.hid q1;have Q3:=Lib.hid q3;clear qr q1 q3 qe
     go_upto_block 4 with(fail)
     obtain⟨wq,rfl⟩:∃wq:World,wq=wr:=⟨_,rfl⟩;have LQ:Hid ((dropB X route p c,outB X route p c)=lookQ X.ports (route p) (Q.map (·.1))):=by rw[Hid,Q1.out];rfl
     go_cut [8,9] (fun s8 s9 wx=>s8=.int .i64 (dropB X route p c:Nat)∧s9=.int .i64 (optI (outB X route p c))∧Below wq.heap.size wq wx)
     case first=>
      go_wp2_with fail
      clear cq cv
      go_loopw [8,9,37] (fun n o i wr=>RelLk3 X (route p) Q wq n o i wr) (fun _ _ i _=>Q.length-(RowKit.intOf i).toNat)
      case atStart=>exact⟨0,Nat.zero_le _,rfl,rfl,rfl,by simp,Below.refl _ _⟩
      case round=>
       obtain⟨k,hk,rfl,rfl,rfl,hlk,bel⟩:=hrel;have HLK:=Lib.hid hlk;have BEL3:=Lib.hid bel;by_cases hkn:k<Q.length
       ·obtain⟨b1,o1,ha,hb1,hm,e0,e1,e2,e3,e4,e5⟩:=frame_at (QR.out.below (Nat.le_refl _) bel) k hkn;have dat:=((Q3.out _ hm).chE (S:=fun _=>False) (Ch.of_below bel) (fun _ _=>rfl) (fun _ s=>s.elim));have XM:Hid (∃c,c<X.classes∧(Q.getD k fq0).1∈get2 X.q p c):=⟨c,hcn,by rw[←Q1.out];exact List.mem_map_of_mem hm⟩;have TS:Hid ((Q.drop k).map (·.1)=(Q.getD k fq0).1::(Q.drop (k+1)).map (·.1)):=by rw[Hid,List.drop_eq_getElem_cons hkn,List.map_cons];simp[List.getD,hkn]
        generalize Q.getD k fq0=x at *;obtain⟨⟨xi,xf,xt,xc,xe,xd⟩,xv⟩:=x;simp only at e0 e1 e2 e3 e4 e5 dat XM TS;obtain⟨da,dc,rfl,dd⟩:=id dat;obtain⟨w5,hw5⟩:∃w5:World,wr.alloc (.cells #[.int .i64 xi,.int .i64 xf,.int .i64 xt,.int .i64 xc,.int .i64 xe,.slice da xd.length dc] 59)=w5:=⟨_,rfl⟩;have B5:Hid (Below wr.heap.size wr w5):=by rw[←hw5];exact(Below.refl _ _).alloc (Nat.le_refl _) _
        have FB:Hid (Blk w5 wr.heap.size 59 #[.int .i64 xi,.int .i64 xf,.int .i64 xt,.int .i64 xc,.int .i64 xe,.slice da xd.length dc]):=(by rw[←hw5];exact Blk.new wr _ _);have DT:=Lib.hid (dat.chE (S:=fun _=>False) (Ch.of_below B5.out) (fun _ _=>rfl) (fun _ s=>s.elim));have BB5:Hid (Below w.heap.size w w5):=(BEL2.out.trans (bel.mono BEL2.out.size)).trans (B5.out.mono (by have:=BEL2.out.size;have:=bel.size;omega));have k0:=FB.out.cell 0;have k1:=FB.out.cell 1;have k2:=FB.out.cell 2;have k3:=FB.out.cell 3;have k4:=FB.out.cell 4;have k5:=FB.out.cell 5;simp only[List.getElem?_toArray,List.getElem?_cons_succ,List.getElem?_cons_zero]at k0 k1 k2 k3 k4 k5;have C0:=Lib.hid HB.out.c0;subst ha;have HRX:Hid (∀v' w',Below w.heap.size w w'→(∃a n cap,v'=.slice a n cap)→Calls Tryz.prog 98 #[.int .i64 p,fmV ⟨xi,xf,xt,xc,xe,xd⟩ v',pt c1,pt c2] w' fun e w''=>e=.returned (.int .i64 (optI (route p ⟨xi,xf,xt,xc,xe,xd⟩)))∧Below w'.heap.size w' w''):=fun v' w' hb hs=>HRT.out p _ v' w' hb hpn XM.out hs;clear hm bel dd dat hlk;cases hr:route p ⟨xi,xf,xt,xc,xe,xd⟩with
        |none=>
         have ND:Hid (lookQ X.ports (route p) ((Q.drop k).map (·.1))=((lookQ X.ports (route p) ((Q.drop (k+1)).map (·.1))).1+1,(lookQ X.ports (route p) ((Q.drop (k+1)).map (·.1))).2)):=(by rw[Hid,TS.out];exact lookQ_go (by rw[hr];intro j e;cases e));have HRY:Hid (∀v' w',Below w.heap.size w w'→(∃a n cap,v'=.slice a n cap)→Calls Tryz.prog 98 #[.int .i64 p,.agg #[.int .i64 xi,.int .i64 xf,.int .i64 xt,.int .i64 xc,.int .i64 xe,v'],.pointer (some ⟨c1,0,none⟩),.pointer (some ⟨c2,0,none⟩)] w' fun e w''=>e=.returned (.int .i64 (-1))∧Below w'.heap.size w' w''):=(by have h:=HRX.out;rw[hr]at h;exact h);clear hr HRX TS XM
         go_wp2_with (first
          |(go_at_call 92;refine(bcopied_any ⟨xi,xf,xt,xc,xe,xd⟩ (.slice da xd.length dc) τ _ DT.out).mono ?_;rintro e wc ⟨v',rfl,bc,ow⟩;have BC:=Lib.hid bc;obtain⟨a',cap',rfl,_⟩:=rec_of_own (d:=(0:Int)) cU8_len (by decide) ow;clear bc ow;simp only[fmV])
          |(go_at_call 98;refine(HRY.out _ _ (BB5.out.trans (BC.out.mono BB5.out.size)) ⟨_,_,_,rfl⟩).mono ?_;rintro e wd ⟨rfl,bd⟩;have BD:=Lib.hid bd;have BBD:Hid (Below w.heap.size w wd):=(BB5.out.trans (BC.out.mono BB5.out.size)).trans (bd.mono (by have:=BB5.out.size;have:=BC.out.size;omega));have cz:=(HB.out.below BBD.out).c0;clear bd))
         exact⟨⟨k+1,by omega,by simp,by simp,rfl,by rw[HLK.out,ND.out];exact Prod.ext (by simp only;omega) rfl,BEL3.out.trans ((B5.out.trans (BC.out.mono B5.out.size)).trans (BD.out.mono (by have:=B5.out.size;have:=BC.out.size;omega))|>.mono BEL3.out.size)⟩,by simp[RowKit.intOf];omega⟩
        |some q0=>
         by_cases hq:q0<X.ports
         ·have hq2:(q0:Int)<(X.ports:Int):=by omega
          have ND:Hid (lookQ X.ports (route p) ((Q.drop k).map (·.1))=(0,some q0)):=(by rw[Hid,TS.out];exact lookQ_stop hr hq);have HRY:Hid (∀v' w',Below w.heap.size w w'→(∃a n cap,v'=.slice a n cap)→Calls Tryz.prog 98 #[.int .i64 p,.agg #[.int .i64 xi,.int .i64 xf,.int .i64 xt,.int .i64 xc,.int .i64 xe,v'],.pointer (some ⟨c1,0,none⟩),.pointer (some ⟨c2,0,none⟩)] w' fun e w''=>e=.returned (.int .i64 (q0:Int))∧Below w'.heap.size w' w''):=(by have h:=HRX.out;rw[hr]at h;exact h);clear hr HRX TS XM
          go_wp2_with (first
           |(go_at_call 92;refine(bcopied_any ⟨xi,xf,xt,xc,xe,xd⟩ (.slice da xd.length dc) τ _ DT.out).mono ?_;rintro e wc ⟨v',rfl,bc,ow⟩;have BC:=Lib.hid bc;obtain⟨a',cap',rfl,_⟩:=rec_of_own (d:=(0:Int)) cU8_len (by decide) ow;clear bc ow;simp only[fmV])
           |(go_at_call 98;refine(HRY.out _ _ (BB5.out.trans (BC.out.mono BB5.out.size)) ⟨_,_,_,rfl⟩).mono ?_;rintro e wd ⟨rfl,bd⟩;have BD:=Lib.hid bd;have BBD:Hid (Below w.heap.size w wd):=(BB5.out.trans (BC.out.mono BB5.out.size)).trans (bd.mono (by have:=BB5.out.size;have:=BC.out.size;omega));have cz:=(HB.out.below BBD.out).c0;clear bd))
          go_meet
          have R8:Hid ((dropB X route p c=k)∧outB X route p c=some q0):=by have h1:=LQ.out;rw[HLK.out,ND.out]at h1;simp only[Prod.mk.injEq]at h1;exact⟨by omega,h1.2⟩
          case rel=>exact⟨by rw[R8.out.1],by rw[R8.out.2];rfl,BEL3.out.trans ((B5.out.trans (BC.out.mono B5.out.size)).trans (BD.out.mono (by have:=B5.out.size;have:=BC.out.size;omega))|>.mono BEL3.out.size)⟩
         ·have hq2:¬(q0:Int)<(X.ports:Int):=by omega
          have ND:Hid (lookQ X.ports (route p) ((Q.drop k).map (·.1))=((lookQ X.ports (route p) ((Q.drop (k+1)).map (·.1))).1+1,(lookQ X.ports (route p) ((Q.drop (k+1)).map (·.1))).2)):=(by rw[Hid,TS.out];exact lookQ_go (by rw[hr];intro j e;injection e with e;omega));have HRY:Hid (∀v' w',Below w.heap.size w w'→(∃a n cap,v'=.slice a n cap)→Calls Tryz.prog 98 #[.int .i64 p,.agg #[.int .i64 xi,.int .i64 xf,.int .i64 xt,.int .i64 xc,.int .i64 xe,v'],.pointer (some ⟨c1,0,none⟩),.pointer (some ⟨c2,0,none⟩)] w' fun e w''=>e=.returned (.int .i64 (q0:Int))∧Below w'.heap.size w' w''):=(by have h:=HRX.out;rw[hr]at h;exact h);clear hr HRX TS XM
          go_wp2_with (first
           |(go_at_call 92;refine(bcopied_any ⟨xi,xf,xt,xc,xe,xd⟩ (.slice da xd.length dc) τ _ DT.out).mono ?_;rintro e wc ⟨v',rfl,bc,ow⟩;have BC:=Lib.hid bc;obtain⟨a',cap',rfl,_⟩:=rec_of_own (d:=(0:Int)) cU8_len (by decide) ow;clear bc ow;simp only[fmV])
           |(go_at_call 98;refine(HRY.out _ _ (BB5.out.trans (BC.out.mono BB5.out.size)) ⟨_,_,_,rfl⟩).mono ?_;rintro e wd ⟨rfl,bd⟩;have BD:=Lib.hid bd;have BBD:Hid (Below w.heap.size w wd):=(BB5.out.trans (BC.out.mono BB5.out.size)).trans (bd.mono (by have:=BB5.out.size;have:=BC.out.size;omega));have cz:=(HB.out.below BBD.out).c0;clear bd))
          exact⟨⟨k+1,by omega,by simp,by simp,rfl,by rw[HLK.out,ND.out];exact Prod.ext (by simp only;omega) rfl,BEL3.out.trans ((B5.out.trans (BC.out.mono B5.out.size)).trans (BD.out.mono (by have:=B5.out.size;have:=BC.out.size;omega))|>.mono BEL3.out.size)⟩,by simp[RowKit.intOf];omega⟩
       ·have hkl:k=Q.length:=by omega
        have R8:Hid ((dropB X route p c=k)∧outB X route p c=none):=(by have h1:=LQ.out;rw[HLK.out,hkl,List.drop_length]at h1;simp only[List.map_nil,lookQ,Prod.mk.injEq]at h1;exact⟨by omega,h1.2⟩);clear hlk
        go_wp2_with fail
        go_meet
        case rel=>exact⟨by rw[R8.out.1,hkl],by rw[R8.out.2];rfl,BEL3.out⟩
     case rest=>
      obtain⟨rfl,rfl,bel3⟩:=hcut;obtain⟨wr,rfl⟩:∃wr:World,wr=wc:=⟨_,rfl⟩;have WB:Hid (Below w.heap.size w wr):=BEL2.out.trans (bel3.mono BEL2.out.size);have HMr:=Lib.hid (HM2.out.below bel3);have CHr:Hid (Ch (fun k=>k=bD∨k=bO) wo wr):=HCH.out.thenBelow bel3;have ROWr:=Lib.hid (HROW.out.ch (S:=fun _=>False) (Ch.of_below bel3) (fun _ s=>s.elim));have KW:Hid (wo.heap.size≤wr.heap.size):=CHr.out.size;have KB:Hid (bO+1≤wo.heap.size):=(by have h1:=HM.out.o.lt;exact h1);have LDL:Hid ((rowD X route p c).length=c∧(rowO X route p c).length=c):=(by rw[Hid];simp[rowD,rowO]);have RD:=Lib.hid (rowD_succ X route p c);have RO:=Lib.hid (rowO_succ X route p c);generalize dropB X route p c=dn at *;generalize optI (outB X route p c)=on at *;generalize rowD X route p c=lD at *;generalize rowO X route p c=lO at *;obtain⟨i0,hi0,hz0,hz1,hz2⟩:=info_parts infoIntB;obtain⟨da,dcap,rfl,_⟩:=rec_of_own (d:=(0:Int)) cI_length (by decide) ROWr.out.d;obtain⟨oa,ocap,rfl,_⟩:=rec_of_own (d:=(0:Int)) cI_length (by decide) ROWr.out.o;have z1:wr.cell? ⟨bD,p,none⟩=some (.slice da lD.length dcap):=(by rw[HMr.out.d.cell,arr8_at _ (by omega)];unfold rowsTo;simp);have OW1:Hid ((wr.alloc (.cells #[.int .i64 (dn:Int)] 3)).ownsRow wo.heap.size 3 1 (.slice da lD.length dcap) lD.length (lD.flatMap cI)):=ROWr.out.d.alloc (.cells #[.int .i64 (dn:Int)] 3);have lz:bD<wr.heap.size:=HMr.out.d.lt;clear bel3 LQ
      go_wp2_with (first
       |(at_builtin;refine wpList_append_any _ rfl (.tmp 63) (.tmp 65) 26 rfl wo.heap.size 3 i0 _ 1 8 Tryz.underlying26 hi0 hz0 hz1 hz2 rfl (by decide) _ _ _ rfl OW1.out _ (some ⟨wr.heap.size,0,none⟩) 1 1 [.int .i64 (dn:Int)] rfl (reads_newN wr _ [.int .i64 (dn:Int)] (n:=1) (size:=1) rfl) ?c3 ?c4 ?c5 ?c6 ?_))
      case c3=>intro u hu;simp at hu;subst hu;rfl
      case c4=>have:=HX.out.c1;have:=LDL.out.1;unfold maxLen;omega
      case c5=>have:=HX.out.c1;have:=LDL.out.1;omega
      case c6=>have:=KW.out;simp;omega
      intro v1 w2 own1 gr1 loc1;have OWN1:=Lib.hid own1;have GR1:=Lib.hid gr1;have LC1:=Lib.hid loc1;obtain⟨P1,P2,P3⟩:=HMr.out.push1 ROWr.out KB.out KW.out OWN1.out GR1.out;obtain⟨da1,dcap1,rfl,_⟩:=rec_of_own (d:=(0:Int)) (xs:=lD++[(dn:Int)]) cI_length (by decide) (by have:=OWN1.out;rw[show lD.flatMap cI++[.int .i64 (dn:Int)]=(lD++[(dn:Int)]).flatMap cI by simp[cI]]at this;exact this);have z2:=P1.cell p;rw[arr8_at _ (by omega)]at z2;have z3:=P1.frozen p;have z4:=P2.cell p;rw[arr8_at _ (by omega),show rowsTo U p (.slice oa lO.length ocap) p=.slice oa lO.length ocap by unfold rowsTo;simp]at z4;have OW2:Hid (((w2.setCell ⟨bD,p,none⟩ (.slice da1 (lD.length+1) dcap1)).alloc (.cells #[.int .i64 on] 3)).ownsRow wo.heap.size 3 1 (.slice oa lO.length ocap) lO.length (lO.flatMap cI)):=P3.alloc (.cells #[.int .i64 on] 3);have KW2:Hid (wo.heap.size≤w2.heap.size):=(by have h1:=KW.out;have h2:=gr1.size;simp at h2;rw[Hid];omega);have z5:bO<w2.heap.size:=(by have:=P2.lt;simpa[World.setCell]using this);obtain⟨w3,hw3⟩:∃w3:World,w2.setCell ⟨bD,p,none⟩ (.slice da1 (lD.length+1) dcap1)=w3:=⟨_,rfl⟩;have S3:Hid (w3.heap.size=w2.heap.size):=(by rw[Hid,←hw3];simp[World.setCell]);have HW3:=Lib.hid hw3;rw[hw3]at z4 OW2;have z6:bO<w3.heap.size:=(by have:=S3.out;omega);clear own1 gr1 loc1 P1 P2 P3 z1 z5
      go_wp2_with (first
       |(at_builtin;refine wpList_append_any _ rfl (.tmp 71) (.tmp 73) 26 rfl wo.heap.size 3 i0 _ 1 8 Tryz.underlying26 hi0 hz0 hz1 hz2 rfl (by decide) _ _ _ rfl OW2.out _ (some ⟨w3.heap.size,0,none⟩) 1 1 [.int .i64 on] rfl (reads_newN w3 _ [.int .i64 on] (n:=1) (size:=1) rfl) ?d3 ?d4 ?d5 ?d6 ?_))
      case d3=>intro u hu;simp at hu;subst hu;rfl
      case d4=>have:=HX.out.c1;have:=LDL.out.2;unfold maxLen;omega
      case d5=>have:=HX.out.c1;have:=LDL.out.2;omega
      case d6=>have:=KW2.out;have:=S3.out;simp;omega
      intro v3 w4 own3 gr3 loc3;obtain⟨P4,P5,P6,P7⟩:=HMr.out.push2 ROWr.out KB.out KW.out CHr.out rfl HM.out.rows OWN1.out GR1.out LC1.out own3 (by rw[HW3.out];exact gr3) (by rw[←S3.out];exact loc3);have FIN:Hid (RelLk2 X route w wo bD bO p V U (.int .i64 ((c+1:Nat):Int)) (w4.setCell ⟨bO,p,none⟩ v3)):=⟨c+1,_,_,by omega,rfl,P5,by rw[RD.out,RO.out];exact P6,P7,BELo.out.trans (P7.below (by have:=BELo.out.size;exact this) (fun k s=>by have h1:=HbD.out;have h2:=HbO.out;rcases s with s|s<;>omega))⟩;obtain⟨oa3,ocap3,rfl,_⟩:=rec_of_own (d:=(0:Int)) (xs:=lO++[on]) cI_length (by decide) (by have:=own3;rw[show lO.flatMap cI++[.int .i64 on]=(lO++[on]).flatMap cI by simp[cI]]at this;exact this);have z7:=P4.cell p;rw[arr8_at _ (by omega)]at z7;have z8:=P4.frozen p;clear own3 gr3 loc3 P4 P5 P6 P7 z2 z3 z4 z6
      go_wp2_with fail
      exact⟨by simpa using FIN.out,by simp[RowKit.intOf];omega⟩
    ·obtain rfl:X.classes=c:=by omega
     have FIN:Hid (RelLk1 X route w bD bO (.int .i64 ((p+1:Nat):Int)) wr):=by
      refine⟨p+1,fun q=>if q=p then vD else V q,fun q=>if q=p then vO else U q,by omega,rfl,⟨?_,?_,hm2.ne,hm2.ld,hm2.lo,fun q hq=>?_⟩,bel⟩
      ·rw[rowsTo_next];exact hm2.d
      ·rw[rowsTo_next];exact hm2.o
      ·by_cases e:q=p
       ·subst e;simp only[if_true];have k1:=HM.out.o.lt;exact⟨own_mono hrow.d k1,own_mono hrow.o k1,hrow.ap⟩
       ·simp only[e,if_false];exact hm2.rows q (by omega)
     clear hm2 hrow hch bel
     go_wp2_with fail
     exact⟨by simpa using FIN.out,by simp[RowKit.intOf];omega⟩
  ·have hpe:p=X.ports:=by omega
   subst hpe;have B1:=Lib.hid hm.d;have B2:=Lib.hid hm.o;have FINR:Hid (∀w',Ch (fun k=>k=bD∨k=bO) wr w'→(∀q,q<X.ports→RowP w' w.heap.size (V q) (U q) (rowD X route q X.classes) (rowO X route q X.classes))):=fun w' hc q hq=>by
    have r:=(hm.rows q hq).ch hc fun k s=>by have:=hm.ld;have:=hm.lo;rcases s with s|s<;>omega
    have e1:=HbO.out;exact⟨own_mono r.d (by omega),own_mono r.o (by omega),r.ap⟩
   have BELF:=Lib.hid bel;have RW:=Lib.hid hm.rows;clear hm bel
   go_wp2_with fail
   obtain⟨A,Nn,C,hA⟩:∃(A:Nat→Option Addr) (Nn C:Nat→Nat),rowsTo V X.ports (.slice none 0 0)=fun i=>.slice (A i) (Nn i) (C i):=rowsTo_slices _ _ fun q hq=>own_form (RW.out q hq).d;obtain⟨A',Nn',C',hA'⟩:∃(A:Nat→Option Addr) (Nn C:Nat→Nat),rowsTo U X.ports (.slice none 0 0)=fun i=>.slice (A i) (Nn i) (C i):=rowsTo_slices _ _ fun q hq=>own_form (RW.out q hq).o;have E1:∀(A:Nat→Option Addr) (Nn C:Nat→Nat),arr8 (fun i=>.slice (A i) (Nn i) (C i))=#[.slice (A 0) (Nn 0) (C 0),.slice (A 1) (Nn 1) (C 1),.slice (A 2) (Nn 2) (C 2),.slice (A 3) (Nn 3) (C 3),.slice (A 4) (Nn 4) (C 4),.slice (A 5) (Nn 5) (C 5),.slice (A 6) (Nn 6) (C 6),.slice (A 7) (Nn 7) (C 7)]:=fun A Nn C=>(by simp[arr8,List.range_succ]);have D1:=B1.out;have O1:=B2.out;rw[hA,E1]at D1;rw[hA',E1]at O1;have d0:=D1.cell 0;have d1:=D1.cell 1;have d2:=D1.cell 2;have d3:=D1.cell 3;have d4:=D1.cell 4;have d5:=D1.cell 5;have d6:=D1.cell 6;have d7:=D1.cell 7;have o0:=O1.cell 0;have o1:=O1.cell 1;have o2:=O1.cell 2;have o3:=O1.cell 3;have o4:=O1.cell 4;have o5:=O1.cell 5;have o6:=O1.cell 6;have o7:=O1.cell 7;simp only[List.getElem?_toArray,List.getElem?_cons_succ,List.getElem?_cons_zero]at d0 d1 d2 d3 d4 d5 d6 d7 o0 o1 o2 o3 o4 o5 o6 o7;have HD:=Lib.hid D1;have HO:=Lib.hid O1;have g0:=D1.frozen 0;have g1:=D1.frozen 1;have g2:=D1.frozen 2;have g3:=D1.frozen 3;have g4:=D1.frozen 4;have g5:=D1.frozen 5;have g6:=D1.frozen 6;have g7:=D1.frozen 7;have j0:=O1.frozen 0;have j1:=O1.frozen 1;have j2:=O1.frozen 2;have j3:=O1.frozen 3;have j4:=O1.frozen 4;have j5:=O1.frozen 5;have j6:=O1.frozen 6;have j7:=O1.frozen 7;have nDO:¬bD=bO:=(by have:=HbO.out;have:=HbD.out;omega);have nOD:¬bO=bD:=fun e=>nDO e.symm;have s0:wr.setCell ⟨bD,0,none⟩ (.slice (A 0) (Nn 0) (C 0))=wr:=D1.set_id (i:=0) rfl;have s1:wr.setCell ⟨bD,1,none⟩ (.slice (A 1) (Nn 1) (C 1))=wr:=D1.set_id (i:=1) rfl;have s2:wr.setCell ⟨bD,2,none⟩ (.slice (A 2) (Nn 2) (C 2))=wr:=D1.set_id (i:=2) rfl;have s3:wr.setCell ⟨bD,3,none⟩ (.slice (A 3) (Nn 3) (C 3))=wr:=D1.set_id (i:=3) rfl;have s4:wr.setCell ⟨bD,4,none⟩ (.slice (A 4) (Nn 4) (C 4))=wr:=D1.set_id (i:=4) rfl;have s5:wr.setCell ⟨bD,5,none⟩ (.slice (A 5) (Nn 5) (C 5))=wr:=D1.set_id (i:=5) rfl;have s6:wr.setCell ⟨bD,6,none⟩ (.slice (A 6) (Nn 6) (C 6))=wr:=D1.set_id (i:=6) rfl;have s7:wr.setCell ⟨bD,7,none⟩ (.slice (A 7) (Nn 7) (C 7))=wr:=D1.set_id (i:=7) rfl;have t0:wr.setCell ⟨bO,0,none⟩ (.slice (A' 0) (Nn' 0) (C' 0))=wr:=O1.set_id (i:=0) rfl;have t1:wr.setCell ⟨bO,1,none⟩ (.slice (A' 1) (Nn' 1) (C' 1))=wr:=O1.set_id (i:=1) rfl;have t2:wr.setCell ⟨bO,2,none⟩ (.slice (A' 2) (Nn' 2) (C' 2))=wr:=O1.set_id (i:=2) rfl;have t3:wr.setCell ⟨bO,3,none⟩ (.slice (A' 3) (Nn' 3) (C' 3))=wr:=O1.set_id (i:=3) rfl;have t4:wr.setCell ⟨bO,4,none⟩ (.slice (A' 4) (Nn' 4) (C' 4))=wr:=O1.set_id (i:=4) rfl;have t5:wr.setCell ⟨bO,5,none⟩ (.slice (A' 5) (Nn' 5) (C' 5))=wr:=O1.set_id (i:=5) rfl;have t6:wr.setCell ⟨bO,6,none⟩ (.slice (A' 6) (Nn' 6) (C' 6))=wr:=O1.set_id (i:=6) rfl;have t7:wr.setCell ⟨bO,7,none⟩ (.slice (A' 7) (Nn' 7) (C' 7))=wr:=O1.set_id (i:=7) rfl;have HE1:=Lib.hid E1;clear D1 O1 E1 B1 B2;have HA:=Lib.hid hA;have HA':=Lib.hid hA';clear hA hA'
   go_region
   go_wp2_with fail
   refine bodyPost_ret (v:=.tuple #[.agg #[.slice (A 0) (Nn 0) (C 0),.slice (A 1) (Nn 1) (C 1),.slice (A 2) (Nn 2) (C 2),.slice (A 3) (Nn 3) (C 3),.slice (A 4) (Nn 4) (C 4),.slice (A 5) (Nn 5) (C 5),.slice (A 6) (Nn 6) (C 6),.slice (A 7) (Nn 7) (C 7)],.agg #[.slice (A' 0) (Nn' 0) (C' 0),.slice (A' 1) (Nn' 1) (C' 1),.slice (A' 2) (Nn' 2) (C' 2),.slice (A' 3) (Nn' 3) (C' 3),.slice (A' 4) (Nn' 4) (C' 4),.slice (A' 5) (Nn' 5) (C' 5),.slice (A' 6) (Nn' 6) (C' 6),.slice (A' 7) (Nn' 7) (C' 7)]]) (by simp[results,Tryz.results126,go_sem,d0,d1,d2,d3,d4,d5,d6,d7,o0,o1,o2,o3,o4,o5,o6,o7]) rfl ?_
   try rw[s0,s1,s2,s3,s4,s5,s6,s7,t0,t1,t2,t3,t4,t5,t6,t7]
   refine⟨V,U,?_,FINR.out _ (Ch.refl _ _).drew,BELF.out.drew⟩;rw[HA.out,HA'.out,HE1.out,HE1.out]
def OutM(τ:Own)(w:World)(bO n m:Nat)(f:Nat→Nat→Int):Prop:=
 ∃U:Nat→Value,Blk w bO 231 (arr8 U)∧(τ bO).1=0∧∀p,p<n→∃g cap cs,U p=.slice (some ⟨g,0,none⟩) m cap∧Blk w g 3 cs∧(τ g).1=0∧∀c,c<m→cs[c]?=some (.int .i64 (f p c))
theorem OutM.chE{τ τ':Own}{S:Nat→Prop}{w w':World}{bO n m:Nat}{f:Nat→Nat→Int}(h:OutM τ w bO n m f)(hc:Ch S w w')(he:∀k,k<w.heap.size→τ' k=τ k)(hS:∀k,S k→(τ k).1≠0):OutM τ' w' bO n m f:=by obtain⟨U,h1,h2,h3⟩:=h;refine⟨U,h1.ch hc fun s=>hS _ s h2,by rw[he _ h1.lt];exact h2,fun p hp=>?_⟩;obtain⟨g,cap,cs,k1,k2,k3,k4⟩:=h3 p hp;exact⟨g,cap,cs,k1,k2.ch hc fun s=>hS _ s k3,by rw[he _ k2.lt];exact k3,k4⟩
theorem OutM.nx{τ τ':Own}{o:Nat}{w w':World}{bO n m:Nat}{f:Nat→Nat→Int}(h:OutM τ w bO n m f)(k:Nx τ o w τ' w')(ho:2≤o):OutM τ' w' bO n m f:=h.chE k.ch k.ext fun i hi=>by omega
theorem OutM.below{τ:Own}{w w':World}{bO n m:Nat}{f:Nat→Nat→Int}(h:OutM τ w bO n m f)(k:Below w.heap.size w w'):OutM τ w' bO n m f:=h.chE (S:=fun _=>False) (Ch.of_below k) (fun _ _=>rfl) (fun _ s=>s.elim)
theorem OutM.cells{τ:Own}{w:World}{bO n m:Nat}{f:Nat→Nat→Int}(h:OutM τ w bO n m f){p c:Nat}(hp:p<n)(hc:c<m)(h8:n≤8):∃g cap,w.cell? ⟨bO,p,none⟩=some (.slice (some ⟨g,0,none⟩) m cap)∧w.cell? ⟨g,c,none⟩=some (.int .i64 (f p c)):=by obtain⟨U,h1,h2,h3⟩:=h;obtain⟨g,cap,cs,k1,k2,k3,k4⟩:=h3 p hp;exact⟨g,cap,by rw[h1.cell,arr8_at _ (by omega),k1],by rw[k2.cell];exact k4 c hc⟩
theorem optI_some(k:Nat):optI (some k)=(k:Int):=rfl
theorem optI_none:optI none=(-1:Int):=rfl
theorem optI_eq{o:Option Nat}{k:Nat}:optI o=(k:Int)↔o=some k:=by
 cases o with
 |none=>simp[optI]
 |some j=>simp[optI];omega
def RdPost(v:Bool)(w:World)(e:Ending)(w':World):Prop:=e=.returned (.bool v)∧Below w.heap.size w w'
theorem bready_any(i k c N:Nat)(outs:Nat→Nat→Option Nat)(bO bB:Nat)(τ τ2:Own)(o:Nat)(w:World)(b:Nat)(X:Bx)(L:BxL)(h:BxM τ o w b X L)(hx:BxOk X N)(hN:N≤1000000000000)(hi:i<X.ports)(hk:k<X.ports)(hc:c<X.classes)(hO:OutM τ2 w bO X.ports X.classes fun p c=>optI (outs p c))(hB:w.cell? ⟨bB,0,none⟩=some (pt b)):Calls Tryz.prog 128 #[.int .i64 i,.int .i64 k,.int .i64 c,pt bO,pt bB] w (RdPost (readyB outs X i k c) w):=by
 obtain⟨g,cap,z1,z2⟩:=hO.cells hi hc hx.p1;have i0:(0:Int)≤(i:Int):=by omega
 have i8:(i:Int)<8:=by have:=hx.p1;omega
 have k0:(0:Int)≤(k:Int):=by omega
 have k8:(k:Int)<8:=by have:=hx.p1;omega
 have c0:(0:Int)≤(c:Int):=by omega
 have c8:(c:Int)<(X.classes:Int):=by omega
 by_cases he:outs i c=some k
 ·obtain⟨hg,t1,t2⟩:=h.tt k c hk hc;have HG:=Lib.hid (tkleft_any _ N _ _ w (hx.t k c hk hc) hN hg);obtain⟨g1,⟨cap1,cs1,e1,e2,e3⟩,_⟩:=h.t k hk;have cg:=h.ct hk hx.p1;rw[e1]at cg;have cc:w.cell? ⟨g1,c,none⟩=some (pt (L.tb k c)):=by rw[e2.cell];exact e3 c hc
  have E:readyB outs X i k c=decide (0<(get2 X.tk k c).left):=by unfold readyB;rw[he];simp
  rw[he,optI_some]at z2;rw[E];generalize(get2 X.tk k c).left=l at HG⊢;clear h hx hg e1 e2 e3 t1 t2 hO E he;unfold pt at *
  go_enter Tryz.func128,Tryz.ntmps128
  by_cases hl:0<l
  ·have hl':decide (0<l)=true:=decide_eq_true hl;rw[hl'];clear hl'
   go_wp2_with (first
    |(go_at_call 129;refine HG.out.mono ?_;rintro e w' ⟨rfl,bel⟩;have BL:=Lib.hid bel;clear bel))
   go_ret
   exact⟨rfl,BL.out⟩
  ·have hl':decide (0<l)=false:=decide_eq_false hl;rw[hl']
   go_wp2_with (first
    |(go_at_call 129;refine HG.out.mono ?_;rintro e w' ⟨rfl,bel⟩;have BL:=Lib.hid bel;clear bel))
   go_ret
   exact⟨rfl,BL.out⟩
 ·have E:readyB outs X i k c=false:=by unfold readyB;simp[he]
  have ne:((k:Int)==optI (outs i c))=false:=by rw[beq_eq_false_iff_ne];exact fun e=>he (optI_eq.1 e.symm)
  have ne2:(optI (outs i c)==(k:Int))=false:=by rw[beq_eq_false_iff_ne];exact fun e=>he (optI_eq.1 e)
  rw[E];generalize optI (outs i c)=q at z2 ne ne2;clear h hx hO E he;unfold pt at *
  go_enter Tryz.func128,Tryz.ntmps128
  go_wp2_with fail
  go_ret
  exact⟨rfl,Below.refl _ _⟩
theorem infoBoolB:(Tryz.prog.info? 4).map (fun i=>(i.zero,i.size,i.bytes))=some (some (.bool false),1,1):=by kernel_rfl
theorem infoBoolsB:(Tryz.prog.info? 52).map (fun i=>(i.zero,i.size,i.bytes))=some (some (.slice none 0 0),1,24):=by kernel_rfl
def reqB(outs:Nat→Nat→Option Nat)(X:Bx)(i k:Nat):Bool:=(List.range X.classes).any fun c=>readyB outs X i k c
def anyTo(f:Nat→Bool)(n:Nat):Bool:=(List.range n).any f
theorem anyTo_succ(f:Nat→Bool)(n:Nat):anyTo f (n+1)=(anyTo f n||f n):=by unfold anyTo;rw[List.range_succ,List.any_append];simp
def rowB(rq:Nat→Bool)(k:Nat)(v:Bool)(x:Nat):Bool:=if x<k then rq x else if x=k then v else false
def rowC(n:Nat)(f:Nat→Bool):Array Value:=((List.range n).map fun x=>Value.bool (f x)).toArray
theorem rowB_next(rq:Nat→Bool)(k:Nat):rowB rq k (rq k)=rowB rq (k+1) false:=by
 funext x;unfold rowB;by_cases h:x<k
 ·rw[if_pos h,if_pos (by omega)]
 ·by_cases h2:x=k
  ·subst h2;simp
  ·rw[if_neg h,if_neg h2,if_neg (by omega)];simp
theorem rowC_set(n:Nat)(rq:Nat→Bool)(k:Nat)(v v':Bool):(rowC n (rowB rq k v)).setIfInBounds k (.bool v')=rowC n (rowB rq k v'):=
 range_arr_set n _ _ k _ fun x _=>by
  unfold rowB;by_cases e:x=k
  ·subst e;simp
  ·simp[e]
theorem rowC_zero(rq:Nat→Bool)(n:Nat):madeCells #[.bool false] n=rowC n (rowB rq 0 false):=by
 have e:∀x,rowB rq 0 false x=false:=fun x=>by unfold rowB;simp
 unfold madeCells rowC;apply Array.ext';simp[e,Nat.mod_one]
theorem rowC_zero2(rq:Nat→Bool)(n:Nat):madeCells (Value.bool false).cells (n*1)=rowC n (rowB rq 0 false):=by rw[Nat.mul_one];exact rowC_zero rq n
def slotV(V:Nat→Value)(i j:Nat):Value:=if j<i then V j else .slice none 0 0
theorem slots_zero(V:Nat→Value)(n:Nat):madeCells #[.slice none 0 0] n=((List.range n).map (slotV V 0)).toArray:=by
 have e:∀x,slotV V 0 x=.slice none 0 0:=fun x=>by unfold slotV;simp
 unfold madeCells;apply Array.ext';simp[e,Nat.mod_one]
structure RqM(w:World)(bL n i:Nat)(V:Nat→Value)(rq:Nat→Nat→Bool):Prop where
 l:Blk w bL 52 (((List.range n).map (slotV V i)).toArray)
 rows:∀j,j<i→∃g,V j=.slice (some ⟨g,0,none⟩) n n∧Blk w g 4 (rowC n (rq j))∧g<w.heap.size
def ReqPost(n:Nat)(rq:Nat→Nat→Bool)(w:World)(e:Ending)(w':World):Prop:=∃R,e=.returned (.slice (some ⟨R,0,none⟩) n n)∧ReqM w' (some ⟨R,0,none⟩) n rq∧Below w.heap.size w w'∧w.heap.size≤R
def RelQ1(n:Nat)(rq:Nat→Nat→Bool)(bL:Nat)(w:World)(i:Value)(wr:World):Prop:=∃(j:Nat) (V:Nat→Value),j≤n∧i=.int .i64 j∧RqM wr bL n j V rq∧Below w.heap.size w wr
def RelQ2(n:Nat)(rq:Nat→Bool)(g:Nat)(w5:World)(i:Value)(wr:World):Prop:=∃k:Nat,k≤n∧i=.int .i64 k∧Blk wr g 4 (rowC n (rowB rq k false))∧Ch (· =g) w5 wr
def RelQ3(n m:Nat)(rq:Nat→Bool)(f:Nat→Bool)(g k:Nat)(w5:World)(i:Value)(wr:World):Prop:=∃c:Nat,c≤m∧i=.int .i64 c∧Blk wr g 4 (rowC n (rowB rq k (anyTo f c)))∧Ch (· =g) w5 wr
theorem brequests_any(N:Nat)(outs:Nat→Nat→Option Nat)(bO bB:Nat)(τ:Own)(o:Nat)(w:World)(b:Nat)(X:Bx)(L:BxL)(h:BxM τ o w b X L)(hx:BxOk X N)(hN:N≤1000000000000)(hO:OutM τ w bO X.ports X.classes fun p c=>optI (outs p c))(hB:w.cell? ⟨bB,0,none⟩=some (pt b)):Calls Tryz.prog 131 #[pt b,.func (.func 128) #[] #[pt bO,pt bB]] w (ReqPost X.ports (reqB outs X) w):=by
 have HM:=Lib.hid h;have HX:=Lib.hid hx;have HO:=Lib.hid hO;have HB:=Lib.hid hB;have c0:=h.c0;have n1:=hx.p0;have n8:=hx.p1;have LB:=Lib.hid h.root.1.lt;have RY:Hid (∀(i k c:Nat) (w':World),Below w.heap.size w w'→i<X.ports→k<X.ports→c<X.classes→Calls Tryz.prog 128 #[.int .i64 i,.int .i64 k,.int .i64 c,.pointer (some ⟨bO,0,none⟩),.pointer (some ⟨bB,0,none⟩)] w' (RdPost (readyB outs X i k c) w')):=fun i k c w' hb hi hk hc=>
  bready_any i k c N outs bO bB τ τ o w' b X L (HM.out.below hb) HX.out hN hi hk hc (HO.out.below hb) ((hb.cell (p:=⟨bB,0,none⟩) (World.block_lt_of_cell? _ _ HB.out)).trans HB.out)
 have C1:Hid (∀w',Below w.heap.size w w'→w'.cell? ⟨b,0,none⟩=some (.int .i64 X.ports)∧w'.cell? ⟨b,0+1,none⟩=some (.int .i64 X.classes)):=fun w' hb=>⟨(HM.out.below hb).c0,(HM.out.below hb).c1⟩;have CL8:=HX.out.c1;obtain⟨i0,hi0,hz0,hz1,hz2⟩:=info_parts infoBoolsB;obtain⟨j0,hj0,hy0,hy1,hy2⟩:=info_parts infoBoolB;clear h hx hO hB;obtain⟨n,hn⟩:∃n,X.ports=n:=⟨_,rfl⟩;obtain⟨m,hm⟩:∃m,X.classes=m:=⟨_,rfl⟩;rw[hn,hm]at C1;rw[hn]at c0 n1 n8 RY;rw[hm]at RY CL8;rw[hn];have RQ:Hid (∀i k,reqB outs X i k=anyTo (fun c=>readyB outs X i k c) m):=fun i k=>by unfold reqB anyTo;rw[hm]
 clear hn hm HX HO HB HM;generalize reqB outs X=rq at *;obtain⟨w1,hw1⟩:∃w1:World,w.alloc (.cells (((List.range n).map (slotV (fun _=>.slice none 0 0) 0)).toArray) 52)=w1:=⟨_,rfl⟩;unfold pt
 go_enter Tryz.func131,Tryz.ntmps131
 go_wp2_with (at_make;refine wpList_make_rec _ rfl _ _ 95 rfl 52 i0 _ 1 Tryz.underlying95 hi0 hz0 hz1 .i64 .i64 _ _ n rfl rfl ?m1 ?m2 (by rw[hz2];omega) (by unfold maxLen;omega) ?_)
 case m1=>rfl
 case m2=>rfl
 rw[slots_zero (fun _=>.slice none 0 0),hw1];have B1:Hid (RqM w1 w.heap.size n 0 (fun _=>.slice none 0 0) rq):=⟨by rw[←hw1];exact Blk.new w _ _,fun j hj=>by omega⟩;have W1:Hid (Below w.heap.size w w1):=by rw[←hw1];exact(Below.refl _ _).alloc (Nat.le_refl _) _
 obtain⟨bL,hbL⟩:∃x,w.heap.size=x:=⟨_,rfl⟩;rw[hbL];rw[hbL]at B1;have HbL:=Lib.hid hbL;clear hw1 hbL c0
 go_loopw [6,7,8,16,32,39] (fun _ _ _ i _ _ wr=>RelQ1 n rq bL w i wr) (fun _ _ _ i _ _ _=>n-(RowKit.intOf i).toNat)
 case atStart=>exact⟨0,_,Nat.zero_le _,rfl,B1.out,W1.out⟩
 case round=>
  obtain⟨i,V,hi,rfl,hM,bel⟩:=hrel;have HM:=Lib.hid hM;have BEL:=Lib.hid bel;by_cases hin:i<n
  ·have ii0:(0:Int)≤(i:Int):=by omega
   have ii8:(i:Int)<(n:Int):=(by omega);obtain⟨c0,c1⟩:=C1.out wr bel;obtain⟨w4,hw4⟩:∃w4:World,wr.alloc (.cells (rowC n (rowB (rq i) 0 false)) 4)=w4:=⟨_,rfl⟩;have LB4:Blk w4 bL 52 (((List.range n).map (slotV V i)).toArray):=(by rw[←hw4];exact hM.l.alloc _);have cl:=LB4.cell i;have fl:=LB4.frozen i;rw[range_arr _ _ hin,show slotV V i i=.slice none 0 0 by unfold slotV;simp]at cl;have s4:w4.heap.size=wr.heap.size+1:=(by rw[←hw4];simp);have HS4:=Lib.hid s4;have G4:Hid (Blk w4 wr.heap.size 4 (rowC n (rowB (rq i) 0 false))):=(by rw[←hw4];exact Blk.new wr _ _);have BW4:Hid (Below wr.heap.size wr w4):=(by rw[←hw4];exact(Below.refl _ _).alloc (Nat.le_refl _) _);have HL4:=Lib.hid LB4;have HLN:=Lib.hid (show bL≠wr.heap.size by have:=hM.l.lt;omega);clear hM bel LB4 s4 c1;obtain⟨g,hg⟩:∃g,wr.heap.size=g:=⟨_,rfl⟩;rw[hg]at HLN G4 HS4 BW4;have HG0:=Lib.hid hg;have HW4:=Lib.hid hw4;clear hw4 hg
   go_wp2_with (at_make;refine wpList_make_rec _ rfl _ _ 52 rfl 4 j0 _ 1 Tryz.underlying52 hj0 hy0 hy1 .i64 .i64 _ _ n (by rfl) (by rfl) (by rfl) (by rfl) (by rw[hy2];omega) (by unfold maxLen;omega) ?_;rw[rowC_zero2 (rq i),HW4.out,HG0.out])
   obtain⟨w5,hw5⟩:∃w5:World,w4.setCell ⟨bL,i,none⟩ (.slice (some ⟨g,0,none⟩) n n)=w5:=⟨_,rfl⟩;rw[hw5];have G5:Hid (Blk w5 g 4 (rowC n (rowB (rq i) 0 false))):=(by rw[←hw5];exact G4.out.far (by simp only;exact HLN.out.symm) _);have BW5:Hid (Below w.heap.size w w5):=(by rw[←hw5];exact(BEL.out.trans (BW4.out.mono (by have:=BEL.out.size;have:=HG0.out;omega))).setCell (by simp only;exact Nat.le_of_eq HbL.out) _);have M5:Hid (∀w',Ch (· =g) w5 w'→Blk w' g 4 (rowC n (rq i))→RqM w' bL n (i+1) (fun j=>if j=i then .slice (some ⟨g,0,none⟩) n n else V j) rq):=fun w' hc hb=>by
    have l5:=HL4.out.set_ i (.slice (some ⟨g,0,none⟩) n n);rw[hw5,range_arr_set n (slotV V i) (slotV (fun j=>if j=i then .slice (some ⟨g,0,none⟩) n n else V j) (i+1)) i (.slice (some ⟨g,0,none⟩) n n) (fun x _=>by
     unfold slotV;by_cases e:x=i
     ·subst e;simp
     ·by_cases e2:x<i
      ·have e3:x<i+1:=by omega
       simp[e,e2,e3]
      ·have e3:¬x<i+1:=by omega
       simp[e,e2,e3])]at l5
    refine⟨l5.ch hc HLN.out,fun j hj=>?_⟩;by_cases e:j=i
    ·subst e;exact⟨g,if_pos rfl,hb,hb.lt⟩
    ·obtain⟨gj,k1,k2,k3⟩:=HM.out.rows j (by omega);have ngj:gj≠g:=by have:=HG0.out;omega
     have k4:Blk w5 gj 4 (rowC n (rq j)):=(by rw[←hw5];exact(k2.below BW4.out (by have:=HG0.out;omega)).far (by simp only;exact Blk.ne_ k2 HM.out.l (by decide)) _);exact⟨gj,by rw[if_neg e];exact k1,k4.ch hc ngj,(k4.ch hc ngj).lt⟩
   have WB:Hid (∀w',Ch (· =g) w5 w'→Below w.heap.size w w'):=fun w' hc=>BW5.out.trans (hc.below (by have:=BW5.out.size;omega) (by rintro k rfl;have:=HG0.out;have:=BEL.out.size;omega));have SZ:Hid (w.heap.size≤g):=(by have:=HG0.out;have:=BEL.out.size;rw[Hid];omega);have LI:Hid (w5.cell? ⟨bL,i,none⟩=some (.slice (some ⟨g,0,none⟩) n n)):=by
    rw[←hw5,Hid,(HL4.out.set_ i _).cell];have:i<(((List.range n).map (slotV V i)).toArray).size:=by simp;exact hin
    simp only[List.setIfInBounds_toArray,List.getElem?_toArray];rw[List.getElem?_set_self (by simpa using hin)]
   have LIn:=Lib.hid HLN.out;have LIs:Hid (bL<w5.heap.size):=(by rw[←hw5,Hid];have:=HL4.out.lt;simpa[World.setCell]using this);clear hw5 HW4 G4 HL4 BW4 HS4 HM BEL HLN c0 cl fl;obtain⟨wo,rfl⟩:∃wo:World,wo=wr:=⟨_,rfl⟩
   go_loopw [7,8,32,39] (fun _ _ k _ wr=>RelQ2 n (rq i) g w5 k wr) (fun _ _ k _ _=>n-(RowKit.intOf k).toNat)
   case atStart=>exact⟨0,Nat.zero_le _,rfl,G5.out,Ch.refl _ _⟩
   case round=>
    obtain⟨k,hk,rfl,hG,hc⟩:=hrel;have HG:=Lib.hid hG;have HC:=Lib.hid hc;by_cases hkn:k<n
    ·have kk0:(0:Int)≤(k:Int):=by omega
     have kk8:(k:Int)<(n:Int):=(by omega);obtain⟨c0,c1⟩:=C1.out wr (WB.out _ hc);have RX:Hid (∀c w',Ch (· =g) w5 w'→c<m→Calls Tryz.prog 128 #[.int .i64 i,.int .i64 k,.int .i64 c,.pointer (some ⟨bO,0,none⟩),.pointer (some ⟨bB,0,none⟩)] w' (RdPost (readyB outs X i k c) w')):=fun c w' hc' h3=>RY.out i k c w' (WB.out _ hc') hin hkn h3;have RQk:Hid (rq i k=anyTo (fun c=>readyB outs X i k c) m):=RQ.out i k;have NX:=Lib.hid (rowB_next (rq i) k);clear hG hc c0
     go_wp2_with fail
     clear c1;obtain⟨f,hf⟩:∃f:Nat→Bool,(fun c=>readyB outs X i k c)=f:=⟨_,rfl⟩;have RXf:Hid (∀c w',Ch (· =g) w5 w'→c<m→Calls Tryz.prog 128 #[.int .i64 i,.int .i64 k,.int .i64 c,.pointer (some ⟨bO,0,none⟩),.pointer (some ⟨bB,0,none⟩)] w' (RdPost (f c) w')):=by rw[←hf];exact RX.out
     rw[hf]at RQk;clear hf RX;obtain⟨wp,rfl⟩:∃wp:World,wp=wr:=⟨_,rfl⟩
     go_loopw [8,39] (fun _ c wr=>RelQ3 n m (rq i) f g k w5 c wr) (fun _ c _=>m-(RowKit.intOf c).toNat)
     case atStart=>exact⟨0,Nat.zero_le _,rfl,HG.out,HC.out⟩
     case round=>
      obtain⟨c,hcc,rfl,hG,hc⟩:=hrel;have HGc:=Lib.hid hG;have HCc:=Lib.hid hc;by_cases hcm:c<m
      ·have RC:=Lib.hid (RXf.out c wr hc hcm);have AS:=Lib.hid (anyTo_succ f c);have LG:Hid (g<wr.heap.size):=hG.lt;have G0:Hid (w5.heap.size≤wr.heap.size):=hc.size;have KC:Hid (∀w',Below wr.heap.size wr w'→w'.cell? ⟨bL,i,none⟩=some (.slice (some ⟨g,0,none⟩) n n)∧Blk w' g 4 (rowC n (rowB (rq i) k (anyTo f c)))∧Ch (· =g) w5 w'):=fun w' hb=>by
        refine⟨?_,HGc.out.below hb LG.out,HCc.out.thenBelow hb⟩;have h1:=LI.out;rw[hb.cell (p:=⟨bL,i,none⟩) (by have:=LIs.out;have:=G0.out;simp only;omega),HCc.out.cell (p:=⟨bL,i,none⟩) LIs.out LIn.out];exact h1
       clear hG hc;cases hfc:f c with
       |true=>
        rw[hfc]at RC AS;have HF:=Lib.hid hfc;clear hfc
        go_wp2_with (first|(go_at_call 128;refine RC.out.mono ?_;rintro e w' ⟨rfl,bel⟩;obtain⟨q1,q2,q3⟩:=KC.out _ bel;have f2:=q2.frozen k;have c2:=q2.cell k;rw[show(rowC n (rowB (rq i) k (anyTo f c)))[k]?=some (.bool (rowB (rq i) k (anyTo f c) k))from range_arr _ _ hkn]at c2;have Q2:=Lib.hid q2;have Q3:=Lib.hid q3;clear q2 q3 bel))
        have G7:=Q2.out.set_ k (.bool true);rw[rowC_set]at G7;exact⟨⟨c+1,by omega,by simp,by rw[AS.out,Bool.or_true];exact G7,Q3.out.setCell (p:=⟨g,k,none⟩) (.inl rfl) _⟩,by simp[RowKit.intOf];omega⟩
       |false=>
        rw[hfc]at RC AS;have HF:=Lib.hid hfc;clear hfc
        go_wp2_with (first|(go_at_call 128;refine RC.out.mono ?_;rintro e w' ⟨rfl,bel⟩;obtain⟨q1,q2,q3⟩:=KC.out _ bel;have Q2:=Lib.hid q2;have Q3:=Lib.hid q3;clear q2 q3 bel))
        exact⟨⟨c+1,by omega,by simp,by rw[AS.out,Bool.or_false];exact Q2.out,Q3.out⟩,by simp[RowKit.intOf];omega⟩
      ·obtain rfl:m=c:=by omega
       have FIN:Hid (RelQ2 n (rq i) g w5 (.int .i64 ((k+1:Nat):Int)) wr):=⟨k+1,by omega,rfl,by rw[←NX.out,RQk.out];exact hG,hc⟩;clear hG hc
       go_wp2_with fail
       exact⟨by simpa using FIN.out,by simp[RowKit.intOf];omega⟩
    ·obtain rfl:n=k:=by omega
     have ER:Hid (rowB (rq i) n false=rowB (rq i) n (rq i n)∨True):=.inr trivial;have EQ:rowC n (rowB (rq i) n false)=rowC n (rq i):=(by unfold rowC;congr 1;refine List.map_congr_left fun x hx=>?_;have:=List.mem_range.1 hx;unfold rowB;rw[if_pos this]);rw[EQ]at hG;have FIN:Hid (RelQ1 n rq bL w (.int .i64 ((i+1:Nat):Int)) wr):=⟨i+1,_,by omega,rfl,M5.out wr hc hG,WB.out _ hc⟩;clear hG hc EQ
     go_wp2_with fail
     exact⟨by simpa using FIN.out,by simp[RowKit.intOf];omega⟩
  ·obtain rfl:n=i:=by omega
   have FIN:Hid (ReqPost n rq w (.returned (.slice (some ⟨bL,0,none⟩) n n)) wr):=(by refine⟨bL,rfl,⟨n1,n8,bL,V,_,rfl,hM.l,fun j hj=>?_⟩,bel,Nat.le_of_eq HbL.out⟩;obtain⟨g,k1,k2,k3⟩:=hM.rows j hj;refine⟨?_,g,n,_,k1,k2,fun k hk=>range_arr _ _ hk⟩;rw[range_arr _ _ hj];unfold slotV;rw[if_pos hj]);clear hM bel
   go_wp2_with fail
   go_ret
   exact FIN.out
end Go.Proofs.YtnjjkgjdhljfnaaGreat
namespace Go.Proofs.YtnjjkgjdhljfnaaGreat
open Go.RowKit Go.Maps
def cM(x:Mv):List Value:=[.int .i64 x.1,.int .i64 x.2.1,.int .i64 (optI x.2.2.1)]
theorem cM_length(x:Mv):(cM x).length=3:=rfl
theorem Nx.loc{τ0 τ:Own}{o:Nat}{w0 w w':World}{S:Nat→Prop}(h:Nx τ0 o w0 τ w)(hc:Ch S w w')(hS:∀k,S k→w0.heap.size≤k):Nx τ0 o w0 (fr τ w.heap.size) w' where
 ch:=h.ch.trans hc fun i hi s=>by have:=hS i s;omega
 ext:=fun k hk=>(fr_old (Nat.lt_of_lt_of_le hk h.ch.size)).trans (h.ext k hk)
 fresh:=fun k h1 h2=>by
  by_cases hk:k<w.heap.size
  ·rw[fr_old hk];exact h.fresh k h1 hk
  ·rw[fr_new (by omega)];exact .inr (Nat.zero_le _)
theorem own_blk{w:World}{base:Nat}{e:TypeId}{m n:Nat}{v:Value}{xs:List Value}(h:w.ownsRow base e m v n xs):∀g,v.ownBlock=some g→∃cs,Blk w g e cs:=fun g hg=>by
 rcases h.2 with⟨rfl,_⟩|⟨g1,cap,cur,rfl,_,hh,_⟩
 ·simp[Value.ownBlock]at hg
 ·simp[Value.ownBlock]at hg;subst hg;exact⟨cur,hh⟩
theorem own_blk1{w:World}{base:Nat}{e:TypeId}{n:Nat}{v:Value}{xs:List Value}(h:w.ownsRow base e 1 v n xs)(hn:0<n):∃g cap cs,v=.slice (some ⟨g,0,none⟩) n cap∧Blk w g e cs∧base≤g∧∀i,i<n→cs[i]?=xs[i]?:=by
 rcases h.2 with⟨_,h0⟩|⟨g,cap,cur,rfl,hb,hh,_,_,_,ht⟩
 ·omega
 ·refine⟨g,cap,cur,rfl,hh,hb,fun i hi=>?_⟩;rw[←ht,Nat.mul_one,List.getElem?_take,if_pos hi,Array.getElem?_toList]
structure StM(τ0:Own)(w0:World)(o b bB bMv bFr bD bO:Nat)(D O:Nat→Nat→Int)(n m:Nat)(τ:Own)(w:World)(X:Bx)(L:BxL)(mm:List Mv)(vM vF:Value)(Q:List (Fm×Value)):Prop where
 bx:BxM τ o w b X L
 nx:Nx τ0 o w0 τ w
 vb:Blk w bB 101 #[pt b]∧(τ bB).1=0
 vm:Blk w bMv 185 #[vM]∧(τ bMv).1=0∧w0.heap.size≤bMv
 vf:Blk w bFr 110 #[vF]∧(τ bFr).1=0∧w0.heap.size≤bFr
 om:w.ownsRow w0.heap.size 189 3 vM mm.length (mm.flatMap cM)∧∀g,vM.ownBlock=some g→(τ g).1=0
 of':w.ownsRow w0.heap.size 59 6 vF Q.length (Q.flatMap cFm)∧∀g,vF.ownBlock=some g→(τ g).1=0
 dat:∀x∈Q,IsDat τ w x.1.data x.2
 dd:OutM τ w bD n m D
 oo:OutM τ w bO n m O
theorem OutM.of_rows{τ:Own}{w wr:World}{B g n m:Nat}{V:Nat→Value}{f:Nat→Nat→Int}(hB:Blk wr g 231 (arr8 V))(hg:(τ g).1=0)(hm:0<m)(ht:∀k,B≤k→k<w.heap.size→(τ k).1=0)(hr:∀p,p<n→∃xs:List Value,w.ownsRow B 3 1 (V p) m xs∧∀c,c<m→xs[c]?=some (.int .i64 (f p c)))(hb:Below w.heap.size w wr):OutM τ wr g n m f:=by refine⟨V,hB,hg,fun p hp=>?_⟩;obtain⟨xs,h1,h2⟩:=hr p hp;obtain⟨g',cap,cs,e,hbk,hbase,hc⟩:=own_blk1 h1 hm;exact⟨g',cap,cs,e,hbk.below hb hbk.lt,ht g' hbase hbk.lt,fun c hc'=>by rw[hc c hc',h2 c hc']⟩
section
variable{τ0 τ τ':Own}{w0 w w' w2 w3 wp:World}{o b bB bMv bFr bD bO n m:Nat}{D O:Nat→Nat→Int}{X X':Bx}{L L':BxL}{mm:List Mv}{vM vF v':Value}{Q:List (Fm×Value)}
theorem StM.below(h:StM τ0 w0 o b bB bMv bFr bD bO D O n m τ w X L mm vM vF Q)(k:Below w.heap.size w w'):StM τ0 w0 o b bB bMv bFr bD bO D O n m (fr τ w.heap.size) w' X L mm vM vF Q:=by
 have hc:Ch (fun _=>False) w w':=Ch.of_below k;have he:∀i,i<w.heap.size→fr τ w.heap.size i=τ i:=fun i hi=>fr_old hi;exact{
  bx:=h.bx.chE hc he (fun _ s=>s.elim)
  nx:=h.nx.loc hc (fun _ s=>s.elim)
  vb:=⟨h.vb.1.below k h.vb.1.lt,by rw[he _ h.vb.1.lt];exact h.vb.2⟩
  vm:=⟨h.vm.1.below k h.vm.1.lt,by rw[he _ h.vm.1.lt];exact h.vm.2.1,h.vm.2.2⟩
  vf:=⟨h.vf.1.below k h.vf.1.lt,by rw[he _ h.vf.1.lt];exact h.vf.2.1,h.vf.2.2⟩
  om:=⟨own_ch h.om.1 hc (fun _ _ s=>s.elim),fun g hg=>by rw[he _ (h.om.1.lt g hg).2];exact h.om.2 g hg⟩
  of':=⟨own_ch h.of'.1 hc (fun _ _ s=>s.elim),fun g hg=>by rw[he _ (h.of'.1.lt g hg).2];exact h.of'.2 g hg⟩
  dat:=fun x hx=>(h.dat x hx).chE hc he (fun _ s=>s.elim)
  dd:=h.dd.chE hc he (fun _ s=>s.elim)
  oo:=h.oo.chE hc he (fun _ s=>s.elim)}
theorem StM.drew(h:StM τ0 w0 o b bB bMv bFr bD bO D O n m τ w X L mm vM vF Q):StM τ0 w0 o b bB bMv bFr bD bO D O n m τ w.drew X L mm vM vF Q where
 bx:=h.bx.drew
 nx:=h.nx.drew
 vb:=h.vb
 vm:=h.vm
 vf:=h.vf
 om:=h.om
 of':=h.of'
 dat:=fun x hx=>(h.dat x hx).chE (S:=fun _=>False) (Ch.refl _ w).drew (fun _ _=>rfl) (fun _ s=>s.elim)
 dd:=h.dd.below ⟨rfl,rfl,rfl,Nat.le_refl _,fun _ _=>rfl⟩
 oo:=h.oo.below ⟨rfl,rfl,rfl,Nat.le_refl _,fun _ _=>rfl⟩
theorem StM.post(h:StM τ0 w0 o b bB bMv bFr bD bO D O n m τ w X L mm vM vF Q)(ho:2≤o)(hx:BxM τ' o w' b X' L')(k:Nx τ o w τ' w'):StM τ0 w0 o b bB bMv bFr bD bO D O n m τ' w' X' L' mm vM vF Q where
 bx:=hx
 nx:=h.nx.trans k
 vb:=⟨h.vb.1.ch k.ch (by rw[h.vb.2];omega),by rw[k.ext _ h.vb.1.lt];exact h.vb.2⟩
 vm:=⟨h.vm.1.ch k.ch (by rw[h.vm.2.1];omega),by rw[k.ext _ h.vm.1.lt];exact h.vm.2.1,h.vm.2.2⟩
 vf:=⟨h.vf.1.ch k.ch (by rw[h.vf.2.1];omega),by rw[k.ext _ h.vf.1.lt];exact h.vf.2.1,h.vf.2.2⟩
 om:=⟨own_ch h.om.1 k.ch (fun g hg=>by rw[h.om.2 g hg];omega),fun g hg=>by rw[k.ext _ (h.om.1.lt g hg).2];exact h.om.2 g hg⟩
 of':=⟨own_ch h.of'.1 k.ch (fun g hg=>by rw[h.of'.2 g hg];omega),fun g hg=>by rw[k.ext _ (h.of'.1.lt g hg).2];exact h.of'.2 g hg⟩
 dat:=fun x hx=>(h.dat x hx).nx k ho
 dd:=h.dd.nx k ho
 oo:=h.oo.nx k ho
theorem StM.keep{S:Nat→Prop}(h:StM τ0 w0 o b bB bMv bFr bD bO D O n m τ w X L mm vM vF Q)(ho:2≤o)(hc:Ch S w w')(hS:∀k,S k→(τ k).1=0∧w0.heap.size≤k∧k≠bB)(hd:∀k,S k→∃t cs,Blk w k t cs∧t≠231∧t≠3):BxM (fr τ w.heap.size) o w' b X L∧Nx τ0 o w0 (fr τ w.heap.size) w'∧(Blk w' bB 101 #[pt b]∧(fr τ w.heap.size bB).1=0)∧(∀x∈Q,IsDat (fr τ w.heap.size) w' x.1.data x.2)∧OutM (fr τ w.heap.size) w' bD n m D∧OutM (fr τ w.heap.size) w' bO n m O:=by
 have he:∀i,i<w.heap.size→fr τ w.heap.size i=τ i:=fun i hi=>fr_old hi;have ho':∀(bO:Nat) (O:Nat→Nat→Int),OutM τ w bO n m O→OutM (fr τ w.heap.size) w' bO n m O:=fun bO O hO=>by
  obtain⟨U,h1,h2,h3⟩:=hO;refine⟨U,h1.ch hc fun s=>?_,by rw[he _ h1.lt];exact h2,fun p hp=>?_⟩
  ·obtain⟨t,cs,b1,b2,b3⟩:=hd _ s;exact b2 (Blk.same h1 b1).1.symm
  ·obtain⟨g,cap,cs,k1,k2,k3,k4⟩:=h3 p hp;refine⟨g,cap,cs,k1,k2.ch hc fun s=>?_,by rw[he _ k2.lt];exact k3,k4⟩;obtain⟨t,cs',b1,b2,b3⟩:=hd _ s;exact b3 (Blk.same k2 b1).1.symm
 exact⟨h.bx.chE hc he (fun k s=>by have:=(hS k s).1;omega),h.nx.loc hc (fun k s=>(hS k s).2.1),⟨h.vb.1.ch hc fun s=>(hS _ s).2.2 rfl,by rw[he _ h.vb.1.lt];exact h.vb.2⟩,
  fun x hx=>(h.dat x hx).chE hc he fun k s=>by have:=(hS k s).1;omega,ho' _ _ h.dd,ho' _ _ h.oo⟩
theorem StM.pushM{mv:Mv}{o1:Obj}(h:StM τ0 w0 o b bB bMv bFr bD bO D O n m τ w X L mm vM vF Q)(ho:2≤o)(hb:w0.heap.size≤w.heap.size)(hbB:bB≠bMv)(own1:w2.ownsRow w0.heap.size 189 3 v' (mm.length+1) (mm.flatMap cM++cM mv))(gr:(w.alloc o1).grownBy w2 vM.ownBlock)(loc:v'.ownBlock=vM.ownBlock∨v'.ownBlock=some (w.heap.size+1)):Blk w2 bMv 185 #[vM]∧StM τ0 w0 o b bB bMv bFr bD bO D O n m (fr τ w.heap.size) (w2.setCell ⟨bMv,0,none⟩ v') X L (mm++[mv]) v' vF Q∧∀g cs,Blk w g 3 cs→Blk (w2.setCell ⟨bMv,0,none⟩ v') g 3 cs∧fr τ w.heap.size g=τ g:=by
 have hc2:Ch (fun k=>k=bMv∨vM.ownBlock=some k) w w2:=((Ch.refl _ w).alloc o1).grown gr fun g hg=>.inl (.inr hg);have hc:Ch (fun k=>k=bMv∨vM.ownBlock=some k) w (w2.setCell ⟨bMv,0,none⟩ v'):=hc2.setCell (p:=⟨bMv,0,none⟩) (.inl (.inl rfl)) v';have vblk:∀g,vM.ownBlock=some g→∃cs,Blk w g 189 cs:=own_blk h.om.1;have nM:∀g,vM.ownBlock=some g→bMv≠g:=fun g hg e=>by obtain⟨cs,hb⟩:=vblk g hg;exact Blk.ne_ h.vm.1 hb (by decide) e
 obtain⟨k1,k2,k3,k4,k5,k6⟩:=h.keep ho hc (fun k s=>by
  rcases s with s|s
  ·subst s;exact⟨h.vm.2.1,h.vm.2.2,hbB.symm⟩
  ·refine⟨h.om.2 k s,(h.om.1.lt k s).1,fun e=>?_⟩;obtain⟨cs,hb⟩:=vblk k s;subst e;exact Blk.ne_ h.vb.1 hb (by decide) rfl) (fun k s=>by
  rcases s with s|s
  ·subst s;exact⟨_,_,h.vm.1,by decide,by decide⟩
  ·obtain⟨cs,hb⟩:=vblk k s;exact⟨_,_,hb,by decide,by decide⟩)
 have b2:Blk w2 bMv 185 #[vM]:=(h.vm.1.alloc o1).grown gr fun e=>nM _ e.symm rfl;have he:∀i,i<w.heap.size→fr τ w.heap.size i=τ i:=fun i hi=>fr_old hi;refine⟨b2,?_,fun g cs hb=>⟨hb.ch hc fun s=>?_,he _ hb.lt⟩⟩;rotate_left
 ·rcases s with s|s
  ·have h1:=h.vm.1;rw[←s]at h1;exact Blk.ne_ hb h1 (by decide) rfl
  ·obtain⟨cs,hb'⟩:=vblk _ s;exact Blk.ne_ hb hb' (by decide) rfl
 refine⟨k1,k2,k3,⟨?_,?_,h.vm.2.2⟩,⟨h.vf.1.ch hc fun s=>?_,by rw[he _ h.vf.1.lt];exact h.vf.2.1,h.vf.2.2⟩,⟨?_,fun g hg=>?_⟩,⟨own_ch h.of'.1 hc fun g hg s=>?_,fun g hg=>by rw[he _ (h.of'.1.lt g hg).2];exact h.of'.2 g hg⟩,k4,k5,k6⟩
 ·have:=b2.set_ 0 v';simpa using this
 ·rw[he _ h.vm.1.lt];exact h.vm.2.1
 ·rcases s with s|s
  ·have h1:=h.vm.1;rw[←s]at h1;exact Blk.ne_ h.vf.1 h1 (by decide) rfl
  ·obtain⟨cs,hb⟩:=vblk _ s;exact Blk.ne_ h.vf.1 hb (by decide) rfl
 ·have h1:=own_set own1 (p:=⟨bMv,0,none⟩) v' fun g hg e=>by
   obtain⟨cs,hb⟩:=own_blk own1 g hg;exact Blk.ne_ b2 hb (by decide) (by rw[e])
  simpa[cM]using h1
 ·rcases loc with q|q
  ·rw[q]at hg;rw[he _ (h.om.1.lt g hg).2];exact h.om.2 g hg
  ·rw[q]at hg;injection hg with hg;rw[fr_new (by omega)]
 ·obtain⟨cs',hb'⟩:=own_blk h.of'.1 g hg;rcases s with s|s
  ·have h1:=h.vm.1;rw[←s]at h1;exact Blk.ne_ hb' h1 (by decide) rfl
  ·obtain⟨cs,hb⟩:=vblk _ s;exact Blk.ne_ hb' hb (by decide) rfl
theorem StM.pushF{x:Fm}{v:Value}{o1:Obj}(h:StM τ0 w0 o b bB bMv bFr bD bO D O n m τ w X L mm vM vF Q)(ho:2≤o)(hb:w0.heap.size≤w.heap.size)(hbB:bB≠bFr)(hx:IsDat τ w x.data v)(own1:w2.ownsRow w0.heap.size 59 6 v' (Q.length+1) (Q.flatMap cFm++cFm (x,v)))(gr:(w.alloc o1).grownBy w2 vF.ownBlock)(loc:v'.ownBlock=vF.ownBlock∨v'.ownBlock=some (w.heap.size+1)):Blk w2 bFr 110 #[vF]∧StM τ0 w0 o b bB bMv bFr bD bO D O n m (fr τ w.heap.size) (w2.setCell ⟨bFr,0,none⟩ v') X L mm vM v' (Q++[(x,v)])∧∀g cs,Blk w g 3 cs→Blk (w2.setCell ⟨bFr,0,none⟩ v') g 3 cs∧fr τ w.heap.size g=τ g:=by
 have hc2:Ch (fun k=>k=bFr∨vF.ownBlock=some k) w w2:=((Ch.refl _ w).alloc o1).grown gr fun g hg=>.inl (.inr hg);have hc:Ch (fun k=>k=bFr∨vF.ownBlock=some k) w (w2.setCell ⟨bFr,0,none⟩ v'):=hc2.setCell (p:=⟨bFr,0,none⟩) (.inl (.inl rfl)) v';have vblk:∀g,vF.ownBlock=some g→∃cs,Blk w g 59 cs:=own_blk h.of'.1;have nM:∀g,vF.ownBlock=some g→bFr≠g:=fun g hg e=>by obtain⟨cs,hb⟩:=vblk g hg;exact Blk.ne_ h.vf.1 hb (by decide) e
 have hS0:∀k,(k=bFr∨vF.ownBlock=some k)→(τ k).1=0:=fun k s=>by
  rcases s with s|s
  ·subst s;exact h.vf.2.1
  ·exact h.of'.2 k s
 obtain⟨k1,k2,k3,k4,k5,k6⟩:=h.keep ho hc (fun k s=>by
  rcases s with s|s
  ·subst s;exact⟨h.vf.2.1,h.vf.2.2,hbB.symm⟩
  ·refine⟨h.of'.2 k s,(h.of'.1.lt k s).1,fun e=>?_⟩;obtain⟨cs,hb⟩:=vblk k s;subst e;exact Blk.ne_ h.vb.1 hb (by decide) rfl) (fun k s=>by
  rcases s with s|s
  ·subst s;exact⟨_,_,h.vf.1,by decide,by decide⟩
  ·obtain⟨cs,hb⟩:=vblk k s;exact⟨_,_,hb,by decide,by decide⟩)
 have b2:Blk w2 bFr 110 #[vF]:=(h.vf.1.alloc o1).grown gr fun e=>nM _ e.symm rfl;have he:∀i,i<w.heap.size→fr τ w.heap.size i=τ i:=fun i hi=>fr_old hi;refine⟨b2,?_,fun g cs hb=>⟨hb.ch hc fun s=>?_,he _ hb.lt⟩⟩;rotate_left
 ·rcases s with s|s
  ·have h1:=h.vf.1;rw[←s]at h1;exact Blk.ne_ hb h1 (by decide) rfl
  ·obtain⟨cs,hb'⟩:=vblk _ s;exact Blk.ne_ hb hb' (by decide) rfl
 refine⟨k1,k2,k3,⟨h.vm.1.ch hc fun s=>?_,by rw[he _ h.vm.1.lt];exact h.vm.2.1,h.vm.2.2⟩,⟨?_,?_,h.vf.2.2⟩,⟨own_ch h.om.1 hc fun g hg s=>?_,fun g hg=>by rw[he _ (h.om.1.lt g hg).2];exact h.om.2 g hg⟩,⟨?_,fun g hg=>?_⟩,fun y hy=>?_,k5,k6⟩
 ·rcases s with s|s
  ·have h1:=h.vf.1;rw[←s]at h1;exact Blk.ne_ h.vm.1 h1 (by decide) rfl
  ·obtain⟨cs,hb⟩:=vblk _ s;exact Blk.ne_ h.vm.1 hb (by decide) rfl
 ·have:=b2.set_ 0 v';simpa using this
 ·rw[he _ h.vf.1.lt];exact h.vf.2.1
 ·obtain⟨cs',hb'⟩:=own_blk h.om.1 g hg;rcases s with s|s
  ·have h1:=h.vf.1;rw[←s]at h1;exact Blk.ne_ hb' h1 (by decide) rfl
  ·obtain⟨cs,hb⟩:=vblk _ s;exact Blk.ne_ hb' hb (by decide) rfl
 ·have h1:=own_set own1 (p:=⟨bFr,0,none⟩) v' fun g hg e=>by
   obtain⟨cs,hb⟩:=own_blk own1 g hg;exact Blk.ne_ b2 hb (by decide) (by rw[e])
  simpa[cFm]using h1
 ·rcases loc with q|q
  ·rw[q]at hg;rw[he _ (h.of'.1.lt g hg).2];exact h.of'.2 g hg
  ·rw[q]at hg;injection hg with hg;rw[fr_new (by omega)]
 ·rcases List.mem_append.1 hy with hy|hy
  ·exact k4 y hy
  ·simp only[List.mem_singleton]at hy;subst hy;exact hx.chE hc he fun k s=>by have:=hS0 k s;omega
end
end Go.Proofs.YtnjjkgjdhljfnaaGreat
