/- Part 8. -/
import Derived.Deep.CutBlock
import Derived.Deep.DeepCutAuto
import Derived.Test.YtnjjkgjdhljfnaaGreatPk7
open Go.Proofs.Tryz
open Array renaming ext'->sW,ext_getElem?->zm
open Classical renaming choose->mg
open Go renaming Calls->bZ,TypeId->dL,Value->aI,World->aG,info_parts->dX,madeCells->dS,maxLen->fB
open Go.Ending renaming returned->ax
open Go.IntKind renaming i64->ag
open Go.Lib renaming hid->aA
open Go.Obj renaming cells->af
open Go.Proofs.Tryz renaming prog->aH
open Go.RowKit renaming Below->aN,Hid->aY,intOf->aJ
open Go.RowKit.Below renaming refl->aQ
open Go.Value renaming bool->iN,int->ah,ownBlock->dV,pointer->au,slice->ay
open Go.World renaming ownsRow_nil->dM,setCell->iK
open List renaming getElem?_cons_succ->fC,getElem?_cons_zero->dD,getElem?_toArray->di,map_append->eY,range->aO,range_succ->dB
open Nat renaming le_of_eq->vZ,le_refl->aC,mod_one->qU,mul_one->oQ,zero_le->bS
open Option renaming none->aj,some->az
open Prod renaming ext->JN
open Prod.mk renaming injEq->qy
set_option maxRecDepth 100000
set_option maxHeartbeats 16000000
set_option linter.unusedVariables false
set_option linter.unusedSimpArgs false
namespace Go.Proofs.YtnjjkgjdhljfnaaGreat
open Go.RowKit Go.Maps
section
attribute [local go_sem ↓] Go.wp_at_zero Go.wp_at_succ
theorem dh.rJ{w:aG}{g:Nat}{t:dL}{cs:Array aI}(h:dh w g t cs){i:Nat}{u:aI}(hu:cs[i]?=az u):w.setCell ⟨g,i,aj⟩ u=w:=by
 have e:cs.setIfInBounds i u=cs:=by
  apply zm;intro j;rw[Array.getElem?_setIfInBounds];by_cases e:i=j
  ·subst e;have hl:i<cs.size:=by
    rcases Nat.lt_or_ge i cs.size with h|h
    ·exact h
    ·rw[Array.getElem?_eq_none h]at hu;cases hu
   simp[hl];simpa[hl]using hu.symm
  ·simp[e]
 unfold iK;cases w with
 |mk heap tape drawn os output=>
  simp only[World.mk.injEq,and_true,true_and];apply zm;intro j;rw[Array.getElem?_modify];by_cases e2:g=j
  ·subst e2;have h':heap[g]?=az (.cells cs t (0,0)):=h;simp[h',e]
  ·simp[e2]
def uq(f:Nat->aI):Array aI:=((aO 8).map f).toArray
def kK(V:Nat->aI)(p:Nat)(v:aI)(q:Nat):aI:=if q<p then V q else if q=p then v else ay aj 0 0
theorem JQ(f:Nat->aI){i:Nat}(h:i<8):(uq f)[i]?=az (f i):=rU 8 f h
theorem aek(f g:Nat->aI)(j:Nat)(v:aI)(h:∀i,i<8->g i=if i=j then v else f i):(uq f).setIfInBounds j v=uq g:=mH 8 f g j v h
theorem Qo(V:Nat->aI)(p:Nat)(v v':aI):(uq (kK V p v)).setIfInBounds p v'=uq (kK V p v'):=aek _ _ _ _ fun i _=>by
 unfold kK;by_cases e:i=p
 ·subst e;simp
 ·simp[e]
theorem Nk(V:Nat->aI)(p:Nat)(v:aI):kK (fun q=>if q=p then v else V q) (p+1) (ay aj 0 0)=kK V p v:=by
 funext q;unfold kK;by_cases e:q<p
 ·have e3:¬q=p:=by omega
  have e4:q<p+1:=by omega
  simp[e,e3,e4]
 ·by_cases e2:q=p
  ·subst e2;simp
  ·have e4:¬q<p+1:=by omega
   simp[e,e2,e4]
theorem YF{bE:Nat}{rt:Fm->Option Nat}{f:Fm}{l:List Fm}{k:Nat}(h:rt f=az k)(hk:k<bE):lookQ bE rt (f::l)=(0,az k):=by unfold lookQ;simp[h,hk]
theorem VV{bE:Nat}{rt:Fm->Option Nat}{f:Fm}{l:List Fm}(h:∀k,rt f=az k->¬k<bE):lookQ bE rt (f::l)=((lookQ bE rt l).1+1,(lookQ bE rt l).2):=by
 rw[lookQ];cases hr:rt f with
 |none=>rfl
 |some k=>simp only;rw[if_neg (h k hr)]
theorem qh{w:aG}{base:Nat}{e:dL}{m n:Nat}{v:aI}{xs:List aI}(h:w.ownsRow base e m v n xs):∃a n c,v=ay a n c:=by
 rcases h.2 with⟨rfl,_⟩|⟨g,cap,cur,rfl,_⟩
 ·exact⟨_,_,_,rfl⟩
 ·exact⟨_,_,_,rfl⟩
theorem xJ(V:Nat->aI)(p:Nat)(h:∀q,q<p->∃a n c,V q=ay a n c):∃(A:Nat->Option Addr) (Nn C:Nat->Nat),kK V p (ay aj 0 0)=fun i=>ay (A i) (Nn i) (C i):=by
 have h2:∀q,∃t:Option Addr×Nat×Nat,kK V p (ay aj 0 0) q=ay t.1 t.2.1 t.2.2:=fun q=>by
  unfold kK;by_cases e:q<p
  ·obtain⟨a,n,c,e2⟩:=h q e;exact⟨(a,n,c),by simp[e,e2]⟩
  ·exact⟨(aj,0,0),by simp[e]⟩
 exact⟨fun i=>(mg (h2 i)).1,fun i=>(mg (h2 i)).2.1,fun i=>(mg (h2 i)).2.2,funext fun i=>Classical.choose_spec (h2 i)⟩
def Pg(X:Bx)(bz:Nat->Fm->Option Nat)(p c:Nat):Nat:=(lookQ X.bE (bz p) (dR X.q p c)).1
def YM(X:Bx)(bz:Nat->Fm->Option Nat)(p c:Nat):Option Nat:=(lookQ X.bE (bz p) (dR X.q p c)).2
def Ha(X:Bx)(bz:Nat->Fm->Option Nat)(p n:Nat):List Int:=(aO n).map fun c=>(Pg X bz p c:Int)
def Hd(X:Bx)(bz:Nat->Fm->Option Nat)(p n:Nat):List Int:=(aO n).map fun c=>pQ (YM X bz p c)
theorem acB(X:Bx)(bz:Nat->Fm->Option Nat)(p n:Nat):Ha X bz p (n+1)=Ha X bz p n++[(Pg X bz p n:Int)]:=by unfold Ha;rw[dB,eY];rfl
theorem acD(X:Bx)(bz:Nat->Fm->Option Nat)(p n:Nat):Hd X bz p (n+1)=Hd X bz p n++[pQ (YM X bz p n)]:=by unfold Hd;rw[dB,eY];rfl
structure NF(w:aG)(K:Nat)(vD vO:aI)(lD lO:List Int):Prop where
 d:w.ownsRow K 3 1 vD lD.length (lD.flatMap cI)
 o:w.ownsRow K 3 1 vO lO.length (lO.flatMap cI)
 ap:∀g,vD.ownBlock=az g->vO.ownBlock≠az g
theorem NF.ch{S:Nat->Prop}{w w':aG}{K:Nat}{vD vO:aI}{lD lO:List Int}(h:NF w K vD vO lD lO)(hc:Ch S w w')(hS:∀k,S k->k<K):NF w' K vD vO lD lO:=
 ⟨fO h.d hc fun g hg s=>by have:=(h.d.lt g hg).1;have:=hS g s;omega,fO h.o hc fun g hg s=>by have:=(h.o.lt g hg).1;have:=hS g s;omega,h.ap⟩
structure EM(w:aG)(bD bO B:Nat)(X:Bx)(bz:Nat->Fm->Option Nat)(p:Nat)(vD vO:aI)(V U:Nat->aI):Prop where
 d:dh w bD 231 (uq (kK V p vD))
 o:dh w bO 231 (uq (kK U p vO))
 ne:bD≠bO
 ld:bD<B
 lo:bO<B
 rows:∀q,q<p->NF w B (V q) (U q) (Ha X bz q X.aX) (Hd X bz q X.aX)
theorem EM.below{w w':aG}{bD bO B:Nat}{X:Bx}{bz:Nat->Fm->Option Nat}{p:Nat}{vD vO:aI}{V U:Nat->aI}(h:EM w bD bO B X bz p vD vO V U)(k:aN w.heap.size w w'):EM w' bD bO B X bz p vD vO V U:=
 ⟨h.d.below k h.d.lt,h.o.below k h.o.lt,h.ne,h.ld,h.lo,fun q hq=>(h.rows q hq).ch (S:=fun _=>False) (Ch.bY k) (fun _ s=>s.elim)⟩
section
variable{wo wr w2 w4:aG}{bD bO K B:Nat}{X:Bx}{bz:Nat->Fm->Option Nat}{p:Nat}{vD vO v1 v3:aI}{V U:Nat->aI}{lD lO:List Int}{n o:Int}{o1 o2:Obj}
theorem EM.Wq(hm:EM wr bD bO B X bz p vD vO V U)(row:NF wr K vD vO lD lO)(hK:B<=K)(hK2:K<=wr.heap.size)(nV:w2.ownsRow K 3 1 v1 (lD.length+1) (lD.flatMap cI++[ah ag n]))(yo:(wr.alloc o1).grownBy w2 vD.ownBlock):dh w2 bD 231 (uq (kK V p vD))/\dh (w2.setCell ⟨bD,p,aj⟩ v1) bO 231 (uq (kK U p vO))/\(w2.setCell ⟨bD,p,aj⟩ v1).ownsRow K 3 1 vO lO.length (lO.flatMap cI):=by
 have l1:=hm.ld;have l2:=hm.lo;have f1:∀g,g<B->az g≠vD.ownBlock:=fun g hg e=>by have:=(row.d.lt g e.symm).1;omega
 have b2:dh w2 bO 231 (uq (kK U p vO)):=(hm.o.alloc o1).grown yo (f1 _ l2);refine⟨(hm.d.alloc o1).grown yo (f1 _ l1),b2.AU (by simp only;exact hm.ne.symm) _,?_⟩;refine nO ((row.o.alloc o1).kept yo ?_) v1 fun g hg=>?_
 ·cases e:vO.ownBlock with
  |none=>exact .inl rfl
  |some g=>exact .inr fun e2=>row.ap g e2.symm e
 ·have:=(row.o.lt g hg).1;simp only;omega
theorem EM.ash(hm:EM wr bD bO B X bz p vD vO V U)(row:NF wr K vD vO lD lO)(hK:B<=K)(hK2:K<=wr.heap.size)(hch:Ch (fun k=>k=bD\/k=bO) wo wr)(hKo:K=wo.heap.size)(hro:∀q,q<p->NF wo B (V q) (U q) (Ha X bz q X.aX) (Hd X bz q X.aX))(nV:w2.ownsRow K 3 1 v1 (lD.length+1) (lD.flatMap cI++[ah ag n]))(yo:(wr.alloc o1).grownBy w2 vD.ownBlock)(Ao:v1.ownBlock=vD.ownBlock\/v1.ownBlock=az (wr.heap.size+1))(uz:w4.ownsRow K 3 1 v3 (lO.length+1) (lO.flatMap cI++[ah ag o]))(GM:((w2.setCell ⟨bD,p,aj⟩ v1).alloc o2).grownBy w4 vO.ownBlock)(PX:v3.ownBlock=vO.ownBlock\/v3.ownBlock=az (w2.heap.size+1)):dh w4 bO 231 (uq (kK U p vO))/\EM (w4.setCell ⟨bO,p,aj⟩ v3) bD bO B X bz p v1 v3 V U/\NF (w4.setCell ⟨bO,p,aj⟩ v3) K v1 v3 (lD++[n]) (lO++[o])/\Ch (fun k=>k=bD\/k=bO) wo (w4.setCell ⟨bO,p,aj⟩ v3):=by
 have l1:=hm.ld;have l2:=hm.lo;obtain⟨p1,p2,p3⟩:=hm.Wq row hK hK2 nV yo;have f2:∀g,g<B->az g≠vO.ownBlock:=fun g hg e=>by have:=(row.o.lt g e.symm).1;omega
 have s2:wr.heap.size+1<=w2.heap.size:=by have:=yo.size;simpa using this
 have d4:dh w4 bD 231 (uq (kK V p v1)):=by have:=p1.jd p v1;rw[Qo]at this;exact(this.alloc o2).grown GM (f2 _ l1)
 have o4:dh w4 bO 231 (uq (kK U p vO)):=(p2.alloc o2).grown GM (f2 _ l2);have ani:=nV.lt;have ap1:∀g,v1.ownBlock=az g->vO.ownBlock≠az g:=fun g h1 h2=>by
  rcases Ao with q|q
  ·rw[q]at h1;exact row.ap g h1 h2
  ·rw[q]at h1;injection h1 with h1;have:=(row.o.lt g h2).2;omega
 have asa:w4.ownsRow K 3 1 v1 (lD.length+1) (lD.flatMap cI++[ah ag n]):=by
  refine((nO nV v1 fun g hg=>?_).alloc o2).kept GM ?_
  ·have:=(ani g hg).1;simp only;omega
  ·cases e:v1.ownBlock with
   |none=>exact .inl rfl
   |some g=>exact .inr fun e2=>ap1 g e e2.symm
 have C1:Ch (fun k=>k=bD\/k=bO) wo w4:=(((hch.alloc o1).grown yo fun g hg=>.inr (by have:=(row.d.lt g hg).1;omega)).setCell (p:=⟨bD,p,aj⟩) (.inl (.inl rfl)) v1).alloc o2|>.grown GM fun g hg=>.inr (by have:=(row.o.lt g hg).1;omega);have C2:Ch (fun k=>k=bD\/k=bO) wo (w4.setCell ⟨bO,p,aj⟩ v3):=C1.setCell (p:=⟨bO,p,aj⟩) (.inl (.inr rfl)) v3;have asv:∀q,q<p->NF (w4.setCell ⟨bO,p,aj⟩ v3) B (V q) (U q) (Ha X bz q X.aX) (Hd X bz q X.aX):=fun q hq=>
  (hro q hq).ch C2 fun k s=>by rcases s with s|s<;>omega
 refine⟨o4,⟨d4.AU (by simp only;exact hm.ne) _,?_,hm.ne,hm.ld,hm.lo,asv⟩,⟨?_,?_,?_⟩,C2⟩
 ·have:=o4.jd p v3;rw[Qo]at this;exact this
 ·have:=nO asa (p:=⟨bO,p,aj⟩) v3 fun g hg=>by have:=(ani g hg).1;simp only;omega
  simpa[cI]using this
 ·have:=nO uz (p:=⟨bO,p,aj⟩) v3 fun g hg=>by have:=(uz.lt g hg).1;simp only;omega
  simpa[cI]using this
 ·intro g h1 h2;rcases PX with q|q
  ·rw[q]at h2;exact ap1 g h1 h2
  ·rw[q]at h2;injection h2 with h2;have:=(ani g h1).2;omega
end
def adw(X:Bx)(bz:Nat->Fm->Option Nat)(w:aG)(e:Ending)(w':aG):Prop:=
 ∃V U,e=ax (.tuple #[.agg (uq (kK V X.bE (ay aj 0 0))),.agg (uq (kK U X.bE (ay aj 0 0)))])/\(∀q,q<X.bE->NF w' w.heap.size (V q) (U q) (Ha X bz q X.aX) (Hd X bz q X.aX))/\aN w.heap.size w w'
def adM(X:Bx)(bz:Nat->Fm->Option Nat)(w:aG)(bD bO:Nat)(i:aI)(wr:aG):Prop:=
 ∃p V U,p<=X.bE/\i=ah ag (p:Nat)/\EM wr bD bO (bO+1) X bz p (ay aj 0 0) (ay aj 0 0) V U/\aN w.heap.size w wr
def adN(X:Bx)(bz:Nat->Fm->Option Nat)(w wo:aG)(bD bO p:Nat)(V U:Nat->aI)(i:aI)(wr:aG):Prop:=
 ∃c vD vO,c<=X.aX/\i=ah ag (c:Nat)/\EM wr bD bO (bO+1) X bz p vD vO V U/\NF wr wo.heap.size vD vO (Ha X bz p c) (Hd X bz p c)/\Ch (fun k=>k=bD\/k=bO) wo wr/\aN w.heap.size w wr
def akT(X:Bx)(rt:Fm->Option Nat)(Q:List (Fm×aI))(wo:aG)(n o i:aI)(wr:aG):Prop:=
 ∃k:Nat,k<=Q.length/\i=ah ag k/\n=ah ag k/\o=ah ag (-1)/\lookQ X.bE rt (Q.map (·.1))=(k+(lookQ X.bE rt ((Q.drop k).map (·.1))).1,(lookQ X.bE rt ((Q.drop k).map (·.1))).2)/\aN wo.heap.size wo wr
theorem aaQ(N:Nat)(bz:Nat->Fm->Option Nat)(c1 c2:Nat)(Z:Own)(o:Nat)(w:aG)(b:Nat)(X:Bx)(L:yM)(h:pO Z o w b X L)(hx:lW X N)(hR:∀(p:Nat) (x:Fm) (v:aI) (w':aG),aN w.heap.size w w'->p<X.bE->(∃c,c<X.aX/\x∈dR X.q p c)->(∃a n cap,v=ay a n cap)->bZ aH 98 #[ah ag p,MU x v,pt c1,pt c2] w' fun e w''=>e=ax (ah ag (pQ (bz p x)))/\aN w'.heap.size w' w''):bZ aH 126 #[pt b,.func (.func 98) #[] #[pt c1,pt c2]] w (adw X bz w):=by
 obtain⟨w1,gK⟩:∃w1:aG,(w.alloc (af (uq (fun _=>ay aj 0 0)) 231)).alloc (af (uq (fun _=>ay aj 0 0)) 231)=w1:=⟨_,rfl⟩;have BW:aY (aN w.heap.size w w1):=by rw[<-gK];exact((aQ _ _).alloc (aC _) _).alloc (by simp) _
 have HW:=aA gK;have HB:=aA h;have HX:=aA hx;have HRT:=aA hR;have x1:=hx.p1;have xc1:=hx.c1;have c0:=(h.below BW.o).c0;have lb:=h.root.1.lt;have lb2:b<w.heap.size+1:=by omega
 have c0':=h.c0;have E8:uq (fun _=>ay aj 0 0)=#[ay aj 0 0,ay aj 0 0,ay aj 0 0,ay aj 0 0,ay aj 0 0,ay aj 0 0,ay aj 0 0,ay aj 0 0]:=by simp[uq,dB]
 have HE8:=aA E8;clear gK h hx hR E8 c0;unfold pt;go_enter func126,ntmps126;go_wp2_with fail;rw[<-HE8.o,HW.o];have LM0:aY (EM w1 w.heap.size (w.heap.size+1) (w.heap.size+1+1) X bz 0 (ay aj 0 0) (ay aj 0 0) (fun _=>ay aj 0 0) (fun _=>ay aj 0 0)):=by
  have e:kK (fun _=>ay aj 0 0) 0 (ay aj 0 0)=fun _=>ay aj 0 0:=by funext q;unfold kK;simp
  refine⟨?_,?_,by omega,by omega,by omega,fun q hq=>by omega⟩
  ·rw[<-HW.o,e];exact(dh.new w _ _).alloc _
  ·rw[<-HW.o,e];have:=dh.new (w.alloc (af (uq (fun _=>ay aj 0 0)) 231)) 231 (uq (fun _=>ay aj 0 0));simpa using this
 obtain⟨bD,hbD⟩:∃x,w.heap.size=x:=⟨_,rfl⟩;obtain⟨bO,hbO⟩:∃x,w.heap.size+1=x:=⟨_,rfl⟩;rw[hbO,hbD]at LM0;rw[hbO,hbD];have HbD:=aA hbD;have HbO:=aA hbO;clear hbD hbO c0' lb lb2 HW HE8;go_loopw [17] (fun i wr=>adM X bz w bD bO i wr) (fun i _=>X.bE-(aJ i).toNat);case atStart=>exact⟨0,_,_,bS _,rfl,LM0.o,BW.o⟩
 case round=>
  obtain⟨p,V,U,hp,rfl,hm,gm⟩:=hrel;have HM:=aA hm;have xM:=aA gm;have MB:=aA (HB.o.below gm);by_cases hpn:p<X.bE
  ·have p0:(0:Int)<=(p:Int):=by omega
   have p8:(p:Int)<8:=(by omega);have c1':=MB.o.c1;clear hm gm;go_wp2_with fail;clear c1';have aov:=aA xM.out;obtain⟨wo,rfl⟩:∃wo:aG,wo=wr:=⟨_,rfl⟩;go_loopw [24] (fun i wr=>adN X bz w wo bD bO p V U i wr) (fun i _=>X.aX-(aJ i).toNat);case atStart=>exact⟨0,ay aj 0 0,ay aj 0 0,bS _,rfl,HM.o,⟨dM _ _ _ _,dM _ _ _ _,by simp[dV]⟩,Ch.refl _ _,xM.out⟩
   case round=>
    obtain⟨c,vD,vO,hc,rfl,Ib,zO,hch,gm⟩:=hrel;have HM2:=aA Ib;have avJ:=aA zO;have HCH:=aA hch;have Nv:=aA gm;have MB2:=aA (HB.o.below gm);by_cases QA:c<X.aX
    ·have cc0:(0:Int)<=(c:Int):=by omega
     have cc8:(c:Int)<(X.aX:Int):=(by omega);obtain⟨qa,Jo,Q,qe,q1,qr,q3⟩:=(MB2.o.q p c hpn QA).1.asr;have cq:=MB2.o.cq hpn x1;have cv:=MB2.o.cqv hpn QA;rw[qe]at cv;have ql:=HX.o.Ws hpn QA;rw[<-q1,List.length_map]at ql;clear Ib zO hch gm;have QR:=aA qr;have Q1:=aA q1;have Q3:=aA q3;clear qr q1 q3 qe
     go_upto_block 4 with(fail)
     obtain⟨wq,rfl⟩:∃wq:aG,wq=wr:=⟨_,rfl⟩;have LQ:aY ((Pg X bz p c,YM X bz p c)=lookQ X.bE (bz p) (Q.map (·.1))):=(by rw[aY,Q1.o];rfl);go_cut [8,9] (fun s8 s9 wx=>s8=ah ag (Pg X bz p c:Nat)/\s9=ah ag (pQ (YM X bz p c))/\aN wq.heap.size wq wx);case first=>
      go_wp2_with fail;clear cq cv
      go_loopw [8,9,37] (fun n o i wr=>akT X (bz p) Q wq n o i wr) (fun _ _ i _=>Q.length-(aJ i).toNat);case atStart=>exact⟨0,bS _,rfl,rfl,rfl,by simp,aQ _ _⟩
      case round=>
       obtain⟨k,hk,rfl,rfl,rfl,hlk,gm⟩:=hrel;have HLK:=aA hlk;have Li:=aA gm;by_cases yY:k<Q.length
       ·obtain⟨b1,o1,ha,hb1,hm,e0,e1,e2,e3,e4,e5⟩:=VD (QR.o.below (aC _) gm) k yY;have Qz:=((Q3.o _ hm).jD (S:=fun _=>False) (Ch.bY gm) (fun _ _=>rfl) (fun _ s=>s.elim));have XM:aY (∃c,c<X.aX/\(Q.getD k Ut).1∈dR X.q p c):=⟨c,QA,by rw[<-Q1.o];exact List.mem_map_of_mem hm⟩;have TS:aY ((Q.drop k).map (·.1)=(Q.getD k Ut).1::(Q.drop (k+1)).map (·.1)):=by rw[aY,List.drop_eq_getElem_cons yY,List.map_cons];simp[List.getD,yY]
        generalize Q.getD k Ut=x at *;obtain⟨⟨xi,xf,xt,xc,xe,xd⟩,xv⟩:=x;simp only at e0 e1 e2 e3 e4 e5 Qz XM TS;obtain⟨da,dc,rfl,dd⟩:=id Qz;obtain⟨w5,Gc⟩:∃w5:aG,wr.alloc (af #[ah ag xi,ah ag xf,ah ag xt,ah ag xc,ah ag xe,ay da xd.length dc] 59)=w5:=⟨_,rfl⟩;have B5:aY (aN wr.heap.size wr w5):=by rw[<-Gc];exact(aQ _ _).alloc (aC _) _
        have FB:aY (dh w5 wr.heap.size 59 #[ah ag xi,ah ag xf,ah ag xt,ah ag xc,ah ag xe,ay da xd.length dc]):=(by rw[<-Gc];exact dh.new wr _ _);have DT:=aA (Qz.jD (S:=fun _=>False) (Ch.bY B5.o) (fun _ _=>rfl) (fun _ s=>s.elim));have Xd:aY (aN w.heap.size w w5):=(Nv.o.trans (gm.mono Nv.o.size)).trans (B5.o.mono (by have:=Nv.o.size;have:=gm.size;omega));have k0:=FB.o.cell 0;have k1:=FB.o.cell 1;have k2:=FB.o.cell 2;have k3:=FB.o.cell 3;have k4:=FB.o.cell 4;have k5:=FB.o.cell 5;simp only[di,fC,dD]at k0 k1 k2 k3 k4 k5;have C0:=aA HB.o.c0;subst ha;have HRX:aY (∀v' w',aN w.heap.size w w'->(∃a n cap,v'=ay a n cap)->bZ aH 98 #[ah ag p,MU ⟨xi,xf,xt,xc,xe,xd⟩ v',pt c1,pt c2] w' fun e w''=>e=ax (ah ag (pQ (bz p ⟨xi,xf,xt,xc,xe,xd⟩)))/\aN w'.heap.size w' w''):=fun v' w' hb hs=>HRT.o p _ v' w' hb hpn XM.o hs;clear hm gm dd Qz hlk;cases hr:bz p ⟨xi,xf,xt,xc,xe,xd⟩with
        |none=>
         have ND:aY (lookQ X.bE (bz p) ((Q.drop k).map (·.1))=((lookQ X.bE (bz p) ((Q.drop (k+1)).map (·.1))).1+1,(lookQ X.bE (bz p) ((Q.drop (k+1)).map (·.1))).2)):=(by rw[aY,TS.o];exact VV (by rw[hr];intro j e;cases e));have HRY:aY (∀v' w',aN w.heap.size w w'->(∃a n cap,v'=ay a n cap)->bZ aH 98 #[ah ag p,.agg #[ah ag xi,ah ag xf,ah ag xt,ah ag xc,ah ag xe,v'],au (az ⟨c1,0,aj⟩),au (az ⟨c2,0,aj⟩)] w' fun e w''=>e=ax (ah ag (-1))/\aN w'.heap.size w' w''):=(by have h:=HRX.o;rw[hr]at h;exact h);clear hr HRX TS XM;go_wp2_with (first
          |(go_at_call 92;refine(xY ⟨xi,xf,xt,xc,xe,xd⟩ (ay da xd.length dc) Z _ DT.o).mono ?_;rintro e wc ⟨v',rfl,bc,ow⟩;have BC:=aA bc;obtain⟨a',pG,rfl,_⟩:=gZ (d:=(0:Int)) AO (by decide) ow;clear bc ow;simp only[MU])
          |(go_at_call 98;refine(HRY.o _ _ (Xd.o.trans (BC.o.mono Xd.o.size)) ⟨_,_,_,rfl⟩).mono ?_;rintro e wd ⟨rfl,bd⟩;have BD:=aA bd;have BBD:aY (aN w.heap.size w wd):=(Xd.o.trans (BC.o.mono Xd.o.size)).trans (bd.mono (by have:=Xd.o.size;have:=BC.o.size;omega));have cz:=(HB.o.below BBD.o).c0;clear bd))
         exact⟨⟨k+1,by omega,by simp,by simp,rfl,by rw[HLK.o,ND.o];exact JN (by simp only;omega) rfl,Li.o.trans ((B5.o.trans (BC.o.mono B5.o.size)).trans (BD.o.mono (by have:=B5.o.size;have:=BC.o.size;omega))|>.mono Li.o.size)⟩,by simp[aJ];omega⟩
        |some q0=>
         by_cases hq:q0<X.bE
         ·have hq2:(q0:Int)<(X.bE:Int):=by omega
          have ND:aY (lookQ X.bE (bz p) ((Q.drop k).map (·.1))=(0,az q0)):=(by rw[aY,TS.o];exact YF hr hq);have HRY:aY (∀v' w',aN w.heap.size w w'->(∃a n cap,v'=ay a n cap)->bZ aH 98 #[ah ag p,.agg #[ah ag xi,ah ag xf,ah ag xt,ah ag xc,ah ag xe,v'],au (az ⟨c1,0,aj⟩),au (az ⟨c2,0,aj⟩)] w' fun e w''=>e=ax (ah ag (q0:Int))/\aN w'.heap.size w' w''):=(by have h:=HRX.o;rw[hr]at h;exact h);clear hr HRX TS XM;go_wp2_with (first
           |(go_at_call 92;refine(xY ⟨xi,xf,xt,xc,xe,xd⟩ (ay da xd.length dc) Z _ DT.o).mono ?_;rintro e wc ⟨v',rfl,bc,ow⟩;have BC:=aA bc;obtain⟨a',pG,rfl,_⟩:=gZ (d:=(0:Int)) AO (by decide) ow;clear bc ow;simp only[MU])
           |(go_at_call 98;refine(HRY.o _ _ (Xd.o.trans (BC.o.mono Xd.o.size)) ⟨_,_,_,rfl⟩).mono ?_;rintro e wd ⟨rfl,bd⟩;have BD:=aA bd;have BBD:aY (aN w.heap.size w wd):=(Xd.o.trans (BC.o.mono Xd.o.size)).trans (bd.mono (by have:=Xd.o.size;have:=BC.o.size;omega));have cz:=(HB.o.below BBD.o).c0;clear bd))
          go_meet;have R8:aY ((Pg X bz p c=k)/\YM X bz p c=az q0):=by have h1:=LQ.o;rw[HLK.o,ND.o]at h1;simp only[qy]at h1;exact⟨by omega,h1.2⟩
          case rel=>exact⟨by rw[R8.o.1],by rw[R8.o.2];rfl,Li.o.trans ((B5.o.trans (BC.o.mono B5.o.size)).trans (BD.o.mono (by have:=B5.o.size;have:=BC.o.size;omega))|>.mono Li.o.size)⟩
         ·have hq2:¬(q0:Int)<(X.bE:Int):=by omega
          have ND:aY (lookQ X.bE (bz p) ((Q.drop k).map (·.1))=((lookQ X.bE (bz p) ((Q.drop (k+1)).map (·.1))).1+1,(lookQ X.bE (bz p) ((Q.drop (k+1)).map (·.1))).2)):=(by rw[aY,TS.o];exact VV (by rw[hr];intro j e;injection e with e;omega));have HRY:aY (∀v' w',aN w.heap.size w w'->(∃a n cap,v'=ay a n cap)->bZ aH 98 #[ah ag p,.agg #[ah ag xi,ah ag xf,ah ag xt,ah ag xc,ah ag xe,v'],au (az ⟨c1,0,aj⟩),au (az ⟨c2,0,aj⟩)] w' fun e w''=>e=ax (ah ag (q0:Int))/\aN w'.heap.size w' w''):=(by have h:=HRX.o;rw[hr]at h;exact h);clear hr HRX TS XM;go_wp2_with (first
           |(go_at_call 92;refine(xY ⟨xi,xf,xt,xc,xe,xd⟩ (ay da xd.length dc) Z _ DT.o).mono ?_;rintro e wc ⟨v',rfl,bc,ow⟩;have BC:=aA bc;obtain⟨a',pG,rfl,_⟩:=gZ (d:=(0:Int)) AO (by decide) ow;clear bc ow;simp only[MU])
           |(go_at_call 98;refine(HRY.o _ _ (Xd.o.trans (BC.o.mono Xd.o.size)) ⟨_,_,_,rfl⟩).mono ?_;rintro e wd ⟨rfl,bd⟩;have BD:=aA bd;have BBD:aY (aN w.heap.size w wd):=(Xd.o.trans (BC.o.mono Xd.o.size)).trans (bd.mono (by have:=Xd.o.size;have:=BC.o.size;omega));have cz:=(HB.o.below BBD.o).c0;clear bd))
          exact⟨⟨k+1,by omega,by simp,by simp,rfl,by rw[HLK.o,ND.o];exact JN (by simp only;omega) rfl,Li.o.trans ((B5.o.trans (BC.o.mono B5.o.size)).trans (BD.o.mono (by have:=B5.o.size;have:=BC.o.size;omega))|>.mono Li.o.size)⟩,by simp[aJ];omega⟩
       ·have hkl:k=Q.length:=by omega
        have R8:aY ((Pg X bz p c=k)/\YM X bz p c=aj):=(by have h1:=LQ.o;rw[HLK.o,hkl,List.drop_length]at h1;simp only[List.map_nil,lookQ,qy]at h1;exact⟨by omega,h1.2⟩);clear hlk;go_wp2_with fail;go_meet;case rel=>exact⟨by rw[R8.o.1,hkl],by rw[R8.o.2];rfl,Li.o⟩
     case rest=>
      obtain⟨rfl,rfl,xq⟩:=hcut;obtain⟨wr,rfl⟩:∃wr:aG,wr=wc:=⟨_,rfl⟩;have WB:aY (aN w.heap.size w wr):=Nv.o.trans (xq.mono Nv.o.size);have HMr:=aA (HM2.o.below xq);have CHr:aY (Ch (fun k=>k=bD\/k=bO) wo wr):=HCH.o.rW xq;have adB:=aA (avJ.out.ch (S:=fun _=>False) (Ch.bY xq) (fun _ s=>s.elim));have KW:aY (wo.heap.size<=wr.heap.size):=CHr.o.size;have KB:aY (bO+1<=wo.heap.size):=(by have h1:=HM.o.o.lt;exact h1);have LDL:aY ((Ha X bz p c).length=c/\(Hd X bz p c).length=c):=(by rw[aY];simp[Ha,Hd]);have RD:=aA (acB X bz p c);have RO:=aA (acD X bz p c);generalize Pg X bz p c=dn at *;generalize pQ (YM X bz p c)=on at *;generalize Ha X bz p c=lD at *;generalize Hd X bz p c=lO at *;obtain⟨i0,hi0,wC,uX,wK⟩:=dX Py;obtain⟨da,aqG,rfl,_⟩:=gZ (d:=(0:Int)) qK (by decide) adB.out.d;obtain⟨oa,amD,rfl,_⟩:=gZ (d:=(0:Int)) qK (by decide) adB.out.o;have z1:wr.cell? ⟨bD,p,aj⟩=az (ay da lD.length aqG):=(by rw[HMr.o.d.cell,JQ _ (by omega)];unfold kK;simp);have OW1:aY ((wr.alloc (af #[ah ag (dn:Int)] 3)).ownsRow wo.heap.size 3 1 (ay da lD.length aqG) lD.length (lD.flatMap cI)):=adB.out.d.alloc (af #[ah ag (dn:Int)] 3);have lz:bD<wr.heap.size:=HMr.o.d.lt;clear xq LQ;go_wp2_with (first
       |(at_builtin;refine gW _ rfl (.tmp 63) (.tmp 65) 26 rfl wo.heap.size 3 i0 _ 1 8 underlying26 hi0 wC uX wK rfl (by decide) _ _ _ rfl OW1.o _ (az ⟨wr.heap.size,0,aj⟩) 1 1 [ah ag (dn:Int)] rfl (iB wr _ [ah ag (dn:Int)] (n:=1) (size:=1) rfl) ?c3 ?c4 ?c5 ?c6 ?_))
      case c3=>intro u hu;simp at hu;subst hu;rfl
      case c4=>have:=HX.o.c1;have:=LDL.o.1;unfold fB;omega
      case c5=>have:=HX.o.c1;have:=LDL.o.1;omega
      case c6=>have:=KW.o;simp;omega
      intro v1 w2 nV yo Ao;have akN:=aA nV;have GR1:=aA yo;have LC1:=aA Ao;obtain⟨P1,P2,P3⟩:=HMr.o.Wq adB.out KB.o KW.o akN.out GR1.o;obtain⟨da1,ajr,rfl,_⟩:=gZ (d:=(0:Int)) (xs:=lD++[(dn:Int)]) qK (by decide) (by have:=akN.out;rw[show lD.flatMap cI++[ah ag (dn:Int)]=(lD++[(dn:Int)]).flatMap cI by simp[cI]]at this;exact this);have z2:=P1.cell p;rw[JQ _ (by omega)]at z2;have z3:=P1.frozen p;have z4:=P2.cell p;rw[JQ _ (by omega),show kK U p (ay oa lO.length amD) p=ay oa lO.length amD by unfold kK;simp]at z4;have OW2:aY (((w2.setCell ⟨bD,p,aj⟩ (ay da1 (lD.length+1) ajr)).alloc (af #[ah ag on] 3)).ownsRow wo.heap.size 3 1 (ay oa lO.length amD) lO.length (lO.flatMap cI)):=P3.alloc (af #[ah ag on] 3);have KW2:aY (wo.heap.size<=w2.heap.size):=(by have h1:=KW.o;have h2:=yo.size;simp at h2;rw[aY];omega);have z5:bO<w2.heap.size:=(by have:=P2.lt;simpa[iK]using this);obtain⟨w3,zP⟩:∃w3:aG,w2.setCell ⟨bD,p,aj⟩ (ay da1 (lD.length+1) ajr)=w3:=⟨_,rfl⟩;have S3:aY (w3.heap.size=w2.heap.size):=(by rw[aY,<-zP];simp[iK]);have HW3:=aA zP;rw[zP]at z4 OW2;have z6:bO<w3.heap.size:=(by have:=S3.o;omega);clear nV yo Ao P1 P2 P3 z1 z5;go_wp2_with (first
       |(at_builtin;refine gW _ rfl (.tmp 71) (.tmp 73) 26 rfl wo.heap.size 3 i0 _ 1 8 underlying26 hi0 wC uX wK rfl (by decide) _ _ _ rfl OW2.o _ (az ⟨w3.heap.size,0,aj⟩) 1 1 [ah ag on] rfl (iB w3 _ [ah ag on] (n:=1) (size:=1) rfl) ?d3 ?d4 ?d5 ?d6 ?_))
      case d3=>intro u hu;simp at hu;subst hu;rfl
      case d4=>have:=HX.o.c1;have:=LDL.o.2;unfold fB;omega
      case d5=>have:=HX.o.c1;have:=LDL.o.2;omega
      case d6=>have:=KW2.o;have:=S3.o;simp;omega
      intro v3 w4 Jh Yn afp;obtain⟨P4,P5,P6,P7⟩:=HMr.o.ash adB.out KB.o KW.o CHr.o rfl HM.o.rows akN.out GR1.o LC1.o Jh (by rw[HW3.o];exact Yn) (by rw[<-S3.o];exact afp);have iZ:aY (adN X bz w wo bD bO p V U (ah ag ((c+1:Nat):Int)) (w4.setCell ⟨bO,p,aj⟩ v3)):=⟨c+1,_,_,by omega,rfl,P5,by rw[RD.o,RO.o];exact P6,P7,aov.out.trans (P7.below (by have:=aov.out.size;exact this) (fun k s=>by have h1:=HbD.o;have h2:=HbO.o;rcases s with s|s<;>omega))⟩;obtain⟨oa3,aEN,rfl,_⟩:=gZ (d:=(0:Int)) (xs:=lO++[on]) qK (by decide) (by have:=Jh;rw[show lO.flatMap cI++[ah ag on]=(lO++[on]).flatMap cI by simp[cI]]at this;exact this);have z7:=P4.cell p;rw[JQ _ (by omega)]at z7;have z8:=P4.frozen p;clear Jh Yn afp P4 P5 P6 P7 z2 z3 z4 z6;go_wp2_with fail;exact⟨by simpa using iZ.out,by simp[aJ];omega⟩
    ·obtain rfl:X.aX=c:=by omega
     have iZ:aY (adM X bz w bD bO (ah ag ((p+1:Nat):Int)) wr):=by
      refine⟨p+1,fun q=>if q=p then vD else V q,fun q=>if q=p then vO else U q,by omega,rfl,⟨?_,?_,Ib.ne,Ib.ld,Ib.lo,fun q hq=>?_⟩,gm⟩
      ·rw[Nk];exact Ib.d
      ·rw[Nk];exact Ib.o
      ·by_cases e:q=p
       ·subst e;simp only[if_true];have k1:=HM.o.o.lt;exact⟨wH zO.d k1,wH zO.o k1,zO.ap⟩
       ·simp only[e,if_false];exact Ib.rows q (by omega)
     clear Ib zO hch gm;go_wp2_with fail;exact⟨by simpa using iZ.out,by simp[aJ];omega⟩
  ·have hpe:p=X.bE:=by omega
   subst hpe;have B1:=aA hm.d;have B2:=aA hm.o;have avu:aY (∀w',Ch (fun k=>k=bD\/k=bO) wr w'->(∀q,q<X.bE->NF w' w.heap.size (V q) (U q) (Ha X bz q X.aX) (Hd X bz q X.aX))):=fun w' hc q hq=>by
    have r:=(hm.rows q hq).ch hc fun k s=>by have:=hm.ld;have:=hm.lo;rcases s with s|s<;>omega
    have e1:=HbO.o;exact⟨wH r.d (by omega),wH r.o (by omega),r.ap⟩
   have auV:=aA gm;have RW:=aA hm.rows;clear hm gm;go_wp2_with fail;obtain⟨A,Nn,C,hA⟩:∃(A:Nat->Option Addr) (Nn C:Nat->Nat),kK V X.bE (ay aj 0 0)=fun i=>ay (A i) (Nn i) (C i):=xJ _ _ fun q hq=>qh (RW.o q hq).d;obtain⟨A',Un,C',hA'⟩:∃(A:Nat->Option Addr) (Nn C:Nat->Nat),kK U X.bE (ay aj 0 0)=fun i=>ay (A i) (Nn i) (C i):=xJ _ _ fun q hq=>qh (RW.o q hq).o;have E1:∀(A:Nat->Option Addr) (Nn C:Nat->Nat),uq (fun i=>ay (A i) (Nn i) (C i))=#[ay (A 0) (Nn 0) (C 0),ay (A 1) (Nn 1) (C 1),ay (A 2) (Nn 2) (C 2),ay (A 3) (Nn 3) (C 3),ay (A 4) (Nn 4) (C 4),ay (A 5) (Nn 5) (C 5),ay (A 6) (Nn 6) (C 6),ay (A 7) (Nn 7) (C 7)]:=fun A Nn C=>(by simp[uq,dB]);have D1:=B1.o;have O1:=B2.o;rw[hA,E1]at D1;rw[hA',E1]at O1;have d0:=D1.cell 0;have d1:=D1.cell 1;have d2:=D1.cell 2;have d3:=D1.cell 3;have d4:=D1.cell 4;have d5:=D1.cell 5;have d6:=D1.cell 6;have d7:=D1.cell 7;have o0:=O1.cell 0;have o1:=O1.cell 1;have o2:=O1.cell 2;have o3:=O1.cell 3;have o4:=O1.cell 4;have o5:=O1.cell 5;have o6:=O1.cell 6;have o7:=O1.cell 7;simp only[di,fC,dD]at d0 d1 d2 d3 d4 d5 d6 d7 o0 o1 o2 o3 o4 o5 o6 o7;have HD:=aA D1;have HO:=aA O1;have g0:=D1.frozen 0;have g1:=D1.frozen 1;have g2:=D1.frozen 2;have g3:=D1.frozen 3;have g4:=D1.frozen 4;have g5:=D1.frozen 5;have g6:=D1.frozen 6;have g7:=D1.frozen 7;have j0:=O1.frozen 0;have j1:=O1.frozen 1;have j2:=O1.frozen 2;have j3:=O1.frozen 3;have j4:=O1.frozen 4;have j5:=O1.frozen 5;have j6:=O1.frozen 6;have j7:=O1.frozen 7;have nDO:¬bD=bO:=(by have:=HbO.o;have:=HbD.o;omega);have nOD:¬bO=bD:=fun e=>nDO e.symm;have s0:wr.setCell ⟨bD,0,aj⟩ (ay (A 0) (Nn 0) (C 0))=wr:=D1.rJ (i:=0) rfl;have s1:wr.setCell ⟨bD,1,aj⟩ (ay (A 1) (Nn 1) (C 1))=wr:=D1.rJ (i:=1) rfl;have s2:wr.setCell ⟨bD,2,aj⟩ (ay (A 2) (Nn 2) (C 2))=wr:=D1.rJ (i:=2) rfl;have s3:wr.setCell ⟨bD,3,aj⟩ (ay (A 3) (Nn 3) (C 3))=wr:=D1.rJ (i:=3) rfl;have s4:wr.setCell ⟨bD,4,aj⟩ (ay (A 4) (Nn 4) (C 4))=wr:=D1.rJ (i:=4) rfl;have s5:wr.setCell ⟨bD,5,aj⟩ (ay (A 5) (Nn 5) (C 5))=wr:=D1.rJ (i:=5) rfl;have s6:wr.setCell ⟨bD,6,aj⟩ (ay (A 6) (Nn 6) (C 6))=wr:=D1.rJ (i:=6) rfl;have s7:wr.setCell ⟨bD,7,aj⟩ (ay (A 7) (Nn 7) (C 7))=wr:=D1.rJ (i:=7) rfl;have t0:wr.setCell ⟨bO,0,aj⟩ (ay (A' 0) (Un 0) (C' 0))=wr:=O1.rJ (i:=0) rfl;have t1:wr.setCell ⟨bO,1,aj⟩ (ay (A' 1) (Un 1) (C' 1))=wr:=O1.rJ (i:=1) rfl;have t2:wr.setCell ⟨bO,2,aj⟩ (ay (A' 2) (Un 2) (C' 2))=wr:=O1.rJ (i:=2) rfl;have t3:wr.setCell ⟨bO,3,aj⟩ (ay (A' 3) (Un 3) (C' 3))=wr:=O1.rJ (i:=3) rfl;have t4:wr.setCell ⟨bO,4,aj⟩ (ay (A' 4) (Un 4) (C' 4))=wr:=O1.rJ (i:=4) rfl;have t5:wr.setCell ⟨bO,5,aj⟩ (ay (A' 5) (Un 5) (C' 5))=wr:=O1.rJ (i:=5) rfl;have t6:wr.setCell ⟨bO,6,aj⟩ (ay (A' 6) (Un 6) (C' 6))=wr:=O1.rJ (i:=6) rfl;have t7:wr.setCell ⟨bO,7,aj⟩ (ay (A' 7) (Un 7) (C' 7))=wr:=O1.rJ (i:=7) rfl;have HE1:=aA E1;clear D1 O1 E1 B1 B2;have HA:=aA hA;have HA':=aA hA';clear hA hA';go_region;go_wp2_with fail;refine bodyPost_ret (v:=.tuple #[.agg #[ay (A 0) (Nn 0) (C 0),ay (A 1) (Nn 1) (C 1),ay (A 2) (Nn 2) (C 2),ay (A 3) (Nn 3) (C 3),ay (A 4) (Nn 4) (C 4),ay (A 5) (Nn 5) (C 5),ay (A 6) (Nn 6) (C 6),ay (A 7) (Nn 7) (C 7)],.agg #[ay (A' 0) (Un 0) (C' 0),ay (A' 1) (Un 1) (C' 1),ay (A' 2) (Un 2) (C' 2),ay (A' 3) (Un 3) (C' 3),ay (A' 4) (Un 4) (C' 4),ay (A' 5) (Un 5) (C' 5),ay (A' 6) (Un 6) (C' 6),ay (A' 7) (Un 7) (C' 7)]]) (by simp[results,Tryz.results126,go_sem,d0,d1,d2,d3,d4,d5,d6,d7,o0,o1,o2,o3,o4,o5,o6,o7]) rfl ?_;try rw[s0,s1,s2,s3,s4,s5,s6,s7,t0,t1,t2,t3,t4,t5,t6,t7]
   refine⟨V,U,?_,avu.out _ (Ch.refl _ _).drew,auV.out.drew⟩;rw[HA.o,HA'.o,HE1.o,HE1.o]
def zC(Z:Own)(w:aG)(bO n m:Nat)(f:Nat->Nat->Int):Prop:=
 ∃U:Nat->aI,dh w bO 231 (uq U)/\(Z bO).1=0/\∀p,p<n->∃g cap cs,U p=ay (az ⟨g,0,aj⟩) m cap/\dh w g 3 cs/\(Z g).1=0/\∀c,c<m->cs[c]?=az (ah ag (f p c))
theorem zC.jD{Z dN:Own}{S:Nat->Prop}{w w':aG}{bO n m:Nat}{f:Nat->Nat->Int}(h:zC Z w bO n m f)(hc:Ch S w w')(he:∀k,k<w.heap.size->dN k=Z k)(hS:∀k,S k->(Z k).1≠0):zC dN w' bO n m f:=by obtain⟨U,h1,h2,h3⟩:=h;refine⟨U,h1.ch hc fun s=>hS _ s h2,by rw[he _ h1.lt];exact h2,fun p hp=>?_⟩;obtain⟨g,cap,cs,k1,k2,k3,k4⟩:=h3 p hp;exact⟨g,cap,cs,k1,k2.ch hc fun s=>hS _ s k3,by rw[he _ k2.lt];exact k3,k4⟩
theorem zC.nx{Z dN:Own}{o:Nat}{w w':aG}{bO n m:Nat}{f:Nat->Nat->Int}(h:zC Z w bO n m f)(k:Nx Z o w dN w')(ho:2<=o):zC dN w' bO n m f:=h.jD k.ch k.ext fun i hi=>by omega
theorem zC.below{Z:Own}{w w':aG}{bO n m:Nat}{f:Nat->Nat->Int}(h:zC Z w bO n m f)(k:aN w.heap.size w w'):zC Z w' bO n m f:=h.jD (S:=fun _=>False) (Ch.bY k) (fun _ _=>rfl) (fun _ s=>s.elim)
theorem zC.cells{Z:Own}{w:aG}{bO n m:Nat}{f:Nat->Nat->Int}(h:zC Z w bO n m f){p c:Nat}(hp:p<n)(hc:c<m)(h8:n<=8):∃g cap,w.cell? ⟨bO,p,aj⟩=az (ay (az ⟨g,0,aj⟩) m cap)/\w.cell? ⟨g,c,aj⟩=az (ah ag (f p c)):=by obtain⟨U,h1,h2,h3⟩:=h;obtain⟨g,cap,cs,k1,k2,k3,k4⟩:=h3 p hp;exact⟨g,cap,by rw[h1.cell,JQ _ (by omega),k1],by rw[k2.cell];exact k4 c hc⟩
theorem Sb(k:Nat):pQ (az k)=(k:Int):=rfl
theorem aci:pQ aj=(-1:Int):=rfl
theorem ZV{o:Option Nat}{k:Nat}:pQ o=(k:Int)↔o=az k:=by
 cases o with
 |none=>simp[pQ]
 |some j=>simp[pQ];omega
def Te(v:Bool)(w:aG)(e:Ending)(w':aG):Prop:=e=ax (.bool v)/\aN w.heap.size w w'
theorem OY(i k c N:Nat)(outs:Nat->Nat->Option Nat)(bO bB:Nat)(Z Dt:Own)(o:Nat)(w:aG)(b:Nat)(X:Bx)(L:yM)(h:pO Z o w b X L)(hx:lW X N)(hN:N<=1000000000000)(hi:i<X.bE)(hk:k<X.bE)(hc:c<X.aX)(hO:zC Dt w bO X.bE X.aX fun p c=>pQ (outs p c))(hB:w.cell? ⟨bB,0,aj⟩=az (pt b)):bZ aH 128 #[ah ag i,ah ag k,ah ag c,pt bO,pt bB] w (Te (mR outs X i k c) w):=by
 obtain⟨g,cap,z1,z2⟩:=hO.cells hi hc hx.p1;have i0:(0:Int)<=(i:Int):=by omega
 have i8:(i:Int)<8:=by have:=hx.p1;omega
 have k0:(0:Int)<=(k:Int):=by omega
 have k8:(k:Int)<8:=by have:=hx.p1;omega
 have c0:(0:Int)<=(c:Int):=by omega
 have c8:(c:Int)<(X.aX:Int):=by omega
 by_cases he:outs i c=az k
 ·obtain⟨hg,t1,t2⟩:=h.tt k c hk hc;have HG:=aA (Zh _ N _ _ w (hx.t k c hk hc) hN hg);obtain⟨g1,⟨abf,cs1,e1,e2,e3⟩,_⟩:=h.t k hk;have cg:=h.ct hk hx.p1;rw[e1]at cg;have cc:w.cell? ⟨g1,c,aj⟩=az (pt (L.tb k c)):=by rw[e2.cell];exact e3 c hc
  have E:mR outs X i k c=decide (0<(dR X.tk k c).left):=by unfold mR;rw[he];simp
  rw[he,Sb]at z2;rw[E];generalize(dR X.tk k c).left=l at HG|-;clear h hx hg e1 e2 e3 t1 t2 hO E he;unfold pt at *;go_enter func128,ntmps128;by_cases hl:0<l
  ·have hl':decide (0<l)=true:=decide_eq_true hl;rw[hl'];clear hl';go_wp2_with (first
    |(go_at_call 129;refine HG.o.mono ?_;rintro e w' ⟨rfl,gm⟩;have BL:=aA gm;clear gm))
   go_ret;exact⟨rfl,BL.o⟩
  ·have hl':decide (0<l)=false:=decide_eq_false hl;rw[hl'];go_wp2_with (first
    |(go_at_call 129;refine HG.o.mono ?_;rintro e w' ⟨rfl,gm⟩;have BL:=aA gm;clear gm))
   go_ret;exact⟨rfl,BL.o⟩
 ·have E:mR outs X i k c=false:=by unfold mR;simp[he]
  have ne:((k:Int)==pQ (outs i c))=false:=by rw[beq_eq_false_iff_ne];exact fun e=>he (ZV.1 e.symm)
  have ne2:(pQ (outs i c)==(k:Int))=false:=by rw[beq_eq_false_iff_ne];exact fun e=>he (ZV.1 e)
  rw[E];generalize pQ (outs i c)=q at z2 ne ne2;clear h hx hO E he;unfold pt at *;go_enter func128,ntmps128;go_wp2_with fail;go_ret;exact⟨rfl,aQ _ _⟩
theorem abM:(Tryz.prog.info? 4).map (fun i=>(i.zero,i.size,i.bytes))=az (az (.bool false),1,1):=by kernel_rfl
theorem Yw:(Tryz.prog.info? 52).map (fun i=>(i.zero,i.size,i.bytes))=az (az (ay aj 0 0),1,24):=by kernel_rfl
def acy(outs:Nat->Nat->Option Nat)(X:Bx)(i k:Nat):Bool:=(aO X.aX).any fun c=>mR outs X i k c
def Hq(f:Nat->Bool)(n:Nat):Bool:=(aO n).any f
theorem XB(f:Nat->Bool)(n:Nat):Hq f (n+1)=(Hq f n||f n):=by unfold Hq;rw[dB,List.any_append];simp
def Ap(rq:Nat->Bool)(k:Nat)(v:Bool)(x:Nat):Bool:=if x<k then rq x else if x=k then v else false
def En(n:Nat)(f:Nat->Bool):Array aI:=((aO n).map fun x=>iN (f x)).toArray
theorem acz(rq:Nat->Bool)(k:Nat):Ap rq k (rq k)=Ap rq (k+1) false:=by
 funext x;unfold Ap;by_cases h:x<k
 ·rw[if_pos h,if_pos (by omega)]
 ·by_cases h2:x=k
  ·subst h2;simp
  ·rw[if_neg h,if_neg h2,if_neg (by omega)];simp
theorem afM(n:Nat)(rq:Nat->Bool)(k:Nat)(v v':Bool):(En n (Ap rq k v)).setIfInBounds k (.bool v')=En n (Ap rq k v'):=
 mH n _ _ k _ fun x _=>by
  unfold Ap;by_cases e:x=k
  ·subst e;simp
  ·simp[e]
theorem acA(rq:Nat->Bool)(n:Nat):dS #[.bool false] n=En n (Ap rq 0 false):=by
 have e:∀x,Ap rq 0 false x=false:=fun x=>by unfold Ap;simp
 unfold dS En;apply sW;simp[e,qU]
theorem YV(rq:Nat->Bool)(n:Nat):dS (iN false).cells (n*1)=En n (Ap rq 0 false):=by rw[oQ];exact acA rq n
def Ct(V:Nat->aI)(i j:Nat):aI:=if j<i then V j else ay aj 0 0
theorem Za(V:Nat->aI)(n:Nat):dS #[ay aj 0 0] n=((aO n).map (Ct V 0)).toArray:=by
 have e:∀x,Ct V 0 x=ay aj 0 0:=fun x=>by unfold Ct;simp
 unfold dS;apply sW;simp[e,qU]
structure RqM(w:aG)(bL n i:Nat)(V:Nat->aI)(rq:Nat->Nat->Bool):Prop where
 l:dh w bL 52 (((aO n).map (Ct V i)).toArray)
 rows:∀j,j<i->∃g,V j=ay (az ⟨g,0,aj⟩) n n/\dh w g 4 (En n (rq j))/\g<w.heap.size
def Tn(n:Nat)(rq:Nat->Nat->Bool)(w:aG)(e:Ending)(w':aG):Prop:=∃R,e=ax (ay (az ⟨R,0,aj⟩) n n)/\EZ w' (az ⟨R,0,aj⟩) n rq/\aN w.heap.size w w'/\w.heap.size<=R
def ajd(n:Nat)(rq:Nat->Nat->Bool)(bL:Nat)(w:aG)(i:aI)(wr:aG):Prop:=∃(j:Nat) (V:Nat->aI),j<=n/\i=ah ag j/\RqM wr bL n j V rq/\aN w.heap.size w wr
def aje(n:Nat)(rq:Nat->Bool)(g:Nat)(w5:aG)(i:aI)(wr:aG):Prop:=∃k:Nat,k<=n/\i=ah ag k/\dh wr g 4 (En n (Ap rq k false))/\Ch (· =g) w5 wr
def apI(n m:Nat)(rq:Nat->Bool)(f:Nat->Bool)(g k:Nat)(w5:aG)(i:aI)(wr:aG):Prop:=∃c:Nat,c<=m/\i=ah ag c/\dh wr g 4 (En n (Ap rq k (Hq f c)))/\Ch (· =g) w5 wr
theorem QK(N:Nat)(outs:Nat->Nat->Option Nat)(bO bB:Nat)(Z:Own)(o:Nat)(w:aG)(b:Nat)(X:Bx)(L:yM)(h:pO Z o w b X L)(hx:lW X N)(hN:N<=1000000000000)(hO:zC Z w bO X.bE X.aX fun p c=>pQ (outs p c))(hB:w.cell? ⟨bB,0,aj⟩=az (pt b)):bZ aH 131 #[pt b,.func (.func 128) #[] #[pt bO,pt bB]] w (Tn X.bE (acy outs X) w):=by
 have HM:=aA h;have HX:=aA hx;have HO:=aA hO;have HB:=aA hB;have c0:=h.c0;have n1:=hx.p0;have n8:=hx.p1;have LB:=aA h.root.1.lt;have RY:aY (∀(i k c:Nat) (w':aG),aN w.heap.size w w'->i<X.bE->k<X.bE->c<X.aX->bZ aH 128 #[ah ag i,ah ag k,ah ag c,au (az ⟨bO,0,aj⟩),au (az ⟨bB,0,aj⟩)] w' (Te (mR outs X i k c) w')):=fun i k c w' hb hi hk hc=>
  OY i k c N outs bO bB Z Z o w' b X L (HM.o.below hb) HX.o hN hi hk hc (HO.o.below hb) ((hb.cell (p:=⟨bB,0,aj⟩) (World.block_lt_of_cell? _ _ HB.o)).trans HB.o)
 have C1:aY (∀w',aN w.heap.size w w'->w'.cell? ⟨b,0,aj⟩=az (ah ag X.bE)/\w'.cell? ⟨b,0+1,aj⟩=az (ah ag X.aX)):=fun w' hb=>⟨(HM.o.below hb).c0,(HM.o.below hb).c1⟩;have CL8:=HX.o.c1;obtain⟨i0,hi0,wC,uX,wK⟩:=dX Yw;obtain⟨j0,xI,zb,Ad,Ae⟩:=dX abM;clear h hx hO hB;obtain⟨n,hn⟩:∃n,X.bE=n:=⟨_,rfl⟩;obtain⟨m,hm⟩:∃m,X.aX=m:=⟨_,rfl⟩;rw[hn,hm]at C1;rw[hn]at c0 n1 n8 RY;rw[hm]at RY CL8;rw[hn];have RQ:aY (∀i k,acy outs X i k=Hq (fun c=>mR outs X i k c) m):=fun i k=>by unfold acy Hq;rw[hm]
 clear hn hm HX HO HB HM;generalize acy outs X=rq at *;obtain⟨w1,gK⟩:∃w1:aG,w.alloc (af (((aO n).map (Ct (fun _=>ay aj 0 0) 0)).toArray) 52)=w1:=⟨_,rfl⟩;unfold pt;go_enter func131,ntmps131;go_wp2_with (at_make;refine ko _ rfl _ _ 95 rfl 52 i0 _ 1 underlying95 hi0 wC uX .i64 .i64 _ _ n rfl rfl ?m1 ?m2 (by rw[wK];omega) (by unfold fB;omega) ?_);case m1=>rfl
 case m2=>rfl
 rw[Za (fun _=>ay aj 0 0),gK];have B1:aY (RqM w1 w.heap.size n 0 (fun _=>ay aj 0 0) rq):=⟨by rw[<-gK];exact dh.new w _ _,fun j hj=>by omega⟩;have W1:aY (aN w.heap.size w w1):=by rw[<-gK];exact(aQ _ _).alloc (aC _) _
 obtain⟨bL,hbL⟩:∃x,w.heap.size=x:=⟨_,rfl⟩;rw[hbL];rw[hbL]at B1;have HbL:=aA hbL;clear gK hbL c0;go_loopw [6,7,8,16,32,39] (fun _ _ _ i _ _ wr=>ajd n rq bL w i wr) (fun _ _ _ i _ _ _=>n-(aJ i).toNat);case atStart=>exact⟨0,_,bS _,rfl,B1.o,W1.o⟩
 case round=>
  obtain⟨i,V,hi,rfl,hM,gm⟩:=hrel;have HM:=aA hM;have xM:=aA gm;by_cases Gb:i<n
  ·have ii0:(0:Int)<=(i:Int):=by omega
   have ii8:(i:Int)<(n:Int):=(by omega);obtain⟨c0,c1⟩:=C1.o wr gm;obtain⟨w4,Ie⟩:∃w4:aG,wr.alloc (af (En n (Ap (rq i) 0 false)) 4)=w4:=⟨_,rfl⟩;have LB4:dh w4 bL 52 (((aO n).map (Ct V i)).toArray):=(by rw[<-Ie];exact hM.l.alloc _);have cl:=LB4.cell i;have fl:=LB4.frozen i;rw[rU _ _ Gb,show Ct V i i=ay aj 0 0 by unfold Ct;simp]at cl;have s4:w4.heap.size=wr.heap.size+1:=(by rw[<-Ie];simp);have HS4:=aA s4;have G4:aY (dh w4 wr.heap.size 4 (En n (Ap (rq i) 0 false))):=(by rw[<-Ie];exact dh.new wr _ _);have BW4:aY (aN wr.heap.size wr w4):=(by rw[<-Ie];exact(aQ _ _).alloc (aC _) _);have HL4:=aA LB4;have HLN:=aA (show bL≠wr.heap.size by have:=hM.l.lt;omega);clear hM gm LB4 s4 c1;obtain⟨g,hg⟩:∃g,wr.heap.size=g:=⟨_,rfl⟩;rw[hg]at HLN G4 HS4 BW4;have HG0:=aA hg;have HW4:=aA Ie;clear Ie hg;go_wp2_with (at_make;refine ko _ rfl _ _ 52 rfl 4 j0 _ 1 underlying52 xI zb Ad .i64 .i64 _ _ n (by rfl) (by rfl) (by rfl) (by rfl) (by rw[Ae];omega) (by unfold fB;omega) ?_;rw[YV (rq i),HW4.o,HG0.o]);obtain⟨w5,Gc⟩:∃w5:aG,w4.setCell ⟨bL,i,aj⟩ (ay (az ⟨g,0,aj⟩) n n)=w5:=⟨_,rfl⟩;rw[Gc];have G5:aY (dh w5 g 4 (En n (Ap (rq i) 0 false))):=(by rw[<-Gc];exact G4.o.AU (by simp only;exact HLN.o.symm) _);have BW5:aY (aN w.heap.size w w5):=(by rw[<-Gc];exact(xM.out.trans (BW4.o.mono (by have:=xM.out.size;have:=HG0.o;omega))).setCell (by simp only;exact vZ HbL.o) _);have M5:aY (∀w',Ch (· =g) w5 w'->dh w' g 4 (En n (rq i))->RqM w' bL n (i+1) (fun j=>if j=i then ay (az ⟨g,0,aj⟩) n n else V j) rq):=fun w' hc hb=>by
    have l5:=HL4.o.jd i (ay (az ⟨g,0,aj⟩) n n);rw[Gc,mH n (Ct V i) (Ct (fun j=>if j=i then ay (az ⟨g,0,aj⟩) n n else V j) (i+1)) i (ay (az ⟨g,0,aj⟩) n n) (fun x _=>by
     unfold Ct;by_cases e:x=i
     ·subst e;simp
     ·by_cases e2:x<i
      ·have e3:x<i+1:=by omega
       simp[e,e2,e3]
      ·have e3:¬x<i+1:=by omega
       simp[e,e2,e3])]at l5
    refine⟨l5.ch hc HLN.o,fun j hj=>?_⟩;by_cases e:j=i
    ·subst e;exact⟨g,if_pos rfl,hb,hb.lt⟩
    ·obtain⟨gj,k1,k2,k3⟩:=HM.o.rows j (by omega);have ngj:gj≠g:=by have:=HG0.o;omega
     have k4:dh w5 gj 4 (En n (rq j)):=(by rw[<-Gc];exact(k2.below BW4.o (by have:=HG0.o;omega)).AU (by simp only;exact dh.sU k2 HM.o.l (by decide)) _);exact⟨gj,by rw[if_neg e];exact k1,k4.ch hc ngj,(k4.ch hc ngj).lt⟩
   have WB:aY (∀w',Ch (· =g) w5 w'->aN w.heap.size w w'):=fun w' hc=>BW5.o.trans (hc.below (by have:=BW5.o.size;omega) (by rintro k rfl;have:=HG0.o;have:=xM.out.size;omega));have SZ:aY (w.heap.size<=g):=(by have:=HG0.o;have:=xM.out.size;rw[aY];omega);have LI:aY (w5.cell? ⟨bL,i,aj⟩=az (ay (az ⟨g,0,aj⟩) n n)):=by
    rw[<-Gc,aY,(HL4.o.jd i _).cell];have:i<(((aO n).map (Ct V i)).toArray).size:=by simp;exact Gb
    simp only[List.setIfInBounds_toArray,di];rw[List.getElem?_set_self (by simpa using Gb)]
   have LIn:=aA HLN.o;have LIs:aY (bL<w5.heap.size):=(by rw[<-Gc,aY];have:=HL4.o.lt;simpa[iK]using this);clear Gc HW4 G4 HL4 BW4 HS4 HM xM HLN c0 cl fl;obtain⟨wo,rfl⟩:∃wo:aG,wo=wr:=⟨_,rfl⟩;go_loopw [7,8,32,39] (fun _ _ k _ wr=>aje n (rq i) g w5 k wr) (fun _ _ k _ _=>n-(aJ k).toNat);case atStart=>exact⟨0,bS _,rfl,G5.o,Ch.refl _ _⟩
   case round=>
    obtain⟨k,hk,rfl,hG,hc⟩:=hrel;have HG:=aA hG;have HC:=aA hc;by_cases yY:k<n
    ·have kk0:(0:Int)<=(k:Int):=by omega
     have kk8:(k:Int)<(n:Int):=(by omega);obtain⟨c0,c1⟩:=C1.o wr (WB.o _ hc);have RX:aY (∀c w',Ch (· =g) w5 w'->c<m->bZ aH 128 #[ah ag i,ah ag k,ah ag c,au (az ⟨bO,0,aj⟩),au (az ⟨bB,0,aj⟩)] w' (Te (mR outs X i k c) w')):=fun c w' qg h3=>RY.o i k c w' (WB.o _ qg) Gb yY h3;have RQk:aY (rq i k=Hq (fun c=>mR outs X i k c) m):=RQ.o i k;have NX:=aA (acz (rq i) k);clear hG hc c0;go_wp2_with fail;clear c1;obtain⟨f,hf⟩:∃f:Nat->Bool,(fun c=>mR outs X i k c)=f:=⟨_,rfl⟩;have RXf:aY (∀c w',Ch (· =g) w5 w'->c<m->bZ aH 128 #[ah ag i,ah ag k,ah ag c,au (az ⟨bO,0,aj⟩),au (az ⟨bB,0,aj⟩)] w' (Te (f c) w')):=(by rw[<-hf];exact RX.o);rw[hf]at RQk;clear hf RX;obtain⟨wp,rfl⟩:∃wp:aG,wp=wr:=⟨_,rfl⟩;go_loopw [8,39] (fun _ c wr=>apI n m (rq i) f g k w5 c wr) (fun _ c _=>m-(aJ c).toNat);case atStart=>exact⟨0,bS _,rfl,HG.o,HC.o⟩
     case round=>
      obtain⟨c,hcc,rfl,hG,hc⟩:=hrel;have HGc:=aA hG;have HCc:=aA hc;by_cases hcm:c<m
      ·have RC:=aA (RXf.o c wr hc hcm);have AS:=aA (XB f c);have LG:aY (g<wr.heap.size):=hG.lt;have G0:aY (w5.heap.size<=wr.heap.size):=hc.size;have KC:aY (∀w',aN wr.heap.size wr w'->w'.cell? ⟨bL,i,aj⟩=az (ay (az ⟨g,0,aj⟩) n n)/\dh w' g 4 (En n (Ap (rq i) k (Hq f c)))/\Ch (· =g) w5 w'):=fun w' hb=>by
        refine⟨?_,HGc.o.below hb LG.o,HCc.o.rW hb⟩;have h1:=LI.o;rw[hb.cell (p:=⟨bL,i,aj⟩) (by have:=LIs.o;have:=G0.o;simp only;omega),HCc.o.cell (p:=⟨bL,i,aj⟩) LIs.o LIn.o];exact h1
       clear hG hc;cases hfc:f c with
       |true=>rw[hfc]at RC AS;have HF:=aA hfc;clear hfc;go_wp2_with (first|(go_at_call 128;refine RC.o.mono ?_;rintro e w' ⟨rfl,gm⟩;obtain⟨q1,q2,q3⟩:=KC.o _ gm;have f2:=q2.frozen k;have c2:=q2.cell k;rw[show(En n (Ap (rq i) k (Hq f c)))[k]?=az (.bool (Ap (rq i) k (Hq f c) k))from rU _ _ yY]at c2;have Q2:=aA q2;have Q3:=aA q3;clear q2 q3 gm));have G7:=Q2.o.jd k (.bool true);rw[afM]at G7;exact⟨⟨c+1,by omega,by simp,by rw[AS.o,Bool.or_true];exact G7,Q3.o.setCell (p:=⟨g,k,aj⟩) (.inl rfl) _⟩,by simp[aJ];omega⟩
       |false=>rw[hfc]at RC AS;have HF:=aA hfc;clear hfc;go_wp2_with (first|(go_at_call 128;refine RC.o.mono ?_;rintro e w' ⟨rfl,gm⟩;obtain⟨q1,q2,q3⟩:=KC.o _ gm;have Q2:=aA q2;have Q3:=aA q3;clear q2 q3 gm));exact⟨⟨c+1,by omega,by simp,by rw[AS.o,Bool.or_false];exact Q2.o,Q3.o⟩,by simp[aJ];omega⟩
      ·obtain rfl:m=c:=by omega
       have iZ:aY (aje n (rq i) g w5 (ah ag ((k+1:Nat):Int)) wr):=⟨k+1,by omega,rfl,by rw[<-NX.o,RQk.o];exact hG,hc⟩;clear hG hc;go_wp2_with fail;exact⟨by simpa using iZ.out,by simp[aJ];omega⟩
    ·obtain rfl:n=k:=by omega
     have ER:aY (Ap (rq i) n false=Ap (rq i) n (rq i n)\/True):=.inr trivial;have EQ:En n (Ap (rq i) n false)=En n (rq i):=(by unfold En;congr 1;refine List.map_congr_left fun x hx=>?_;have:=List.mem_range.1 hx;unfold Ap;rw[if_pos this]);rw[EQ]at hG;have iZ:aY (ajd n rq bL w (ah ag ((i+1:Nat):Int)) wr):=⟨i+1,_,by omega,rfl,M5.o wr hc hG,WB.o _ hc⟩;clear hG hc EQ;go_wp2_with fail;exact⟨by simpa using iZ.out,by simp[aJ];omega⟩
  ·obtain rfl:n=i:=by omega
   have iZ:aY (Tn n rq w (ax (ay (az ⟨bL,0,aj⟩) n n)) wr):=(by refine⟨bL,rfl,⟨n1,n8,bL,V,_,rfl,hM.l,fun j hj=>?_⟩,gm,vZ HbL.o⟩;obtain⟨g,k1,k2,k3⟩:=hM.rows j hj;refine⟨?_,g,n,_,k1,k2,fun k hk=>rU _ _ hk⟩;rw[rU _ _ hj];unfold Ct;rw[if_pos hj]);clear hM gm;go_wp2_with fail;go_ret;exact iZ.out
end
section
def cM(x:Mv):List aI:=[ah ag x.1,ah ag x.2.1,ah ag (pQ x.2.2.1)]
theorem Lv(x:Mv):(cM x).length=3:=rfl
theorem Nx.loc{vT Z:Own}{o:Nat}{w0 w w':aG}{S:Nat->Prop}(h:Nx vT o w0 Z w)(hc:Ch S w w')(hS:∀k,S k->w0.heap.size<=k):Nx vT o w0 (fr Z w.heap.size) w' where
 ch:=h.ch.trans hc fun i hi s=>by have:=hS i s;omega
 ext:=fun k hk=>(gL (Nat.lt_of_lt_of_le hk h.ch.size)).trans (h.ext k hk)
 fresh:=fun k h1 h2=>by
  by_cases hk:k<w.heap.size
  ·rw[gL hk];exact h.fresh k h1 hk
  ·rw[lL (by omega)];exact .inr (bS _)
theorem kH{w:aG}{base:Nat}{e:dL}{m n:Nat}{v:aI}{xs:List aI}(h:w.ownsRow base e m v n xs):∀g,v.ownBlock=az g->∃cs,dh w g e cs:=fun g hg=>by
 rcases h.2 with⟨rfl,_⟩|⟨g1,cap,cur,rfl,_,hh,_⟩
 ·simp[dV]at hg
 ·simp[dV]at hg;subst hg;exact⟨cur,hh⟩
theorem uJ{w:aG}{base:Nat}{e:dL}{n:Nat}{v:aI}{xs:List aI}(h:w.ownsRow base e 1 v n xs)(hn:0<n):∃g cap cs,v=ay (az ⟨g,0,aj⟩) n cap/\dh w g e cs/\base<=g/\∀i,i<n->cs[i]?=xs[i]?:=by
 rcases h.2 with⟨_,h0⟩|⟨g,cap,cur,rfl,hb,hh,_,_,_,ht⟩
 ·omega
 ·refine⟨g,cap,cur,rfl,hh,hb,fun i hi=>?_⟩;rw[<-ht,oQ,List.getElem?_take,if_pos hi,Array.getElem?_toList]
structure Tp(vT:Own)(w0:aG)(o b bB rM qJ bD bO:Nat)(D O:Nat->Nat->Int)(n m:Nat)(Z:Own)(w:aG)(X:Bx)(L:yM)(mm:List Mv)(vM vF:aI)(Q:List (Fm×aI)):Prop where
 bx:pO Z o w b X L
 nx:Nx vT o w0 Z w
 vb:dh w bB 101 #[pt b]/\(Z bB).1=0
 vm:dh w rM 185 #[vM]/\(Z rM).1=0/\w0.heap.size<=rM
 vf:dh w qJ 110 #[vF]/\(Z qJ).1=0/\w0.heap.size<=qJ
 om:w.ownsRow w0.heap.size 189 3 vM mm.length (mm.flatMap cM)/\∀g,vM.ownBlock=az g->(Z g).1=0
 Ih:w.ownsRow w0.heap.size 59 6 vF Q.length (Q.flatMap Cx)/\∀g,vF.ownBlock=az g->(Z g).1=0
 Qz:∀x∈Q,iQ Z w x.1.data x.2
 dd:zC Z w bD n m D
 oo:zC Z w bO n m O
theorem zC.ZU{Z:Own}{w wr:aG}{B g n m:Nat}{V:Nat->aI}{f:Nat->Nat->Int}(hB:dh wr g 231 (uq V))(hg:(Z g).1=0)(hm:0<m)(ht:∀k,B<=k->k<w.heap.size->(Z k).1=0)(hr:∀p,p<n->∃xs:List aI,w.ownsRow B 3 1 (V p) m xs/\∀c,c<m->xs[c]?=az (ah ag (f p c)))(hb:aN w.heap.size w wr):zC Z wr g n m f:=by refine⟨V,hB,hg,fun p hp=>?_⟩;obtain⟨xs,h1,h2⟩:=hr p hp;obtain⟨g',cap,cs,e,hbk,oV,hc⟩:=uJ h1 hm;exact⟨g',cap,cs,e,hbk.below hb hbk.lt,ht g' oV hbk.lt,fun c qg=>by rw[hc c qg,h2 c qg]⟩
section
variable{vT Z dN:Own}{w0 w w' w2 w3 wp:aG}{o b bB rM qJ bD bO n m:Nat}{D O:Nat->Nat->Int}{X X':Bx}{L L':yM}{mm:List Mv}{vM vF v':aI}{Q:List (Fm×aI)}
theorem Tp.below(h:Tp vT w0 o b bB rM qJ bD bO D O n m Z w X L mm vM vF Q)(k:aN w.heap.size w w'):Tp vT w0 o b bB rM qJ bD bO D O n m (fr Z w.heap.size) w' X L mm vM vF Q:=by
 have hc:Ch (fun _=>False) w w':=Ch.bY k;have he:∀i,i<w.heap.size->fr Z w.heap.size i=Z i:=fun i hi=>gL hi;exact{
  bx:=h.bx.jD hc he (fun _ s=>s.elim)
  nx:=h.nx.loc hc (fun _ s=>s.elim)
  vb:=⟨h.vb.1.below k h.vb.1.lt,by rw[he _ h.vb.1.lt];exact h.vb.2⟩
  vm:=⟨h.vm.1.below k h.vm.1.lt,by rw[he _ h.vm.1.lt];exact h.vm.2.1,h.vm.2.2⟩
  vf:=⟨h.vf.1.below k h.vf.1.lt,by rw[he _ h.vf.1.lt];exact h.vf.2.1,h.vf.2.2⟩
  om:=⟨fO h.om.1 hc (fun _ _ s=>s.elim),fun g hg=>by rw[he _ (h.om.1.lt g hg).2];exact h.om.2 g hg⟩
  Ih:=⟨fO h.Ih.1 hc (fun _ _ s=>s.elim),fun g hg=>by rw[he _ (h.Ih.1.lt g hg).2];exact h.Ih.2 g hg⟩
  Qz:=fun x hx=>(h.Qz x hx).jD hc he (fun _ s=>s.elim)
  dd:=h.dd.jD hc he (fun _ s=>s.elim)
  oo:=h.oo.jD hc he (fun _ s=>s.elim)}
theorem Tp.drew(h:Tp vT w0 o b bB rM qJ bD bO D O n m Z w X L mm vM vF Q):Tp vT w0 o b bB rM qJ bD bO D O n m Z w.drew X L mm vM vF Q where
 bx:=h.bx.drew
 nx:=h.nx.drew
 vb:=h.vb
 vm:=h.vm
 vf:=h.vf
 om:=h.om
 Ih:=h.Ih
 Qz:=fun x hx=>(h.Qz x hx).jD (S:=fun _=>False) (Ch.refl _ w).drew (fun _ _=>rfl) (fun _ s=>s.elim)
 dd:=h.dd.below ⟨rfl,rfl,rfl,aC _,fun _ _=>rfl⟩
 oo:=h.oo.below ⟨rfl,rfl,rfl,aC _,fun _ _=>rfl⟩
theorem Tp.post(h:Tp vT w0 o b bB rM qJ bD bO D O n m Z w X L mm vM vF Q)(ho:2<=o)(hx:pO dN o w' b X' L')(k:Nx Z o w dN w'):Tp vT w0 o b bB rM qJ bD bO D O n m dN w' X' L' mm vM vF Q where
 bx:=hx
 nx:=h.nx.trans k
 vb:=⟨h.vb.1.ch k.ch (by rw[h.vb.2];omega),by rw[k.ext _ h.vb.1.lt];exact h.vb.2⟩
 vm:=⟨h.vm.1.ch k.ch (by rw[h.vm.2.1];omega),by rw[k.ext _ h.vm.1.lt];exact h.vm.2.1,h.vm.2.2⟩
 vf:=⟨h.vf.1.ch k.ch (by rw[h.vf.2.1];omega),by rw[k.ext _ h.vf.1.lt];exact h.vf.2.1,h.vf.2.2⟩
 om:=⟨fO h.om.1 k.ch (fun g hg=>by rw[h.om.2 g hg];omega),fun g hg=>by rw[k.ext _ (h.om.1.lt g hg).2];exact h.om.2 g hg⟩
 Ih:=⟨fO h.Ih.1 k.ch (fun g hg=>by rw[h.Ih.2 g hg];omega),fun g hg=>by rw[k.ext _ (h.Ih.1.lt g hg).2];exact h.Ih.2 g hg⟩
 Qz:=fun x hx=>(h.Qz x hx).nx k ho
 dd:=h.dd.nx k ho
 oo:=h.oo.nx k ho
theorem Tp.uG{S:Nat->Prop}(h:Tp vT w0 o b bB rM qJ bD bO D O n m Z w X L mm vM vF Q)(ho:2<=o)(hc:Ch S w w')(hS:∀k,S k->(Z k).1=0/\w0.heap.size<=k/\k≠bB)(hd:∀k,S k->∃t cs,dh w k t cs/\t≠231/\t≠3):pO (fr Z w.heap.size) o w' b X L/\Nx vT o w0 (fr Z w.heap.size) w'/\(dh w' bB 101 #[pt b]/\(fr Z w.heap.size bB).1=0)/\(∀x∈Q,iQ (fr Z w.heap.size) w' x.1.data x.2)/\zC (fr Z w.heap.size) w' bD n m D/\zC (fr Z w.heap.size) w' bO n m O:=by
 have he:∀i,i<w.heap.size->fr Z w.heap.size i=Z i:=fun i hi=>gL hi;have ho':∀(bO:Nat) (O:Nat->Nat->Int),zC Z w bO n m O->zC (fr Z w.heap.size) w' bO n m O:=fun bO O hO=>by
  obtain⟨U,h1,h2,h3⟩:=hO;refine⟨U,h1.ch hc fun s=>?_,by rw[he _ h1.lt];exact h2,fun p hp=>?_⟩
  ·obtain⟨t,cs,b1,b2,b3⟩:=hd _ s;exact b2 (dh.same h1 b1).1.symm
  ·obtain⟨g,cap,cs,k1,k2,k3,k4⟩:=h3 p hp;refine⟨g,cap,cs,k1,k2.ch hc fun s=>?_,by rw[he _ k2.lt];exact k3,k4⟩;obtain⟨t,cs',b1,b2,b3⟩:=hd _ s;exact b3 (dh.same k2 b1).1.symm
 exact⟨h.bx.jD hc he (fun k s=>by have:=(hS k s).1;omega),h.nx.loc hc (fun k s=>(hS k s).2.1),⟨h.vb.1.ch hc fun s=>(hS _ s).2.2 rfl,by rw[he _ h.vb.1.lt];exact h.vb.2⟩,
  fun x hx=>(h.Qz x hx).jD hc he fun k s=>by have:=(hS k s).1;omega,ho' _ _ h.dd,ho' _ _ h.oo⟩
theorem Tp.ajU{mv:Mv}{o1:Obj}(h:Tp vT w0 o b bB rM qJ bD bO D O n m Z w X L mm vM vF Q)(ho:2<=o)(hb:w0.heap.size<=w.heap.size)(hbB:bB≠rM)(nV:w2.ownsRow w0.heap.size 189 3 v' (mm.length+1) (mm.flatMap cM++cM mv))(gr:(w.alloc o1).grownBy w2 vM.ownBlock)(loc:v'.ownBlock=vM.ownBlock\/v'.ownBlock=az (w.heap.size+1)):dh w2 rM 185 #[vM]/\Tp vT w0 o b bB rM qJ bD bO D O n m (fr Z w.heap.size) (w2.setCell ⟨rM,0,aj⟩ v') X L (mm++[mv]) v' vF Q/\∀g cs,dh w g 3 cs->dh (w2.setCell ⟨rM,0,aj⟩ v') g 3 cs/\fr Z w.heap.size g=Z g:=by
 have Pq:Ch (fun k=>k=rM\/vM.ownBlock=az k) w w2:=((Ch.refl _ w).alloc o1).grown gr fun g hg=>.inl (.inr hg);have hc:Ch (fun k=>k=rM\/vM.ownBlock=az k) w (w2.setCell ⟨rM,0,aj⟩ v'):=Pq.setCell (p:=⟨rM,0,aj⟩) (.inl (.inl rfl)) v';have Mw:∀g,vM.ownBlock=az g->∃cs,dh w g 189 cs:=kH h.om.1;have nM:∀g,vM.ownBlock=az g->rM≠g:=fun g hg e=>by obtain⟨cs,hb⟩:=Mw g hg;exact dh.sU h.vm.1 hb (by decide) e
 obtain⟨k1,k2,k3,k4,k5,k6⟩:=h.uG ho hc (fun k s=>by
  rcases s with s|s
  ·subst s;exact⟨h.vm.2.1,h.vm.2.2,hbB.symm⟩
  ·refine⟨h.om.2 k s,(h.om.1.lt k s).1,fun e=>?_⟩;obtain⟨cs,hb⟩:=Mw k s;subst e;exact dh.sU h.vb.1 hb (by decide) rfl) (fun k s=>by
  rcases s with s|s
  ·subst s;exact⟨_,_,h.vm.1,by decide,by decide⟩
  ·obtain⟨cs,hb⟩:=Mw k s;exact⟨_,_,hb,by decide,by decide⟩)
 have b2:dh w2 rM 185 #[vM]:=(h.vm.1.alloc o1).grown gr fun e=>nM _ e.symm rfl;have he:∀i,i<w.heap.size->fr Z w.heap.size i=Z i:=fun i hi=>gL hi;refine⟨b2,?_,fun g cs hb=>⟨hb.ch hc fun s=>?_,he _ hb.lt⟩⟩;rotate_left
 ·rcases s with s|s
  ·have h1:=h.vm.1;rw[<-s]at h1;exact dh.sU hb h1 (by decide) rfl
  ·obtain⟨cs,sV⟩:=Mw _ s;exact dh.sU hb sV (by decide) rfl
 refine⟨k1,k2,k3,⟨?_,?_,h.vm.2.2⟩,⟨h.vf.1.ch hc fun s=>?_,by rw[he _ h.vf.1.lt];exact h.vf.2.1,h.vf.2.2⟩,⟨?_,fun g hg=>?_⟩,⟨fO h.Ih.1 hc fun g hg s=>?_,fun g hg=>by rw[he _ (h.Ih.1.lt g hg).2];exact h.Ih.2 g hg⟩,k4,k5,k6⟩
 ·have:=b2.jd 0 v';simpa using this
 ·rw[he _ h.vm.1.lt];exact h.vm.2.1
 ·rcases s with s|s
  ·have h1:=h.vm.1;rw[<-s]at h1;exact dh.sU h.vf.1 h1 (by decide) rfl
  ·obtain⟨cs,hb⟩:=Mw _ s;exact dh.sU h.vf.1 hb (by decide) rfl
 ·have h1:=nO nV (p:=⟨rM,0,aj⟩) v' fun g hg e=>by
   obtain⟨cs,hb⟩:=kH nV g hg;exact dh.sU b2 hb (by decide) (by rw[e])
  simpa[cM]using h1
 ·rcases loc with q|q
  ·rw[q]at hg;rw[he _ (h.om.1.lt g hg).2];exact h.om.2 g hg
  ·rw[q]at hg;injection hg with hg;rw[lL (by omega)]
 ·obtain⟨cs',sV⟩:=kH h.Ih.1 g hg;rcases s with s|s
  ·have h1:=h.vm.1;rw[<-s]at h1;exact dh.sU sV h1 (by decide) rfl
  ·obtain⟨cs,hb⟩:=Mw _ s;exact dh.sU sV hb (by decide) rfl
theorem Tp.ajT{x:Fm}{v:aI}{o1:Obj}(h:Tp vT w0 o b bB rM qJ bD bO D O n m Z w X L mm vM vF Q)(ho:2<=o)(hb:w0.heap.size<=w.heap.size)(hbB:bB≠qJ)(hx:iQ Z w x.data v)(nV:w2.ownsRow w0.heap.size 59 6 v' (Q.length+1) (Q.flatMap Cx++Cx (x,v)))(gr:(w.alloc o1).grownBy w2 vF.ownBlock)(loc:v'.ownBlock=vF.ownBlock\/v'.ownBlock=az (w.heap.size+1)):dh w2 qJ 110 #[vF]/\Tp vT w0 o b bB rM qJ bD bO D O n m (fr Z w.heap.size) (w2.setCell ⟨qJ,0,aj⟩ v') X L mm vM v' (Q++[(x,v)])/\∀g cs,dh w g 3 cs->dh (w2.setCell ⟨qJ,0,aj⟩ v') g 3 cs/\fr Z w.heap.size g=Z g:=by
 have Pq:Ch (fun k=>k=qJ\/vF.ownBlock=az k) w w2:=((Ch.refl _ w).alloc o1).grown gr fun g hg=>.inl (.inr hg);have hc:Ch (fun k=>k=qJ\/vF.ownBlock=az k) w (w2.setCell ⟨qJ,0,aj⟩ v'):=Pq.setCell (p:=⟨qJ,0,aj⟩) (.inl (.inl rfl)) v';have Mw:∀g,vF.ownBlock=az g->∃cs,dh w g 59 cs:=kH h.Ih.1;have nM:∀g,vF.ownBlock=az g->qJ≠g:=fun g hg e=>by obtain⟨cs,hb⟩:=Mw g hg;exact dh.sU h.vf.1 hb (by decide) e
 have hS0:∀k,(k=qJ\/vF.ownBlock=az k)->(Z k).1=0:=fun k s=>by
  rcases s with s|s
  ·subst s;exact h.vf.2.1
  ·exact h.Ih.2 k s
 obtain⟨k1,k2,k3,k4,k5,k6⟩:=h.uG ho hc (fun k s=>by
  rcases s with s|s
  ·subst s;exact⟨h.vf.2.1,h.vf.2.2,hbB.symm⟩
  ·refine⟨h.Ih.2 k s,(h.Ih.1.lt k s).1,fun e=>?_⟩;obtain⟨cs,hb⟩:=Mw k s;subst e;exact dh.sU h.vb.1 hb (by decide) rfl) (fun k s=>by
  rcases s with s|s
  ·subst s;exact⟨_,_,h.vf.1,by decide,by decide⟩
  ·obtain⟨cs,hb⟩:=Mw k s;exact⟨_,_,hb,by decide,by decide⟩)
 have b2:dh w2 qJ 110 #[vF]:=(h.vf.1.alloc o1).grown gr fun e=>nM _ e.symm rfl;have he:∀i,i<w.heap.size->fr Z w.heap.size i=Z i:=fun i hi=>gL hi;refine⟨b2,?_,fun g cs hb=>⟨hb.ch hc fun s=>?_,he _ hb.lt⟩⟩;rotate_left
 ·rcases s with s|s
  ·have h1:=h.vf.1;rw[<-s]at h1;exact dh.sU hb h1 (by decide) rfl
  ·obtain⟨cs,sV⟩:=Mw _ s;exact dh.sU hb sV (by decide) rfl
 refine⟨k1,k2,k3,⟨h.vm.1.ch hc fun s=>?_,by rw[he _ h.vm.1.lt];exact h.vm.2.1,h.vm.2.2⟩,⟨?_,?_,h.vf.2.2⟩,⟨fO h.om.1 hc fun g hg s=>?_,fun g hg=>by rw[he _ (h.om.1.lt g hg).2];exact h.om.2 g hg⟩,⟨?_,fun g hg=>?_⟩,fun y hy=>?_,k5,k6⟩
 ·rcases s with s|s
  ·have h1:=h.vf.1;rw[<-s]at h1;exact dh.sU h.vm.1 h1 (by decide) rfl
  ·obtain⟨cs,hb⟩:=Mw _ s;exact dh.sU h.vm.1 hb (by decide) rfl
 ·have:=b2.jd 0 v';simpa using this
 ·rw[he _ h.vf.1.lt];exact h.vf.2.1
 ·obtain⟨cs',sV⟩:=kH h.om.1 g hg;rcases s with s|s
  ·have h1:=h.vf.1;rw[<-s]at h1;exact dh.sU sV h1 (by decide) rfl
  ·obtain⟨cs,hb⟩:=Mw _ s;exact dh.sU sV hb (by decide) rfl
 ·have h1:=nO nV (p:=⟨qJ,0,aj⟩) v' fun g hg e=>by
   obtain⟨cs,hb⟩:=kH nV g hg;exact dh.sU b2 hb (by decide) (by rw[e])
  simpa[Cx]using h1
 ·rcases loc with q|q
  ·rw[q]at hg;rw[he _ (h.Ih.1.lt g hg).2];exact h.Ih.2 g hg
  ·rw[q]at hg;injection hg with hg;rw[lL (by omega)]
 ·rcases List.mem_append.1 hy with hy|hy
  ·exact k4 y hy
  ·simp only[List.mem_singleton]at hy;subst hy;exact hx.jD hc he fun k s=>by have:=hS0 k s;omega
end
end
end Go.Proofs.YtnjjkgjdhljfnaaGreat
