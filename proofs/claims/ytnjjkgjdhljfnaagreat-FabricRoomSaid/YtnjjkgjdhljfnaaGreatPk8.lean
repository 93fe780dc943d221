/- Part 8. -/
import Derived.Deep.CutBlock
import Derived.Deep.DeepCutAuto
import Derived.Test.YtnjjkgjdhljfnaaGreatPk7
open Go.Proofs.Tryz
open Array renaming ext'->tu,ext_getElem?->zI
open Classical renaming choose->mD
open Go renaming Calls->di,TypeId->dP,Value->aJ,World->aG,info_parts->eQ,madeCells->eH,maxLen->fJ
open Go.Ending renaming returned->ax
open Go.IntKind renaming i64->ag
open Go.Lib renaming hid->aA
open Go.Obj renaming cells->af
open Go.Proofs.Tryz renaming prog->aH
open Go.RowKit renaming Below->aO,Hid->aZ,intOf->aK
open Go.RowKit.Below renaming refl->aS
open Go.Value renaming bool->kv,int->ah,ownBlock->eO,pointer->au,slice->ay
open Go.World renaming ownsRow_nil->dR,setCell->iJ
open List renaming getElem?_cons_succ->fP,getElem?_cons_zero->dO,getElem?_toArray->dJ,map_append->fF,range->aN,range_succ->dL
open Nat renaming le_of_eq->zm,le_refl->aC,mod_one->rf,mul_one->qm,zero_le->bJ
open Option renaming none->aj,some->az
open Prod renaming ext->yh
open Prod.mk renaming injEq->qD
set_option maxRecDepth 100000
set_option maxHeartbeats 16000000
set_option linter.unusedVariables false
set_option linter.unusedSimpArgs false
namespace Go.Proofs.YtnjjkgjdhljfnaaGreat
open Go.RowKit Go.Maps
section
attribute [local go_sem ↓] Go.wp_at_zero Go.wp_at_succ
theorem dG.rU{w:aG}{g:Nat}{t:dP}{cs:Array aJ}(h:dG w g t cs){i:Nat}{u:aJ}(hu:cs[i]?=az u):w.setCell ⟨g,i,aj⟩ u=w:=by
 have e:cs.setIfInBounds i u=cs:=by
  apply zI;intro j;rw[Array.getElem?_setIfInBounds];by_cases e:i=j
  ·subst e;have hl:i<cs.size:=by
    rcases Nat.lt_or_ge i cs.size with h|h
    ·exact h
    ·rw[Array.getElem?_eq_none h]at hu;cases hu
   simp[hl];simpa[hl]using hu.symm
  ·simp[e]
 unfold iJ;cases w with
 |mk heap tape drawn os output=>
  simp only[World.mk.injEq,and_true,true_and];apply zI;intro j;rw[Array.getElem?_modify];by_cases e2:g=j
  ·subst e2;have h':heap[g]?=az (.cells cs t (0,0)):=h;simp[h',e]
  ·simp[e2]
def uu(f:Nat->aJ):Array aJ:=((aN 8).map f).toArray
def kZ(V:Nat->aJ)(p:Nat)(v:aJ)(q:Nat):aJ:=if q<p then V q else if q=p then v else ay aj 0 0
theorem JX(f:Nat->aJ){i:Nat}(h:i<8):(uu f)[i]?=az (f i):=sj 8 f h
theorem ael(f g:Nat->aJ)(j:Nat)(v:aJ)(h:∀i,i<8->g i=if i=j then v else f i):(uu f).setIfInBounds j v=uu g:=mM 8 f g j v h
theorem Qv(V:Nat->aJ)(p:Nat)(v v':aJ):(uu (kZ V p v)).setIfInBounds p v'=uu (kZ V p v'):=ael _ _ _ _ fun i _=>by
 unfold kZ;by_cases e:i=p
 ·subst e;simp
 ·simp[e]
theorem Nr(V:Nat->aJ)(p:Nat)(v:aJ):kZ (fun q=>if q=p then v else V q) (p+1) (ay aj 0 0)=kZ V p v:=by
 funext q;unfold kZ;by_cases e:q<p
 ·have e3:¬q=p:=by omega
  have e4:q<p+1:=by omega
  simp[e,e3,e4]
 ·by_cases e2:q=p
  ·subst e2;simp
  ·have e4:¬q<p+1:=by omega
   simp[e,e2,e4]
theorem YD{bE:Nat}{rt:Fm->Option Nat}{f:Fm}{l:List Fm}{k:Nat}(h:rt f=az k)(hk:k<bE):lookQ bE rt (f::l)=(0,az k):=by unfold lookQ;simp[h,hk]
theorem VT{bE:Nat}{rt:Fm->Option Nat}{f:Fm}{l:List Fm}(h:∀k,rt f=az k->¬k<bE):lookQ bE rt (f::l)=((lookQ bE rt l).1+1,(lookQ bE rt l).2):=by
 rw[lookQ];cases hr:rt f with
 |none=>rfl
 |some k=>simp only;rw[if_neg (h k hr)]
theorem qy{w:aG}{base:Nat}{e:dP}{m n:Nat}{v:aJ}{xs:List aJ}(h:w.ownsRow base e m v n xs):∃a n c,v=ay a n c:=by
 rcases h.2 with⟨rfl,_⟩|⟨g,cap,cur,rfl,_⟩
 ·exact⟨_,_,_,rfl⟩
 ·exact⟨_,_,_,rfl⟩
theorem xS(V:Nat->aJ)(p:Nat)(h:∀q,q<p->∃a n c,V q=ay a n c):∃(A:Nat->Option Addr) (Nn C:Nat->Nat),kZ V p (ay aj 0 0)=fun i=>ay (A i) (Nn i) (C i):=by
 have h2:∀q,∃t:Option Addr×Nat×Nat,kZ V p (ay aj 0 0) q=ay t.1 t.2.1 t.2.2:=fun q=>by
  unfold kZ;by_cases e:q<p
  ·obtain⟨a,n,c,e2⟩:=h q e;exact⟨(a,n,c),by simp[e,e2]⟩
  ·exact⟨(aj,0,0),by simp[e]⟩
 exact⟨fun i=>(mD (h2 i)).1,fun i=>(mD (h2 i)).2.1,fun i=>(mD (h2 i)).2.2,funext fun i=>Classical.choose_spec (h2 i)⟩
def Pk(X:Bx)(bz:Nat->Fm->Option Nat)(p c:Nat):Nat:=(lookQ X.bE (bz p) (dz X.q p c)).1
def YK(X:Bx)(bz:Nat->Fm->Option Nat)(p c:Nat):Option Nat:=(lookQ X.bE (bz p) (dz X.q p c)).2
def Hu(X:Bx)(bz:Nat->Fm->Option Nat)(p n:Nat):List Int:=(aN n).map fun c=>(Pk X bz p c:Int)
def Hw(X:Bx)(bz:Nat->Fm->Option Nat)(p n:Nat):List Int:=(aN n).map fun c=>pX (YK X bz p c)
theorem acC(X:Bx)(bz:Nat->Fm->Option Nat)(p n:Nat):Hu X bz p (n+1)=Hu X bz p n++[(Pk X bz p n:Int)]:=by unfold Hu;rw[dL,fF];rfl
theorem acE(X:Bx)(bz:Nat->Fm->Option Nat)(p n:Nat):Hw X bz p (n+1)=Hw X bz p n++[pX (YK X bz p n)]:=by unfold Hw;rw[dL,fF];rfl
structure NJ(w:aG)(K:Nat)(vD vO:aJ)(lD lO:List Int):Prop where
 d:w.ownsRow K 3 1 vD lD.length (lD.flatMap cI)
 o:w.ownsRow K 3 1 vO lO.length (lO.flatMap cI)
 ap:∀g,vD.ownBlock=az g->vO.ownBlock≠az g
theorem NJ.ch{S:Nat->Prop}{w w':aG}{K:Nat}{vD vO:aJ}{lD lO:List Int}(h:NJ w K vD vO lD lO)(hc:Ch S w w')(hS:∀k,S k->k<K):NJ w' K vD vO lD lO:=
 ⟨fT h.d hc fun g hg s=>by have:=(h.d.lt g hg).1;have:=hS g s;omega,fT h.o hc fun g hg s=>by have:=(h.o.lt g hg).1;have:=hS g s;omega,h.ap⟩
structure Fp(w:aG)(bD bO B:Nat)(X:Bx)(bz:Nat->Fm->Option Nat)(p:Nat)(vD vO:aJ)(V U:Nat->aJ):Prop where
 d:dG w bD 231 (uu (kZ V p vD))
 o:dG w bO 231 (uu (kZ U p vO))
 ne:bD≠bO
 ld:bD<B
 lo:bO<B
 rows:∀q,q<p->NJ w B (V q) (U q) (Hu X bz q X.aX) (Hw X bz q X.aX)
theorem Fp.below{w w':aG}{bD bO B:Nat}{X:Bx}{bz:Nat->Fm->Option Nat}{p:Nat}{vD vO:aJ}{V U:Nat->aJ}(h:Fp w bD bO B X bz p vD vO V U)(k:aO w.heap.size w w'):Fp w' bD bO B X bz p vD vO V U:=
 ⟨h.d.below k h.d.lt,h.o.below k h.o.lt,h.ne,h.ld,h.lo,fun q hq=>(h.rows q hq).ch (S:=fun _=>False) (Ch.dw k) (fun _ s=>s.elim)⟩
section
variable{wo wr w2 w4:aG}{bD bO K B:Nat}{X:Bx}{bz:Nat->Fm->Option Nat}{p:Nat}{vD vO v1 v3:aJ}{V U:Nat->aJ}{lD lO:List Int}{n o:Int}{o1 o2:Obj}
theorem Fp.Wo(hm:Fp wr bD bO B X bz p vD vO V U)(row:NJ wr K vD vO lD lO)(hK:B<=K)(hK2:K<=wr.heap.size)(nR:w2.ownsRow K 3 1 v1 (lD.length+1) (lD.flatMap cI++[ah ag n]))(yG:(wr.alloc o1).grownBy w2 vD.ownBlock):dG w2 bD 231 (uu (kZ V p vD))/\dG (w2.setCell ⟨bD,p,aj⟩ v1) bO 231 (uu (kZ U p vO))/\(w2.setCell ⟨bD,p,aj⟩ v1).ownsRow K 3 1 vO lO.length (lO.flatMap cI):=by
 have l1:=hm.ld;have l2:=hm.lo;have f1:∀g,g<B->az g≠vD.ownBlock:=fun g hg e=>by have:=(row.d.lt g e.symm).1;omega
 have b2:dG w2 bO 231 (uu (kZ U p vO)):=(hm.o.alloc o1).grown yG (f1 _ l2);refine⟨(hm.d.alloc o1).grown yG (f1 _ l1),b2.Bi (by simp only;exact hm.ne.symm) _,?_⟩;refine nK ((row.o.alloc o1).kept yG ?_) v1 fun g hg=>?_
 ·cases e:vO.ownBlock with
  |none=>exact .inl rfl
  |some g=>exact .inr fun e2=>row.ap g e2.symm e
 ·have:=(row.o.lt g hg).1;simp only;omega
theorem Fp.asc(hm:Fp wr bD bO B X bz p vD vO V U)(row:NJ wr K vD vO lD lO)(hK:B<=K)(hK2:K<=wr.heap.size)(hch:Ch (fun k=>k=bD\/k=bO) wo wr)(hKo:K=wo.heap.size)(hro:∀q,q<p->NJ wo B (V q) (U q) (Hu X bz q X.aX) (Hw X bz q X.aX))(nR:w2.ownsRow K 3 1 v1 (lD.length+1) (lD.flatMap cI++[ah ag n]))(yG:(wr.alloc o1).grownBy w2 vD.ownBlock)(AX:v1.ownBlock=vD.ownBlock\/v1.ownBlock=az (wr.heap.size+1))(uB:w4.ownsRow K 3 1 v3 (lO.length+1) (lO.flatMap cI++[ah ag o]))(Ho:((w2.setCell ⟨bD,p,aj⟩ v1).alloc o2).grownBy w4 vO.ownBlock)(Qa:v3.ownBlock=vO.ownBlock\/v3.ownBlock=az (w2.heap.size+1)):dG w4 bO 231 (uu (kZ U p vO))/\Fp (w4.setCell ⟨bO,p,aj⟩ v3) bD bO B X bz p v1 v3 V U/\NJ (w4.setCell ⟨bO,p,aj⟩ v3) K v1 v3 (lD++[n]) (lO++[o])/\Ch (fun k=>k=bD\/k=bO) wo (w4.setCell ⟨bO,p,aj⟩ v3):=by
 have l1:=hm.ld;have l2:=hm.lo;obtain⟨p1,p2,p3⟩:=hm.Wo row hK hK2 nR yG;have f2:∀g,g<B->az g≠vO.ownBlock:=fun g hg e=>by have:=(row.o.lt g e.symm).1;omega
 have s2:wr.heap.size+1<=w2.heap.size:=by have:=yG.size;simpa using this
 have d4:dG w4 bD 231 (uu (kZ V p v1)):=by have:=p1.jy p v1;rw[Qv]at this;exact(this.alloc o2).grown Ho (f2 _ l1)
 have o4:dG w4 bO 231 (uu (kZ U p vO)):=(p2.alloc o2).grown Ho (f2 _ l2);have anh:=nR.lt;have ap1:∀g,v1.ownBlock=az g->vO.ownBlock≠az g:=fun g h1 h2=>by
  rcases AX with q|q
  ·rw[q]at h1;exact row.ap g h1 h2
  ·rw[q]at h1;injection h1 with h1;have:=(row.o.lt g h2).2;omega
 have arW:w4.ownsRow K 3 1 v1 (lD.length+1) (lD.flatMap cI++[ah ag n]):=by
  refine((nK nR v1 fun g hg=>?_).alloc o2).kept Ho ?_
  ·have:=(anh g hg).1;simp only;omega
  ·cases e:v1.ownBlock with
   |none=>exact .inl rfl
   |some g=>exact .inr fun e2=>ap1 g e e2.symm
 have C1:Ch (fun k=>k=bD\/k=bO) wo w4:=(((hch.alloc o1).grown yG fun g hg=>.inr (by have:=(row.d.lt g hg).1;omega)).setCell (p:=⟨bD,p,aj⟩) (.inl (.inl rfl)) v1).alloc o2|>.grown Ho fun g hg=>.inr (by have:=(row.o.lt g hg).1;omega);have C2:Ch (fun k=>k=bD\/k=bO) wo (w4.setCell ⟨bO,p,aj⟩ v3):=C1.setCell (p:=⟨bO,p,aj⟩) (.inl (.inr rfl)) v3;have asr:∀q,q<p->NJ (w4.setCell ⟨bO,p,aj⟩ v3) B (V q) (U q) (Hu X bz q X.aX) (Hw X bz q X.aX):=fun q hq=>
  (hro q hq).ch C2 fun k s=>by rcases s with s|s<;>omega
 refine⟨o4,⟨d4.Bi (by simp only;exact hm.ne) _,?_,hm.ne,hm.ld,hm.lo,asr⟩,⟨?_,?_,?_⟩,C2⟩
 ·have:=o4.jy p v3;rw[Qv]at this;exact this
 ·have:=nK arW (p:=⟨bO,p,aj⟩) v3 fun g hg=>by have:=(anh g hg).1;simp only;omega
  simpa[cI]using this
 ·have:=nK uB (p:=⟨bO,p,aj⟩) v3 fun g hg=>by have:=(uB.lt g hg).1;simp only;omega
  simpa[cI]using this
 ·intro g h1 h2;rcases Qa with q|q
  ·rw[q]at h2;exact ap1 g h1 h2
  ·rw[q]at h2;injection h2 with h2;have:=(anh g h1).2;omega
end
def ady(X:Bx)(bz:Nat->Fm->Option Nat)(w:aG)(e:Ending)(w':aG):Prop:=
 ∃V U,e=ax (.tuple #[.agg (uu (kZ V X.bE (ay aj 0 0))),.agg (uu (kZ U X.bE (ay aj 0 0)))])/\(∀q,q<X.bE->NJ w' w.heap.size (V q) (U q) (Hu X bz q X.aX) (Hw X bz q X.aX))/\aO w.heap.size w w'
def adN(X:Bx)(bz:Nat->Fm->Option Nat)(w:aG)(bD bO:Nat)(i:aJ)(wr:aG):Prop:=
 ∃p V U,p<=X.bE/\i=ah ag (p:Nat)/\Fp wr bD bO (bO+1) X bz p (ay aj 0 0) (ay aj 0 0) V U/\aO w.heap.size w wr
def adO(X:Bx)(bz:Nat->Fm->Option Nat)(w wo:aG)(bD bO p:Nat)(V U:Nat->aJ)(i:aJ)(wr:aG):Prop:=
 ∃c vD vO,c<=X.aX/\i=ah ag (c:Nat)/\Fp wr bD bO (bO+1) X bz p vD vO V U/\NJ wr wo.heap.size vD vO (Hu X bz p c) (Hw X bz p c)/\Ch (fun k=>k=bD\/k=bO) wo wr/\aO w.heap.size w wr
def akS(X:Bx)(rt:Fm->Option Nat)(Q:List (Fm×aJ))(wo:aG)(n o i:aJ)(wr:aG):Prop:=
 ∃k:Nat,k<=Q.length/\i=ah ag k/\n=ah ag k/\o=ah ag (-1)/\lookQ X.bE rt (Q.map (·.1))=(k+(lookQ X.bE rt ((Q.drop k).map (·.1))).1,(lookQ X.bE rt ((Q.drop k).map (·.1))).2)/\aO wo.heap.size wo wr
theorem aaS(N:Nat)(bz:Nat->Fm->Option Nat)(c1 c2:Nat)(Z:Own)(o:Nat)(w:aG)(b:Nat)(X:Bx)(L:yV)(h:pW Z o w b X L)(hx:lW X N)(hR:∀(p:Nat) (x:Fm) (v:aJ) (w':aG),aO w.heap.size w w'->p<X.bE->(∃c,c<X.aX/\x∈dz X.q p c)->(∃a n cap,v=ay a n cap)->di aH 98 #[ah ag p,Nb x v,pt c1,pt c2] w' fun e w''=>e=ax (ah ag (pX (bz p x)))/\aO w'.heap.size w' w''):di aH 126 #[pt b,.func (.func 98) #[] #[pt c1,pt c2]] w (ady X bz w):=by
 obtain⟨w1,gK⟩:∃w1:aG,(w.alloc (af (uu (fun _=>ay aj 0 0)) 231)).alloc (af (uu (fun _=>ay aj 0 0)) 231)=w1:=⟨_,rfl⟩;have BW:aZ (aO w.heap.size w w1):=by rw[<-gK];exact((aS _ _).alloc (aC _) _).alloc (by simp) _
 have HW:=aA gK;have HB:=aA h;have HX:=aA hx;have HRT:=aA hR;have x1:=hx.p1;have xc1:=hx.c1;have c0:=(h.below BW.o).c0;have lb:=h.root.1.lt;have lb2:b<w.heap.size+1:=by omega
 have c0':=h.c0;have E8:uu (fun _=>ay aj 0 0)=#[ay aj 0 0,ay aj 0 0,ay aj 0 0,ay aj 0 0,ay aj 0 0,ay aj 0 0,ay aj 0 0,ay aj 0 0]:=by simp[uu,dL]
 have HE8:=aA E8;clear gK h hx hR E8 c0;unfold pt;go_enter func126,ntmps126;go_wp2_with fail;rw[<-HE8.o,HW.o];have LM0:aZ (Fp w1 w.heap.size (w.heap.size+1) (w.heap.size+1+1) X bz 0 (ay aj 0 0) (ay aj 0 0) (fun _=>ay aj 0 0) (fun _=>ay aj 0 0)):=by
  have e:kZ (fun _=>ay aj 0 0) 0 (ay aj 0 0)=fun _=>ay aj 0 0:=by funext q;unfold kZ;simp
  refine⟨?_,?_,by omega,by omega,by omega,fun q hq=>by omega⟩
  ·rw[<-HW.o,e];exact(dG.new w _ _).alloc _
  ·rw[<-HW.o,e];have:=dG.new (w.alloc (af (uu (fun _=>ay aj 0 0)) 231)) 231 (uu (fun _=>ay aj 0 0));simpa using this
 obtain⟨bD,hbD⟩:∃x,w.heap.size=x:=⟨_,rfl⟩;obtain⟨bO,hbO⟩:∃x,w.heap.size+1=x:=⟨_,rfl⟩;rw[hbO,hbD]at LM0;rw[hbO,hbD];have HbD:=aA hbD;have HbO:=aA hbO;clear hbD hbO c0' lb lb2 HW HE8;go_loopw [17] (fun i wr=>adN X bz w bD bO i wr) (fun i _=>X.bE-(aK i).toNat);case atStart=>exact⟨0,_,_,bJ _,rfl,LM0.o,BW.o⟩
 case round=>
  obtain⟨p,V,U,hp,rfl,hm,gB⟩:=hrel;have HM:=aA hm;have xW:=aA gB;have MB:=aA (HB.o.below gB);by_cases hpn:p<X.bE
  ·have p0:(0:Int)<=(p:Int):=by omega
   have p8:(p:Int)<8:=(by omega);have c1':=MB.o.c1;clear hm gB;go_wp2_with fail;clear c1';have aoq:=aA xW.out;obtain⟨wo,rfl⟩:∃wo:aG,wo=wr:=⟨_,rfl⟩;go_loopw [24] (fun i wr=>adO X bz w wo bD bO p V U i wr) (fun i _=>X.aX-(aK i).toNat);case atStart=>exact⟨0,ay aj 0 0,ay aj 0 0,bJ _,rfl,HM.o,⟨dR _ _ _ _,dR _ _ _ _,by simp[eO]⟩,Ch.refl _ _,xW.out⟩
   case round=>
    obtain⟨c,vD,vO,hc,rfl,Iq,zY,hch,gB⟩:=hrel;have HM2:=aA Iq;have avA:=aA zY;have HCH:=aA hch;have Nz:=aA gB;have MB2:=aA (HB.o.below gB);by_cases QM:c<X.aX
    ·have cc0:(0:Int)<=(c:Int):=by omega
     have cc8:(c:Int)<(X.aX:Int):=(by omega);obtain⟨qa,Js,Q,qe,q1,qr,q3⟩:=(MB2.o.q p c hpn QM).1.asl;have cq:=MB2.o.cq hpn x1;have cv:=MB2.o.cqv hpn QM;rw[qe]at cv;have ql:=HX.o.Wp hpn QM;rw[<-q1,List.length_map]at ql;clear Iq zY hch gB;have QR:=aA qr;have Q1:=aA q1;have Q3:=aA q3;clear qr q1 q3 qe
     go_upto_block 4 with(fail)
     obtain⟨wq,rfl⟩:∃wq:aG,wq=wr:=⟨_,rfl⟩;have LQ:aZ ((Pk X bz p c,YK X bz p c)=lookQ X.bE (bz p) (Q.map (·.1))):=(by rw[aZ,Q1.o];rfl);go_cut [8,9] (fun s8 s9 wx=>s8=ah ag (Pk X bz p c:Nat)/\s9=ah ag (pX (YK X bz p c))/\aO wq.heap.size wq wx);case first=>
      go_wp2_with fail;clear cq cv
      go_loopw [8,9,37] (fun n o i wr=>akS X (bz p) Q wq n o i wr) (fun _ _ i _=>Q.length-(aK i).toNat);case atStart=>exact⟨0,bJ _,rfl,rfl,rfl,by simp,aS _ _⟩
      case round=>
       obtain⟨k,hk,rfl,rfl,rfl,hlk,gB⟩:=hrel;have HLK:=aA hlk;have Ls:=aA gB;by_cases yH:k<Q.length
       ·obtain⟨b1,o1,ha,hb1,hm,e0,e1,e2,e3,e4,e5⟩:=VD (QR.o.below (aC _) gB) k yH;have QK:=((Q3.o _ hm).jM (S:=fun _=>False) (Ch.dw gB) (fun _ _=>rfl) (fun _ s=>s.elim));have XM:aZ (∃c,c<X.aX/\(Q.getD k Ux).1∈dz X.q p c):=⟨c,QM,by rw[<-Q1.o];exact List.mem_map_of_mem hm⟩;have TS:aZ ((Q.drop k).map (·.1)=(Q.getD k Ux).1::(Q.drop (k+1)).map (·.1)):=by rw[aZ,List.drop_eq_getElem_cons yH,List.map_cons];simp[List.getD,yH]
        generalize Q.getD k Ux=x at *;obtain⟨⟨xi,xf,xt,xc,xe,xd⟩,xv⟩:=x;simp only at e0 e1 e2 e3 e4 e5 QK XM TS;obtain⟨da,dc,rfl,dd⟩:=id QK;obtain⟨w5,Gs⟩:∃w5:aG,wr.alloc (af #[ah ag xi,ah ag xf,ah ag xt,ah ag xc,ah ag xe,ay da xd.length dc] 59)=w5:=⟨_,rfl⟩;have B5:aZ (aO wr.heap.size wr w5):=by rw[<-Gs];exact(aS _ _).alloc (aC _) _
        have FB:aZ (dG w5 wr.heap.size 59 #[ah ag xi,ah ag xf,ah ag xt,ah ag xc,ah ag xe,ay da xd.length dc]):=(by rw[<-Gs];exact dG.new wr _ _);have DT:=aA (QK.jM (S:=fun _=>False) (Ch.dw B5.o) (fun _ _=>rfl) (fun _ s=>s.elim));have Xa:aZ (aO w.heap.size w w5):=(Nz.o.trans (gB.mono Nz.o.size)).trans (B5.o.mono (by have:=Nz.o.size;have:=gB.size;omega));have k0:=FB.o.cell 0;have k1:=FB.o.cell 1;have k2:=FB.o.cell 2;have k3:=FB.o.cell 3;have k4:=FB.o.cell 4;have k5:=FB.o.cell 5;simp only[dJ,fP,dO]at k0 k1 k2 k3 k4 k5;have C0:=aA HB.o.c0;subst ha;have HRX:aZ (∀v' w',aO w.heap.size w w'->(∃a n cap,v'=ay a n cap)->di aH 98 #[ah ag p,Nb ⟨xi,xf,xt,xc,xe,xd⟩ v',pt c1,pt c2] w' fun e w''=>e=ax (ah ag (pX (bz p ⟨xi,xf,xt,xc,xe,xd⟩)))/\aO w'.heap.size w' w''):=fun v' w' hb hs=>HRT.o p _ v' w' hb hpn XM.o hs;clear hm gB dd QK hlk;cases hr:bz p ⟨xi,xf,xt,xc,xe,xd⟩with
        |none=>
         have ND:aZ (lookQ X.bE (bz p) ((Q.drop k).map (·.1))=((lookQ X.bE (bz p) ((Q.drop (k+1)).map (·.1))).1+1,(lookQ X.bE (bz p) ((Q.drop (k+1)).map (·.1))).2)):=(by rw[aZ,TS.o];exact VT (by rw[hr];intro j e;cases e));have HRY:aZ (∀v' w',aO w.heap.size w w'->(∃a n cap,v'=ay a n cap)->di aH 98 #[ah ag p,.agg #[ah ag xi,ah ag xf,ah ag xt,ah ag xc,ah ag xe,v'],au (az ⟨c1,0,aj⟩),au (az ⟨c2,0,aj⟩)] w' fun e w''=>e=ax (ah ag (-1))/\aO w'.heap.size w' w''):=(by have h:=HRX.o;rw[hr]at h;exact h);clear hr HRX TS XM;go_wp2_with (first
          |(go_at_call 92;refine(yt ⟨xi,xf,xt,xc,xe,xd⟩ (ay da xd.length dc) Z _ DT.o).mono ?_;rintro e wc ⟨v',rfl,bc,ow⟩;have BC:=aA bc;obtain⟨a',pJ,rfl,_⟩:=ic (d:=(0:Int)) Bh (by decide) ow;clear bc ow;simp only[Nb])
          |(go_at_call 98;refine(HRY.o _ _ (Xa.o.trans (BC.o.mono Xa.o.size)) ⟨_,_,_,rfl⟩).mono ?_;rintro e wd ⟨rfl,bd⟩;have BD:=aA bd;have BBD:aZ (aO w.heap.size w wd):=(Xa.o.trans (BC.o.mono Xa.o.size)).trans (bd.mono (by have:=Xa.o.size;have:=BC.o.size;omega));have cz:=(HB.o.below BBD.o).c0;clear bd))
         exact⟨⟨k+1,by omega,by simp,by simp,rfl,by rw[HLK.o,ND.o];exact yh (by simp only;omega) rfl,Ls.o.trans ((B5.o.trans (BC.o.mono B5.o.size)).trans (BD.o.mono (by have:=B5.o.size;have:=BC.o.size;omega))|>.mono Ls.o.size)⟩,by simp[aK];omega⟩
        |some q0=>
         by_cases hq:q0<X.bE
         ·have hq2:(q0:Int)<(X.bE:Int):=by omega
          have ND:aZ (lookQ X.bE (bz p) ((Q.drop k).map (·.1))=(0,az q0)):=(by rw[aZ,TS.o];exact YD hr hq);have HRY:aZ (∀v' w',aO w.heap.size w w'->(∃a n cap,v'=ay a n cap)->di aH 98 #[ah ag p,.agg #[ah ag xi,ah ag xf,ah ag xt,ah ag xc,ah ag xe,v'],au (az ⟨c1,0,aj⟩),au (az ⟨c2,0,aj⟩)] w' fun e w''=>e=ax (ah ag (q0:Int))/\aO w'.heap.size w' w''):=(by have h:=HRX.o;rw[hr]at h;exact h);clear hr HRX TS XM;go_wp2_with (first
           |(go_at_call 92;refine(yt ⟨xi,xf,xt,xc,xe,xd⟩ (ay da xd.length dc) Z _ DT.o).mono ?_;rintro e wc ⟨v',rfl,bc,ow⟩;have BC:=aA bc;obtain⟨a',pJ,rfl,_⟩:=ic (d:=(0:Int)) Bh (by decide) ow;clear bc ow;simp only[Nb])
           |(go_at_call 98;refine(HRY.o _ _ (Xa.o.trans (BC.o.mono Xa.o.size)) ⟨_,_,_,rfl⟩).mono ?_;rintro e wd ⟨rfl,bd⟩;have BD:=aA bd;have BBD:aZ (aO w.heap.size w wd):=(Xa.o.trans (BC.o.mono Xa.o.size)).trans (bd.mono (by have:=Xa.o.size;have:=BC.o.size;omega));have cz:=(HB.o.below BBD.o).c0;clear bd))
          go_meet;have R8:aZ ((Pk X bz p c=k)/\YK X bz p c=az q0):=by have h1:=LQ.o;rw[HLK.o,ND.o]at h1;simp only[qD]at h1;exact⟨by omega,h1.2⟩
          case rel=>exact⟨by rw[R8.o.1],by rw[R8.o.2];rfl,Ls.o.trans ((B5.o.trans (BC.o.mono B5.o.size)).trans (BD.o.mono (by have:=B5.o.size;have:=BC.o.size;omega))|>.mono Ls.o.size)⟩
         ·have hq2:¬(q0:Int)<(X.bE:Int):=by omega
          have ND:aZ (lookQ X.bE (bz p) ((Q.drop k).map (·.1))=((lookQ X.bE (bz p) ((Q.drop (k+1)).map (·.1))).1+1,(lookQ X.bE (bz p) ((Q.drop (k+1)).map (·.1))).2)):=(by rw[aZ,TS.o];exact VT (by rw[hr];intro j e;injection e with e;omega));have HRY:aZ (∀v' w',aO w.heap.size w w'->(∃a n cap,v'=ay a n cap)->di aH 98 #[ah ag p,.agg #[ah ag xi,ah ag xf,ah ag xt,ah ag xc,ah ag xe,v'],au (az ⟨c1,0,aj⟩),au (az ⟨c2,0,aj⟩)] w' fun e w''=>e=ax (ah ag (q0:Int))/\aO w'.heap.size w' w''):=(by have h:=HRX.o;rw[hr]at h;exact h);clear hr HRX TS XM;go_wp2_with (first
           |(go_at_call 92;refine(yt ⟨xi,xf,xt,xc,xe,xd⟩ (ay da xd.length dc) Z _ DT.o).mono ?_;rintro e wc ⟨v',rfl,bc,ow⟩;have BC:=aA bc;obtain⟨a',pJ,rfl,_⟩:=ic (d:=(0:Int)) Bh (by decide) ow;clear bc ow;simp only[Nb])
           |(go_at_call 98;refine(HRY.o _ _ (Xa.o.trans (BC.o.mono Xa.o.size)) ⟨_,_,_,rfl⟩).mono ?_;rintro e wd ⟨rfl,bd⟩;have BD:=aA bd;have BBD:aZ (aO w.heap.size w wd):=(Xa.o.trans (BC.o.mono Xa.o.size)).trans (bd.mono (by have:=Xa.o.size;have:=BC.o.size;omega));have cz:=(HB.o.below BBD.o).c0;clear bd))
          exact⟨⟨k+1,by omega,by simp,by simp,rfl,by rw[HLK.o,ND.o];exact yh (by simp only;omega) rfl,Ls.o.trans ((B5.o.trans (BC.o.mono B5.o.size)).trans (BD.o.mono (by have:=B5.o.size;have:=BC.o.size;omega))|>.mono Ls.o.size)⟩,by simp[aK];omega⟩
       ·have hkl:k=Q.length:=by omega
        have R8:aZ ((Pk X bz p c=k)/\YK X bz p c=aj):=(by have h1:=LQ.o;rw[HLK.o,hkl,List.drop_length]at h1;simp only[List.map_nil,lookQ,qD]at h1;exact⟨by omega,h1.2⟩);clear hlk;go_wp2_with fail;go_meet;case rel=>exact⟨by rw[R8.o.1,hkl],by rw[R8.o.2];rfl,Ls.o⟩
     case rest=>
      obtain⟨rfl,rfl,xE⟩:=hcut;obtain⟨wr,rfl⟩:∃wr:aG,wr=wc:=⟨_,rfl⟩;have WB:aZ (aO w.heap.size w wr):=Nz.o.trans (xE.mono Nz.o.size);have HMr:=aA (HM2.o.below xE);have CHr:aZ (Ch (fun k=>k=bD\/k=bO) wo wr):=HCH.o.sH xE;have adD:=aA (avA.out.ch (S:=fun _=>False) (Ch.dw xE) (fun _ s=>s.elim));have KW:aZ (wo.heap.size<=wr.heap.size):=CHr.o.size;have KB:aZ (bO+1<=wo.heap.size):=(by have h1:=HM.o.o.lt;exact h1);have LDL:aZ ((Hu X bz p c).length=c/\(Hw X bz p c).length=c):=(by rw[aZ];simp[Hu,Hw]);have RD:=aA (acC X bz p c);have RO:=aA (acE X bz p c);generalize Pk X bz p c=dn at *;generalize pX (YK X bz p c)=on at *;generalize Hu X bz p c=lD at *;generalize Hw X bz p c=lO at *;obtain⟨i0,hi0,wE,uY,wN⟩:=eQ PK;obtain⟨da,aqy,rfl,_⟩:=ic (d:=(0:Int)) rZ (by decide) adD.out.d;obtain⟨oa,amE,rfl,_⟩:=ic (d:=(0:Int)) rZ (by decide) adD.out.o;have z1:wr.cell? ⟨bD,p,aj⟩=az (ay da lD.length aqy):=(by rw[HMr.o.d.cell,JX _ (by omega)];unfold kZ;simp);have OW1:aZ ((wr.alloc (af #[ah ag (dn:Int)] 3)).ownsRow wo.heap.size 3 1 (ay da lD.length aqy) lD.length (lD.flatMap cI)):=adD.out.d.alloc (af #[ah ag (dn:Int)] 3);have lz:bD<wr.heap.size:=HMr.o.d.lt;clear xE LQ;go_wp2_with (first
       |(at_builtin;refine gY _ rfl (.tmp 63) (.tmp 65) 26 rfl wo.heap.size 3 i0 _ 1 8 underlying26 hi0 wE uY wN rfl (by decide) _ _ _ rfl OW1.o _ (az ⟨wr.heap.size,0,aj⟩) 1 1 [ah ag (dn:Int)] rfl (iE wr _ [ah ag (dn:Int)] (n:=1) (size:=1) rfl) ?c3 ?c4 ?c5 ?c6 ?_))
      case c3=>intro u hu;simp at hu;subst hu;rfl
      case c4=>have:=HX.o.c1;have:=LDL.o.1;unfold fJ;omega
      case c5=>have:=HX.o.c1;have:=LDL.o.1;omega
      case c6=>have:=KW.o;simp;omega
      intro v1 w2 nR yG AX;have akM:=aA nR;have GR1:=aA yG;have LC1:=aA AX;obtain⟨P1,P2,P3⟩:=HMr.o.Wo adD.out KB.o KW.o akM.out GR1.o;obtain⟨da1,aju,rfl,_⟩:=ic (d:=(0:Int)) (xs:=lD++[(dn:Int)]) rZ (by decide) (by have:=akM.out;rw[show lD.flatMap cI++[ah ag (dn:Int)]=(lD++[(dn:Int)]).flatMap cI by simp[cI]]at this;exact this);have z2:=P1.cell p;rw[JX _ (by omega)]at z2;have z3:=P1.frozen p;have z4:=P2.cell p;rw[JX _ (by omega),show kZ U p (ay oa lO.length amE) p=ay oa lO.length amE by unfold kZ;simp]at z4;have OW2:aZ (((w2.setCell ⟨bD,p,aj⟩ (ay da1 (lD.length+1) aju)).alloc (af #[ah ag on] 3)).ownsRow wo.heap.size 3 1 (ay oa lO.length amE) lO.length (lO.flatMap cI)):=P3.alloc (af #[ah ag on] 3);have KW2:aZ (wo.heap.size<=w2.heap.size):=(by have h1:=KW.o;have h2:=yG.size;simp at h2;rw[aZ];omega);have z5:bO<w2.heap.size:=(by have:=P2.lt;simpa[iJ]using this);obtain⟨w3,zZ⟩:∃w3:aG,w2.setCell ⟨bD,p,aj⟩ (ay da1 (lD.length+1) aju)=w3:=⟨_,rfl⟩;have S3:aZ (w3.heap.size=w2.heap.size):=(by rw[aZ,<-zZ];simp[iJ]);have HW3:=aA zZ;rw[zZ]at z4 OW2;have z6:bO<w3.heap.size:=(by have:=S3.o;omega);clear nR yG AX P1 P2 P3 z1 z5;go_wp2_with (first
       |(at_builtin;refine gY _ rfl (.tmp 71) (.tmp 73) 26 rfl wo.heap.size 3 i0 _ 1 8 underlying26 hi0 wE uY wN rfl (by decide) _ _ _ rfl OW2.o _ (az ⟨w3.heap.size,0,aj⟩) 1 1 [ah ag on] rfl (iE w3 _ [ah ag on] (n:=1) (size:=1) rfl) ?d3 ?d4 ?d5 ?d6 ?_))
      case d3=>intro u hu;simp at hu;subst hu;rfl
      case d4=>have:=HX.o.c1;have:=LDL.o.2;unfold fJ;omega
      case d5=>have:=HX.o.c1;have:=LDL.o.2;omega
      case d6=>have:=KW2.o;have:=S3.o;simp;omega
      intro v3 w4 Ra Yl afq;obtain⟨P4,P5,P6,P7⟩:=HMr.o.asc adD.out KB.o KW.o CHr.o rfl HM.o.rows akM.out GR1.o LC1.o Ra (by rw[HW3.o];exact Yl) (by rw[<-S3.o];exact afq);have jm:aZ (adO X bz w wo bD bO p V U (ah ag ((c+1:Nat):Int)) (w4.setCell ⟨bO,p,aj⟩ v3)):=⟨c+1,_,_,by omega,rfl,P5,by rw[RD.o,RO.o];exact P6,P7,aoq.out.trans (P7.below (by have:=aoq.out.size;exact this) (fun k s=>by have h1:=HbD.o;have h2:=HbO.o;rcases s with s|s<;>omega))⟩;obtain⟨oa3,aEh,rfl,_⟩:=ic (d:=(0:Int)) (xs:=lO++[on]) rZ (by decide) (by have:=Ra;rw[show lO.flatMap cI++[ah ag on]=(lO++[on]).flatMap cI by simp[cI]]at this;exact this);have z7:=P4.cell p;rw[JX _ (by omega)]at z7;have z8:=P4.frozen p;clear Ra Yl afq P4 P5 P6 P7 z2 z3 z4 z6;go_wp2_with fail;exact⟨by simpa using jm.out,by simp[aK];omega⟩
    ·obtain rfl:X.aX=c:=by omega
     have jm:aZ (adN X bz w bD bO (ah ag ((p+1:Nat):Int)) wr):=by
      refine⟨p+1,fun q=>if q=p then vD else V q,fun q=>if q=p then vO else U q,by omega,rfl,⟨?_,?_,Iq.ne,Iq.ld,Iq.lo,fun q hq=>?_⟩,gB⟩
      ·rw[Nr];exact Iq.d
      ·rw[Nr];exact Iq.o
      ·by_cases e:q=p
       ·subst e;simp only[if_true];have k1:=HM.o.o.lt;exact⟨wI zY.d k1,wI zY.o k1,zY.ap⟩
       ·simp only[e,if_false];exact Iq.rows q (by omega)
     clear Iq zY hch gB;go_wp2_with fail;exact⟨by simpa using jm.out,by simp[aK];omega⟩
  ·have hpe:p=X.bE:=by omega
   subst hpe;have B1:=aA hm.d;have B2:=aA hm.o;have avm:aZ (∀w',Ch (fun k=>k=bD\/k=bO) wr w'->(∀q,q<X.bE->NJ w' w.heap.size (V q) (U q) (Hu X bz q X.aX) (Hw X bz q X.aX))):=fun w' hc q hq=>by
    have r:=(hm.rows q hq).ch hc fun k s=>by have:=hm.ld;have:=hm.lo;rcases s with s|s<;>omega
    have e1:=HbO.o;exact⟨wI r.d (by omega),wI r.o (by omega),r.ap⟩
   have auO:=aA gB;have RW:=aA hm.rows;clear hm gB;go_wp2_with fail;obtain⟨A,Nn,C,hA⟩:∃(A:Nat->Option Addr) (Nn C:Nat->Nat),kZ V X.bE (ay aj 0 0)=fun i=>ay (A i) (Nn i) (C i):=xS _ _ fun q hq=>qy (RW.o q hq).d;obtain⟨A',Uu,C',hA'⟩:∃(A:Nat->Option Addr) (Nn C:Nat->Nat),kZ U X.bE (ay aj 0 0)=fun i=>ay (A i) (Nn i) (C i):=xS _ _ fun q hq=>qy (RW.o q hq).o;have E1:∀(A:Nat->Option Addr) (Nn C:Nat->Nat),uu (fun i=>ay (A i) (Nn i) (C i))=#[ay (A 0) (Nn 0) (C 0),ay (A 1) (Nn 1) (C 1),ay (A 2) (Nn 2) (C 2),ay (A 3) (Nn 3) (C 3),ay (A 4) (Nn 4) (C 4),ay (A 5) (Nn 5) (C 5),ay (A 6) (Nn 6) (C 6),ay (A 7) (Nn 7) (C 7)]:=fun A Nn C=>(by simp[uu,dL]);have D1:=B1.o;have O1:=B2.o;rw[hA,E1]at D1;rw[hA',E1]at O1;have d0:=D1.cell 0;have d1:=D1.cell 1;have d2:=D1.cell 2;have d3:=D1.cell 3;have d4:=D1.cell 4;have d5:=D1.cell 5;have d6:=D1.cell 6;have d7:=D1.cell 7;have o0:=O1.cell 0;have o1:=O1.cell 1;have o2:=O1.cell 2;have o3:=O1.cell 3;have o4:=O1.cell 4;have o5:=O1.cell 5;have o6:=O1.cell 6;have o7:=O1.cell 7;simp only[dJ,fP,dO]at d0 d1 d2 d3 d4 d5 d6 d7 o0 o1 o2 o3 o4 o5 o6 o7;have HD:=aA D1;have HO:=aA O1;have g0:=D1.frozen 0;have g1:=D1.frozen 1;have g2:=D1.frozen 2;have g3:=D1.frozen 3;have g4:=D1.frozen 4;have g5:=D1.frozen 5;have g6:=D1.frozen 6;have g7:=D1.frozen 7;have j0:=O1.frozen 0;have j1:=O1.frozen 1;have j2:=O1.frozen 2;have j3:=O1.frozen 3;have j4:=O1.frozen 4;have j5:=O1.frozen 5;have j6:=O1.frozen 6;have j7:=O1.frozen 7;have nDO:¬bD=bO:=(by have:=HbO.o;have:=HbD.o;omega);have nOD:¬bO=bD:=fun e=>nDO e.symm;have s0:wr.setCell ⟨bD,0,aj⟩ (ay (A 0) (Nn 0) (C 0))=wr:=D1.rU (i:=0) rfl;have s1:wr.setCell ⟨bD,1,aj⟩ (ay (A 1) (Nn 1) (C 1))=wr:=D1.rU (i:=1) rfl;have s2:wr.setCell ⟨bD,2,aj⟩ (ay (A 2) (Nn 2) (C 2))=wr:=D1.rU (i:=2) rfl;have s3:wr.setCell ⟨bD,3,aj⟩ (ay (A 3) (Nn 3) (C 3))=wr:=D1.rU (i:=3) rfl;have s4:wr.setCell ⟨bD,4,aj⟩ (ay (A 4) (Nn 4) (C 4))=wr:=D1.rU (i:=4) rfl;have s5:wr.setCell ⟨bD,5,aj⟩ (ay (A 5) (Nn 5) (C 5))=wr:=D1.rU (i:=5) rfl;have s6:wr.setCell ⟨bD,6,aj⟩ (ay (A 6) (Nn 6) (C 6))=wr:=D1.rU (i:=6) rfl;have s7:wr.setCell ⟨bD,7,aj⟩ (ay (A 7) (Nn 7) (C 7))=wr:=D1.rU (i:=7) rfl;have t0:wr.setCell ⟨bO,0,aj⟩ (ay (A' 0) (Uu 0) (C' 0))=wr:=O1.rU (i:=0) rfl;have t1:wr.setCell ⟨bO,1,aj⟩ (ay (A' 1) (Uu 1) (C' 1))=wr:=O1.rU (i:=1) rfl;have t2:wr.setCell ⟨bO,2,aj⟩ (ay (A' 2) (Uu 2) (C' 2))=wr:=O1.rU (i:=2) rfl;have t3:wr.setCell ⟨bO,3,aj⟩ (ay (A' 3) (Uu 3) (C' 3))=wr:=O1.rU (i:=3) rfl;have t4:wr.setCell ⟨bO,4,aj⟩ (ay (A' 4) (Uu 4) (C' 4))=wr:=O1.rU (i:=4) rfl;have t5:wr.setCell ⟨bO,5,aj⟩ (ay (A' 5) (Uu 5) (C' 5))=wr:=O1.rU (i:=5) rfl;have t6:wr.setCell ⟨bO,6,aj⟩ (ay (A' 6) (Uu 6) (C' 6))=wr:=O1.rU (i:=6) rfl;have t7:wr.setCell ⟨bO,7,aj⟩ (ay (A' 7) (Uu 7) (C' 7))=wr:=O1.rU (i:=7) rfl;have HE1:=aA E1;clear D1 O1 E1 B1 B2;have HA:=aA hA;have HA':=aA hA';clear hA hA';go_region;go_wp2_with fail;refine bodyPost_ret (v:=.tuple #[.agg #[ay (A 0) (Nn 0) (C 0),ay (A 1) (Nn 1) (C 1),ay (A 2) (Nn 2) (C 2),ay (A 3) (Nn 3) (C 3),ay (A 4) (Nn 4) (C 4),ay (A 5) (Nn 5) (C 5),ay (A 6) (Nn 6) (C 6),ay (A 7) (Nn 7) (C 7)],.agg #[ay (A' 0) (Uu 0) (C' 0),ay (A' 1) (Uu 1) (C' 1),ay (A' 2) (Uu 2) (C' 2),ay (A' 3) (Uu 3) (C' 3),ay (A' 4) (Uu 4) (C' 4),ay (A' 5) (Uu 5) (C' 5),ay (A' 6) (Uu 6) (C' 6),ay (A' 7) (Uu 7) (C' 7)]]) (by simp[results,Tryz.results126,go_sem,d0,d1,d2,d3,d4,d5,d6,d7,o0,o1,o2,o3,o4,o5,o6,o7]) rfl ?_;try rw[s0,s1,s2,s3,s4,s5,s6,s7,t0,t1,t2,t3,t4,t5,t6,t7]
   refine⟨V,U,?_,avm.out _ (Ch.refl _ _).drew,auO.out.drew⟩;rw[HA.o,HA'.o,HE1.o,HE1.o]
def zR(Z:Own)(w:aG)(bO n m:Nat)(f:Nat->Nat->Int):Prop:=
 ∃U:Nat->aJ,dG w bO 231 (uu U)/\(Z bO).1=0/\∀p,p<n->∃g cap cs,U p=ay (az ⟨g,0,aj⟩) m cap/\dG w g 3 cs/\(Z g).1=0/\∀c,c<m->cs[c]?=az (ah ag (f p c))
theorem zR.jM{Z dV:Own}{S:Nat->Prop}{w w':aG}{bO n m:Nat}{f:Nat->Nat->Int}(h:zR Z w bO n m f)(hc:Ch S w w')(he:∀k,k<w.heap.size->dV k=Z k)(hS:∀k,S k->(Z k).1≠0):zR dV w' bO n m f:=by obtain⟨U,h1,h2,h3⟩:=h;refine⟨U,h1.ch hc fun s=>hS _ s h2,by rw[he _ h1.lt];exact h2,fun p hp=>?_⟩;obtain⟨g,cap,cs,k1,k2,k3,k4⟩:=h3 p hp;exact⟨g,cap,cs,k1,k2.ch hc fun s=>hS _ s k3,by rw[he _ k2.lt];exact k3,k4⟩
theorem zR.nx{Z dV:Own}{o:Nat}{w w':aG}{bO n m:Nat}{f:Nat->Nat->Int}(h:zR Z w bO n m f)(k:Nx Z o w dV w')(ho:2<=o):zR dV w' bO n m f:=h.jM k.ch k.ext fun i hi=>by omega
theorem zR.below{Z:Own}{w w':aG}{bO n m:Nat}{f:Nat->Nat->Int}(h:zR Z w bO n m f)(k:aO w.heap.size w w'):zR Z w' bO n m f:=h.jM (S:=fun _=>False) (Ch.dw k) (fun _ _=>rfl) (fun _ s=>s.elim)
theorem zR.cells{Z:Own}{w:aG}{bO n m:Nat}{f:Nat->Nat->Int}(h:zR Z w bO n m f){p c:Nat}(hp:p<n)(hc:c<m)(h8:n<=8):∃g cap,w.cell? ⟨bO,p,aj⟩=az (ay (az ⟨g,0,aj⟩) m cap)/\w.cell? ⟨g,c,aj⟩=az (ah ag (f p c)):=by obtain⟨U,h1,h2,h3⟩:=h;obtain⟨g,cap,cs,k1,k2,k3,k4⟩:=h3 p hp;exact⟨g,cap,by rw[h1.cell,JX _ (by omega),k1],by rw[k2.cell];exact k4 c hc⟩
theorem Sm(k:Nat):pX (az k)=(k:Int):=rfl
theorem acj:pX aj=(-1:Int):=rfl
theorem ZY{o:Option Nat}{k:Nat}:pX o=(k:Int)↔o=az k:=by
 cases o with
 |none=>simp[pX]
 |some j=>simp[pX];omega
def Tt(v:Bool)(w:aG)(e:Ending)(w':aG):Prop:=e=ax (.bool v)/\aO w.heap.size w w'
theorem OZ(i k c N:Nat)(outs:Nat->Nat->Option Nat)(bO bB:Nat)(Z DK:Own)(o:Nat)(w:aG)(b:Nat)(X:Bx)(L:yV)(h:pW Z o w b X L)(hx:lW X N)(hN:N<=1000000000000)(hi:i<X.bE)(hk:k<X.bE)(hc:c<X.aX)(hO:zR DK w bO X.bE X.aX fun p c=>pX (outs p c))(hB:w.cell? ⟨bB,0,aj⟩=az (pt b)):di aH 128 #[ah ag i,ah ag k,ah ag c,pt bO,pt bB] w (Tt (mX outs X i k c) w):=by
 obtain⟨g,cap,z1,z2⟩:=hO.cells hi hc hx.p1;have i0:(0:Int)<=(i:Int):=by omega
 have i8:(i:Int)<8:=by have:=hx.p1;omega
 have k0:(0:Int)<=(k:Int):=by omega
 have k8:(k:Int)<8:=by have:=hx.p1;omega
 have c0:(0:Int)<=(c:Int):=by omega
 have c8:(c:Int)<(X.aX:Int):=by omega
 by_cases he:outs i c=az k
 ·obtain⟨hg,t1,t2⟩:=h.tt k c hk hc;have HG:=aA (Zh _ N _ _ w (hx.t k c hk hc) hN hg);obtain⟨g1,⟨abj,cs1,e1,e2,e3⟩,_⟩:=h.t k hk;have cg:=h.ct hk hx.p1;rw[e1]at cg;have cc:w.cell? ⟨g1,c,aj⟩=az (pt (L.tb k c)):=by rw[e2.cell];exact e3 c hc
  have E:mX outs X i k c=decide (0<(dz X.tk k c).left):=by unfold mX;rw[he];simp
  rw[he,Sm]at z2;rw[E];generalize(dz X.tk k c).left=l at HG|-;clear h hx hg e1 e2 e3 t1 t2 hO E he;unfold pt at *;go_enter func128,ntmps128;by_cases hl:0<l
  ·have hl':decide (0<l)=true:=decide_eq_true hl;rw[hl'];clear hl';go_wp2_with (first
    |(go_at_call 129;refine HG.o.mono ?_;rintro e w' ⟨rfl,gB⟩;have BL:=aA gB;clear gB))
   go_ret;exact⟨rfl,BL.o⟩
  ·have hl':decide (0<l)=false:=decide_eq_false hl;rw[hl'];go_wp2_with (first
    |(go_at_call 129;refine HG.o.mono ?_;rintro e w' ⟨rfl,gB⟩;have BL:=aA gB;clear gB))
   go_ret;exact⟨rfl,BL.o⟩
 ·have E:mX outs X i k c=false:=by unfold mX;simp[he]
  have ne:((k:Int)==pX (outs i c))=false:=by rw[beq_eq_false_iff_ne];exact fun e=>he (ZY.1 e.symm)
  have ne2:(pX (outs i c)==(k:Int))=false:=by rw[beq_eq_false_iff_ne];exact fun e=>he (ZY.1 e)
  rw[E];generalize pX (outs i c)=q at z2 ne ne2;clear h hx hO E he;unfold pt at *;go_enter func128,ntmps128;go_wp2_with fail;go_ret;exact⟨rfl,aS _ _⟩
theorem abQ:(Tryz.prog.info? 4).map (fun i=>(i.zero,i.size,i.bytes))=az (az (.bool false),1,1):=by kernel_rfl
theorem Yu:(Tryz.prog.info? 52).map (fun i=>(i.zero,i.size,i.bytes))=az (az (ay aj 0 0),1,24):=by kernel_rfl
def acz(outs:Nat->Nat->Option Nat)(X:Bx)(i k:Nat):Bool:=(aN X.aX).any fun c=>mX outs X i k c
def Ih(f:Nat->Bool)(n:Nat):Bool:=(aN n).any f
theorem Xy(f:Nat->Bool)(n:Nat):Ih f (n+1)=(Ih f n||f n):=by unfold Ih;rw[dL,List.any_append];simp
def AY(rq:Nat->Bool)(k:Nat)(v:Bool)(x:Nat):Bool:=if x<k then rq x else if x=k then v else false
def EE(n:Nat)(f:Nat->Bool):Array aJ:=((aN n).map fun x=>kv (f x)).toArray
theorem acA(rq:Nat->Bool)(k:Nat):AY rq k (rq k)=AY rq (k+1) false:=by
 funext x;unfold AY;by_cases h:x<k
 ·rw[if_pos h,if_pos (by omega)]
 ·by_cases h2:x=k
  ·subst h2;simp
  ·rw[if_neg h,if_neg h2,if_neg (by omega)];simp
theorem afN(n:Nat)(rq:Nat->Bool)(k:Nat)(v v':Bool):(EE n (AY rq k v)).setIfInBounds k (.bool v')=EE n (AY rq k v'):=
 mM n _ _ k _ fun x _=>by
  unfold AY;by_cases e:x=k
  ·subst e;simp
  ·simp[e]
theorem acB(rq:Nat->Bool)(n:Nat):eH #[.bool false] n=EE n (AY rq 0 false):=by
 have e:∀x,AY rq 0 false x=false:=fun x=>by unfold AY;simp
 unfold eH EE;apply tu;simp[e,rf]
theorem YU(rq:Nat->Bool)(n:Nat):eH (kv false).cells (n*1)=EE n (AY rq 0 false):=by rw[qm];exact acB rq n
def CY(V:Nat->aJ)(i j:Nat):aJ:=if j<i then V j else ay aj 0 0
theorem YZ(V:Nat->aJ)(n:Nat):eH #[ay aj 0 0] n=((aN n).map (CY V 0)).toArray:=by
 have e:∀x,CY V 0 x=ay aj 0 0:=fun x=>by unfold CY;simp
 unfold eH;apply tu;simp[e,rf]
structure RqM(w:aG)(bL n i:Nat)(V:Nat->aJ)(rq:Nat->Nat->Bool):Prop where
 l:dG w bL 52 (((aN n).map (CY V i)).toArray)
 rows:∀j,j<i->∃g,V j=ay (az ⟨g,0,aj⟩) n n/\dG w g 4 (EE n (rq j))/\g<w.heap.size
def Ty(n:Nat)(rq:Nat->Nat->Bool)(w:aG)(e:Ending)(w':aG):Prop:=∃R,e=ax (ay (az ⟨R,0,aj⟩) n n)/\Fv w' (az ⟨R,0,aj⟩) n rq/\aO w.heap.size w w'/\w.heap.size<=R
def ajg(n:Nat)(rq:Nat->Nat->Bool)(bL:Nat)(w:aG)(i:aJ)(wr:aG):Prop:=∃(j:Nat) (V:Nat->aJ),j<=n/\i=ah ag j/\RqM wr bL n j V rq/\aO w.heap.size w wr
def ajh(n:Nat)(rq:Nat->Bool)(g:Nat)(w5:aG)(i:aJ)(wr:aG):Prop:=∃k:Nat,k<=n/\i=ah ag k/\dG wr g 4 (EE n (AY rq k false))/\Ch (· =g) w5 wr
def apC(n m:Nat)(rq:Nat->Bool)(f:Nat->Bool)(g k:Nat)(w5:aG)(i:aJ)(wr:aG):Prop:=∃c:Nat,c<=m/\i=ah ag c/\dG wr g 4 (EE n (AY rq k (Ih f c)))/\Ch (· =g) w5 wr
theorem QS(N:Nat)(outs:Nat->Nat->Option Nat)(bO bB:Nat)(Z:Own)(o:Nat)(w:aG)(b:Nat)(X:Bx)(L:yV)(h:pW Z o w b X L)(hx:lW X N)(hN:N<=1000000000000)(hO:zR Z w bO X.bE X.aX fun p c=>pX (outs p c))(hB:w.cell? ⟨bB,0,aj⟩=az (pt b)):di aH 131 #[pt b,.func (.func 128) #[] #[pt bO,pt bB]] w (Ty X.bE (acz outs X) w):=by
 have HM:=aA h;have HX:=aA hx;have HO:=aA hO;have HB:=aA hB;have c0:=h.c0;have n1:=hx.p0;have n8:=hx.p1;have LB:=aA h.root.1.lt;have RY:aZ (∀(i k c:Nat) (w':aG),aO w.heap.size w w'->i<X.bE->k<X.bE->c<X.aX->di aH 128 #[ah ag i,ah ag k,ah ag c,au (az ⟨bO,0,aj⟩),au (az ⟨bB,0,aj⟩)] w' (Tt (mX outs X i k c) w')):=fun i k c w' hb hi hk hc=>
  OZ i k c N outs bO bB Z Z o w' b X L (HM.o.below hb) HX.o hN hi hk hc (HO.o.below hb) ((hb.cell (p:=⟨bB,0,aj⟩) (World.block_lt_of_cell? _ _ HB.o)).trans HB.o)
 have C1:aZ (∀w',aO w.heap.size w w'->w'.cell? ⟨b,0,aj⟩=az (ah ag X.bE)/\w'.cell? ⟨b,0+1,aj⟩=az (ah ag X.aX)):=fun w' hb=>⟨(HM.o.below hb).c0,(HM.o.below hb).c1⟩;have CL8:=HX.o.c1;obtain⟨i0,hi0,wE,uY,wN⟩:=eQ Yu;obtain⟨j0,xQ,zC,Aq,Av⟩:=eQ abQ;clear h hx hO hB;obtain⟨n,hn⟩:∃n,X.bE=n:=⟨_,rfl⟩;obtain⟨m,hm⟩:∃m,X.aX=m:=⟨_,rfl⟩;rw[hn,hm]at C1;rw[hn]at c0 n1 n8 RY;rw[hm]at RY CL8;rw[hn];have RQ:aZ (∀i k,acz outs X i k=Ih (fun c=>mX outs X i k c) m):=fun i k=>by unfold acz Ih;rw[hm]
 clear hn hm HX HO HB HM;generalize acz outs X=rq at *;obtain⟨w1,gK⟩:∃w1:aG,w.alloc (af (((aN n).map (CY (fun _=>ay aj 0 0) 0)).toArray) 52)=w1:=⟨_,rfl⟩;unfold pt;go_enter func131,ntmps131;go_wp2_with (at_make;refine kL _ rfl _ _ 95 rfl 52 i0 _ 1 underlying95 hi0 wE uY .i64 .i64 _ _ n rfl rfl ?m1 ?m2 (by rw[wN];omega) (by unfold fJ;omega) ?_);case m1=>rfl
 case m2=>rfl
 rw[YZ (fun _=>ay aj 0 0),gK];have B1:aZ (RqM w1 w.heap.size n 0 (fun _=>ay aj 0 0) rq):=⟨by rw[<-gK];exact dG.new w _ _,fun j hj=>by omega⟩;have W1:aZ (aO w.heap.size w w1):=by rw[<-gK];exact(aS _ _).alloc (aC _) _
 obtain⟨bL,hbL⟩:∃x,w.heap.size=x:=⟨_,rfl⟩;rw[hbL];rw[hbL]at B1;have HbL:=aA hbL;clear gK hbL c0;go_loopw [6,7,8,16,32,39] (fun _ _ _ i _ _ wr=>ajg n rq bL w i wr) (fun _ _ _ i _ _ _=>n-(aK i).toNat);case atStart=>exact⟨0,_,bJ _,rfl,B1.o,W1.o⟩
 case round=>
  obtain⟨i,V,hi,rfl,hM,gB⟩:=hrel;have HM:=aA hM;have xW:=aA gB;by_cases Gr:i<n
  ·have ii0:(0:Int)<=(i:Int):=by omega
   have ii8:(i:Int)<(n:Int):=(by omega);obtain⟨c0,c1⟩:=C1.o wr gB;obtain⟨w4,Ir⟩:∃w4:aG,wr.alloc (af (EE n (AY (rq i) 0 false)) 4)=w4:=⟨_,rfl⟩;have LB4:dG w4 bL 52 (((aN n).map (CY V i)).toArray):=(by rw[<-Ir];exact hM.l.alloc _);have cl:=LB4.cell i;have fl:=LB4.frozen i;rw[sj _ _ Gr,show CY V i i=ay aj 0 0 by unfold CY;simp]at cl;have s4:w4.heap.size=wr.heap.size+1:=(by rw[<-Ir];simp);have HS4:=aA s4;have G4:aZ (dG w4 wr.heap.size 4 (EE n (AY (rq i) 0 false))):=(by rw[<-Ir];exact dG.new wr _ _);have BW4:aZ (aO wr.heap.size wr w4):=(by rw[<-Ir];exact(aS _ _).alloc (aC _) _);have HL4:=aA LB4;have HLN:=aA (show bL≠wr.heap.size by have:=hM.l.lt;omega);clear hM gB LB4 s4 c1;obtain⟨g,hg⟩:∃g,wr.heap.size=g:=⟨_,rfl⟩;rw[hg]at HLN G4 HS4 BW4;have HG0:=aA hg;have HW4:=aA Ir;clear Ir hg;go_wp2_with (at_make;refine kL _ rfl _ _ 52 rfl 4 j0 _ 1 underlying52 xQ zC Aq .i64 .i64 _ _ n (by rfl) (by rfl) (by rfl) (by rfl) (by rw[Av];omega) (by unfold fJ;omega) ?_;rw[YU (rq i),HW4.o,HG0.o]);obtain⟨w5,Gs⟩:∃w5:aG,w4.setCell ⟨bL,i,aj⟩ (ay (az ⟨g,0,aj⟩) n n)=w5:=⟨_,rfl⟩;rw[Gs];have G5:aZ (dG w5 g 4 (EE n (AY (rq i) 0 false))):=(by rw[<-Gs];exact G4.o.Bi (by simp only;exact HLN.o.symm) _);have BW5:aZ (aO w.heap.size w w5):=(by rw[<-Gs];exact(xW.out.trans (BW4.o.mono (by have:=xW.out.size;have:=HG0.o;omega))).setCell (by simp only;exact zm HbL.o) _);have M5:aZ (∀w',Ch (· =g) w5 w'->dG w' g 4 (EE n (rq i))->RqM w' bL n (i+1) (fun j=>if j=i then ay (az ⟨g,0,aj⟩) n n else V j) rq):=fun w' hc hb=>by
    have l5:=HL4.o.jy i (ay (az ⟨g,0,aj⟩) n n);rw[Gs,mM n (CY V i) (CY (fun j=>if j=i then ay (az ⟨g,0,aj⟩) n n else V j) (i+1)) i (ay (az ⟨g,0,aj⟩) n n) (fun x _=>by
     unfold CY;by_cases e:x=i
     ·subst e;simp
     ·by_cases e2:x<i
      ·have e3:x<i+1:=by omega
       simp[e,e2,e3]
      ·have e3:¬x<i+1:=by omega
       simp[e,e2,e3])]at l5
    refine⟨l5.ch hc HLN.o,fun j hj=>?_⟩;by_cases e:j=i
    ·subst e;exact⟨g,if_pos rfl,hb,hb.lt⟩
    ·obtain⟨gj,k1,k2,k3⟩:=HM.o.rows j (by omega);have ngj:gj≠g:=by have:=HG0.o;omega
     have k4:dG w5 gj 4 (EE n (rq j)):=(by rw[<-Gs];exact(k2.below BW4.o (by have:=HG0.o;omega)).Bi (by simp only;exact dG.sZ k2 HM.o.l (by decide)) _);exact⟨gj,by rw[if_neg e];exact k1,k4.ch hc ngj,(k4.ch hc ngj).lt⟩
   have WB:aZ (∀w',Ch (· =g) w5 w'->aO w.heap.size w w'):=fun w' hc=>BW5.o.trans (hc.below (by have:=BW5.o.size;omega) (by rintro k rfl;have:=HG0.o;have:=xW.out.size;omega));have SZ:aZ (w.heap.size<=g):=(by have:=HG0.o;have:=xW.out.size;rw[aZ];omega);have LI:aZ (w5.cell? ⟨bL,i,aj⟩=az (ay (az ⟨g,0,aj⟩) n n)):=by
    rw[<-Gs,aZ,(HL4.o.jy i _).cell];have:i<(((aN n).map (CY V i)).toArray).size:=by simp;exact Gr
    simp only[List.setIfInBounds_toArray,dJ];rw[List.getElem?_set_self (by simpa using Gr)]
   have LIn:=aA HLN.o;have LIs:aZ (bL<w5.heap.size):=(by rw[<-Gs,aZ];have:=HL4.o.lt;simpa[iJ]using this);clear Gs HW4 G4 HL4 BW4 HS4 HM xW HLN c0 cl fl;obtain⟨wo,rfl⟩:∃wo:aG,wo=wr:=⟨_,rfl⟩;go_loopw [7,8,32,39] (fun _ _ k _ wr=>ajh n (rq i) g w5 k wr) (fun _ _ k _ _=>n-(aK k).toNat);case atStart=>exact⟨0,bJ _,rfl,G5.o,Ch.refl _ _⟩
   case round=>
    obtain⟨k,hk,rfl,hG,hc⟩:=hrel;have HG:=aA hG;have HC:=aA hc;by_cases yH:k<n
    ·have kk0:(0:Int)<=(k:Int):=by omega
     have kk8:(k:Int)<(n:Int):=(by omega);obtain⟨c0,c1⟩:=C1.o wr (WB.o _ hc);have RX:aZ (∀c w',Ch (· =g) w5 w'->c<m->di aH 128 #[ah ag i,ah ag k,ah ag c,au (az ⟨bO,0,aj⟩),au (az ⟨bB,0,aj⟩)] w' (Tt (mX outs X i k c) w')):=fun c w' qx h3=>RY.o i k c w' (WB.o _ qx) Gr yH h3;have RQk:aZ (rq i k=Ih (fun c=>mX outs X i k c) m):=RQ.o i k;have NX:=aA (acA (rq i) k);clear hG hc c0;go_wp2_with fail;clear c1;obtain⟨f,hf⟩:∃f:Nat->Bool,(fun c=>mX outs X i k c)=f:=⟨_,rfl⟩;have RXf:aZ (∀c w',Ch (· =g) w5 w'->c<m->di aH 128 #[ah ag i,ah ag k,ah ag c,au (az ⟨bO,0,aj⟩),au (az ⟨bB,0,aj⟩)] w' (Tt (f c) w')):=(by rw[<-hf];exact RX.o);rw[hf]at RQk;clear hf RX;obtain⟨wp,rfl⟩:∃wp:aG,wp=wr:=⟨_,rfl⟩;go_loopw [8,39] (fun _ c wr=>apC n m (rq i) f g k w5 c wr) (fun _ c _=>m-(aK c).toNat);case atStart=>exact⟨0,bJ _,rfl,HG.o,HC.o⟩
     case round=>
      obtain⟨c,hcc,rfl,hG,hc⟩:=hrel;have HGc:=aA hG;have HCc:=aA hc;by_cases hcm:c<m
      ·have RC:=aA (RXf.o c wr hc hcm);have AS:=aA (Xy f c);have LG:aZ (g<wr.heap.size):=hG.lt;have G0:aZ (w5.heap.size<=wr.heap.size):=hc.size;have KC:aZ (∀w',aO wr.heap.size wr w'->w'.cell? ⟨bL,i,aj⟩=az (ay (az ⟨g,0,aj⟩) n n)/\dG w' g 4 (EE n (AY (rq i) k (Ih f c)))/\Ch (· =g) w5 w'):=fun w' hb=>by
        refine⟨?_,HGc.o.below hb LG.o,HCc.o.sH hb⟩;have h1:=LI.o;rw[hb.cell (p:=⟨bL,i,aj⟩) (by have:=LIs.o;have:=G0.o;simp only;omega),HCc.o.cell (p:=⟨bL,i,aj⟩) LIs.o LIn.o];exact h1
       clear hG hc;cases hfc:f c with
       |true=>rw[hfc]at RC AS;have HF:=aA hfc;clear hfc;go_wp2_with (first|(go_at_call 128;refine RC.o.mono ?_;rintro e w' ⟨rfl,gB⟩;obtain⟨q1,q2,q3⟩:=KC.o _ gB;have f2:=q2.frozen k;have c2:=q2.cell k;rw[show(EE n (AY (rq i) k (Ih f c)))[k]?=az (.bool (AY (rq i) k (Ih f c) k))from sj _ _ yH]at c2;have Q2:=aA q2;have Q3:=aA q3;clear q2 q3 gB));have G7:=Q2.o.jy k (.bool true);rw[afN]at G7;exact⟨⟨c+1,by omega,by simp,by rw[AS.o,Bool.or_true];exact G7,Q3.o.setCell (p:=⟨g,k,aj⟩) (.inl rfl) _⟩,by simp[aK];omega⟩
       |false=>rw[hfc]at RC AS;have HF:=aA hfc;clear hfc;go_wp2_with (first|(go_at_call 128;refine RC.o.mono ?_;rintro e w' ⟨rfl,gB⟩;obtain⟨q1,q2,q3⟩:=KC.o _ gB;have Q2:=aA q2;have Q3:=aA q3;clear q2 q3 gB));exact⟨⟨c+1,by omega,by simp,by rw[AS.o,Bool.or_false];exact Q2.o,Q3.o⟩,by simp[aK];omega⟩
      ·obtain rfl:m=c:=by omega
       have jm:aZ (ajh n (rq i) g w5 (ah ag ((k+1:Nat):Int)) wr):=⟨k+1,by omega,rfl,by rw[<-NX.o,RQk.o];exact hG,hc⟩;clear hG hc;go_wp2_with fail;exact⟨by simpa using jm.out,by simp[aK];omega⟩
    ·obtain rfl:n=k:=by omega
     have ER:aZ (AY (rq i) n false=AY (rq i) n (rq i n)\/True):=.inr trivial;have EQ:EE n (AY (rq i) n false)=EE n (rq i):=(by unfold EE;congr 1;refine List.map_congr_left fun x hx=>?_;have:=List.mem_range.1 hx;unfold AY;rw[if_pos this]);rw[EQ]at hG;have jm:aZ (ajg n rq bL w (ah ag ((i+1:Nat):Int)) wr):=⟨i+1,_,by omega,rfl,M5.o wr hc hG,WB.o _ hc⟩;clear hG hc EQ;go_wp2_with fail;exact⟨by simpa using jm.out,by simp[aK];omega⟩
  ·obtain rfl:n=i:=by omega
   have jm:aZ (Ty n rq w (ax (ay (az ⟨bL,0,aj⟩) n n)) wr):=(by refine⟨bL,rfl,⟨n1,n8,bL,V,_,rfl,hM.l,fun j hj=>?_⟩,gB,zm HbL.o⟩;obtain⟨g,k1,k2,k3⟩:=hM.rows j hj;refine⟨?_,g,n,_,k1,k2,fun k hk=>sj _ _ hk⟩;rw[sj _ _ hj];unfold CY;rw[if_pos hj]);clear hM gB;go_wp2_with fail;go_ret;exact jm.out
end
section
def cM(x:Mv):List aJ:=[ah ag x.1,ah ag x.2.1,ah ag (pX x.2.2.1)]
theorem LJ(x:Mv):(cM x).length=3:=rfl
theorem Nx.loc{vU Z:Own}{o:Nat}{w0 w w':aG}{S:Nat->Prop}(h:Nx vU o w0 Z w)(hc:Ch S w w')(hS:∀k,S k->w0.heap.size<=k):Nx vU o w0 (fr Z w.heap.size) w' where
 ch:=h.ch.trans hc fun i hi s=>by have:=hS i s;omega
 ext:=fun k hk=>(iD (Nat.lt_of_lt_of_le hk h.ch.size)).trans (h.ext k hk)
 fresh:=fun k h1 h2=>by
  by_cases hk:k<w.heap.size
  ·rw[iD hk];exact h.fresh k h1 hk
  ·rw[mH (by omega)];exact .inr (bJ _)
theorem kY{w:aG}{base:Nat}{e:dP}{m n:Nat}{v:aJ}{xs:List aJ}(h:w.ownsRow base e m v n xs):∀g,v.ownBlock=az g->∃cs,dG w g e cs:=fun g hg=>by
 rcases h.2 with⟨rfl,_⟩|⟨g1,cap,cur,rfl,_,hh,_⟩
 ·simp[eO]at hg
 ·simp[eO]at hg;subst hg;exact⟨cur,hh⟩
theorem uM{w:aG}{base:Nat}{e:dP}{n:Nat}{v:aJ}{xs:List aJ}(h:w.ownsRow base e 1 v n xs)(hn:0<n):∃g cap cs,v=ay (az ⟨g,0,aj⟩) n cap/\dG w g e cs/\base<=g/\∀i,i<n->cs[i]?=xs[i]?:=by
 rcases h.2 with⟨_,h0⟩|⟨g,cap,cur,rfl,hb,hh,_,_,_,ht⟩
 ·omega
 ·refine⟨g,cap,cur,rfl,hh,hb,fun i hi=>?_⟩;rw[<-ht,qm,List.getElem?_take,if_pos hi,Array.getElem?_toList]
structure Tz(vU:Own)(w0:aG)(o b bB rV qM bD bO:Nat)(D O:Nat->Nat->Int)(n m:Nat)(Z:Own)(w:aG)(X:Bx)(L:yV)(mm:List Mv)(vM vF:aJ)(Q:List (Fm×aJ)):Prop where
 bx:pW Z o w b X L
 nx:Nx vU o w0 Z w
 vb:dG w bB 101 #[pt b]/\(Z bB).1=0
 vm:dG w rV 185 #[vM]/\(Z rV).1=0/\w0.heap.size<=rV
 vf:dG w qM 110 #[vF]/\(Z qM).1=0/\w0.heap.size<=qM
 om:w.ownsRow w0.heap.size 189 3 vM mm.length (mm.flatMap cM)/\∀g,vM.ownBlock=az g->(Z g).1=0
 Iw:w.ownsRow w0.heap.size 59 6 vF Q.length (Q.flatMap Dm)/\∀g,vF.ownBlock=az g->(Z g).1=0
 QK:∀x∈Q,iX Z w x.1.data x.2
 dd:zR Z w bD n m D
 oo:zR Z w bO n m O
theorem zR.ZX{Z:Own}{w wr:aG}{B g n m:Nat}{V:Nat->aJ}{f:Nat->Nat->Int}(hB:dG wr g 231 (uu V))(hg:(Z g).1=0)(hm:0<m)(ht:∀k,B<=k->k<w.heap.size->(Z k).1=0)(hr:∀p,p<n->∃xs:List aJ,w.ownsRow B 3 1 (V p) m xs/\∀c,c<m->xs[c]?=az (ah ag (f p c)))(hb:aO w.heap.size w wr):zR Z wr g n m f:=by refine⟨V,hB,hg,fun p hp=>?_⟩;obtain⟨xs,h1,h2⟩:=hr p hp;obtain⟨g',cap,cs,e,hbk,oW,hc⟩:=uM h1 hm;exact⟨g',cap,cs,e,hbk.below hb hbk.lt,ht g' oW hbk.lt,fun c qx=>by rw[hc c qx,h2 c qx]⟩
section
variable{vU Z dV:Own}{w0 w w' w2 w3 wp:aG}{o b bB rV qM bD bO n m:Nat}{D O:Nat->Nat->Int}{X X':Bx}{L L':yV}{mm:List Mv}{vM vF v':aJ}{Q:List (Fm×aJ)}
theorem Tz.below(h:Tz vU w0 o b bB rV qM bD bO D O n m Z w X L mm vM vF Q)(k:aO w.heap.size w w'):Tz vU w0 o b bB rV qM bD bO D O n m (fr Z w.heap.size) w' X L mm vM vF Q:=by
 have hc:Ch (fun _=>False) w w':=Ch.dw k;have he:∀i,i<w.heap.size->fr Z w.heap.size i=Z i:=fun i hi=>iD hi;exact{
  bx:=h.bx.jM hc he (fun _ s=>s.elim)
  nx:=h.nx.loc hc (fun _ s=>s.elim)
  vb:=⟨h.vb.1.below k h.vb.1.lt,by rw[he _ h.vb.1.lt];exact h.vb.2⟩
  vm:=⟨h.vm.1.below k h.vm.1.lt,by rw[he _ h.vm.1.lt];exact h.vm.2.1,h.vm.2.2⟩
  vf:=⟨h.vf.1.below k h.vf.1.lt,by rw[he _ h.vf.1.lt];exact h.vf.2.1,h.vf.2.2⟩
  om:=⟨fT h.om.1 hc (fun _ _ s=>s.elim),fun g hg=>by rw[he _ (h.om.1.lt g hg).2];exact h.om.2 g hg⟩
  Iw:=⟨fT h.Iw.1 hc (fun _ _ s=>s.elim),fun g hg=>by rw[he _ (h.Iw.1.lt g hg).2];exact h.Iw.2 g hg⟩
  QK:=fun x hx=>(h.QK x hx).jM hc he (fun _ s=>s.elim)
  dd:=h.dd.jM hc he (fun _ s=>s.elim)
  oo:=h.oo.jM hc he (fun _ s=>s.elim)}
theorem Tz.drew(h:Tz vU w0 o b bB rV qM bD bO D O n m Z w X L mm vM vF Q):Tz vU w0 o b bB rV qM bD bO D O n m Z w.drew X L mm vM vF Q where
 bx:=h.bx.drew
 nx:=h.nx.drew
 vb:=h.vb
 vm:=h.vm
 vf:=h.vf
 om:=h.om
 Iw:=h.Iw
 QK:=fun x hx=>(h.QK x hx).jM (S:=fun _=>False) (Ch.refl _ w).drew (fun _ _=>rfl) (fun _ s=>s.elim)
 dd:=h.dd.below ⟨rfl,rfl,rfl,aC _,fun _ _=>rfl⟩
 oo:=h.oo.below ⟨rfl,rfl,rfl,aC _,fun _ _=>rfl⟩
theorem Tz.post(h:Tz vU w0 o b bB rV qM bD bO D O n m Z w X L mm vM vF Q)(ho:2<=o)(hx:pW dV o w' b X' L')(k:Nx Z o w dV w'):Tz vU w0 o b bB rV qM bD bO D O n m dV w' X' L' mm vM vF Q where
 bx:=hx
 nx:=h.nx.trans k
 vb:=⟨h.vb.1.ch k.ch (by rw[h.vb.2];omega),by rw[k.ext _ h.vb.1.lt];exact h.vb.2⟩
 vm:=⟨h.vm.1.ch k.ch (by rw[h.vm.2.1];omega),by rw[k.ext _ h.vm.1.lt];exact h.vm.2.1,h.vm.2.2⟩
 vf:=⟨h.vf.1.ch k.ch (by rw[h.vf.2.1];omega),by rw[k.ext _ h.vf.1.lt];exact h.vf.2.1,h.vf.2.2⟩
 om:=⟨fT h.om.1 k.ch (fun g hg=>by rw[h.om.2 g hg];omega),fun g hg=>by rw[k.ext _ (h.om.1.lt g hg).2];exact h.om.2 g hg⟩
 Iw:=⟨fT h.Iw.1 k.ch (fun g hg=>by rw[h.Iw.2 g hg];omega),fun g hg=>by rw[k.ext _ (h.Iw.1.lt g hg).2];exact h.Iw.2 g hg⟩
 QK:=fun x hx=>(h.QK x hx).nx k ho
 dd:=h.dd.nx k ho
 oo:=h.oo.nx k ho
theorem Tz.uK{S:Nat->Prop}(h:Tz vU w0 o b bB rV qM bD bO D O n m Z w X L mm vM vF Q)(ho:2<=o)(hc:Ch S w w')(hS:∀k,S k->(Z k).1=0/\w0.heap.size<=k/\k≠bB)(hd:∀k,S k->∃t cs,dG w k t cs/\t≠231/\t≠3):pW (fr Z w.heap.size) o w' b X L/\Nx vU o w0 (fr Z w.heap.size) w'/\(dG w' bB 101 #[pt b]/\(fr Z w.heap.size bB).1=0)/\(∀x∈Q,iX (fr Z w.heap.size) w' x.1.data x.2)/\zR (fr Z w.heap.size) w' bD n m D/\zR (fr Z w.heap.size) w' bO n m O:=by
 have he:∀i,i<w.heap.size->fr Z w.heap.size i=Z i:=fun i hi=>iD hi;have ho':∀(bO:Nat) (O:Nat->Nat->Int),zR Z w bO n m O->zR (fr Z w.heap.size) w' bO n m O:=fun bO O hO=>by
  obtain⟨U,h1,h2,h3⟩:=hO;refine⟨U,h1.ch hc fun s=>?_,by rw[he _ h1.lt];exact h2,fun p hp=>?_⟩
  ·obtain⟨t,cs,b1,b2,b3⟩:=hd _ s;exact b2 (dG.same h1 b1).1.symm
  ·obtain⟨g,cap,cs,k1,k2,k3,k4⟩:=h3 p hp;refine⟨g,cap,cs,k1,k2.ch hc fun s=>?_,by rw[he _ k2.lt];exact k3,k4⟩;obtain⟨t,cs',b1,b2,b3⟩:=hd _ s;exact b3 (dG.same k2 b1).1.symm
 exact⟨h.bx.jM hc he (fun k s=>by have:=(hS k s).1;omega),h.nx.loc hc (fun k s=>(hS k s).2.1),⟨h.vb.1.ch hc fun s=>(hS _ s).2.2 rfl,by rw[he _ h.vb.1.lt];exact h.vb.2⟩,
  fun x hx=>(h.QK x hx).jM hc he fun k s=>by have:=(hS k s).1;omega,ho' _ _ h.dd,ho' _ _ h.oo⟩
theorem Tz.ajY{mv:Mv}{o1:Obj}(h:Tz vU w0 o b bB rV qM bD bO D O n m Z w X L mm vM vF Q)(ho:2<=o)(hb:w0.heap.size<=w.heap.size)(hbB:bB≠rV)(nR:w2.ownsRow w0.heap.size 189 3 v' (mm.length+1) (mm.flatMap cM++cM mv))(gr:(w.alloc o1).grownBy w2 vM.ownBlock)(loc:v'.ownBlock=vM.ownBlock\/v'.ownBlock=az (w.heap.size+1)):dG w2 rV 185 #[vM]/\Tz vU w0 o b bB rV qM bD bO D O n m (fr Z w.heap.size) (w2.setCell ⟨rV,0,aj⟩ v') X L (mm++[mv]) v' vF Q/\∀g cs,dG w g 3 cs->dG (w2.setCell ⟨rV,0,aj⟩ v') g 3 cs/\fr Z w.heap.size g=Z g:=by
 have Pv:Ch (fun k=>k=rV\/vM.ownBlock=az k) w w2:=((Ch.refl _ w).alloc o1).grown gr fun g hg=>.inl (.inr hg);have hc:Ch (fun k=>k=rV\/vM.ownBlock=az k) w (w2.setCell ⟨rV,0,aj⟩ v'):=Pv.setCell (p:=⟨rV,0,aj⟩) (.inl (.inl rfl)) v';have MM:∀g,vM.ownBlock=az g->∃cs,dG w g 189 cs:=kY h.om.1;have nM:∀g,vM.ownBlock=az g->rV≠g:=fun g hg e=>by obtain⟨cs,hb⟩:=MM g hg;exact dG.sZ h.vm.1 hb (by decide) e
 obtain⟨k1,k2,k3,k4,k5,k6⟩:=h.uK ho hc (fun k s=>by
  rcases s with s|s
  ·subst s;exact⟨h.vm.2.1,h.vm.2.2,hbB.symm⟩
  ·refine⟨h.om.2 k s,(h.om.1.lt k s).1,fun e=>?_⟩;obtain⟨cs,hb⟩:=MM k s;subst e;exact dG.sZ h.vb.1 hb (by decide) rfl) (fun k s=>by
  rcases s with s|s
  ·subst s;exact⟨_,_,h.vm.1,by decide,by decide⟩
  ·obtain⟨cs,hb⟩:=MM k s;exact⟨_,_,hb,by decide,by decide⟩)
 have b2:dG w2 rV 185 #[vM]:=(h.vm.1.alloc o1).grown gr fun e=>nM _ e.symm rfl;have he:∀i,i<w.heap.size->fr Z w.heap.size i=Z i:=fun i hi=>iD hi;refine⟨b2,?_,fun g cs hb=>⟨hb.ch hc fun s=>?_,he _ hb.lt⟩⟩;rotate_left
 ·rcases s with s|s
  ·have h1:=h.vm.1;rw[<-s]at h1;exact dG.sZ hb h1 (by decide) rfl
  ·obtain⟨cs,tq⟩:=MM _ s;exact dG.sZ hb tq (by decide) rfl
 refine⟨k1,k2,k3,⟨?_,?_,h.vm.2.2⟩,⟨h.vf.1.ch hc fun s=>?_,by rw[he _ h.vf.1.lt];exact h.vf.2.1,h.vf.2.2⟩,⟨?_,fun g hg=>?_⟩,⟨fT h.Iw.1 hc fun g hg s=>?_,fun g hg=>by rw[he _ (h.Iw.1.lt g hg).2];exact h.Iw.2 g hg⟩,k4,k5,k6⟩
 ·have:=b2.jy 0 v';simpa using this
 ·rw[he _ h.vm.1.lt];exact h.vm.2.1
 ·rcases s with s|s
  ·have h1:=h.vm.1;rw[<-s]at h1;exact dG.sZ h.vf.1 h1 (by decide) rfl
  ·obtain⟨cs,hb⟩:=MM _ s;exact dG.sZ h.vf.1 hb (by decide) rfl
 ·have h1:=nK nR (p:=⟨rV,0,aj⟩) v' fun g hg e=>by
   obtain⟨cs,hb⟩:=kY nR g hg;exact dG.sZ b2 hb (by decide) (by rw[e])
  simpa[cM]using h1
 ·rcases loc with q|q
  ·rw[q]at hg;rw[he _ (h.om.1.lt g hg).2];exact h.om.2 g hg
  ·rw[q]at hg;injection hg with hg;rw[mH (by omega)]
 ·obtain⟨cs',tq⟩:=kY h.Iw.1 g hg;rcases s with s|s
  ·have h1:=h.vm.1;rw[<-s]at h1;exact dG.sZ tq h1 (by decide) rfl
  ·obtain⟨cs,hb⟩:=MM _ s;exact dG.sZ tq hb (by decide) rfl
theorem Tz.ajX{x:Fm}{v:aJ}{o1:Obj}(h:Tz vU w0 o b bB rV qM bD bO D O n m Z w X L mm vM vF Q)(ho:2<=o)(hb:w0.heap.size<=w.heap.size)(hbB:bB≠qM)(hx:iX Z w x.data v)(nR:w2.ownsRow w0.heap.size 59 6 v' (Q.length+1) (Q.flatMap Dm++Dm (x,v)))(gr:(w.alloc o1).grownBy w2 vF.ownBlock)(loc:v'.ownBlock=vF.ownBlock\/v'.ownBlock=az (w.heap.size+1)):dG w2 qM 110 #[vF]/\Tz vU w0 o b bB rV qM bD bO D O n m (fr Z w.heap.size) (w2.setCell ⟨qM,0,aj⟩ v') X L mm vM v' (Q++[(x,v)])/\∀g cs,dG w g 3 cs->dG (w2.setCell ⟨qM,0,aj⟩ v') g 3 cs/\fr Z w.heap.size g=Z g:=by
 have Pv:Ch (fun k=>k=qM\/vF.ownBlock=az k) w w2:=((Ch.refl _ w).alloc o1).grown gr fun g hg=>.inl (.inr hg);have hc:Ch (fun k=>k=qM\/vF.ownBlock=az k) w (w2.setCell ⟨qM,0,aj⟩ v'):=Pv.setCell (p:=⟨qM,0,aj⟩) (.inl (.inl rfl)) v';have MM:∀g,vF.ownBlock=az g->∃cs,dG w g 59 cs:=kY h.Iw.1;have nM:∀g,vF.ownBlock=az g->qM≠g:=fun g hg e=>by obtain⟨cs,hb⟩:=MM g hg;exact dG.sZ h.vf.1 hb (by decide) e
 have hS0:∀k,(k=qM\/vF.ownBlock=az k)->(Z k).1=0:=fun k s=>by
  rcases s with s|s
  ·subst s;exact h.vf.2.1
  ·exact h.Iw.2 k s
 obtain⟨k1,k2,k3,k4,k5,k6⟩:=h.uK ho hc (fun k s=>by
  rcases s with s|s
  ·subst s;exact⟨h.vf.2.1,h.vf.2.2,hbB.symm⟩
  ·refine⟨h.Iw.2 k s,(h.Iw.1.lt k s).1,fun e=>?_⟩;obtain⟨cs,hb⟩:=MM k s;subst e;exact dG.sZ h.vb.1 hb (by decide) rfl) (fun k s=>by
  rcases s with s|s
  ·subst s;exact⟨_,_,h.vf.1,by decide,by decide⟩
  ·obtain⟨cs,hb⟩:=MM k s;exact⟨_,_,hb,by decide,by decide⟩)
 have b2:dG w2 qM 110 #[vF]:=(h.vf.1.alloc o1).grown gr fun e=>nM _ e.symm rfl;have he:∀i,i<w.heap.size->fr Z w.heap.size i=Z i:=fun i hi=>iD hi;refine⟨b2,?_,fun g cs hb=>⟨hb.ch hc fun s=>?_,he _ hb.lt⟩⟩;rotate_left
 ·rcases s with s|s
  ·have h1:=h.vf.1;rw[<-s]at h1;exact dG.sZ hb h1 (by decide) rfl
  ·obtain⟨cs,tq⟩:=MM _ s;exact dG.sZ hb tq (by decide) rfl
 refine⟨k1,k2,k3,⟨h.vm.1.ch hc fun s=>?_,by rw[he _ h.vm.1.lt];exact h.vm.2.1,h.vm.2.2⟩,⟨?_,?_,h.vf.2.2⟩,⟨fT h.om.1 hc fun g hg s=>?_,fun g hg=>by rw[he _ (h.om.1.lt g hg).2];exact h.om.2 g hg⟩,⟨?_,fun g hg=>?_⟩,fun y hy=>?_,k5,k6⟩
 ·rcases s with s|s
  ·have h1:=h.vf.1;rw[<-s]at h1;exact dG.sZ h.vm.1 h1 (by decide) rfl
  ·obtain⟨cs,hb⟩:=MM _ s;exact dG.sZ h.vm.1 hb (by decide) rfl
 ·have:=b2.jy 0 v';simpa using this
 ·rw[he _ h.vf.1.lt];exact h.vf.2.1
 ·obtain⟨cs',tq⟩:=kY h.om.1 g hg;rcases s with s|s
  ·have h1:=h.vf.1;rw[<-s]at h1;exact dG.sZ tq h1 (by decide) rfl
  ·obtain⟨cs,hb⟩:=MM _ s;exact dG.sZ tq hb (by decide) rfl
 ·have h1:=nK nR (p:=⟨qM,0,aj⟩) v' fun g hg e=>by
   obtain⟨cs,hb⟩:=kY nR g hg;exact dG.sZ b2 hb (by decide) (by rw[e])
  simpa[Dm]using h1
 ·rcases loc with q|q
  ·rw[q]at hg;rw[he _ (h.Iw.1.lt g hg).2];exact h.Iw.2 g hg
  ·rw[q]at hg;injection hg with hg;rw[mH (by omega)]
 ·rcases List.mem_append.1 hy with hy|hy
  ·exact k4 y hy
  ·simp only[List.mem_singleton]at hy;subst hy;exact hx.jM hc he fun k s=>by have:=hS0 k s;omega
end
end
end Go.Proofs.YtnjjkgjdhljfnaaGreat
