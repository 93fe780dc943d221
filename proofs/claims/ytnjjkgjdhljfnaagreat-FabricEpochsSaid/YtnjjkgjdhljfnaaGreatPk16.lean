/- Part 16. -/
import Derived.Test.YtnjjkgjdhljfnaaGreatPk6
import Derived.Test.YtnjjkgjdhljfnaaGreatPk15
open Go.Proofs.Tryz
open Bool renaming eq_iff_iff->jE,or_eq_true->iq
open Go renaming Value->aI,World->aG,info_parts->dX,madeCells->dS
open Go.Ending renaming returned->ax
open Go.IntKind renaming i64->ag
open Go.Lib renaming hid->aA
open Go.Obj renaming cells->af
open Go.Proofs.Tryz renaming prog->aH
open Go.RowKit renaming Below->aN,Hid->aY,intOf->aJ
open Go.RowKit.Below renaming refl->aQ
open Go.Value renaming int->ah,slice->ay
open Go.World renaming ownsRow_nil->dM
open Int renaming le_refl->gQ
open List renaming filter_cons->iE,filter_nil->Dw,getD->bJ,length_append->bV,length_singleton->iJ,map_append->eY,mem_append->eZ,mem_cons->dG,mem_range->dJ,mem_singleton->dz,not_mem_nil->dP,range->aO,range_succ->dB
open List.Pairwise renaming nil->sJ
open Nat renaming le_refl->aC,le_trans->dZ,lt_of_lt_of_le->bW,zero_le->bS
open Option renaming none->aj,some->az
set_option maxRecDepth 100000
set_option maxHeartbeats 16000000
set_option linter.unusedVariables false
set_option linter.unusedSimpArgs false
namespace Go.Proofs.YtnjjkgjdhljfnaaGreat
open Go.RowKit Go.Maps
attribute [local go_sem ↓] Go.wp_at_zero Go.wp_at_succ
section
variable{n r r':Nat}{cs:List Cb}{us:List Bool}{l l':List Int}
theorem Iq.aka(h:Iq n cs us r l){j:Nat}(hj:j<n)(h0:l.getD j 0=0):j=r:=by
 by_cases e:j=r
 ·exact e
 ·rcases h.lv.pos j hj e with q|q<;>omega
theorem Iq.reach(h:Iq n cs us r l)(h':Iq n cs us r' l')(hr:0<=l.getD r' 0):∀(d j:Nat),j<n->l'.getD j 0=d->0<=l.getD j 0
 |0,j,hj,hd=>by rw[h'.aka hj (by omega)];exact hr
 |d+1,j,hj,hd=>by obtain⟨i,k,a1,a2,a3,a4,a5⟩:=h'.led j hj (by omega);exact h.QM k a3 (Iq.reach h h' hr d k a3 (by omega)) i j a1 a2 (Qv a4)
theorem Iq.back(h:Iq n cs us r l)(h':Iq n cs us r' l'):∀(d j:Nat),j<n->l.getD j 0=d->0<=l'.getD j 0->0<=l'.getD r 0
 |0,j,hj,hd,hp=>by rw[<-h.aka hj (by omega)];exact hp
 |d+1,j,hj,hd,hp=>by obtain⟨i,k,a1,a2,a3,a4,a5⟩:=h.led j hj (by omega);exact Iq.back h h' d k a3 (by omega) (h'.QM j hj hp i k a1 a2 a4)
theorem Iq.same(h:Iq n cs us r l)(h':Iq n cs us r' l'){j:Nat}(hj:j<n)(h0:0<=l.getD j 0)(h1:0<=l'.getD j 0){i:Nat}(hi:i<n):0<=l.getD i 0↔0<=l'.getD i 0:=by have b1:=Iq.back h h' (l.getD j 0).toNat j hj (by omega) h1;have b2:=Iq.back h' h (l'.getD j 0).toNat j hj (by omega) h0;exact⟨fun q=>Iq.reach h' h b1 (l.getD i 0).toNat i hi (by omega),fun q=>Iq.reach h h' b2 (l'.getD i 0).toNat i hi (by omega)⟩
end
def wO(l:List Int)(j:Nat):List Nat:=(aO j).filter fun i=>decide (0<=l.getD i 0)
theorem tq{l:List Int}{n j:Nat}:j∈wO l n↔j<n/\0<=l.getD j 0:=by unfold wO;rw[List.mem_filter,dJ,decide_eq_true_eq]
theorem abA(l:List Int)(j:Nat):wO l (j+1)=wO l j++(if 0<=l.getD j 0 then[j]else[]):=by
 unfold wO;rw[dB,List.filter_append];congr 1;by_cases h:0<=l.getD j 0
 ·rw[if_pos h];simp only[iE,decide_eq_true h,if_true,Dw]
 ·rw[if_neg h];simp only[iE,decide_eq_false h,Bool.false_eq_true,if_false,Dw]
theorem Vy(l:List Int)(j:Nat):(wO l j).length<=j:=by unfold wO;have:=List.length_filter_le (fun i=>decide (0<=l.getD i 0)) (aO j);simpa using this
structure PaI(n:Nat)(cs:List Cb)(us:List Bool)(k:Nat)(sn:Nat->Bool)(PS:List (List Nat)):Prop where
 ok:∀P∈PS,∃r l,Iq n cs us r l/\P=wO l n
 seen:∀j,j<n->(sn j=true↔∃P∈PS,j∈P)
 all:∀j,j<k->sn j=true
 dis:PS.Pairwise fun P Q=>∀j,j∈P->j∉Q
 len:PS.length<=k
section
variable{n k:Nat}{cs:List Cb}{us:List Bool}{sn:Nat->Bool}{PS:List (List Nat)}{l:List Int}
theorem PaI.start(n:Nat)(cs:List Cb)(us:List Bool):PaI n cs us 0 (fun _=>false) []:=
 ⟨fun P h=>by(cases h),fun j hj=>by simp,fun j hj=>by omega,sJ,aC _⟩
theorem PaI.skip(h:PaI n cs us k sn PS)(hs:sn k=true):PaI n cs us (k+1) sn PS:=
 ⟨h.ok,h.seen,fun j hj=>(by
  by_cases e:j=k
  ·rw[e];exact hs
  ·exact h.all j (by omega)),h.dis,by have:=h.len;omega⟩
theorem PaI.push(h:PaI n cs us k sn PS)(hk:k<n)(hs:sn k=false)(hl:Iq n cs us k l):PaI n cs us (k+1) (fun j=>sn j||(decide (j<n)&&decide (0<=l.getD j 0))) (PS++[wO l n]) where
 ok:=fun P hP=>by
  rcases eZ.1 hP with q|q
  ·exact h.ok P q
  ·rw[dz]at q;exact⟨k,l,hl,q⟩
 seen:=fun j hj=>by
  rw[iq,h.seen j hj,decide_eq_true hj,Bool.true_and,decide_eq_true_eq];constructor
  ·rintro(⟨P,q1,q2⟩|q)
   ·exact⟨P,List.mem_append_left _ q1,q2⟩
   ·exact⟨wO l n,by simp,tq.2 ⟨hj,q⟩⟩
  ·rintro⟨P,q1,q2⟩;rcases eZ.1 q1 with q|q
   ·exact .inl ⟨P,q,q2⟩
   ·rw[dz]at q;subst q;exact .inr (tq.1 q2).2
 all:=fun j hj=>by
  by_cases e:j=k
  ·subst e;rw[iq];right;rw[decide_eq_true hk,decide_eq_true (by rw[hl.lv.zero];exact gQ _)];rfl
  ·rw[h.all j (by omega)];rfl
 dis:=by rw[List.pairwise_append];refine⟨h.dis,List.pairwise_singleton _ _,fun P hP Q hQ j hj hq=>?_⟩;rw[dz]at hQ;subst hQ;obtain⟨r,l',hr,rfl⟩:=h.ok P hP;have m1:=tq.1 hj;have m2:=tq.1 hq;have:=(hr.same hl m1.1 m1.2 m2.2 hk).2 (by rw[hl.lv.zero];exact gQ _);have:=(h.seen k hk).2 ⟨_,hP,tq.2 ⟨hk,this⟩⟩;rw[hs]at this;cases this
 len:=by rw[bV];have:=h.len;simp only[List.length_cons,List.length_nil];omega
end
def cN1(j:Nat):aI:=ah ag (j:Int)
def Zv(base:Nat)(w:aG)(v:aI)(PS:List (List Nat)):Prop:=
 ∃V:Nat->aI,w.ownsRow base 26 1 v PS.length ((aO PS.length).map V)/\∀i,i<PS.length->w.ownsRow base 3 1 (V i) (PS.getD i []).length ((PS.getD i []).map cN1)
theorem Zv.ch{S:Nat->Prop}{base:Nat}{w w':aG}{v:aI}{PS:List (List Nat)}(h:Zv base w v PS)(hc:Ch S w w')(hS:∀g,S g->∃t C,dh w g t C/\t≠26/\t≠3):Zv base w' v PS:=by
 obtain⟨V,h1,h2⟩:=h;refine⟨V,fO h1 hc fun g hg s=>?_,fun i hi=>fO (h2 i hi) hc fun g hg s=>?_⟩
 ·obtain⟨t,C,hb,n1,_⟩:=hS g s;obtain⟨C',sV⟩:=kH h1 g hg;exact n1 (dh.same hb sV).1
 ·obtain⟨t,C,hb,_,n2⟩:=hS g s;obtain⟨C',sV⟩:=kH (h2 i hi) g hg;exact n2 (dh.same hb sV).1
theorem Zv.below{base:Nat}{w w':aG}{v:aI}{PS:List (List Nat)}(h:Zv base w v PS)(hb:aN w.heap.size w w'):Zv base w' v PS:=h.ch (S:=fun _=>False) (Ch.bY hb) fun _ s=>s.elim
theorem Zv.nil(base:Nat)(w:aG):Zv base w (ay aj 0 0) []:=⟨fun _=>ay aj 0 0,dM w base _ _,fun i hi=>by simp at hi⟩
def IB(n:Nat)(f:Nat->Bool):Array aI:=((aO n).map fun i=>Value.bool (f i)).toArray
theorem OH(n:Nat)(f:Nat->Bool){i:Nat}(h:i<n):(IB n f)[i]?=az (.bool (f i)):=by simp[IB,h]
theorem ael(n:Nat)(f:Nat->Bool)(i:Nat)(x:Bool):(IB n f).setIfInBounds i (.bool x)=IB n (fun j=>if j=i then x else f j):=by
 unfold IB;rw[List.setIfInBounds_toArray];congr 1;apply List.ext_getElem (by simp);intro j h1 h2;rw[List.getElem_set];simp only[List.getElem_map,List.getElem_range];by_cases e:i=j
 ·subst e;simp
 ·rw[if_neg e,if_neg (Ne.symm e)]
def Tf(n:Nat)(cs:List Cb)(us:List Bool)(w:aG)(bP:Nat)(pv:Array aI)(gs:Nat)(v5 i:aI)(wr:aG):Prop:=
 ∃k sn PS,k<=n/\i=ah ag (k:Nat)/\PaI n cs us k sn PS/\Zv w.heap.size wr v5 PS/\dh wr gs 4 (IB n sn)/\dh wr bP 25 pv/\aN w.heap.size w wr
def Ti(n:Nat)(l:List Int)(sn:Nat->Bool)(gs:Nat)(w2:aG)(v8 i:aI)(wr:aG):Prop:=
 ∃j,j<=n/\i=ah ag (j:Nat)/\dh wr gs 4 (IB n fun i=>sn i||(decide (i<j)&&decide (0<=l.getD i 0)))/\wr.ownsRow w2.heap.size 3 1 v8 (wO l j).length ((wO l j).map cN1)/\Ch (fun i=>i=gs) w2 wr
def Rh(n:Nat)(cs:List Cb)(us:List Bool)(w:aG)(e:Ending)(w':aG):Prop:=
 ∃v sn PS,e=ax v/\PaI n cs us n sn PS/\Zv w.heap.size w' v PS/\aN w.heap.size w w'
theorem Zv.push{base:Nat}{w w':aG}{v v' v8:aI}{PS:List (List Nat)}{P:List Nat}{V:Nat->aI}{o:Obj}(h2:∀i,i<PS.length->w.ownsRow base 3 1 (V i) (PS.getD i []).length ((PS.getD i []).map cN1))(hp:w.ownsRow base 3 1 v8 P.length (P.map cN1))(h1:w.ownsRow base 26 1 v PS.length ((aO PS.length).map V))(gr:(w.alloc o).grownBy w' v.ownBlock)(own:w'.ownsRow base 26 1 v' (PS.length+1) ((aO PS.length).map V++[v8])):Zv base w' v' (PS++[P]):=by
 have hc:Ch (fun k=>v.ownBlock=az k) w w':=((Ch.refl _ w).alloc o).grown gr fun g e=>.inl e;have uG:∀{u:aI} {m:Nat} {xs:List aI},w.ownsRow base 3 1 u m xs->w'.ownsRow base 3 1 u m xs:=fun{u m xs} hu=>fO hu hc fun g hg s=>by obtain⟨C,hb⟩:=kH hu g hg;obtain⟨C',sV⟩:=kH h1 g s;exact dh.sU hb sV (by decide) rfl
 refine⟨fun i=>if i=PS.length then v8 else V i,?_,fun i hi=>?_⟩
 ·rw[bV,iJ,dB,eY];have e:(aO PS.length).map (fun i=>if i=PS.length then v8 else V i)=(aO PS.length).map V:=List.map_congr_left fun i hi=>by
   rw[if_neg (by have:=dJ.1 hi;omega)]
  rw[e];simpa using own
 ·simp only;by_cases e:i=PS.length
  ·subst e;have e2:(PS++[P]).getD PS.length []=P:=by simp[bJ]
   rw[if_pos rfl,e2];exact uG hp
  ·rw[bV,iJ]at hi;have hi':i<PS.length:=by omega
   have e2:(PS++[P]).getD i []=PS.getD i []:=(by simp[bJ,List.getElem?_append_left hi']);rw[if_neg e,e2];exact uG (h2 i hi')
theorem IZ:(Tryz.prog.info? 26).map (fun i=>(i.zero,i.size,i.bytes))=az (az (ay aj 0 0),1,24):=by kernel_rfl
theorem aco(ns:List Nd)(cs:List Cb)(us:List Bool)(An Ac Au:Option Addr)(cn cc cu:Nat)(w:aG)(hv:fT ⟨ns,cs⟩=0)(IW:us.length=cs.length)(tu:QI ⟨ns,cs⟩)(h:jw w An Ac ⟨ns,cs⟩)(h2:gI 1 cB false w Au us.length us):Calls aH 77 #[.agg #[ay An ns.length cn,ay Ac cs.length cc],ay Au us.length cu] w (Rh ns.length cs us w):=by
 obtain⟨n16,Lb⟩:=oW hv;obtain⟨w1,gK⟩:∃w1:aG,w.alloc (af #[ay An ns.length cn,ay Ac cs.length cc] 25)=w1:=⟨_,rfl⟩;have BW:aY (aN w.heap.size w w1):=by rw[<-gK];exact(aQ _ _).alloc (aC _) _
 have BP:aY (dh w1 w.heap.size 25 #[ay An ns.length cn,ay Ac cs.length cc]):=by rw[<-gK];exact dh.new w _ _
 have US:=aA (Qx ⟨ns,cs⟩ An Ac Au cn cc cu us.length w1 (by show ns.length<=_;omega) (by show cs.length<=_;omega) (by omega) tu (h.below (aC _) BW.o));have HT:wI ⟨ns,cs⟩ us.length=true:=by unfold wI;rw[decide_eq_true hv,decide_eq_true IW];rfl
 rw[HT]at US;simp only at US;have s0:w1.cell? ⟨w.heap.size,0,aj⟩=az (ay An ns.length cn):=BP.o.cell 0;have s1:w1.cell? ⟨w.heap.size,1,aj⟩=az (ay Ac cs.length cc):=BP.o.cell 1;have HV:=aA hv;have HP:=aA h;have HU:aY (gI 1 cB false w Au cs.length us):=by rw[aY,<-IW];exact h2
 have Uw:=aA IW;clear hv IW tu h h2 HT;obtain⟨j0,xI,zb,Ad,Ae⟩:=dX Fp;obtain⟨o4,RJ⟩:∃o4,af (dS #[.bool false] ns.length) 4=o4:=⟨_,rfl⟩;have HO4:=aA RJ;clear RJ;generalize us.length=ul at *;go_enter func77,ntmps77;go_wp2_with fail;refine US.o.mono ?_;rintro e w2 ⟨rfl,gm⟩;have c0:=(gm.cell (p:=⟨w.heap.size,0,aj⟩) BP.o.lt).trans s0;have c1:=(gm.cell (p:=⟨w.heap.size,1,aj⟩) BP.o.lt).trans s1;have l2:w.heap.size<w2.heap.size:=bW BP.o.lt gm.size;have BE:=aA gm;clear gm s0 s1;go_wp2_with (at_make;refine ko _ rfl _ _ 52 rfl 4 j0 _ 1 underlying52 xI zb Ad .i64 .i64 _ _ ns.length rfl rfl ?m1 ?m2 (by rw[Ae];omega) (by unfold maxLen;omega) ?_);case m1=>rfl
 case m2=>rfl
 rw[HO4.o];obtain⟨w3,zP⟩:∃w3:aG,w2.alloc o4=w3:=⟨_,rfl⟩;have B3:aY (aN w2.heap.size w2 w3):=by rw[<-zP];exact(aQ _ _).alloc (aC _) _
 have Mx:aY (aN w.heap.size w w3):=(BW.o.trans (BE.o.mono BW.o.size)).trans (B3.o.mono (dZ BW.o.size BE.o.size));have GS:aY (dh w3 w2.heap.size 4 (IB ns.length fun _=>false)):=by
  rw[<-zP,<-HO4.o];have e:IB ns.length (fun _=>false)=dS #[.bool false] ns.length:=by
   apply Array.ext
   ·simp[IB,size_madeCells]
   ·intro i h1 h2;simp[IB,dS,Nat.mod_one]
  rw[e];exact dh.new w2 _ _
 have BP3:aY (dh w3 w.heap.size 25 #[ay An ns.length cn,ay Ac cs.length cc]):=(BP.o.below BE.o BP.o.lt).below B3.o (bW BP.o.lt BE.o.size);have c0:w3.cell? ⟨w.heap.size,0,aj⟩=az (ay An ns.length cn):=BP3.o.cell 0;have c1:w3.cell? ⟨w.heap.size,1,aj⟩=az (ay Ac cs.length cc):=BP3.o.cell 1;have LG:aY (w.heap.size<=w2.heap.size):=dZ BW.o.size BE.o.size;have ST:aY (Tf ns.length cs us w w.heap.size #[ay An ns.length cn,ay Ac cs.length cc] w2.heap.size (ay aj 0 0) (ah ag 0) w3):=⟨0,fun _=>false,[],bS _,rfl,PaI.start _ _ _,Zv.nil _ _,GS.o,BP3.o,Mx.o⟩;clear gK;rw[zP];clear zP;go_wp2_with fail;clear US c0 c1 xI zb Ad Ae B3 BE l2;generalize w2.heap.size=gs at *;go_loopw [5,7,8,9,10,22,34] (fun v5 _ _ _ _ i _ wr=>Tf ns.length cs us w w.heap.size #[ay An ns.length cn,ay Ac cs.length cc] gs v5 i wr) (fun _ _ _ _ _ i _ _=>ns.length-(aJ i).toNat);case atStart=>exact ST.o
 case round=>
  clear ST;obtain⟨k,sn,PS,hk,rfl,hI,hM,hG,hP,hB⟩:=hrel;have IH:=aA hI;have MH:=aA hM;have GH:=aA hG;have PH:=aA hP;have BH:=aA hB;have c0:wr.cell? ⟨w.heap.size,0,aj⟩=az (ay An ns.length cn):=hP.cell 0;have c1:wr.cell? ⟨w.heap.size,1,aj⟩=az (ay Ac cs.length cc):=hP.cell 1;by_cases yY:k<ns.length
  ·have gk:wr.cell? ⟨gs,k,aj⟩=az (.bool (sn k)):=by rw[hG.cell];exact OH _ _ yY
   have k0:(0:Int)<=(k:Int):=(by omega);have k1:(k:Int)<(ns.length:Int):=(by omega);clear hI hM hG hP hB;cases hs:sn k with
   |true=>rw[hs]at gk;have R:aY (Tf ns.length cs us w w.heap.size #[ay An ns.length cn,ay Ac cs.length cc] gs u5 (ah ag ((k:Int)+1)) wr):=⟨k+1,sn,PS,by omega,by congr 1,IH.o.skip hs,MH.o,GH.o,PH.o,BH.o⟩;go_wp2_with fail;exact⟨R.o,by simp[aJ];omega⟩
   |false=>
    rw[hs]at gk;have HS:=aA hs;have DA:aY (Calls aH 79 #[.agg #[ay An ns.length cn,ay Ac cs.length cc],ah ag (k:Int),ay Au ul cu] wr fun e w'=>∃l,Iq ns.length cs us k l/\xP l wr e w'):=by rw[aY,Uw.o];exact Rv ns cs us k An Ac Au cn cc cu wr HV.o yY (HP.o.below (aC _) BH.o) (HU.o.below (aC _) BH.o)
    go_wp2_with fail;refine DA.o.mono ?_
    rintro e w4 ⟨l,hl,v,rfl,QY,Eg⟩;have ll:=hl.lv.len;obtain⟨aL,cL,eL⟩:=dO QY;subst eL;have LV:=aA hl;have OW:=aA QY;have B4:=aA Eg;have LLH:=aA ll;have G4:aY (dh w4 gs 4 (IB ns.length sn)):=GH.o.below Eg GH.o.lt;have M4:=aA (MH.o.below Eg);have P4:aY (dh w4 w.heap.size 25 #[ay An ns.length cn,ay Ac cs.length cc]):=PH.o.below Eg PH.o.lt;have BB4:aY (aN w.heap.size w w4):=BH.o.trans (Eg.mono BH.o.size);have ST2:aY (Ti ns.length l sn gs w4 (ay aj 0 0) (ah ag 0) w4):=⟨0,bS _,rfl,by have e:(fun i=>sn i||(decide (i<0)&&decide (0<=l.getD i 0)))=sn:=(by funext i;simp);rw[e];exact G4.o,dM w4 _ _ _,Ch.refl _ _⟩;have KL:aY (∀wq,Ch (fun i=>i=gs) w4 wq->∀j,j<ns.length->∃g,aL=az ⟨g,0,aj⟩/\wq.cell? ⟨g,j,aj⟩=az (ah ag (l.getD j 0))):=fun wq hc j hj=>by obtain⟨g,cap,e1,_,tK,ho,qB⟩:=nH (d:=(0:Int)) (c:=cI) (m:=1) (fun _=>rfl) OW.o rfl (i:=j) (by rw[LLH.o];exact hj);injection e1 with e1;refine⟨g,e1,?_⟩;have h1:=qB j (by rw[LLH.o];exact hj) 0 (by omega);have ng:¬g=gs:=fun e=>(by obtain⟨C',sV⟩:=kH OW.o g ho;rw[e]at sV;exact dh.sU G4.o sV (by decide) rfl);rw[hc.cell (p:=⟨g,j,aj⟩) tK ng];simpa[cI]using h1
    rw[ll];clear hl QY Eg ll DA gk c0 c1;go_wp2_with fail;go_loopw [8,9,10,34] (fun v8 _ _ i wq=>Ti ns.length l sn gs w4 v8 i wq) (fun _ _ _ i _=>ns.length-(aJ i).toNat);case atStart=>exact ST2.o
    case round=>
     clear ST2;obtain⟨j,hj,rfl,hG2,hO2,hC2⟩:=hrel;have G2:=aA hG2;have O2:=aA hO2;have C2:=aA hC2;by_cases Ob:j<ns.length
     ·obtain⟨gl,eL,cl⟩:=KL.o wr hC2 j Ob;subst eL;have j0':(0:Int)<=(j:Int):=(by omega);have j1:(j:Int)<(ns.length:Int):=(by omega);have FS:=abA l j;have aHW:=Vy l j;clear hG2 hO2 hC2;by_cases hp:0<=l.getD j 0
      ·rw[if_pos hp]at FS;have FSH:=aA FS;have HPj:=aA hp;obtain⟨lj,hlj⟩:∃lj,l.getD j 0=lj:=⟨_,rfl⟩;rw[hlj]at cl hp;obtain⟨aR,cR,eR⟩:=dO O2.o;subst eR;obtain⟨i0,hi0,wC,uX,wK⟩:=dX Dc;have gj:wr.frozen? ⟨gs,j,aj⟩=false:=G2.o.frozen j;have gjc:wr.cell? ⟨gs,j,aj⟩=az (.bool (sn j||(decide (j<j)&&decide (0<=l.getD j 0)))):=(by rw[G2.o.cell];exact OH _ _ Ob);have iZ:aY (∀v' w',w'.ownsRow w4.heap.size 3 1 v' ((wO l j).length+1) ((wO l j).map cN1++[ah ag (j:Int)])->(wr.alloc (af #[ah ag (j:Int)] 3)).grownBy w' (ay aR (wO l j).length cR).ownBlock->(v'.ownBlock=(ay aR (wO l j).length cR).ownBlock\/v'.ownBlock=az (wr.heap.size+1))->
        dh w' gs 4 (IB ns.length fun i=>sn i||(decide (i<j)&&decide (0<=l.getD i 0)))/\Ti ns.length l sn gs w4 v' (ah ag ((j:Int)+1)) (w'.setCell ⟨gs,j,aj⟩ (.bool true))):=fun v' w' ho hg hl=>by
        have hb:=kH O2.o;have nb:∀g,(ay aR (wO l j).length cR).ownBlock=az g->¬gs=g:=fun g e e2=>(by obtain⟨C',sV⟩:=hb g e;subst e2;exact dh.sU G2.o sV (by decide) rfl);have hc:Ch (fun k=>(ay aR (wO l j).length cR).ownBlock=az k) wr w':=((Ch.refl _ wr).alloc _).grown hg fun g e=>.inl e;have g':dh w' gs 4 (IB ns.length fun i=>sn i||(decide (i<j)&&decide (0<=l.getD i 0))):=dh.ch (S:=fun k=>(ay aR (wO l j).length cR).ownBlock=az k) G2.o hc fun e=>nb _ e rfl;refine⟨g',j+1,by omega,by congr 1,?_,?_,?_⟩
        ·have h1:=g'.jd j (.bool true);rw[ael]at h1;have e:(fun i=>if i=j then true else sn i||(decide (i<j)&&decide (0<=l.getD i 0)))=fun i=>sn i||(decide (i<j+1)&&decide (0<=l.getD i 0)):=by
          funext i;by_cases e:i=j
          ·subst e;rw[if_pos rfl,decide_eq_true (Nat.lt_succ_self i),decide_eq_true HPj.o];simp
          ·rw[if_neg e,show decide (i<j+1)=decide (i<j) by rw[jE,decide_eq_true_eq,decide_eq_true_eq];omega]
         rw[e]at h1;exact h1
        ·rw[FSH.o,bV,iJ,eY];refine nO ho (p:=⟨gs,j,aj⟩) _ fun g uy e=>?_;obtain⟨C',sV⟩:=kH ho g uy;subst e;exact dh.sU g' sV (by decide) rfl
        ·refine Ch.setCell (p:=⟨gs,j,aj⟩) (C2.o.trans hc fun i hi s=>?_) (.inl rfl) _;have:=(O2.o.lt i s).1;omega
       have hd:decide ((0:Int)<=lj)=true:=decide_eq_true hp;clear hlj FS gj gjc;go_wp2_with (at_builtin;refine gW _ rfl (.tmp 41) (.tmp 43) 26 rfl w4.heap.size 3 i0 _ 1 8 underlying26 hi0 wC uX wK rfl (by decide) _ _ _ rfl (O2.o.alloc _) (wr.heap.size+1) (az ⟨wr.heap.size,0,aj⟩) 1 1 [ah ag (j:Int)] rfl (iB wr 3 [ah ag (j:Int)] (n:=1) (size:=1) rfl) ?ayV ?ayX ?ayZ ?azb ?_);case ayV=>intro u hu;simp only[dG,dP,or_false]at hu;subst hu;rfl
       case ayX=>unfold maxLen;omega
       case ayZ=>omega
       case azb=>have:=C2.o.size;simp;omega
       intro v' w' own' gr' loc';obtain⟨g',R0⟩:=iZ.out v' w' own' gr' (by simpa using loc');have R:=aA R0;have fz:w'.frozen? ⟨gs,j,aj⟩=false:=g'.frozen j;have fc:w'.cell? ⟨gs,j,aj⟩=az (.bool (sn j||(decide (j<j)&&decide (0<=l.getD j 0)))):=by rw[g'.cell];exact OH _ _ Ob
       clear own' gr' loc' g' R0 iZ;go_wp2_with fail;exact⟨R.o,by simp[aJ];omega⟩
      ·rw[if_neg hp,List.append_nil]at FS;have R:aY (Ti ns.length l sn gs w4 u8 (ah ag ((j:Int)+1)) wr):=⟨j+1,by omega,by congr 1,by
        have e:(fun i=>sn i||(decide (i<j+1)&&decide (0<=l.getD i 0)))=fun i=>sn i||(decide (i<j)&&decide (0<=l.getD i 0)):=by
         funext i;by_cases e:i=j
         ·subst e;rw[decide_eq_false hp];simp
         ·rw[show decide (i<j+1)=decide (i<j) by rw[jE,decide_eq_true_eq,decide_eq_true_eq];omega]
        rw[e];exact G2.o,by rw[FS];exact O2.o,C2.o⟩
       clear FS;generalize l.getD j 0=lj at *;have hd:decide ((0:Int)<=lj)=false:=decide_eq_false hp;go_wp2_with fail;exact⟨R.o,by simp[aJ];omega⟩
     ·obtain rfl:ns.length=j:=by omega
      obtain⟨V,h1,h2⟩:=M4.o.ch hC2 (fun g e=>⟨4,IB ns.length sn,by have e:g=gs:=e;subst e;exact G4.o,by decide,by decide⟩);obtain⟨a5,c5,e5⟩:=dO h1;subst e5;obtain⟨a8,c8,e8⟩:=dO hO2;subst e8;have H1:=aA h1;have H2:=aA h2;obtain⟨i0,hi0,wC,uX,wK⟩:=dX IZ;have PL:=IH.o.len;have iZ:aY (∀v' w',w'.ownsRow w.heap.size 26 1 v' (PS.length+1) ((aO PS.length).map V++[ay a8 (wO l ns.length).length c8])->(wr.alloc (af #[ay a8 (wO l ns.length).length c8] 26)).grownBy w' (ay a5 PS.length c5).ownBlock->Tf ns.length cs us w w.heap.size #[ay An ns.length cn,ay Ac cs.length cc] gs v' (ah ag ((k:Int)+1)) w'):=fun v' w' ho hg=>by
       have bl5:=kH H1.o;have hc:Ch (fun k=>(ay a5 PS.length c5).ownBlock=az k) wr w':=((Ch.refl _ wr).alloc _).grown hg fun g e=>.inl e;have P4':dh wr w.heap.size 25 #[ay An ns.length cn,ay Ac cs.length cc]:=dh.ch (S:=fun i=>i=gs) P4.o C2.o fun e=>(by rw[e]at P4;exact dh.sU P4.o G4.o (by decide) rfl);have BR:aN w.heap.size w w':=(by have b1:aN w.heap.size w wr:=⟨C2.o.os.trans BB4.o.os,C2.o.tape.trans BB4.o.tape,C2.o.output.trans BB4.o.output,dZ BB4.o.size C2.o.size,fun i hi=>(C2.o.block i (bW hi BB4.o.size) (fun e=>by have:=LG.o;omega)).trans (BB4.o.block i hi)⟩;exact(b1.alloc b1.size _).grown hg (by have:=b1.size;simp;omega) fun g e=>(H1.o.lt g e).1);refine⟨k+1,_,PS++[wO l ns.length],by omega,by congr 1,IH.o.push yY HS.o LV.o,Zv.push H2.o (rQ O2.o (dZ BB4.o.size (aC _))) H1.o hg ho,?_,?_,BR⟩
       ·exact dh.ch (S:=fun k=>(ay a5 PS.length c5).ownBlock=az k) G2.o hc fun e=>by obtain⟨C',sV⟩:=bl5 _ e;exact dh.sU G2.o sV (by decide) rfl
       ·exact dh.ch (S:=fun k=>(ay a5 PS.length c5).ownBlock=az k) P4' hc fun e=>by obtain⟨C',sV⟩:=bl5 _ e;exact dh.sU P4' sV (by decide) rfl
      clear hG2 hO2 hC2 h1 h2;go_wp2_with (at_builtin;refine gW _ rfl (.tmp 49) (.tmp 51) 92 rfl w.heap.size 26 i0 _ 1 24 underlying92 hi0 wC uX wK rfl (by decide) _ _ _ rfl (H1.o.alloc _) (wr.heap.size+1) (az ⟨wr.heap.size,0,aj⟩) 1 1 [ay a8 (wO l ns.length).length c8] rfl (iB wr 26 [ay a8 (wO l ns.length).length c8] (n:=1) (size:=1) rfl) ?ayW ?ayY ?aza ?azc ?_);case ayW=>intro u hu;simp only[dG,dP,or_false]at hu;subst hu;rfl
      case ayY=>unfold maxLen;omega
      case aza=>omega
      case azc=>have:=C2.o.size;have:=BB4.o.size;simp;omega
      intro v' w' own' gr' loc';have R:=aA (iZ.out v' w' own' gr');clear own' gr' loc' iZ;go_wp2_with fail;exact⟨R.o,by simp[aJ];omega⟩
  ·obtain rfl:ns.length=k:=by omega
   have F:aY (Rh ns.length cs us w (ax u5) wr):=⟨u5,sn,PS,rfl,hI,hM,hB⟩;clear hI hM hG hP hB;go_wp2_with fail;go_ret;exact F.o
end Go.Proofs.YtnjjkgjdhljfnaaGreat
