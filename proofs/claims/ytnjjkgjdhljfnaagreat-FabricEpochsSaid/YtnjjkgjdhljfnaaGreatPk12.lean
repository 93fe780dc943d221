/- Part 12. -/
import Derived.Deep.Cut
import Derived.Deep.CutRange
import Derived.Test.YtnjjkgjdhljfnaaGreatPk11
open Go.Proofs.Tryz
open Array renaming getElem?_toList->pK,length_toList->mV
open Bool renaming and_eq_true->cZ,eq_iff_iff->jE,false_eq_true->jU,not_eq_true'->mI,or_eq_true->iq
open Classical renaming em->yN,not_forall->Ew,propDecidable->qG
open Go renaming Addr->fA,Calls->bZ,Ending->iM,TypeId->dL,Value->aI,World->aG,info_parts->dX,maxLen->fB,wp_at_succ->fH,wp_at_zero->fJ
open Go.Builtin renaming clear_->Ev,delete_->Du,zeroCells->mK
open Go.Ending renaming returned->ax
open Go.Instr renaming lookup->nJ,mapUpdate->mX
open Go.IntKind renaming i64->ag
open Go.IntWalk renaming i64_in->fE
open Go.Lib renaming hid->aA
open Go.Maps renaming has->JI
open Go.Obj renaming cells->af
open Go.Proofs.Tryz renaming prog->aH
open Go.Result renaming andThen->mP
open Go.RowKit renaming Below->aN,Hid->aY,intOf->aJ
open Go.RowKit.Below renaming refl->aQ
open Go.Value renaming agg->Lr,bool->iN,int->ah,ownBlock->dV,pointer->au,slice->ay
open Go.WideAt renaming IsKeyLit->uO,sameKey_iff->lY,sameKey_self->kW
open Go.World renaming block_lt_of_cell?->aZ,ownsRow_nil->dM
open Go.World.ownsRow renaming lt->xg
open Int renaming toNat_natCast->cK
open List renaming any_eq_true->iD,append_assoc->mM,append_nil->jF,filter_append->ig,filter_congr->pW,filter_cons->iE,filter_eq_nil_iff->jy,filter_eq_self->yG,flatMap_append->fP,flatMap_cons->eO,foldl_append->fZ,foldl_cons->fK,getD->bJ,getD_eq_getElem?_getD->fF,getElem?_cons_succ->fC,getElem?_cons_zero->dD,getElem?_eq_getElem->dw,getElem?_eq_some_iff->Ah,getElem?_map->cO,getElem?_range->dW,getElem?_set->kY,getElem?_take->lX,getElem_of_mem->qD,length->oP,length_append->bV,length_cons->eQ,length_map->dE,length_nil->jZ,length_range->mO,length_set->jG,length_take->ik,map_append->eY,map_cons->mG,map_nil->vX,map_set->vY,mem_append->eZ,mem_cons->dG,mem_cons_of_mem->dU,mem_cons_self->dH,mem_filter->jH,mem_iff_getElem->pY,mem_map->gH,mem_range->dJ,mem_singleton->dz,nodup_append->kZ,nodup_cons->pV,not_mem_nil->dP,range->aO,range_succ->dB,set_append_right->ic,take_add_one->oh,take_length->dY,take_take->EK
open List.Pairwise renaming nil->sJ
open Nat renaming add_zero->jA,le_refl->aC,le_succ->vE,lt_of_lt_of_le->bW,zero_le->bS
open Ne renaming symm->iy
open Option renaming getD_some->iW,none->aj,some->az
open Option.some renaming inj->je
set_option maxRecDepth 100000
set_option maxHeartbeats 16000000
set_option linter.unusedVariables false
set_option linter.unusedSimpArgs false
namespace Go.Proofs.YtnjjkgjdhljfnaaGreat
section
open Go.RowKit Go.Maps
attribute [local go_sem ↓] fJ fH
def agI(v:Bool)(w:aG)(e:iM)(w':aG):Prop:=e=ax (.bool v)/\w=w'
theorem Ka(x:Int)(b:Nat)(ns:List Nd)(cs:List Cb)(An Ac:Option fA)(cn cc:Nat)(w:aG)(h:QF w b ns cs An Ac cn cc)(hp:sS ns cs):bZ aH 46 #[pt b,ah ag x] w (agI (zI ns x) w):=by
 have n16:=hp.n16;have c0:=h.c0;by_cases h0:0<=x
 ·by_cases h1:x<(ns.length:Int)
  ·obtain⟨k,rfl⟩:∃k:Nat,x=k:=⟨x.toNat,by omega⟩;obtain⟨b2,o2,ha,uu,_,_,e1,_⟩:=uQ h.plan.1 k (by simp only;omega);rw[ha]at c0;have E:zI ns (k:Int)=!(ns.getD k jk).sw:=by unfold zI Am;simp;omega
   simp only at e1;rw[E];generalize(ns.getD k jk).sw=sw at *;clear h hp ha E;unfold pt;cases sw with
   |true=>
    go_enter func46,ntmps46;go_wp2_with fail
    go_ret;exact⟨rfl,rfl⟩
   |false=>
    go_enter func46,ntmps46;go_wp2_with fail
    go_ret;exact⟨rfl,rfl⟩
  ·have E:zI ns x=false:=by unfold zI;simp;omega
   rw[E];clear h hp E;have h1':decide (x<(ns.length:Int))=false:=by simpa using h1
   unfold pt;go_enter func46,ntmps46;go_wp2_with fail;go_ret;exact⟨rfl,rfl⟩
 ·have E:zI ns x=false:=by unfold zI;simp;omega
  rw[E];clear h hp E;have h0':decide (0<=x)=false:=by simpa using h0
  unfold pt;go_enter func46,ntmps46;go_wp2_with fail;go_ret;exact⟨rfl,rfl⟩
def aaC(v:Int)(w:aG)(e:iM)(w':aG):Prop:=e=ax (ah ag v)/\aN w.heap.size w w'
structure RtS(w:aG)(b:Nat)(q:Nat)(n bE:Nat)(node port kU:Nat)(r:Rt):Prop where
 nx:∃(g c:Nat) (V:Nat->aI),w.cell? ⟨b,7+q*2,aj⟩=az (ay (az ⟨g,0,aj⟩) n c)/\(∀p,p<2->w.cell? ⟨g,node*2+p,aj⟩=az (V p))/\∀p,p<2->∃g2 c2,V p=ay (az ⟨g2,0,aj⟩) n c2/\w.cell? ⟨g2,kU,aj⟩=az (ah ag (r.next node p kU))
 fl:∃(g c g2 c2:Nat),w.cell? ⟨b,7+q*2+1,aj⟩=az (ay (az ⟨g,0,aj⟩) n c)/\w.cell? ⟨g,node,aj⟩=az (ay (az ⟨g2,0,aj⟩) bE c2)/\w.cell? ⟨g2,port,aj⟩=az (.bool (r.sQ node port))
theorem Yj(f:dx)(node port b:Nat)(x:Fm)(v:aI)(ns:List Nd)(cs:List Cb)(An Ac:Option fA)(cn cc gu cu:Nat)(w:aG)(h:QF w b ns cs An Ac cn cc)(hp:sS ns cs)(hn:node<ns.length)(hpo:port<fw (ns.getD node jk))(he:0<=x.ep)(ht0:0<=x.kU)(ht1:x.kU<ns.length)(hR:RtS w b (x.ep.toNat%2) ns.length (fw (ns.getD node jk)) node port x.kU.toNat (f.rt x.ep))(hr:∀p,p<2->(f.rt x.ep).next node p x.kU.toNat<cs.length/\-2<=(f.rt x.ep).next node p x.kU.toNat)(yD:f.up.length=cs.length)(hU:0<cs.length->w.cell? ⟨b,6,aj⟩=az (ay (az ⟨gu,0,aj⟩) cs.length cu)/\∀i,i<cs.length->w.cell? ⟨gu,i,aj⟩=az (.bool (f.up.getD i false)))(hv:∃a n c,v=ay a n c):bZ aH 66 #[pt b,ah ag node,ah ag port,MU x v] w (aaC (pQ (f.leave ns cs node port x)) w):=by
 obtain⟨xi,xf,xt,xc,xe,xd⟩:=x;simp only at he ht0 ht1 hR hr;obtain⟨va,vn,vc,rfl⟩:=hv;obtain⟨ep,rfl⟩:∃n:Nat,xe=n:=⟨xe.toNat,by omega⟩;obtain⟨tt,rfl⟩:∃n:Nat,xt=n:=⟨xt.toNat,by omega⟩;simp only[cK]at hR hr;obtain⟨ng,nc,V,n1,n2,n3⟩:=hR.nx;obtain⟨fg,fc,fg2,fc2,f1,f2,f3⟩:=hR.fl;have n16:=hp.n16;have Lb:=hp.Lb;have c0:=h.c0;obtain⟨b2,o2,ha,uu,_,_,e1,_⟩:=uQ h.plan.1 node hn;rw[ha]at c0;simp only at e1;have EV:aY (f.leave ns cs node port ⟨xi,xf,tt,xc,ep,xd⟩=(let AQ:=(f.rt ep).next node (if(ns.getD node jk).sw&&(f.rt ep).sQ node port then 1 else 0) tt
  if AQ<0 then aj else if f.up.getD AQ.toNat false then az (iY cs AQ.toNat node)else aj)):=rfl
 generalize f.rt ep=r at *;obtain⟨q,hq⟩:∃q,ep%2=q:=⟨_,rfl⟩;rw[hq]at n1 f1;have q2:q<2:=by omega
 have hqt:((ep:Int)).tmod 2=(q:Int):=by rw[Int.tmod_eq_emod_of_nonneg (by omega)];omega
 have hqm:((ep:Int))%2=(q:Int):=by omega
 have q0:(0:Int)<=(q:Int):=by omega
 have q3:(q:Int)<2:=by omega
 have i0:(0:Int)<=(node:Int):=by omega
 have i1:(node:Int)<(ns.length:Int):=by omega
 have p0:(0:Int)<=(port:Int):=by omega
 have p1:(port:Int)<(fw (ns.getD node jk):Int):=by omega
 have t0:(0:Int)<=(tt:Int):=by omega
 have t1:(tt:Int)<(ns.length:Int):=by omega
 obtain⟨w1,gK⟩:∃w1:aG,w.alloc (af #[ah ag xi,ah ag xf,ah ag tt,ah ag xc,ah ag ep,ay va vn vc] 59)=w1:=⟨_,rfl⟩;have B1:aY (aN w.heap.size w w1):=by rw[<-gK];exact(aQ _ _).alloc (aC _) _
 have F1:aY (dh w1 w.heap.size 59 #[ah ag xi,ah ag xf,ah ag tt,ah ag xc,ah ag ep,ay va vn vc]):=by rw[<-gK];exact dh.new w _ _
 have KP:aY (∀w',aN w.heap.size w w'->w'.cell? ⟨b,7+q*2,aj⟩=az (ay (az ⟨ng,0,aj⟩) ns.length nc)/\w'.cell? ⟨b,7+q*2+1,aj⟩=az (ay (az ⟨fg,0,aj⟩) ns.length fc)):=fun w' hb=>
  ⟨(hb.cell (p:=⟨b,7+q*2,aj⟩) (aZ _ _ n1)).trans n1,(hb.cell (p:=⟨b,7+q*2+1,aj⟩) (aZ _ _ f1)).trans f1⟩
 clear hR ha hq;unfold MU;simp only;unfold pt;go_enter func66,ntmps66;go_wp2_with fail;have f4:w1.cell? ⟨w.heap.size,4,aj⟩=az (ah ag ep):=F1.o.cell 4;have kp:=KP.o w1 B1.o;have S1:aY (w1.heap.size=w.heap.size+1):=by rw[<-gK,aY];simp
 clear n1 f1 gK;refine fQ 9 (fun w'=>w'.cell? ⟨w.heap.size,4,aj⟩=az (ah ag ep)/\w'.cell? ⟨b,7+q*2,aj⟩=az (ay (az ⟨ng,0,aj⟩) ns.length nc)/\w'.cell? ⟨b,7+q*2+1,aj⟩=az (ay (az ⟨fg,0,aj⟩) ns.length fc)) (by kernel_rfl) ⟨f4,kp.1,kp.2⟩ (fun aW=>?_);refine bH.tk 0 aW ?_;try simp only[bI]
 refine bH.tk 1 aW ?_;try simp only[bI]
 refine bH.tk 2 aW ?_;try simp only[bI]
 refine bH.tk 3 aW ?_;try simp only[bI]
 refine bH.tk 4 aW ?_;try simp only[bI]
 refine bH.tk 5 aW ?_;try simp only[bI]
 refine bH.tk 6 aW ?_;try simp only[bI]
 refine bH.tk 7 aW ?_;try simp only[bI]
 have KA:aY (∀o,(w1.alloc o).cell? ⟨w.heap.size,4,aj⟩=az (ah ag ep)/\(w1.alloc o).cell? ⟨b,7+q*2,aj⟩=az (ay (az ⟨ng,0,aj⟩) ns.length nc)/\(w1.alloc o).cell? ⟨b,7+q*2+1,aj⟩=az (ay (az ⟨fg,0,aj⟩) ns.length fc)):=fun o=>⟨(F1.o.alloc o).cell 4,(KP.o _ (B1.o.alloc B1.o.size o)).1,(KP.o _ (B1.o.alloc B1.o.size o)).2⟩;refine bH.one (i:=8) (by kernel_rfl) rfl (fun K hK=>?_);go_simp;refine hK.out _ _ (fun _=>KA.o _) (fun bU=>?_);have aW:=bU (by decide);clear hK bU;try simp only[bI]
 refine bH.one (i:=9) (by kernel_rfl) rfl (fun K hK=>?_);go_simp;refine hK.out _ _ (fun h=>absurd rfl h) (fun _=>?_);clear hK;refine bH.done (by kernel_rfl) ?_ _;try simp only[bI]
 clear f4 kp aW;obtain⟨w2,Ld⟩:∃w2:aG,(w1.alloc (af #[ay (az ⟨ng,0,aj⟩) ns.length nc,ay (az ⟨fg,0,aj⟩) ns.length fc] 97)).drew=w2:=⟨_,rfl⟩;rw[Ld];have B2:aY (aN w.heap.size w w2):=by rw[<-Ld];exact(B1.o.alloc B1.o.size _).drew
 have R2:aY (dh w2 w1.heap.size 97 #[ay (az ⟨ng,0,aj⟩) ns.length nc,ay (az ⟨fg,0,aj⟩) ns.length fc]):=by rw[<-Ld];exact(dh.new w1 _ _).drew
 have F2:aY (dh w2 w.heap.size 59 #[ah ag xi,ah ag xf,ah ag tt,ah ag xc,ah ag ep,ay va vn vc]):=by rw[<-Ld];exact(F1.o.alloc _).drew
 have C2:aY (∀p u,w.cell? p=az u->w2.cell? p=az u):=fun p u hu=>(B2.o.cell (aZ _ _ hu)).trans hu;have HF2:=aA f2;have HF3:=aA f3;have HU:=aA hU;have HN2:=aA n2;have HN3:=aA n3;have HR:=aA hr;have HUP:=aA yD;have FCH:aY (∀i,i<cs.length->∀w',aN w.heap.size w w'->bZ aH 65 #[au (az ⟨b,0,aj⟩),ah ag i,ah ag node] w' fun e w''=>e=ax (ah ag (iY cs i node:Nat))/\w'=w''):=fun i hi w' hb=>LF i node b ns cs An Ac cn cc w' (h.below hb) hp hi hn;have d0:=C2.o _ _ c0;have d1:=C2.o _ _ e1;have d2:w2.cell? ⟨w1.heap.size,0+1,aj⟩=az (ay (az ⟨fg,0,aj⟩) ns.length fc):=R2.o.cell 1;have d3:=C2.o _ _ f2;have d4:=C2.o _ _ f3;have d5:w2.cell? ⟨w1.heap.size,0,aj⟩=az (ay (az ⟨ng,0,aj⟩) ns.length nc):=R2.o.cell 0;have d6:w2.cell? ⟨w.heap.size,2,aj⟩=az (ah ag tt):=F2.o.cell 2;clear Ld c0 e1 f2 f3 hU n2 n3 hr yD h hp B1 F1;obtain⟨ph,hph⟩:∃ph,(if(ns.getD node jk).sw&&r.sQ node port then 1 else 0:Nat)=ph:=⟨_,rfl⟩;have ph2:ph<2:=by rw[<-hph];split<;>omega
 obtain⟨g2,c2,eV,n4⟩:=HN3.o ph ph2;have d7:=C2.o _ _ (HN2.o ph ph2);have d8:=C2.o _ _ n4;rw[eV]at d7;have RR:=aA (HR.o ph ph2);rw[hph]at EV;generalize r.next node ph tt=xH at *;have ph0:(0:Int)<=(ph:Int):=by omega
 have ph1:(ph:Int)<2:=by omega
 clear n4 eV;generalize(ns.getD node jk).sw=sw at *;generalize r.sQ node port=fa at *;generalize fw (ns.getD node jk)=np at *;have e7:∀p:Nat,(node*2+p)=node*2+p:=fun _=>rfl;clear e7;cases sw with
 |true=>
  cases fa with
  |true=>
   obtain rfl:1=ph:=hph;by_cases rG:xH<0
   ·have hcd:decide (xH<0)=true:=decide_eq_true rG;have LV:aY (f.leave ns cs node port ⟨xi,xf,tt,xc,ep,xd⟩=aj):=by rw[aY,EV.o];simp only[rG,if_true]
    clear rG;go_wp2_with fail;go_quiet (fail);go_wp2_with fail;go_ret;exact⟨by rw[LV.o];rfl,below_drewN B2.o _⟩
   ·obtain⟨i,rfl⟩:∃i:Nat,xH=i:=⟨xH.toNat,by omega⟩;have hi:i<cs.length:=by have:=RR.o.1;omega
    obtain⟨u1,u2⟩:=HU.o (by omega);have d9:=C2.o _ _ u1;have d10:=C2.o _ _ (u2 i hi);have i0':(0:Int)<=(i:Int):=(by omega);have i1':(i:Int)<(cs.length:Int):=(by omega);have hcd:decide ((i:Int)<0)=false:=decide_eq_false rG;have FC:=aA (FCH.o i hi);cases yD:f.up.getD i false with
    |false=>have LV:aY (f.leave ns cs node port ⟨xi,xf,tt,xc,ep,xd⟩=aj):=(by rw[aY,EV.o];simp only[rG,if_false,cK,yD];simp);rw[yD]at d10;clear yD u1 u2 rG;go_wp2_with fail;go_quiet (fail);go_wp2_with fail;go_ret;exact⟨by rw[LV.o];rfl,below_drewN B2.o _⟩
    |true=>have LV:aY (f.leave ns cs node port ⟨xi,xf,tt,xc,ep,xd⟩=az (iY cs i node)):=(by rw[aY,EV.o];simp only[rG,if_false,cK,yD,if_true]);rw[yD]at d10;clear yD u1 u2 rG;go_wp2_with fail;go_quiet (fail);go_wp2_with (first|(go_at_call 65;refine(FC.o _ (below_drewN B2.o _)).mono ?_;rintro e w' ⟨rfl,rfl⟩));go_ret;exact⟨by rw[LV.o];rfl,below_drewN B2.o _⟩
  |false=>
   obtain rfl:0=ph:=hph;simp only[jA]at d7;by_cases rG:xH<0
   ·have hcd:decide (xH<0)=true:=decide_eq_true rG;have LV:aY (f.leave ns cs node port ⟨xi,xf,tt,xc,ep,xd⟩=aj):=by rw[aY,EV.o];simp only[rG,if_true]
    clear rG;go_wp2_with fail;go_quiet (fail);go_wp2_with fail;go_ret;exact⟨by rw[LV.o];rfl,below_drewN B2.o _⟩
   ·obtain⟨i,rfl⟩:∃i:Nat,xH=i:=⟨xH.toNat,by omega⟩;have hi:i<cs.length:=by have:=RR.o.1;omega
    obtain⟨u1,u2⟩:=HU.o (by omega);have d9:=C2.o _ _ u1;have d10:=C2.o _ _ (u2 i hi);have i0':(0:Int)<=(i:Int):=(by omega);have i1':(i:Int)<(cs.length:Int):=(by omega);have hcd:decide ((i:Int)<0)=false:=decide_eq_false rG;have FC:=aA (FCH.o i hi);cases yD:f.up.getD i false with
    |false=>have LV:aY (f.leave ns cs node port ⟨xi,xf,tt,xc,ep,xd⟩=aj):=(by rw[aY,EV.o];simp only[rG,if_false,cK,yD];simp);rw[yD]at d10;clear yD u1 u2 rG;go_wp2_with fail;go_quiet (fail);go_wp2_with fail;go_ret;exact⟨by rw[LV.o];rfl,below_drewN B2.o _⟩
    |true=>have LV:aY (f.leave ns cs node port ⟨xi,xf,tt,xc,ep,xd⟩=az (iY cs i node)):=(by rw[aY,EV.o];simp only[rG,if_false,cK,yD,if_true]);rw[yD]at d10;clear yD u1 u2 rG;go_wp2_with fail;go_quiet (fail);go_wp2_with (first|(go_at_call 65;refine(FC.o _ (below_drewN B2.o _)).mono ?_;rintro e w' ⟨rfl,rfl⟩));go_ret;exact⟨by rw[LV.o];rfl,below_drewN B2.o _⟩
 |false=>
  obtain rfl:0=ph:=hph;simp only[jA]at d7;by_cases rG:xH<0
  ·have hcd:decide (xH<0)=true:=decide_eq_true rG;have LV:aY (f.leave ns cs node port ⟨xi,xf,tt,xc,ep,xd⟩=aj):=by rw[aY,EV.o];simp only[rG,if_true]
   clear rG;go_wp2_with fail;go_quiet (fail);go_wp2_with fail;go_ret;exact⟨by rw[LV.o];rfl,below_drewN B2.o _⟩
  ·obtain⟨i,rfl⟩:∃i:Nat,xH=i:=⟨xH.toNat,by omega⟩;have hi:i<cs.length:=by have:=RR.o.1;omega
   obtain⟨u1,u2⟩:=HU.o (by omega);have d9:=C2.o _ _ u1;have d10:=C2.o _ _ (u2 i hi);have i0':(0:Int)<=(i:Int):=(by omega);have i1':(i:Int)<(cs.length:Int):=(by omega);have hcd:decide ((i:Int)<0)=false:=decide_eq_false rG;have FC:=aA (FCH.o i hi);cases yD:f.up.getD i false with
   |false=>have LV:aY (f.leave ns cs node port ⟨xi,xf,tt,xc,ep,xd⟩=aj):=(by rw[aY,EV.o];simp only[rG,if_false,cK,yD];simp);rw[yD]at d10;clear yD u1 u2 rG;go_wp2_with fail;go_quiet (fail);go_wp2_with fail;go_ret;exact⟨by rw[LV.o];rfl,below_drewN B2.o _⟩
   |true=>have LV:aY (f.leave ns cs node port ⟨xi,xf,tt,xc,ep,xd⟩=az (iY cs i node)):=(by rw[aY,EV.o];simp only[rG,if_false,cK,yD,if_true]);rw[yD]at d10;clear yD u1 u2 rG;go_wp2_with fail;go_quiet (fail);go_wp2_with (first|(go_at_call 65;refine(FC.o _ (below_drewN B2.o _)).mono ?_;rintro e w' ⟨rfl,rfl⟩));go_ret;exact⟨by rw[LV.o];rfl,below_drewN B2.o _⟩
end
section
open Go.RowKit Go.Maps
theorem Uq.jD{Z dN:Own}{w w':aG}{ns:List Nd}{vn vf:aI}{r:Rt}{S:Nat->Prop}(h:Uq Z w ns vn vf r)(hc:Ch S w w')(he:∀k,k<w.heap.size->dN k=Z k)(hS:∀k,S k->(Z k).1≠1):Uq dN w' ns vn vf r:=by obtain⟨V,h1,h2⟩:=h.nx;obtain⟨U,h3,h4⟩:=h.fl;exact⟨⟨V,h1.jD hc he fun k s q=>hS k s q,fun i hi p hp=>(h2 i hi p hp).jD hc he fun k s q=>hS k s q⟩,⟨U,h3.jD hc he fun k s q=>hS k s q,fun i hi=>(h4 i hi).jD hc he fun k s q=>hS k s q⟩⟩
theorem ni{w w':aG}{P:Program}{k:dL}{b n:Nat}{M:Lit->Option aI}{S:Nat->Prop}(h:jo w P k b n M)(hc:Ch S w w')(hb:¬S b):jo w' P k b n M:=by obtain⟨D,⟨es,clock,h1,h2⟩,h3⟩:=h;exact⟨D,⟨es,clock,(hc.block b (World.ownsMap.lt (⟨es,clock,h1,h2⟩:w.ownsMap P k rD b n D)) hb).trans h1,h2⟩,h3⟩
theorem NC.jD{Z dN:Own}{w w':aG}{v:aI}{l:List (Nat×Fm)}{S:Nat->Prop}(h:NC Z w v l)(hc:Ch S w w')(he:∀k,k<w.heap.size->dN k=Z k)(hS:∀k,S k->(Z k).1≠1)(hv:∀g,v.ownBlock=az g->¬S g):NC dN w' v l:=by obtain⟨Q,h1,h2,h3⟩:=h;exact⟨Q,h1,fO h2 hc hv,fun x hx=>(h3 x hx).jD hc he hS⟩
theorem NC.lt{Z:Own}{w:aG}{v:aI}{l:List (Nat×Fm)}(h:NC Z w v l):∀g,v.ownBlock=az g->g<w.heap.size:=by obtain⟨Q,_,h2,_⟩:=h;exact fun g hg=>(h2.lt g hg).2
theorem Ny.jD{Z dN:Own}{w w':aG}{k:Nat}{v:aI}{row:Nat->aI}{n:Nat}{l:List (List Int)}{S:Nat->Prop}(h:Ny Z w k v row n l)(hc:Ch S w w')(he:∀k,k<w.heap.size->dN k=Z k)(hS:∀g,S g->(Z g).1≠1/\((Z g).1=2->(Z g).2.1≠k)):Ny dN w' k v row n l:=
 ⟨h.1.jD hc he fun g s q=>(hS g s).1 q,fun i hi=>(h.2 i hi).jD hc he fun g s q=>(hS g s).2 (by rw[q]) (by rw[q])⟩
structure akz(K:Nat->Prop)(Z:Own)(w:aG)(b:Nat)(ns:List Nd)(cs:List Cb)(f:dx)(L:rY):Prop where
 root:¬K 0->dh w b 100 (Bl f L)
 iP:Z b=(2,0,0,0)/\b<w.heap.size
 plan:EO Z w ns cs L.vn L.vc
 aK:ku Z w 3 never L.vr f.aK.length (f.aK.map fun x=>ah ag x)
 xH:ku Z w 26 never L.vt ns.length ((aO ns.length).map L.row)/\∀i,i<ns.length->ku Z w 3 never (L.row i) (fw (ns.getD i jk)) ((aO (fw (ns.getD i jk))).map fun p=>ah ag (Ei cs i p))
 La:ku Z w 101 never L.vb ns.length ((aO ns.length).map fun i=>pt (L.bx i))
 bx:∀i,i<ns.length->pO Z (3+i) w (L.bx i) (f.boxes.getD i default) (L.Hw i)
 up:¬K 1->ku Z w 4 (PK 1 0) L.vu f.up.length (f.up.map fun x=>.bool x)
 r0:Uq Z w ns L.r0n L.r0f f.NL
 r1:0<f.dm->Uq Z w ns L.r1n L.r1f f.QB
 bk:¬K 2->Bk w L.bk f.dm f.wM f.vH
 IE:Z L.bk=(2,2,0,0)
 fl:¬K 3->¬K 4->vG w L.mf f.fl (fun t v l=>NC Z w v l/\∀g,v.ownBlock=az g->Z g=(2,4,t,0))
 ZL:Z L.mf=(2,3,0,0)
 lim:¬K 5->¬K 6->vG w L.ml f.lim (fun t v l=>JM w v l/\∀g,v.ownBlock=az g->Z g=(2,6,t,0))
 Kl:Z L.ml=(2,5,0,0)
 came:¬K 7->Ny Z w 7 L.Uv L.cm ns.length f.came
 gone:¬K 8->Ny Z w 8 L.vg L.gn (2*cs.length) f.gone
 lost:¬K 9->∃ids:List Int,w.ownsRow 0 3 1 L.vl ids.length (ids.flatMap cI)/\(∀g,L.vl.ownBlock=az g->Z g=(2,9,0,0))/\ids.Perm (f.lost.map (·.id))
section
variable{Z dN:Own}{w w':aG}{b:Nat}{ns:List Nd}{cs:List Cb}{f:dx}{L:rY}
theorem jo.Uu{n:Nat}{M:Lit->Option aI}{bm:Nat}(h:jo w aH 3 bm n M):bm<w.heap.size:=h.lt
theorem gy.Ra{S:Nat->Prop}(K:Nat->Prop)(h:gy Z w b ns cs f L)(hc:Ch S w w')(he:∀k,k<w.heap.size->dN k=Z k)(hS:∀k,S k->(Z k).1=0\/((Z k).1=2/\K (Z k).2.1)):akz K dN w' b ns cs f L:=by
 have s1:∀k,S k->(Z k).1≠1:=fun k s=>by rcases hS k s with q|q<;>omega
 have s2:∀(kd:Nat) {g a d:Nat},¬K kd->Z g=(2,kd,a,d)->¬S g:=fun kd g a d hk e s=>by
  rcases hS g s with q|q
  ·rw[e]at q;simp at q
  ·rw[e]at q;exact hk q.2
 have s3:∀k,S k->∀i,(Z k).1≠3+i:=fun k s i=>by rcases hS k s with q|q<;>omega
 have sn:∀k,S k->¬never (Z k):=fun k s q=>s1 k s q;have lb:=h.root.1.lt;exact{
  root:=fun hk=>h.root.1.ch hc (s2 0 hk h.root.2)
  iP:=⟨by rw[he _ lb];exact h.root.2,bW lb hc.size⟩
  plan:=h.plan.jD hc he s1
  aK:=h.aK.jD hc he sn
  xH:=⟨h.xH.1.jD hc he sn,fun i hi=>(h.xH.2 i hi).jD hc he sn⟩
  La:=h.La.jD hc he sn
  bx:=fun i hi=>(h.bx i hi).jD hc he fun k s=>⟨s1 k s,s3 k s i⟩
  up:=fun hk=>h.up.jD hc he fun k s q=>s2 1 hk q s
  r0:=h.r0.jD hc he s1
  r1:=fun hb=>(h.r1 hb).jD hc he s1
  bk:=fun hk=>dh.ch h.bk.1 hc (s2 2 hk h.bk.2)
  IE:=by rw[he _ (dh.lt h.bk.1)];exact h.bk.2
  fl:=fun h3 h4=>by obtain⟨n,M,m1,m2,m3,m4,m5⟩:=h.fl.1;refine⟨n,M,ni m1 hc (s2 3 h3 h.fl.2),m2,m3,m4,fun t v hv=>?_⟩;obtain⟨a1,a2⟩:=m5 t v hv;exact⟨a1.jD hc he s1 fun g hg=>s2 4 h4 (a2 g hg),fun g hg=>by rw[he _ (a1.lt g hg)];exact a2 g hg⟩
  ZL:=by obtain⟨n,M,m1,_⟩:=h.fl.1;rw[he _ m1.Uu];exact h.fl.2
  lim:=fun h3 h4=>by obtain⟨n,M,m1,m2,m3,m4,m5⟩:=h.lim.1;refine⟨n,M,ni m1 hc (s2 5 h3 h.lim.2),m2,m3,m4,fun t v hv=>?_⟩;obtain⟨a1,a2⟩:=m5 t v hv;exact⟨fO a1 hc fun g hg=>s2 6 h4 (a2 g hg),fun g hg=>by rw[he _ (xg a1 g hg).2];exact a2 g hg⟩
  Kl:=by obtain⟨n,M,m1,_⟩:=h.lim.1;rw[he _ m1.Uu];exact h.lim.2
  came:=fun hk=>h.came.jD hc he fun g s=>⟨s1 g s,fun q q2=>by
   rcases hS g s with p|p
   ·omega
   ·rw[q2]at p;exact hk p.2⟩
  gone:=fun hk=>h.gone.jD hc he fun g s=>⟨s1 g s,fun q q2=>by
   rcases hS g s with p|p
   ·omega
   ·rw[q2]at p;exact hk p.2⟩
  lost:=fun hk=>by obtain⟨ids,i1,i2,i3⟩:=h.lost;exact⟨ids,fO i1 hc fun g hg=>s2 9 hk (i2 g hg),fun g hg=>by rw[he _ (i1.lt g hg).2];exact i2 g hg,i3⟩}
theorem akz.all(h:akz (fun _=>False) Z w b ns cs f L):gy Z w b ns cs f L:=
 ⟨⟨h.root id,h.iP.1⟩,h.plan,h.aK,h.xH,h.La,h.bx,h.up id,h.r0,h.r1,⟨h.bk id,h.IE⟩,⟨h.fl id id,h.ZL⟩,⟨h.lim id id,h.Kl⟩,h.came id,h.gone id,h.lost id⟩
theorem gy.jD{S:Nat->Prop}(h:gy Z w b ns cs f L)(hc:Ch S w w')(he:∀k,k<w.heap.size->dN k=Z k)(hS:∀k,S k->(Z k).1=0):gy dN w' b ns cs f L:=
 (h.Ra (fun _=>False) hc he fun k s=>.inl (hS k s)).all
theorem gy.below(h:gy Z w b ns cs f L)(k:aN w.heap.size w w'):gy (fr Z w.heap.size) w' b ns cs f L:=h.jD (S:=fun _=>False) (Ch.bY k) (fun _ hk=>gL hk) (fun _ s=>s.elim)
theorem gy.drew(h:gy Z w b ns cs f L):gy Z w.drew b ns cs f L:=h.jD (S:=fun _=>False) (Ch.refl _ w).drew (fun _ _=>rfl) (fun _ s=>s.elim)
theorem gy.box(h:gy Z w b ns cs f L){i:Nat}(hi:i<ns.length)(hl:f.boxes.length=ns.length){X:Bx}{LX:yM}(k:Nx Z (3+i) w dN w')(hx:pO dN (3+i) w' (L.bx i) X LX):gy dN w' b ns cs {f with boxes:=f.boxes.set i X} {L with Hw:=fun j=>if j=i then LX else L.Hw j}:=by
 have s1:∀k,(Z k).1=3+i->(Z k).1≠1:=fun k s=>by omega
 have s2:∀{g a c d:Nat},Z g=(2,a,c,d)->¬(Z g).1=3+i:=fun e s=>by rw[e]at s;simp at s;omega
 have sn:∀k,(Z k).1=3+i->¬never (Z k):=fun k s q=>s1 k s q;have lb:=h.root.1.lt;have hc:=k.ch;have he:=k.ext;exact{
  root:=⟨h.root.1.ch hc (s2 h.root.2),by rw[he _ lb];exact h.root.2⟩
  plan:=h.plan.jD hc he s1
  aK:=h.aK.jD hc he sn
  xH:=⟨h.xH.1.jD hc he sn,fun i hi=>(h.xH.2 i hi).jD hc he sn⟩
  La:=h.La.jD hc he sn
  bx:=fun j hj=>by
   show pO dN (3+j) w' (L.bx j) ((f.boxes.set i X).getD j default) (if j=i then LX else L.Hw j);by_cases e:j=i
   ·subst e;rw[iO _ _ _ (by omega),if_pos rfl];exact hx
   ·rw[iG _ _ _ e,if_neg e];exact(h.bx j hj).nx k (by omega) (by omega)
  up:=h.up.jD hc he fun k s q=>s2 q s
  r0:=h.r0.jD hc he s1
  r1:=fun hb=>(h.r1 hb).jD hc he s1
  bk:=⟨dh.ch h.bk.1 hc (s2 h.bk.2),by rw[he _ (dh.lt h.bk.1)];exact h.bk.2⟩
  fl:=by obtain⟨n,M,m1,m2,m3,m4,m5⟩:=h.fl.1;refine⟨⟨n,M,ni m1 hc (s2 h.fl.2),m2,m3,m4,fun t v hv=>?_⟩,by rw[he _ m1.Uu];exact h.fl.2⟩;obtain⟨a1,a2⟩:=m5 t v hv;exact⟨a1.jD hc he s1 fun g hg=>s2 (a2 g hg),fun g hg=>by rw[he _ (a1.lt g hg)];exact a2 g hg⟩
  lim:=by obtain⟨n,M,m1,m2,m3,m4,m5⟩:=h.lim.1;refine⟨⟨n,M,ni m1 hc (s2 h.lim.2),m2,m3,m4,fun t v hv=>?_⟩,by rw[he _ m1.Uu];exact h.lim.2⟩;obtain⟨a1,a2⟩:=m5 t v hv;exact⟨fO a1 hc fun g hg=>s2 (a2 g hg),fun g hg=>by rw[he _ (xg a1 g hg).2];exact a2 g hg⟩
  came:=h.came.jD hc he fun g s=>⟨s1 g s,fun q=>by omega⟩
  gone:=h.gone.jD hc he fun g s=>⟨s1 g s,fun q=>by omega⟩
  lost:=by obtain⟨ids,i1,i2,i3⟩:=h.lost;exact⟨ids,fO i1 hc fun g hg=>s2 (i2 g hg),fun g hg=>by rw[he _ (i1.lt g hg).2];exact i2 g hg,i3⟩}
theorem gy.toS(h:gy Z w b ns cs f L):∃An Ac cn cc,QF w b ns cs An Ac cn cc:=by
 obtain⟨An,Ac,cn,cc,e1,e2,hp,_,_⟩:=h.plan;refine⟨An,Ac,cn,cc,?_,?_,hp⟩
 ·rw[h.root.1.cell];show az L.vn=_;rw[e1]
 ·rw[h.root.1.cell];show az L.vc=_;rw[e2]
end
end
section
open Go.RowKit Go.Maps
attribute [local go_sem ↓] fJ fH
structure qo(Z:Own)(w:aG)(dN:Own)(w':aG):Prop where
 ch:Ch (fun k=>2<=(Z k).1) w w'
 ext:∀k,k<w.heap.size->dN k=Z k
theorem qo.refl(Z:Own)(w:aG):qo Z w Z w:=⟨Ch.refl _ _,fun _ _=>rfl⟩
theorem qo.trans{Z dN FJ:Own}{w w' w'':aG}(h:qo Z w dN w')(k:qo dN w' FJ w''):qo Z w FJ w'':=
 ⟨h.ch.trans k.ch fun i hi s=>by rw[h.ext i hi]at s;exact s,fun i hi=>(k.ext i (bW hi h.ch.size)).trans (h.ext i hi)⟩
theorem qo.Kq{Z dN:Own}{w w':aG}{o:Nat}(h:Nx Z o w dN w')(ho:2<=o):qo Z w dN w':=⟨h.ch.mono fun k _ s=>by omega,h.ext⟩
theorem qo.bY{Z:Own}{w w':aG}(h:aN w.heap.size w w'):qo Z w (fr Z w.heap.size) w':=⟨Ch.bY h,fun _ hk=>gL hk⟩
theorem qo.drew{Z dN:Own}{w w':aG}(h:qo Z w dN w'):qo Z w dN w'.drew:=⟨h.ch.drew,h.ext⟩
def FP(Z:Own)(w:aG)(b:Nat)(ns:List Nd)(cs:List Cb)(f':dx)(w':aG):Prop:=∃dN L',gy dN w' b ns cs f' L'/\qo Z w dN w'
structure KV(L L':rY):Prop where
 e:L'={L with Hw:=L'.Hw,vl:=L'.vl}
theorem KV.refl(L:rY):KV L L:=⟨rfl⟩
theorem KV.trans{L L' L'':rY}(h:KV L L')(k:KV L' L''):KV L L'':=⟨by rw[k.e,h.e]⟩
def lK(Z:Own)(w:aG)(b:Nat)(ns:List Nd)(cs:List Cb)(L:rY)(f':dx)(w':aG):Prop:=∃dN L',gy dN w' b ns cs f' L'/\qo Z w dN w'/\KV L L'
theorem lK.then{Z vB:Own}{w w1 w2:aG}{b:Nat}{ns:List Nd}{cs:List Cb}{L L1:rY}{f:dx}(n:qo Z w vB w1)(m:KV L L1)(h:lK vB w1 b ns cs L1 f w2):lK Z w b ns cs L f w2:=by obtain⟨dN,L',h1,h2,h3⟩:=h;exact⟨dN,L',h1,n.trans h2,m.trans h3⟩
def Ta(Z:Own)(k:Nat):Prop:=2<=(Z k).1/\¬((Z k).1=2/\3<=(Z k).2.1/\(Z k).2.1<=6)
structure Bw(Z:Own)(w:aG)(dN:Own)(w':aG):Prop where
 ch:Ch (Ta Z) w w'
 ext:∀k,k<w.heap.size->dN k=Z k
theorem Bw.x{Z dN:Own}{w w':aG}(h:Bw Z w dN w'):qo Z w dN w':=⟨h.ch.mono fun k _ s=>s.1,h.ext⟩
theorem Bw.refl(Z:Own)(w:aG):Bw Z w Z w:=⟨Ch.refl _ _,fun _ _=>rfl⟩
theorem Bw.trans{Z dN FJ:Own}{w w' w'':aG}(h:Bw Z w dN w')(k:Bw dN w' FJ w''):Bw Z w FJ w'':=
 ⟨h.ch.trans k.ch fun i hi s=>by unfold Ta at s|-;rw[h.ext i hi]at s;exact s,fun i hi=>(k.ext i (bW hi h.ch.size)).trans (h.ext i hi)⟩
theorem Bw.Kq{Z dN:Own}{w w':aG}{o:Nat}(h:Nx Z o w dN w')(ho:3<=o):Bw Z w dN w':=⟨h.ch.mono fun k _ s=>⟨by omega,fun q=>by omega⟩,h.ext⟩
theorem Bw.bY{Z:Own}{w w':aG}(h:aN w.heap.size w w'):Bw Z w (fr Z w.heap.size) w':=⟨Ch.bY h,fun _ hk=>gL hk⟩
theorem Bw.drew{Z dN:Own}{w w':aG}(h:Bw Z w dN w'):Bw Z w dN w'.drew:=⟨h.ch.drew,h.ext⟩
def JC(Z:Own)(w:aG)(b:Nat)(ns:List Nd)(cs:List Cb)(L:rY)(f':dx)(w':aG):Prop:=∃dN L',gy dN w' b ns cs f' L'/\Bw Z w dN w'/\KV L L'
theorem JC.s{Z:Own}{w w':aG}{b:Nat}{ns:List Nd}{cs:List Cb}{L:rY}{f':dx}(h:JC Z w b ns cs L f' w'):lK Z w b ns cs L f' w':=by obtain⟨dN,L',h1,h2,h3⟩:=h;exact⟨dN,L',h1,h2.x,h3⟩
structure aeb(f:dx):Prop where
 n1:f.dm<=1000000000
 a0:0<=f.wM/\f.wM<=1000000000
 a1:0<=f.vH/\f.vH<=1000000000
 l1:f.lost.length<=1000000000
theorem Cc(f:dx)(e:Int):f.alive e=UU f.dm f.wM f.vH e:=rfl
theorem MW(f:dx)(e:Int)(bk:Nat)(w:aG)(h:Bk w bk f.dm f.wM f.vH)(hs:aeb f)(h0:0<=e)(h1:e<=f.dm):bZ aH 97 #[au (az ⟨bk,0,aj⟩),ah ag e] w fun r w'=>(∃c:Int,r=ax (ah ag c))/\Bk w' bk (f.rem e).dm (f.rem e).wM (f.rem e).vH/\Ch (· =bk) w w':=by
 have A0:=hs.a0;have A1:=hs.a1;have n1:=hs.n1;by_cases hz:f.alive e=0
 ·have e1:f.rem e=f:=by unfold dx.rem;rw[if_pos hz]
  rw[e1];refine(Wu bk f.dm f.wM f.vH e w h (by omega) h0 h1 (by rw[<-Cc];exact hz)).mono ?_;rintro r w' ⟨rfl,rfl⟩;exact⟨⟨_,rfl⟩,h,Ch.refl _ _⟩
 ·have h2:(f.dm:Int)-1<=e:=by
   rcases Int.lt_or_le e ((f.dm:Int)-1)with q|q
   ·exact absurd (by rw[Cc];exact ahd (.inr (.inr q))) hz
   ·exact q
  have hp:0<UU f.dm f.wM f.vH e:=by
   rw[Cc]at hz;unfold UU at hz|-;rw[if_neg (by omega)]at hz|-;split at hz
   ·rw[if_pos ‹_›];omega
   ·rw[if_neg ‹_›];omega
  refine(acw bk f.dm f.wM f.vH e w h (by omega) h0 h1 h2 hp A0.1 (by omega) A1.1 (by omega)).mono ?_;rintro r w' ⟨rfl,hb,hg⟩;refine⟨⟨_,rfl⟩,?_,⟨hg.os,hg.tape,hg.output,hg.size,fun k hk hn=>hg.block k hk fun q=>hn (by injection q)⟩⟩;unfold dx.rem dx.iC;rw[if_neg hz];unfold upX upY at hb;by_cases hm:e%2=0
  ·rw[if_pos hm,if_pos hm]at hb;rw[if_pos hm];exact hb
  ·rw[if_neg hm,if_neg hm]at hb;rw[if_neg hm];exact hb
theorem Kv(f:dx)(e:Int):(f.rem e).aX=f.aX/\(f.rem e).aK=f.aK/\(f.rem e).boxes=f.boxes/\(f.rem e).up=f.up/\(f.rem e).NL=f.NL/\(f.rem e).QB=f.QB/\(f.rem e).dm=f.dm/\(f.rem e).kJ=f.kJ/\(f.rem e).now=f.now/\(f.rem e).last=f.last/\(f.rem e).fl=f.fl/\(f.rem e).lim=f.lim/\(f.rem e).came=f.came/\(f.rem e).gone=f.gone/\(f.rem e).lost=f.lost:=by
 unfold dx.rem dx.iC;split
 ·exact⟨rfl,rfl,rfl,rfl,rfl,rfl,rfl,rfl,rfl,rfl,rfl,rfl,rfl,rfl,rfl⟩
 ·split<;>exact⟨rfl,rfl,rfl,rfl,rfl,rfl,rfl,rfl,rfl,rfl,rfl,rfl,rfl,rfl,rfl⟩
theorem gy.book{Z dN:Own}{w w':aG}{b:Nat}{ns:List Nd}{cs:List Cb}{f f':dx}{L:rY}(h:gy Z w b ns cs f L)(hc:Ch (· =L.bk) w w')(he:∀k,k<w.heap.size->dN k=Z k)(hb:Bk w' L.bk f'.dm f'.wM f'.vH)(e:f'={f with wM:=f'.wM,vH:=f'.vH}):gy dN w' b ns cs f' L:=by have g:=h.Ra (fun k=>k=2) hc he fun k s=>.inr (by rw[s,h.bk.2];exact⟨rfl,rfl⟩);rw[e];exact⟨⟨g.root (by decide),g.iP.1⟩,g.plan,g.aK,g.xH,g.La,g.bx,g.up (by decide),g.r0,g.r1,⟨by rw[e]at hb;exact hb,g.IE⟩,⟨g.fl (by decide) (by decide),g.ZL⟩,⟨g.lim (by decide) (by decide),g.Kl⟩,g.came (by decide),g.gone (by decide),g.lost (by decide)⟩
theorem afL(f:dx)(e:Int):f.rem e={f with wM:=(f.rem e).wM,vH:=(f.rem e).vH}:=by
 unfold dx.rem dx.iC;split
 ·rfl
 ·split<;>rfl
theorem gy.xA{Z:Own}{w:aG}{b:Nat}{ns:List Nd}{cs:List Cb}{f:dx}{L:rY}(h:gy Z w b ns cs f L){i:Nat}:w.cell? ⟨b,i,aj⟩=(Bl f L)[i]?:=h.root.1.cell i
theorem gy.afH{Z:Own}{w w5:aG}{b:Nat}{ns:List Nd}{cs:List Cb}{f:dx}{L:rY}{x:Fm}{o1:Obj}{ids:List Int}{v':aI}(h:gy Z w b ns cs f L)(i1:w.ownsRow 0 3 1 L.vl ids.length (ids.flatMap cI))(i2:∀g,L.vl.ownBlock=az g->Z g=(2,9,0,0))(i3:ids.Perm (f.lost.map (·.id)))(own:w5.ownsRow 0 3 1 v' (ids.length+1) (ids.flatMap cI++[ah ag x.id]))(gr:(w.alloc o1).grownBy w5 L.vl.ownBlock)(loc:v'.ownBlock=L.vl.ownBlock\/v'.ownBlock=az (w.heap.size+1)):dh w5 b 100 (Bl f L)/\∃dN,gy dN (w5.setCell ⟨b,19,aj⟩ v') b ns cs {f with lost:=f.lost++[x]} {L with vl:=v'}/\Bw Z w dN (w5.setCell ⟨b,19,aj⟩ v'):=by
 have nb:∀g,L.vl.ownBlock=az g->b≠g:=fun g hg e=>by have:=i2 g hg;rw[<-e,h.root.2]at this;simp at this
 have b5:dh w5 b 100 (Bl f L):=(h.root.1.alloc o1).grown gr fun e=>nb _ e.symm rfl;have hc:Ch (fun k=>k=b\/L.vl.ownBlock=az k) w (w5.setCell ⟨b,19,aj⟩ v'):=(((Ch.refl _ w).alloc o1).grown gr fun g hg=>.inl (.inr hg)).setCell (p:=⟨b,19,aj⟩) (.inl (.inl rfl)) v';obtain⟨dN,QU⟩:∃dN:Own,dN=fun k=>if v'.ownBlock=az k then(2,9,0,0)else fr Z w.heap.size k:=⟨_,rfl⟩
 have he:∀k,k<w.heap.size->dN k=Z k:=fun k hk=>by
  rw[QU];simp only;by_cases e:v'.ownBlock=az k
  ·rw[if_pos e];rcases loc with q|q
   ·rw[q]at e;exact(i2 k e).symm
   ·rw[q]at e;injection e with e;omega
  ·rw[if_neg e,gL hk]
 have g:=h.Ra (fun k=>k=0\/k=9) hc he fun k s=>.inr (by
  rcases s with s|s
  ·rw[s,h.root.2];exact⟨rfl,.inl rfl⟩
  ·rw[i2 k s];exact⟨rfl,.inr rfl⟩)
 have bl:=kH own;refine⟨b5,dN,⟨⟨?_,g.iP.1⟩,g.plan,g.aK,g.xH,g.La,g.bx,g.up (by decide),g.r0,g.r1,⟨g.bk (by decide),g.IE⟩,⟨g.fl (by decide) (by decide),g.ZL⟩,⟨g.lim (by decide) (by decide),g.Kl⟩,g.came (by decide),g.gone (by decide),?_⟩,⟨hc.mono fun k _ s=>?_,he⟩⟩
 ·have:=b5.jd 19 v';exact this
 ·refine⟨ids++[x.id],?_,fun k hk=>?_,?_⟩
  ·have:=nO own (p:=⟨b,19,aj⟩) v' fun k hk e=>by
    obtain⟨cs',hb⟩:=bl k hk;exact dh.sU b5 hb (by decide) (by rw[e])
   simpa[cI]using this
  ·rw[QU];simp only;rw[if_pos hk]
  ·simp only[eY,mG,vX];exact i3.append_right _
 ·unfold Ta;rcases s with s|s
  ·rw[s,h.root.2];decide
  ·rw[i2 k s];decide
theorem II(f:dx)(x:Fm)(v:aI)(b:Nat)(ns:List Nd)(cs:List Cb)(L:rY)(Z:Own)(w:aG)(h:gy Z w b ns cs f L)(hs:aeb f)(h0:0<=x.ep)(h1:x.ep<=f.dm)(hv:∃a n c,v=ay a n c):bZ aH 58 #[pt b,MU x v] w fun e w'=>e=ax (.tuple #[])/\JC Z w b ns cs L (f.qQ x) w':=by
 obtain⟨va,vn,vc,rfl⟩:=hv;obtain⟨w1,gK⟩:∃w1:aG,w.alloc (af #[ah ag x.id,ah ag x.jR,ah ag x.kU,ah ag x.cls,ah ag x.ep,ay va vn vc] 59)=w1:=⟨_,rfl⟩;have B1:aY (aN w.heap.size w w1):=by rw[<-gK];exact(aQ _ _).alloc (aC _) _
 have F1:aY (dh w1 w.heap.size 59 #[ah ag x.id,ah ag x.jR,ah ag x.kU,ah ag x.cls,ah ag x.ep,ay va vn vc]):=by rw[<-gK];exact dh.new w _ _
 have H1:=aA (h.below B1.o);have S1:aY (w1.heap.size=w.heap.size+1):=by rw[<-gK,aY];simp
 have RM:=aA (MW f x.ep L.bk w1.drew H1.o.bk.1 hs h0 h1);have HS:=aA hs;have k11:w1.cell? ⟨b,11,aj⟩=az (au (az ⟨L.bk,0,aj⟩)):=H1.o.xA;have f4:w1.cell? ⟨w.heap.size,4,aj⟩=az (ah ag x.ep):=F1.o.cell 4;have KM:aY (∀w',Ch (· =L.bk) w1 w'->w'.cell? ⟨b,11,aj⟩=az (au (az ⟨L.bk,0,aj⟩))/\w'.cell? ⟨w.heap.size,4,aj⟩=az (ah ag x.ep)):=fun w' hc=>by
  refine⟨(hc.cell (p:=⟨b,11,aj⟩) H1.o.root.1.lt (fun e=>?_)).trans k11,(hc.cell (p:=⟨w.heap.size,4,aj⟩) F1.o.lt (fun e=>?_)).trans f4⟩
  ·have q1:=H1.o.root.2;have q2:=H1.o.bk.2;simp only at e;rw[e,q2]at q1;simp at q1
  ·have q2:=H1.o.bk.2;simp only at e;rw[<-e,lL (aC _)]at q2;simp at q2
 clear h hs;generalize hP:JC Z w b ns cs L (f.qQ x)=PP;have HP:=aA hP;clear hP;unfold MU pt;go_enter func58,ntmps58;go_wp2_with fail;clear gK;go_region_held3 (fun w'=>w'.cell? ⟨b,11,aj⟩=az (au (az ⟨L.bk,0,aj⟩))/\w'.cell? ⟨w.heap.size,4,aj⟩=az (ah ag x.ep))
  (first|exact⟨k11,f4⟩|exact KM.o _ (Ch.refl _ _).drew|exact KM.o _ CB.o)
  (first
   |(go_at_call 97;refine RM.o.mono ?_;rintro e w2 ⟨⟨c,rfl⟩,hb,cb⟩;have HB:=aA hb;have CB:aY (Ch (· =L.bk) w1 w2):=(show Ch (· =L.bk) w1 w2 from⟨cb.os,cb.tape,cb.output,cb.size,cb.block⟩);clear hb cb))
 have H2:=aA (H1.o.book (f':=f.rem x.ep) (dN:=fr Z w.heap.size) CB.o (fun _ _=>rfl) HB.o (afL f x.ep));obtain⟨ids,i1,i2,i3⟩:=H2.o.lost;have LL:aY (ids.length<=1000000000):=by have:=i3.length_eq;have h2:=HS.o.l1;rw[dE,(Kv f x.ep).2.2.2.2.2.2.2.2.2.2.2.2.2.2]at this;rw[aY];omega
 obtain⟨la,lc,eL⟩:=dO i1;have c19:w2.cell? ⟨b,19,aj⟩=az (ay la ids.length lc):=by rw[<-eL];exact H2.o.xA
 have F2:aY (dh w2 w.heap.size 59 #[ah ag x.id,ah ag x.jR,ah ag x.kU,ah ag x.cls,ah ag x.ep,ay va vn vc]):=F1.o.ch CB.o fun e=>by have q2:=H1.o.bk.2;rw[<-e,lL (aC _)]at q2;simp at q2
 have f0:w2.cell? ⟨w.heap.size,0,aj⟩=az (ah ag x.id):=F2.o.cell 0;have EL:=aA eL;have I1:aY (w2.ownsRow 0 3 1 (ay la ids.length lc) ids.length (ids.flatMap cI)):=by rw[<-eL];exact i1
 have I2:=aA i2;have I3:=aA i3;have KA:aY (∀w',aN w2.heap.size w2 w'->w'.cell? ⟨b,19,aj⟩=az (ay la ids.length lc)/\w'.cell? ⟨w.heap.size,0,aj⟩=az (ah ag x.id)):=fun w' hb=>
  ⟨(hb.cell (p:=⟨b,19,aj⟩) (aZ _ _ c19)).trans c19,(hb.cell (p:=⟨w.heap.size,0,aj⟩) F2.o.lt).trans f0⟩
 clear i1 i2 i3 eL c19 f0;go_wp2_with fail;refine fQ 11 (fun w'=>w'.cell? ⟨b,19,aj⟩=az (ay la ids.length lc)/\w'.cell? ⟨w.heap.size,0,aj⟩=az (ah ag x.id)) (by kernel_rfl) (KA.o _ ((aQ _ _).drew)) (fun aW=>?_);refine bH.tk 0 aW ?_;try simp only[bI]
 refine bH.tk 1 aW ?_;try simp only[bI]
 refine bH.tk 2 aW ?_;try simp only[bI]
 refine bH.tk 3 aW ?_;try simp only[bI]
 refine bH.tk 4 aW ?_;try simp only[bI]
 refine bH.tk 5 aW ?_;try simp only[bI]
 refine bH.tk 6 aW ?_;try simp only[bI]
 obtain⟨j0,xI,zb,Ad,Ae⟩:=dX Py;have BA:aY (∀o,aN w2.heap.size w2 (w2.alloc o).drew):=fun o=>((aQ _ _).alloc (aC _) o).drew;have RN:aY (Reads (w2.alloc (af #[ah ag x.id] 3)).drew (w2.heap.size+1) 1 (az ⟨w2.heap.size,0,aj⟩) 1 [ah ag x.id]):=(iB w2 3 [ah ag x.id] (n:=1) (size:=1) rfl).drew;have OW:aY ((w2.alloc (af #[ah ag x.id] 3)).drew.ownsRow 0 3 1 (ay la ids.length lc) ids.length (ids.flatMap cI)):=(I1.o.alloc (af #[ah ag x.id] 3));refine bH.one (i:=7) (by kernel_rfl) rfl (fun K hK=>?_);go_simp;refine hK.out _ _ (fun _=>KA.o _ (BA.o _)) (fun bU=>?_);have aW:=bU (by decide);clear hK bU;try simp only[bI]
 refine bH.one (i:=8) (by kernel_rfl) rfl (fun K hK=>?_);refine fV _ (by rfl) (.tmp 15) (.tmp 18) 26 (by rfl) 0 3 j0 _ 1 8 underlying26 xI zb Ad Ae rfl (by decide) _ _ _ (by rfl) OW.o _ (az ⟨w2.heap.size,0,aj⟩) 1 1 [ah ag x.id] (by rfl) RN.o ?_ ?_ ?_ ?_ ?_
 ·intro u hu;simp only[dG,dP,or_false]at hu;subst hu;rfl
 ·have:=LL.o;unfold fB;omega
 ·have:=LL.o;omega
 ·exact bS _
 intro v5 w5 uI zM Df;obtain⟨P1,yV,P2,P3⟩:=H2.o.afH (x:=x) (by rw[EL.o];exact I1.o) I2.o I3.o uI (by rw[EL.o];exact⟨zM.os,zM.tape,zM.output,zM.size,zM.block⟩) (by rw[EL.o];simpa using Df);have HP1:=aA P1;have HP2:=aA P2;have HP3:=aA P3;obtain⟨la5,lc5,rfl⟩:=dO uI;have c19:w5.cell? ⟨b,19,aj⟩=az (ay la ids.length lc):=by rw[HP1.o.cell,<-EL.o];rfl
 have f19:=HP1.o.frozen 19;have f0:w5.cell? ⟨w.heap.size,0,aj⟩=az (ah ag x.id):=by
  have Cj:(w2.alloc (af #[ah ag x.id] 3)).grownBy w5 (ay la ids.length lc).ownBlock:=⟨zM.os,zM.tape,zM.output,zM.size,zM.block⟩;have h1:=(F2.o.alloc (af #[ah ag x.id] 3)).grown Cj fun e=>by obtain⟨cs',hb⟩:=kH I1.o _ e.symm;exact dh.sU F2.o hb (by decide) rfl
  exact h1.cell 0
 clear uI zM Df P1 P2 P3;refine hK.out _ _ (fun _=>⟨c19,f0⟩) (fun bU=>?_);have aW:=bU (by decide);clear hK bU;try simp only[bI]
 refine bH.tk 9 aW ?_;try simp only[bI]
 refine bH.tk 10 aW ?_;try simp only[bI]
 refine bH.one (i:=11) (by kernel_rfl) rfl (fun K hK=>?_);go_simp;refine hK.out _ _ (fun h=>absurd rfl h) (fun _=>?_);clear hK;refine bH.done (by kernel_rfl) ?_ _;try simp only[bI]
 clear c19 f19 f0;have iZ:aY (PP (w5.setCell ⟨b,19,aj⟩ (ay la5 (ids.length+1) lc5))):=by rw[aY,<-HP.o];refine⟨yV,_,HP2.o,?_,⟨rfl⟩⟩;exact((Bw.bY B1.o).trans ⟨CB.o.mono fun k _ e=>by unfold Ta;rw[e,H1.o.bk.2];decide,fun _ _=>rfl⟩).trans HP3.o
 go_wp2_with fail;exact bodyPost_end (results_none rfl _ _ _) rfl ⟨rfl,iZ.out⟩
theorem aby(f:dx)(x:Fm)(v:aI)(b:Nat)(ns:List Nd)(cs:List Cb)(L:rY)(Z:Own)(w:aG)(h:gy Z w b ns cs f L)(hs:aeb f)(h0:0<=x.ep)(h1:x.ep<=f.dm)(hv:∃a n c,v=ay a n c):bZ aH 58 #[pt b,MU x v] w fun e w'=>e=ax (.tuple #[])/\lK Z w b ns cs L (f.qQ x) w':=
 (II f x v b ns cs L Z w h hs h0 h1 hv).mono fun e w' k=>⟨k.1,k.2.s⟩
end
section
def dlF(cs:List Cb)(c:Nat):Nat:=(cs.getD (c/2) gX).dl.toNat
structure Be(cs:List Cb)(f:dx):Prop where
 nd:∀t,((f.fl t).map (·.1)).Nodup
 due:∀t x,x∈f.fl t->t<=f.now+dlF cs x.1
structure Im(cs:List Cb)(P:Nat->Prop)(f:dx):Prop where
 nd:∀t,((f.fl t).map (·.1)).Nodup
 due:∀t x,x∈f.fl t->t<=f.now+dlF cs x.1
 lt:∀t x,x∈f.fl t->P x.1->t<f.now+dlF cs x.1
section
variable{ns:List Nd}{cs:List Cb}{f g:dx}{P Q:Nat->Prop}
theorem Im.mono(h:Im cs P f)(hq:∀c,Q c->P c):Im cs Q f:=⟨h.nd,h.due,fun t x hx q=>h.lt t x hx (hq _ q)⟩
theorem Im.same(h:Im cs P f)(e1:g.fl=f.fl)(e2:g.now=f.now):Im cs P g:=⟨by rw[e1];exact h.nd,by rw[e1,e2];exact h.due,by rw[e1,e2];exact h.lt⟩
theorem Be.same(h:Be cs f)(e1:g.fl=f.fl)(e2:g.now=f.now):Be cs g:=⟨by rw[e1];exact h.nd,by rw[e1,e2];exact h.due⟩
theorem Im.azM(h:Im cs P f):Be cs f:=⟨h.nd,h.due⟩
theorem ZQ(f:dx)(x:Fm):(f.qQ x).fl=f.fl/\(f.qQ x).now=f.now:=by unfold dx.qQ;obtain⟨_,_,_,_,_,_,_,_,h9,_,h11,_⟩:=Kv f x.ep;exact⟨h11,h9⟩
theorem sS.aeA(h:sS ns cs){u k i:Nat}(hc:mZ cs u k=az i):iY cs i u<2*cs.length/\(fM cs (iY cs i u)).1=u/\(fM cs (iY cs i u)).2.1=k/\iY cs i u/2=i:=by
 obtain⟨c1,c2⟩:=yO hc;obtain⟨h1,h2,h3⟩:=h.chan c1 c2;refine⟨h1,h3,?_,h2⟩;unfold mZ at hc;have h4:=List.find?_some hc;simp only[iq,cZ,beq_iff_eq]at h4;have ab:=h.ab _ c1;have C:=h.ap _ c1;have D:=h.bp _ c1;unfold iY;by_cases e:(cs.getD i gX).a=(u:Int)
 ·rw[if_pos e];unfold fM;rw[if_pos (by omega),show 2*i/2=i by omega];simp only;rcases h4 with q|q
  ·omega
  ·omega
 ·rw[if_neg e];unfold fM;rw[if_neg (by omega),show(2*i+1)/2=i by omega];simp only;rcases h4 with q|q
  ·omega
  ·omega
def adp(cs:List Cb)(u:Nat)(ks:List Nat)(c:Nat):Prop:=((fM cs c).1=u/\(fM cs c).2.1∈ks)\/u<(fM cs c).1
theorem Im.nR(hp:sS ns cs){u:Nat}{m:Mv}{ks:List Nat}(h:Im cs (adp cs u (mQ [m]++ks)) f)(hn:(mQ [m]++ks).Nodup):Im cs (adp cs u ks) (f.nR cs u m):=by
 unfold dx.nR;have mo:Im cs (adp cs u ks) f:=h.mono fun c q=>by
  rcases q with q|q
  ·exact .inl ⟨q.1,List.mem_append_right _ q.2⟩
  ·exact .inr q
 cases hm:m.2.2.1 with
 |none=>obtain⟨e1,e2⟩:=ZQ f m.2.2.2;exact mo.same e1 e2
 |some k=>
  have eo:mQ [m]=[k]:=by unfold mQ;simp[hm]
  rw[eo]at h hn;rw[List.singleton_append,pV]at hn;dsimp only;cases e:mZ cs u k with
  |none=>exact mo
  |some i=>
   obtain⟨p1,p2,p3,p4⟩:=hp.aeA e;dsimp only;have ed:dlF cs (iY cs i u)=(cs.getD i gX).dl.toNat:=(by unfold dlF;rw[p4]);have fresh:∀x,x∈f.fl (f.now+(cs.getD i gX).dl.toNat)->x.1≠iY cs i u:=fun x hx q=>(by have:=h.lt _ x hx (by rw[q];exact .inl ⟨p2,by rw[p3];simp⟩);rw[q,ed]at this;omega);refine⟨fun t=>?_,fun t x hx=>?_,fun t x hx q=>?_⟩
   ·simp only;by_cases q:t=f.now+(cs.getD i gX).dl.toNat
    ·rw[if_pos q,eY,kZ];refine⟨h.nd t,by simp,fun a ha b hb=>?_⟩;obtain⟨x,hx,rfl⟩:=gH.1 ha;simp only[mG,vX,dz]at hb;rw[hb];exact fresh x (by rw[<-q];exact hx)
    ·rw[if_neg q];exact h.nd t
   ·simp only at hx|-;split at hx
    ·rename_i q;rcases eZ.1 hx with hx|hx
     ·exact h.due t x hx
     ·rw[dz]at hx;subst hx;rw[ed,q];exact aC _
    ·exact h.due t x hx
   ·simp only at hx|-;split at hx
    ·rename_i q';rcases eZ.1 hx with hx|hx
     ·exact mo.lt t x hx q
     ·rw[dz]at hx;subst hx;exfalso;rcases q with q|q
      ·simp only at q;rw[p3]at q;exact hn.1 q.2
      ·simp only at q;rw[p2]at q;omega
    ·exact mo.lt t x hx q
theorem Wo(m:Mv)(ms:List Mv):mQ (m::ms)=mQ [m]++mQ ms:=by unfold mQ;rw[<-List.filterMap_append];rfl
theorem Im.Kn(hp:sS ns cs){u:Nat}:∀(ms:List Mv) {f:dx},Im cs (adp cs u (mQ ms)) f->(mQ ms).Nodup->Im cs (adp cs u []) (ms.foldl (dx.nR cs u) f)
 |[],f,h,_=>h
 |m::ms,f,h,hn=>by rw[Wo]at h hn;rw[fK];exact Im.Kn hp ms (h.nR hp hn) (kZ.1 hn).2.1
theorem Im.qj{N u:Nat}(hp:sS ns cs)(rR:dK ns cs f N)(hu:u<ns.length)(h:Im cs (fun c=>u<=(fM cs c).1) f):Im cs (fun c=>u+1<=(fM cs c).1) (f.qj ns cs u):=by
 unfold dx.qj;have nd:=(Oi (f.boxes.getD u default) (fun port x=>(f.leave ns cs u port x).map fun c=>(fM cs c).2.1) (rR.box u hu).1).2.1;refine(Im.Kn hp _ ((h.mono fun c q=>?_).same (g:={f with boxes:=f.boxes.set u ((f.boxes.getD u default).step fun port x=>(f.leave ns cs u port x).map fun c=>(fM cs c).2.1).1}) rfl rfl) nd).mono fun c q=>.inr q;rcases q with q|q
 ·rw[q.1];exact aC _
 ·exact Nat.le_of_lt q
end
end
section
open Go.RowKit Go.Maps
attribute [local go_sem ↓] fJ fH
theorem Ye(n cls k:Nat)(w:aG)(hn:n<=1000000000000)(hk:1<=k/\k<=4)(hc:cls<k):bZ aH 48 #[ah ag n,ah ag cls,ah ag k] w fun e w'=>e=ax (.tuple #[ah ag ((cls+k*(n%2):Nat):Int),ah ag 0])/\w=w':=by
 have k1:1<=(k:Int):=by omega
 have k4:(k:Int)<=4:=by omega
 have c0:0<=(cls:Int):=by omega
 have c1:(cls:Int)<(k:Int):=by omega
 have n0:0<=(n:Int):=by omega
 rcases(show n%2=0\/n%2=1 by omega)with h|h
 ·have hm:(n:Int)%2=0:=by omega
  have E:((cls+k*(n%2):Nat):Int)=(cls:Int):=by rw[h];simp
  rw[E];clear E h;go_enter func48,ntmps48;go_wp2_with fail;go_ret2;exact⟨by simp,rfl⟩
 ·have hm:(n:Int)%2=1:=by omega
  have E:((cls+k*(n%2):Nat):Int)=(cls:Int)+(k:Int):=by rw[h];push_cast;simp
  rw[E];clear E h;go_enter func48,ntmps48;go_wp2_with fail;go_ret2;exact⟨by simp,rfl⟩
theorem gy.azA{Z dN:Own}{w w':aG}{b:Nat}{ns:List Nd}{cs:List Cb}{f f':dx}{L:rY}(h:gy Z w b ns cs f L)(hc:Ch (· =b) w w')(he:∀k,k<w.heap.size->dN k=Z k)(hb:dh w' b 100 (Bl f' L))(e:f'={f with kJ:=f'.kJ,now:=f'.now,last:=f'.last}):gy dN w' b ns cs f' L:=by have g:=h.Ra (fun k=>k=0) hc he fun k s=>.inr (by rw[s,h.root.2];exact⟨rfl,rfl⟩);rw[e];exact⟨⟨by rw[e]at hb;exact hb,g.iP.1⟩,g.plan,g.aK,g.xH,g.La,g.bx,g.up (by decide),g.r0,g.r1,⟨g.bk (by decide),g.IE⟩,⟨g.fl (by decide) (by decide),g.ZL⟩,⟨g.lim (by decide) (by decide),g.Kl⟩,g.came (by decide),g.gone (by decide),g.lost (by decide)⟩
theorem YO(n:Nd):fw n=kQ n:=rfl
theorem dK.afQ{ns:List Nd}{cs:List Cb}{f:dx}{N:Nat}(h:dK ns cs f N)(hN:N<=1000000000):aeb f:=
 ⟨by have:=h.bn;have:=h.now;omega,by have:=h.a0;omega,by have:=h.a1;omega,by have:=h.ll;omega⟩
theorem Vs{ns:List Nd}{x:Int}(h:zI ns x=true):∃k:Nat,x=k/\k<ns.length/\(ns.getD k jk).sw=false:=by unfold zI Am at h;simp only[cZ,mI,decide_eq_true_eq]at h;exact⟨x.toNat,by omega,by omega,h.2⟩
theorem gy.aex{Z:Own}{w:aG}{b:Nat}{ns:List Nd}{cs:List Cb}{f:dx}{L:rY}(h:gy Z w b ns cs f L){i:Nat}(hi:i<ns.length):∃g c,L.vb=ay (az ⟨g,0,aj⟩) ns.length c/\w.cell? ⟨b,5,aj⟩=az (ay (az ⟨g,0,aj⟩) ns.length c)/\w.cell? ⟨g,i,aj⟩=az (pt (L.bx i))/\(Z g).1=1/\g<w.heap.size:=by
 obtain⟨g,c,e,h1,_,h5,h6⟩:=h.La.at_ (i:=i) (by simpa using hi);refine⟨g,c,e,?_,?_,h6,h5⟩
 ·rw[<-e];exact h.xA
 ·rw[h1,cO,dW hi];rfl
theorem gy.asu{Z:Own}{w:aG}{b:Nat}{ns:List Nd}{cs:List Cb}{f:dx}{L:rY}(h:gy Z w b ns cs f L){i:Nat}(hi:i<f.aK.length):∃g c,L.vr=ay (az ⟨g,0,aj⟩) f.aK.length c/\w.cell? ⟨b,3,aj⟩=az (ay (az ⟨g,0,aj⟩) f.aK.length c)/\w.cell? ⟨g,i,aj⟩=az (ah ag (f.aK.getD i 0)):=by
 obtain⟨g,c,e,h1,_,_,_⟩:=h.aK.at_ (i:=i) (by simpa using hi);refine⟨g,c,e,?_,?_⟩
 ·rw[<-e];exact h.xA
 ·rw[h1,cO];simp[bJ,hi]
def JD(Z:Own)(w:aG)(b:Nat)(ns:List Nd)(cs:List Cb)(r:dx×Int×Int)(e:iM)(w':aG):Prop:=e=ax (.tuple #[ah ag r.2.1,ah ag r.2.2])/\FP Z w b ns cs r.1 w'
section
variable(f:dx)(jR kU cls:Int)(data:List Int)(b:Nat)(ns:List Nd)(cs:List Cb)(L:rY)(Z:Own)(w:aG)(h:gy Z w b ns cs f L)(hp:sS ns cs)
include h hp
theorem Vv(a:Option fA)(c:Nat)(hd:data.length<=1000000000)(hb:zI ns jR=false\/zI ns kU=false\/cls<0\/(f.aX:Int)<=cls\/64<data.length):bZ aH 14 #[pt b,ah ag jR,ah ag kU,ah ag cls,ay a data.length c] w (JD Z w b ns cs (f.iL ns jR kU cls data)):=by
 have E:f.iL ns jR kU cls data=(f,0,2):=by
  unfold dx.iL;rw[if_pos];simp only[iq,mI,decide_eq_true_eq];rcases hb with q|q|q|q|q
  ·exact .inl (.inl (.inl (.inl q)))
  ·exact .inl (.inl (.inl (.inr q)))
  ·exact .inl (.inl (.inr q))
  ·exact .inl (.inr q)
  ·exact .inr q
 rw[E];clear E;obtain⟨An,Ac,cn,cc,hS⟩:=h.toS;have C1:=aA (Ka jR b ns cs An Ac cn cc w hS hp);have C2:=aA (Ka kU b ns cs An Ac cn cc w hS hp);have c2:w.cell? ⟨b,0+2,aj⟩=az (ah ag f.aX):=h.xA;have iZ:aY (FP Z w b ns cs f w):=⟨Z,L,h,qo.refl _ _⟩;clear h hp hS;unfold pt at *;cases hb1:zI ns jR with
 |false=>
  rw[hb1]at C1;clear hb1 hb;go_enter func14,ntmps14;go_wp2_with (first
   |(go_at_call 46;(with_reducible refine C1.o.mono ?_);rintro e w' ⟨rfl,rfl⟩)
   |(go_at_call 46;(with_reducible refine C2.o.mono ?_);rintro e w' ⟨rfl,rfl⟩))
  go_ret2;exact⟨rfl,iZ.out⟩
 |true=>
  rw[hb1]at C1;cases uu:zI ns kU with
  |false=>
   rw[uu]at C2;clear hb1 uu hb;go_enter func14,ntmps14;go_wp2_with (first
    |(go_at_call 46;(with_reducible refine C1.o.mono ?_);rintro e w' ⟨rfl,rfl⟩)
    |(go_at_call 46;(with_reducible refine C2.o.mono ?_);rintro e w' ⟨rfl,rfl⟩))
   go_ret2;exact⟨rfl,iZ.out⟩
  |true=>
   rw[uu]at C2;have sV:cls<0\/(f.aX:Int)<=cls\/64<data.length:=by
    rcases hb with q|q|q
    ·rw[hb1]at q;cases q
    ·rw[uu]at q;cases q
    ·exact q
   clear hb1 uu hb;by_cases k1:cls<0
   ·have d1:decide (cls<0)=true:=decide_eq_true k1;clear sV;go_enter func14,ntmps14;go_wp2_with (first
     |(go_at_call 46;(with_reducible refine C1.o.mono ?_);rintro e w' ⟨rfl,rfl⟩)
     |(go_at_call 46;(with_reducible refine C2.o.mono ?_);rintro e w' ⟨rfl,rfl⟩))
    go_ret2;exact⟨rfl,iZ.out⟩
   ·have d1:decide (cls<0)=false:=decide_eq_false k1;by_cases k2:(f.aX:Int)<=cls
    ·have d2:decide ((f.aX:Int)<=cls)=true:=decide_eq_true k2;clear sV;go_enter func14,ntmps14;go_wp2_with (first
      |(go_at_call 46;(with_reducible refine C1.o.mono ?_);rintro e w' ⟨rfl,rfl⟩)
      |(go_at_call 46;(with_reducible refine C2.o.mono ?_);rintro e w' ⟨rfl,rfl⟩))
     go_ret2;exact⟨rfl,iZ.out⟩
    ·have d2:decide ((f.aX:Int)<=cls)=false:=decide_eq_false k2;have k3:64<data.length:=by omega
     have d3:decide ((64:Int)<(data.length:Int))=true:=decide_eq_true (by omega);have d4:decide (64<data.length)=true:=decide_eq_true k3;clear sV;go_enter func14,ntmps14;go_wp2_with (first
      |(go_at_call 46;(with_reducible refine C1.o.mono ?_);rintro e w' ⟨rfl,rfl⟩)
      |(go_at_call 46;(with_reducible refine C2.o.mono ?_);rintro e w' ⟨rfl,rfl⟩))
     go_ret2;exact⟨rfl,iZ.out⟩
end
theorem MR(f:dx)(N:Nat)(jR kU cls:Int)(data:List Int)(b:Nat)(ns:List Nd)(cs:List Cb)(L:rY)(Z:Own)(w:aG)(h:gy Z w b ns cs f L)(hp:sS ns cs)(rR:dK ns cs f N)(hN:N<=800000000)(a:Option fA)(c:Nat)(hd:data.length<=1000000000)(IV:data.length<=64->iQ Z w data (ay a data.length c)):bZ aH 14 #[pt b,ah ag jR,ah ag kU,ah ag cls,ay a data.length c] w (JD Z w b ns cs (f.iL ns jR kU cls data)):=by
 by_cases hbad:zI ns jR=false\/zI ns kU=false\/cls<0\/(f.aX:Int)<=cls\/64<data.length
 ·exact Vv f jR kU cls data b ns cs L Z w h hp a c hd hbad
 simp only[not_or,Bool.not_eq_false,Int.not_lt,Int.not_le]at hbad;obtain⟨e1,e2,k0,k1,k2⟩:=hbad;have IV:=IV (by omega);obtain⟨u,rfl,hu,su⟩:=Vs e1;obtain⟨v,rfl,hv,sv⟩:=Vs e2;obtain⟨kc,rfl⟩:∃n:Nat,cls=n:=⟨cls.toNat,by omega⟩;have EV:f.iL ns (u:Int) (v:Int) (kc:Int) data=if(u:Int)=(v:Int)then((f,0,12):dx×Int×Int)else
  (let vc:=kc+f.aX*(f.dm%2)
  if f.aK.getD vc 0<=(dR (f.boxes.getD u default).q 1 vc).length then(f,0,5)
  else
   let x:Fm:=⟨f.last+1,u,v,vc,f.dm,data⟩;let r:=(f.boxes.getD u default).iR 1 x
   if r.2 then({f.iC f.dm 1 with boxes:=f.boxes.set u r.1,last:=f.last+1},(f.last:Int)+1,0)else({f with boxes:=f.boxes.set u r.1},0,5)):=by
  unfold dx.iL;rw[if_neg]
  ·simp only[cK]
  ·simp only[e1,e2,Bool.not_true,Bool.false_or,iq,decide_eq_true_eq];omega
 obtain⟨An,Ac,cn,cc,hS⟩:=h.toS;have C1:=aA (Ka u b ns cs An Ac cn cc w hS hp);have C2:=aA (Ka v b ns cs An Ac cn cc w hS hp);rw[e1]at C1;rw[e2]at C2;have c2:w.cell? ⟨b,0+2,aj⟩=az (ah ag f.aX):=h.xA;have d1:decide ((kc:Int)<0)=false:=decide_eq_false (by omega);have d2:decide ((f.aX:Int)<=(kc:Int))=false:=decide_eq_false (by omega);have d3:decide ((64:Int)<(data.length:Int))=false:=decide_eq_false (by omega);have d4:decide (64<data.length)=false:=decide_eq_false (by omega);have H:=aA h;have OK:=aA rR;have PL:=aA hp;clear h rR hp hS e1 e2;by_cases huv:u=v
 ·subst huv;rw[EV,if_pos rfl];clear EV;have iZ:aY (FP Z w b ns cs f w):=⟨Z,L,H.o,qo.refl _ _⟩;unfold pt at *;go_enter func14,ntmps14;go_wp2_with (first|(go_at_call 46;(with_reducible refine C1.o.mono ?_);rintro e w' ⟨rfl,rfl⟩));go_ret2;exact⟨rfl,iZ.out⟩
 rw[EV,if_neg (by omega)];clear EV;obtain⟨vc,hvc⟩:∃vc,kc+f.aX*(f.dm%2)=vc:=⟨_,rfl⟩;have vlt:vc<f.aK.length:=by rw[OK.o.rl,<-hvc];rcases(show f.dm%2=0\/f.dm%2=1 by omega)with q|q<;>rw[q]<;>omega
 have CLS:=aA (Ye f.dm kc f.aX w (by have:=OK.o.bn;have:=OK.o.now;omega) ⟨OK.o.k0,OK.o.k1⟩ (by omega));have NOW:=aA (Og L.bk f.dm f.wM f.vH w H.o.bk.1);have c11:w.cell? ⟨b,11,aj⟩=az (au (az ⟨L.bk,0,aj⟩)):=H.o.xA;simp only;rw[hvc]at CLS|-;clear hvc;obtain⟨gb,cb,eb,c5,Tv,tgb,lgb⟩:=H.o.aex hu;obtain⟨gr,cr,er,c3,crm⟩:=H.o.asu vlt;unfold pt at Tv;have KU:=OK.o.box u hu;have P2:kQ (ns.getD u jk)=2:=by unfold kQ;rw[if_neg (by rw[su];simp)]
 have QC:aY (∀w',aN w.heap.size w w'->bZ aH 49 #[au (az ⟨L.bx u,0,aj⟩),ah ag 1,ah ag vc] w' (adA (dR (f.boxes.getD u default).q 1 vc) w')):=fun w' hb=>
  XN 1 vc N Z (3+u) w' (L.bx u) _ _ ((H.o.bx u hu).below hb) KU.1 (by rw[KU.2.1,P2];omega) (by rw[KU.2.2];exact vlt)
 have KP:aY (∀w',aN w.heap.size w w'->w'.cell? ⟨b,5,aj⟩=az (ay (az ⟨gb,0,aj⟩) ns.length cb)/\w'.cell? ⟨gb,u,aj⟩=az (au (az ⟨L.bx u,0,aj⟩))/\w'.cell? ⟨b,3,aj⟩=az (ay (az ⟨gr,0,aj⟩) f.aK.length cr)/\w'.cell? ⟨gr,vc,aj⟩=az (ah ag (f.aK.getD vc 0))):=fun w' hb=>
  ⟨(hb.cell (p:=⟨b,5,aj⟩) (aZ _ _ c5)).trans c5,(hb.cell (p:=⟨gb,u,aj⟩) (aZ _ _ Tv)).trans Tv,(hb.cell (p:=⟨b,3,aj⟩) (aZ _ _ c3)).trans c3,(hb.cell (p:=⟨gr,vc,aj⟩) (aZ _ _ crm)).trans crm⟩
 have u0:(0:Int)<=(u:Int):=by omega
 have u1:(u:Int)<(ns.length:Int):=by omega
 have v0:(0:Int)<=(vc:Int):=by omega
 have v1:(vc:Int)<(f.aK.length:Int):=by omega
 have aIN:((u:Int)==(v:Int))=false:=by rw[beq_eq_false_iff_ne];omega
 have aIO:¬(u:Int)=(v:Int):=by omega
 have QL:=aA (KU.1.Ws (p:=1) (c:=vc) (by rw[KU.2.1,P2];omega) (by rw[KU.2.2];exact vlt));clear eb er c5 Tv c3 crm su sv KU;by_cases hfull:f.aK.getD vc 0<=((dR (f.boxes.getD u default).q 1 vc).length:Int)
 ·rw[if_pos hfull];generalize dR (f.boxes.getD u default).q 1 vc=q at *;generalize f.aK.getD vc 0=rm at *;have iZ:aY (∀w',aN w.heap.size w w'->FP Z w b ns cs f w'):=fun w' hb=>⟨_,L,H.o.below hb,qo.bY hb⟩;unfold pt at *;go_enter func14,ntmps14;go_wp2_with (first
   |(go_at_call 46;(with_reducible refine C1.o.mono ?_);rintro e w' ⟨rfl,rfl⟩)
   |(go_at_call 46;(with_reducible refine C2.o.mono ?_);rintro e w' ⟨rfl,rfl⟩)
   |(go_at_call 47;refine NOW.o.mono ?_;rintro e w' ⟨rfl,rfl⟩)
   |(go_at_call 48;refine CLS.o.mono ?_;rintro e w' ⟨rfl,rfl⟩))
  go_region_held3 (fun w'=>w'.cell? ⟨b,5,aj⟩=az (ay (az ⟨gb,0,aj⟩) ns.length cb)/\w'.cell? ⟨gb,u,aj⟩=az (au (az ⟨L.bx u,0,aj⟩))/\w'.cell? ⟨b,3,aj⟩=az (ay (az ⟨gr,0,aj⟩) f.aK.length cr)/\w'.cell? ⟨gr,vc,aj⟩=az (ah ag rm))
   (first|exact KP.o _ (aQ _ _).drew|exact KP.o _ BQ.o)
   (first|(go_at_call 49;refine(QC.o _ (aQ _ _).drew).mono ?_;rintro e wq ⟨vq,Q,rfl,hQ,ow,bq⟩;have OW:=aA ow;have HQ:=aA hQ;have BQ:aY (aN w.heap.size w wq):=(show aN w.heap.size w wq from⟨bq.os,bq.tape,bq.output,bq.size,bq.block⟩);obtain⟨qa,qc,rfl⟩:=dO ow;have d5:decide (rm<=(Q.length:Int))=true:=decide_eq_true (by have e:=congrArg oP hQ;rw[dE]at e;omega);clear bq ow hQ))
  go_wp2_with fail;go_ret2
  exact⟨rfl,iZ.out _ BQ.o⟩
 ·rw[if_neg hfull];generalize dR (f.boxes.getD u default).q 1 vc=q at *;generalize f.aK.getD vc 0=rm at *;unfold pt at *;have c14:w.cell? ⟨b,14,aj⟩=az (ah ag f.last):=H.o.xA;have KL:aY (∀w',aN w.heap.size w w'->w'.cell? ⟨b,14,aj⟩=az (ah ag f.last)):=fun w' hb=>(hb.cell (p:=⟨b,14,aj⟩) (aZ _ _ c14)).trans c14;have q1:IntKind.i64.wrap ((f.last:Int)+1)=(f.last:Int)+1:=fE _ (by have:=OK.o.last;omega);obtain⟨⟨X',ok⟩,hRA⟩:∃RA,(f.boxes.getD u default).iR 1 ⟨(f.last:Int)+1,u,v,vc,f.dm,data⟩=RA:=⟨_,rfl⟩;rw[hRA];have X7:aY (∀w1,aN w.heap.size w w1->∀w2,Ch (fun k=>(fr Z w.heap.size k).1=3+u) w1 w2->w2.cell? ⟨b,5,aj⟩=az (ay (az ⟨gb,0,aj⟩) ns.length cb)/\w2.cell? ⟨gb,u,aj⟩=az (au (az ⟨L.bx u,0,aj⟩))):=fun w1 h1 w2 h2=>by
   have hb:=H.o.root;obtain⟨k1,k2,_⟩:=KP.o w1 h1;refine⟨(h2.cell (p:=⟨b,5,aj⟩) (bW hb.1.lt h1.size) (fun q=>by simp only at q;rw[gL hb.1.lt,hb.2]at q;simp at q;omega)).trans k1,(h2.cell (p:=⟨gb,u,aj⟩) (bW lgb h1.size) (fun q=>by simp only at q;rw[gL lgb,tgb]at q;omega)).trans k2⟩
  cases ok
  ·simp only[jU,if_false];generalize Ej:JD Z w b ns cs _=NW;go_enter func14,ntmps14;go_wp2_with (first
    |(go_at_call 46;(with_reducible refine C1.o.mono ?_);rintro e w' ⟨rfl,rfl⟩)
    |(go_at_call 46;(with_reducible refine C2.o.mono ?_);rintro e w' ⟨rfl,rfl⟩)
    |(go_at_call 47;refine NOW.o.mono ?_;rintro e w' ⟨rfl,rfl⟩)
    |(go_at_call 48;refine CLS.o.mono ?_;rintro e w' ⟨rfl,rfl⟩))
   go_region_held3 (fun w'=>w'.cell? ⟨b,5,aj⟩=az (ay (az ⟨gb,0,aj⟩) ns.length cb)/\w'.cell? ⟨gb,u,aj⟩=az (au (az ⟨L.bx u,0,aj⟩))/\w'.cell? ⟨b,3,aj⟩=az (ay (az ⟨gr,0,aj⟩) f.aK.length cr)/\w'.cell? ⟨gr,vc,aj⟩=az (ah ag rm))
    (first|exact KP.o _ (aQ _ _).drew|exact KP.o _ BQ.o)
    (first|(go_at_call 49;refine(QC.o _ (aQ _ _).drew).mono ?_;rintro e wq ⟨vq,Q,rfl,hQ,ow,bq⟩;have OW:=aA ow;have HQ:=aA hQ;have BQ:aY (aN w.heap.size w wq):=(show aN w.heap.size w wq from⟨bq.os,bq.tape,bq.output,bq.size,bq.block⟩);obtain⟨qa,qc,rfl⟩:=dO ow;have d5:decide (rm<=(Q.length:Int))=false:=decide_eq_false (by have e:=congrArg oP hQ;rw[dE]at e;omega);have ll:=KL.o _ BQ.o;clear bq ow hQ))
   clear C1 C2 NOW CLS QC c2 c11 c14 d1 d2 d3 d4;obtain⟨kp1,kp2,kp3,kp4⟩:=KP.o _ BQ.o;go_wp2_with fail;obtain⟨wf,tu⟩:∃wf,wq.alloc (af #[ah ag ((f.last:Int)+1),ah ag u,ah ag v,ah ag vc,ah ag f.dm,ay a data.length c] 59)=wf:=⟨_,rfl⟩;rw[tu];have BF:aY (aN w.heap.size w wf):=by rw[<-tu];exact BQ.o.alloc BQ.o.size _
   have FB:aY (dh wf wq.heap.size 59 #[ah ag ((f.last:Int)+1),ah ag u,ah ag v,ah ag vc,ah ag f.dm,ay a data.length c]):=(by rw[<-tu];exact dh.new wq _ _);have H1:aY (gy (fr Z w.heap.size) wf.drew b ns cs f L):=(H.o.below BF.o).drew;have DT:iQ (fr Z w.heap.size) wf.drew data (ay a data.length c):=(IV.jD (Ch.bY (S:=fun _=>False) BF.o.drew) (fun _ hk=>gL hk) (fun _ q=>q.elim));have BX:=OK.o.box u hu;have AC:aY (bZ aH 50 #[au (az ⟨L.bx u,0,aj⟩),ah ag 1,.agg #[ah ag ((f.last:Int)+1),ah ag u,ah ag v,ah ag vc,ah ag f.dm,ay a data.length c]] wf.drew fun e w'=>e=ax (ah ag 5)/\yt (fr Z w.heap.size) (3+u) wf.drew (L.bx u) X' (L.Hw u) w'):=(by have h:=Fa 1 N ⟨(f.last:Int)+1,u,v,vc,f.dm,data⟩ (ay a data.length c) (fr Z w.heap.size) (3+u) wf.drew (L.bx u) _ _ (H1.o.bx u hu) (by omega) BX.1 (by omega) (by rw[BX.2.1,P2];omega) (by simp only;omega) (by rw[BX.2.2];simpa using vlt) DT;rw[hRA]at h;exact h);have KQ:aY (∀w2,Ch (fun k=>(fr Z w.heap.size k).1=3+u) wf w2->w2.cell? ⟨b,5,aj⟩=az (ay (az ⟨gb,0,aj⟩) ns.length cb)/\w2.cell? ⟨gb,u,aj⟩=az (au (az ⟨L.bx u,0,aj⟩))/\w2.cell? ⟨wq.heap.size,0,aj⟩=az (ah ag ((f.last:Int)+1))/\w2.cell? ⟨wq.heap.size,1,aj⟩=az (ah ag u)/\w2.cell? ⟨wq.heap.size,2,aj⟩=az (ah ag v)/\w2.cell? ⟨wq.heap.size,3,aj⟩=az (ah ag vc)/\w2.cell? ⟨wq.heap.size,4,aj⟩=az (ah ag f.dm)/\w2.cell? ⟨wq.heap.size,5,aj⟩=az (ay a data.length c)):=fun w2 h2=>(by obtain⟨k1,k2⟩:=X7.o wf BF.o w2 h2;have k3:dh w2 wq.heap.size 59 _:=FB.o.ch h2 fun q=>(by rw[lL BQ.o.size]at q;simp at q;omega);exact⟨k1,k2,k3.cell 0,k3.cell 1,k3.cell 2,k3.cell 3,k3.cell 4,k3.cell 5⟩);clear BX DT kp1 kp2 kp3 kp4 ll tu;go_region_held3 (fun w2=>w2.cell? ⟨b,5,aj⟩=az (ay (az ⟨gb,0,aj⟩) ns.length cb)/\w2.cell? ⟨gb,u,aj⟩=az (au (az ⟨L.bx u,0,aj⟩))/\w2.cell? ⟨wq.heap.size,0,aj⟩=az (ah ag ((f.last:Int)+1))/\w2.cell? ⟨wq.heap.size,1,aj⟩=az (ah ag u)/\w2.cell? ⟨wq.heap.size,2,aj⟩=az (ah ag v)/\w2.cell? ⟨wq.heap.size,3,aj⟩=az (ah ag vc)/\w2.cell? ⟨wq.heap.size,4,aj⟩=az (ah ag f.dm)/\w2.cell? ⟨wq.heap.size,5,aj⟩=az (ay a data.length c))
    (first|exact KQ.o _ (Ch.refl _ wf).drew|exact KQ.o _ ((Ch.refl _ wf).drew.trans N2.o.ch fun _ _ e=>e))
    (first|(go_at_call 50;refine AC.o.mono ?_;rintro e w2 ⟨rfl,Dt,L2,m2,n2⟩;have M2:=aA m2;have N2:=aA n2;clear m2 n2))
   have MB:=aA (H1.o.box hu OK.o.bl N2.o M2.o);have FN2:aY (qo Z w Dt w2):=(qo.bY BF.o.drew).trans (qo.Kq N2.o (by omega));clear KQ AC X7 KP KL;go_wp2_with fail;rw[<-Ej];exact⟨rfl,Dt,_,MB.o,FN2.o⟩
  ·simp only[if_true];generalize Ej:JD Z w b ns cs _=NW;go_enter func14,ntmps14;go_wp2_with (first
    |(go_at_call 46;(with_reducible refine C1.o.mono ?_);rintro e w' ⟨rfl,rfl⟩)
    |(go_at_call 46;(with_reducible refine C2.o.mono ?_);rintro e w' ⟨rfl,rfl⟩)
    |(go_at_call 47;refine NOW.o.mono ?_;rintro e w' ⟨rfl,rfl⟩)
    |(go_at_call 48;refine CLS.o.mono ?_;rintro e w' ⟨rfl,rfl⟩))
   go_region_held3 (fun w'=>w'.cell? ⟨b,5,aj⟩=az (ay (az ⟨gb,0,aj⟩) ns.length cb)/\w'.cell? ⟨gb,u,aj⟩=az (au (az ⟨L.bx u,0,aj⟩))/\w'.cell? ⟨b,3,aj⟩=az (ay (az ⟨gr,0,aj⟩) f.aK.length cr)/\w'.cell? ⟨gr,vc,aj⟩=az (ah ag rm))
    (first|exact KP.o _ (aQ _ _).drew|exact KP.o _ BQ.o)
    (first|(go_at_call 49;refine(QC.o _ (aQ _ _).drew).mono ?_;rintro e wq ⟨vq,Q,rfl,hQ,ow,bq⟩;have OW:=aA ow;have HQ:=aA hQ;have BQ:aY (aN w.heap.size w wq):=(show aN w.heap.size w wq from⟨bq.os,bq.tape,bq.output,bq.size,bq.block⟩);obtain⟨qa,qc,rfl⟩:=dO ow;have d5:decide (rm<=(Q.length:Int))=false:=decide_eq_false (by have e:=congrArg oP hQ;rw[dE]at e;omega);have ll:=KL.o _ BQ.o;clear bq ow hQ))
   clear C1 C2 NOW CLS QC c2 c11 c14 d1 d2 d3 d4;obtain⟨kp1,kp2,kp3,kp4⟩:=KP.o _ BQ.o;go_wp2_with fail;obtain⟨wf,tu⟩:∃wf,wq.alloc (af #[ah ag ((f.last:Int)+1),ah ag u,ah ag v,ah ag vc,ah ag f.dm,ay a data.length c] 59)=wf:=⟨_,rfl⟩;rw[tu];have BF:aY (aN w.heap.size w wf):=by rw[<-tu];exact BQ.o.alloc BQ.o.size _
   have FB:aY (dh wf wq.heap.size 59 #[ah ag ((f.last:Int)+1),ah ag u,ah ag v,ah ag vc,ah ag f.dm,ay a data.length c]):=(by rw[<-tu];exact dh.new wq _ _);have H1:aY (gy (fr Z w.heap.size) wf.drew b ns cs f L):=(H.o.below BF.o).drew;have DT:iQ (fr Z w.heap.size) wf.drew data (ay a data.length c):=(IV.jD (Ch.bY (S:=fun _=>False) BF.o.drew) (fun _ hk=>gL hk) (fun _ q=>q.elim));have BX:=OK.o.box u hu;have AC:aY (bZ aH 50 #[au (az ⟨L.bx u,0,aj⟩),ah ag 1,.agg #[ah ag ((f.last:Int)+1),ah ag u,ah ag v,ah ag vc,ah ag f.dm,ay a data.length c]] wf.drew fun e w'=>e=ax (ah ag 0)/\yt (fr Z w.heap.size) (3+u) wf.drew (L.bx u) X' (L.Hw u) w'):=(by have h:=Fa 1 N ⟨(f.last:Int)+1,u,v,vc,f.dm,data⟩ (ay a data.length c) (fr Z w.heap.size) (3+u) wf.drew (L.bx u) _ _ (H1.o.bx u hu) (by omega) BX.1 (by omega) (by rw[BX.2.1,P2];omega) (by simp only;omega) (by rw[BX.2.2];simpa using vlt) DT;rw[hRA]at h;exact h);have KQ:aY (∀w2,Ch (fun k=>(fr Z w.heap.size k).1=3+u) wf w2->w2.cell? ⟨b,5,aj⟩=az (ay (az ⟨gb,0,aj⟩) ns.length cb)/\w2.cell? ⟨gb,u,aj⟩=az (au (az ⟨L.bx u,0,aj⟩))/\w2.cell? ⟨wq.heap.size,0,aj⟩=az (ah ag ((f.last:Int)+1))/\w2.cell? ⟨wq.heap.size,1,aj⟩=az (ah ag u)/\w2.cell? ⟨wq.heap.size,2,aj⟩=az (ah ag v)/\w2.cell? ⟨wq.heap.size,3,aj⟩=az (ah ag vc)/\w2.cell? ⟨wq.heap.size,4,aj⟩=az (ah ag f.dm)/\w2.cell? ⟨wq.heap.size,5,aj⟩=az (ay a data.length c)):=fun w2 h2=>(by obtain⟨k1,k2⟩:=X7.o wf BF.o w2 h2;have k3:dh w2 wq.heap.size 59 _:=FB.o.ch h2 fun q=>(by rw[lL BQ.o.size]at q;simp at q;omega);exact⟨k1,k2,k3.cell 0,k3.cell 1,k3.cell 2,k3.cell 3,k3.cell 4,k3.cell 5⟩);clear BX DT kp1 kp2 kp3 kp4 ll tu;go_region_held3 (fun w2=>w2.cell? ⟨b,5,aj⟩=az (ay (az ⟨gb,0,aj⟩) ns.length cb)/\w2.cell? ⟨gb,u,aj⟩=az (au (az ⟨L.bx u,0,aj⟩))/\w2.cell? ⟨wq.heap.size,0,aj⟩=az (ah ag ((f.last:Int)+1))/\w2.cell? ⟨wq.heap.size,1,aj⟩=az (ah ag u)/\w2.cell? ⟨wq.heap.size,2,aj⟩=az (ah ag v)/\w2.cell? ⟨wq.heap.size,3,aj⟩=az (ah ag vc)/\w2.cell? ⟨wq.heap.size,4,aj⟩=az (ah ag f.dm)/\w2.cell? ⟨wq.heap.size,5,aj⟩=az (ay a data.length c))
    (first|exact KQ.o _ (Ch.refl _ wf).drew|exact KQ.o _ ((Ch.refl _ wf).drew.trans N2.o.ch fun _ _ e=>e))
    (first|(go_at_call 50;refine AC.o.mono ?_;rintro e w2 ⟨rfl,Dt,L2,m2,n2⟩;have M2:=aA m2;have N2:=aA n2;clear m2 n2))
   have MB:=aA (H1.o.box hu OK.o.bl N2.o M2.o);have FN2:aY (qo Z w Dt w2):=(qo.bY BF.o.drew).trans (qo.Kq N2.o (by omega));clear KQ AC X7 KP KL;have c11:w2.cell? ⟨b,11,aj⟩=az (au (az ⟨L.bk,0,aj⟩)):=MB.o.xA;have IJ:=aA (abQ L.bk f.dm f.wM f.vH w2 MB.o.bk.1 (by omega) (by have:=OK.o.a0;omega) (by have:=OK.o.a0;omega) (by have:=OK.o.a1;omega) (by have:=OK.o.a1;omega));have AA:∀w3,Bk w3 L.bk f.dm (upX f.dm f.wM 1) (upY f.dm f.vH 1)->w2.grownBy w3 (az L.bk)->gy Dt w3 b ns cs {(f.iC f.dm 1)with boxes:=f.boxes.set u X'} {L with Hw:=fun j=>if j=u then L2 else L.Hw j}/\qo Dt w2 Dt w3:=fun w3 hb hg=>by
    have hc:Ch (· =L.bk) w2 w3:=⟨hg.os,hg.tape,hg.output,hg.size,fun k hk hn=>hg.block k hk fun q=>hn (by injection q)⟩;refine⟨MB.o.book hc (fun _ _=>rfl) ?_ ?_,⟨hc.mono fun k _ e=>?_,fun _ _=>rfl⟩⟩
    ·unfold upX upY at hb;unfold dx.iC;by_cases hm:(f.dm:Int)%2=0
     ·rw[if_pos hm,if_pos hm]at hb;rw[if_pos hm];exact hb
     ·rw[if_neg hm,if_neg hm]at hb;rw[if_neg hm];exact hb
    ·unfold dx.iC;split<;>rfl
    ·have:=MB.o.bk.2;simp only at this;rw[e,this];decide
   have AA:=aA AA;have SC:aY (∀w3,Bk w3 L.bk f.dm (upX f.dm f.wM 1) (upY f.dm f.vH 1)->w2.grownBy w3 (az L.bk)->w3.cell? ⟨b,14,aj⟩=az (ah ag f.last)/\w3.frozen? ⟨b,14,aj⟩=false/\(w3.setCell ⟨b,14,aj⟩ (ah ag ((f.last:Int)+1))).cell? ⟨b,14,aj⟩=az (ah ag ((f.last:Int)+1))/\FP Z w b ns cs {(f.iC f.dm 1)with boxes:=f.boxes.set u X',last:=f.last+1} (w3.setCell ⟨b,14,aj⟩ (ah ag ((f.last:Int)+1)))):=fun w3 hb hg=>by
    obtain⟨m3,n3⟩:=AA.o w3 hb hg;have wW:(f.iC (f.dm:Int) 1).last=f.last:=by unfold dx.iC;split<;>rfl
    have r3:=m3.root.1;have ch:Ch (· =b) w3 (w3.setCell ⟨b,14,aj⟩ (ah ag ((f.last:Int)+1))):=(Ch.refl (· =b) w3).setCell (p:=⟨b,14,aj⟩) (.inl rfl) _;have r4:=r3.jd 14 (ah ag ((f.last:Int)+1));refine⟨by have:=r3.cell 14;rw[this];simp[Bl,wW],r3.frozen 14,by have:=r4.cell 14;rw[this];simp[Bl],Dt,_,m3.azA ch (fun _ _=>rfl) ?_ ?_,(FN2.o.trans n3).trans ⟨ch.mono fun k _ e=>?_,fun _ _=>rfl⟩⟩
    ·have e:(Bl {(f.iC f.dm 1)with boxes:=f.boxes.set u X'} {L with Hw:=fun j=>if j=u then L2 else L.Hw j}).setIfInBounds 14 (ah ag ((f.last:Int)+1))=Bl {(f.iC f.dm 1)with boxes:=f.boxes.set u X',last:=f.last+1} {L with Hw:=fun j=>if j=u then L2 else L.Hw j}:=by
      unfold Bl;simp
     rw[<-e];exact r4
    ·rfl
    ·rw[e,m3.root.2];decide
   go_wp2_with (first|(go_at_call 51;refine IJ.o.mono ?_;rintro e w3 ⟨rfl,Pp,hg3⟩;obtain⟨s1,s2,s3,s4⟩:=SC.o w3 Pp hg3;have S4:=aA s4;clear s4 Pp hg3));rw[<-Ej]
   exact⟨rfl,S4.o⟩
end
section
open Go.RowKit Go.Maps
theorem Di{α:Type}[DecidableEq α]{C S:List α}(h:C.Nodup)(hs:∀x∈C,x∈S):C.length<=S.length:=by
 induction C generalizing S with
 |nil=>simp
 |cons a C ih=>rw[pV]at h;have h1:=ih (S:=S.erase a) h.2 fun x hx=>(List.mem_erase_of_ne (fun e=>h.1 (by rw[<-e];exact hx))).2 (hs x (dU _ hx));have h2:=List.length_erase_of_mem (hs a (dH ..));have h3:=List.length_pos_of_mem (hs a (dH ..));simp only[eQ];omega
theorem jo.tight{w:aG}{b n H:Nat}{M:Lit->Option aI}(h:jo w aH 3 b n M)(hk:∀l v,M l=az v->∃t:Nat,l=.int .i64 t/\t<=H):jo w aH 3 b (H+1) M:=by
 obtain⟨D,h,h2⟩:=h;have sz:size D<=H+1:=by
  obtain⟨es,hD,hpw,hkl⟩:=h.entries (int_keyed underlying3);subst hD;rw[size_eq];have nd:(es.map (·.1)).Nodup:=List.pairwise_map.2 hpw;have sub:∀l∈es.map (·.1),l∈(aO (H+1)).map fun t:Nat=>(Lit.int .i64 (t:Int)):=fun l hl=>by have e1:has (.map es) l=true:=(by rw[has_eq,iD];obtain⟨p,hp,rfl⟩:=gH.1 hl;exact⟨p,hp,kW (hkl p hp)⟩);rw[(h2 l).1]at e1;obtain⟨v,hv⟩:=Option.isSome_iff_exists.1 e1;obtain⟨t,rfl,ht⟩:=hk l v hv;exact gH.2 ⟨t,dJ.2 (by omega),rfl⟩
  have:=@Di Lit (fun a b=>qG _) _ _ nd sub;simpa using this
 obtain⟨es,clock,hb,F,hs,hD⟩:=h;refine⟨D,⟨es,clock,hb,F,?_,hD⟩,h2⟩;have e1:=sz;rw[hD,size_eq,length_sorted,dE,mV]at e1;exact e1
def jW(Z:Own)(w:aG)(b:Nat)(ns:List Nd)(cs:List Cb)(L:rY)(f':dx)(w':aG):Prop:=∃dN,gy dN w' b ns cs f' L/\qo Z w dN w'
def pJ(M:Lit->Option aI)(t:Nat):aI:=(M (.int .i64 (t:Nat))).getD (ay aj 0 0)
theorem Km{t u:Nat}:(Lit.int .i64 (t:Int))=.int .i64 (u:Int)↔t=u:=by
 constructor
 ·intro h;injection h with _ h;omega
 ·rintro rfl;rfl
theorem vG.put{α:Type}{w3:aG}{bm n due:Nat}{fl fl':Nat->List α}{P':Nat->aI->List α->Prop}{M:Lit->Option aI}{v':aI}(h3:∀l v,M l=az v->∃t:Nat,l=.int .i64 t/\t<=900000000)(h4:∀t,M (.int .i64 (t:Nat))=aj->fl t=[])(hd:due<=900000000)(om:jo w3 aH 3 bm n (tJ M (.int .i64 due) v'))(hp:P' due v' (fl' due))(ho:∀t,t≠due->fl' t=fl t)(h5:∀t v,t≠due->M (.int .i64 (t:Nat))=az v->P' t v (fl t)):vG w3 bm fl' P':=by
 have kl:uO (.int .i64 (due:Int)):=trivial;have p1:tJ M (.int .i64 due) v' (.int .i64 due)=az v':=by unfold tJ;rw[if_pos (kW kl)]
 have p2:∀l,l≠.int .i64 (due:Nat)->tJ M (.int .i64 due) v' l=M l:=fun l e=>by unfold tJ;rw[if_neg (by rw[lY kl];exact e)]
 have h3':∀l v,tJ M (.int .i64 due) v' l=az v->∃t:Nat,l=.int .i64 t/\t<=900000000:=fun l v hv=>by
  rcases yN (l=.int .i64 (due:Nat))with e|e
  ·exact⟨due,e,hd⟩
  ·rw[p2 l e]at hv;exact h3 l v hv
 refine⟨900000000+1,_,om.tight h3',by omega,h3',fun t ht=>?_,fun t v hv=>?_⟩
 ·by_cases e:t=due
  ·subst e;rw[p1]at ht;cases ht
  ·rw[p2 _ (fun q=>e (Km.1 q))]at ht;rw[ho t e];exact h4 t ht
 ·by_cases e:t=due
  ·subst e;rw[p1]at hv;injection hv with hv;subst hv;exact hp
  ·rw[p2 _ (fun q=>e (Km.1 q))]at hv;rw[ho t e];exact h5 t v e hv
theorem ku.cellOf{Z:Own}{w:aG}{t:dL}{T:Tg->Prop}{v:aI}{xs:List aI}{n g c i:Nat}(h:ku Z w t T v n xs)(e:v=ay (az ⟨g,0,aj⟩) n c)(hi:i<xs.length):w.cell? ⟨g,i,aj⟩=xs[i]?:=by obtain⟨g',c',e',k,_⟩:=h.at_ hi;rw[e]at e';injection e' with e1;injection e1 with e1;injection e1 with e1;subst e1;exact k
theorem ku.OJ{Z:Own}{w:aG}{t:dL}{T:Tg->Prop}{v:aI}{xs:List aI}{n:Nat}(h:ku Z w t T v n xs)(hi:0<xs.length):∃g c,v=ay (az ⟨g,0,aj⟩) n c:=by obtain⟨g,c,e,_⟩:=h.at_ hi;exact⟨g,c,e⟩
section
variable{Z:Own}{w:aG}{b:Nat}{ns:List Nd}{cs:List Cb}{f:dx}{L:rY}
theorem gy.ajJ(h:gy Z w b ns cs f L)(due:Nat):∃(n:Nat) (M:Lit->Option aI),jo w aH 3 L.ml n M/\n<=1000000000/\JM w (pJ M due) (f.lim due)/\(∀g,(pJ M due).ownBlock=az g->Z g=(2,6,due,0))/\(∀(w' w2 w3:aG) (o1:Obj) (x:Nat×Nat×Int) (v':aI),due<=900000000->aN w.heap.size w w'->w2.ownsRow 0 116 3 v' ((f.lim due).length+1) ((f.lim due).flatMap JB++JB x)->(w'.alloc o1).grownBy w2 (pJ M due).ownBlock->(v'.ownBlock=(pJ M due).ownBlock\/v'.ownBlock=az (w'.heap.size+1))->jo w3 aH 3 L.ml (n+1) (tJ M (.int .i64 due) v')->w2.grownBy w3 (az L.ml)->jW Z w b ns cs L {f with lim:=fun t=>if t=due then f.lim t++[x]else f.lim t} w3):=by
 obtain⟨⟨n,M,m1,m2,m3,m4,m5⟩,mT⟩:=h.lim;have YN:JM w (pJ M due) (f.lim due)/\∀g,(pJ M due).ownBlock=az g->Z g=(2,6,due,0):=by
  unfold pJ;cases hm:M (.int .i64 (due:Nat))with
  |none=>rw[m4 due hm];exact⟨dM w 0 _ _,fun g e=>by simp[dV]at e⟩
  |some v=>exact m5 due v hm
 refine⟨n,M,m1,m2,YN.1,YN.2,fun w' w2 w3 o1 x v' hd hb own gr loc om g3=>?_⟩;obtain⟨i1,i2⟩:=YN;have hc:Ch (fun k=>k=L.ml\/(pJ M due).ownBlock=az k) w w3:=(((Ch.bY (S:=fun k=>k=L.ml\/(pJ M due).ownBlock=az k) hb).alloc o1).grown gr fun g hg=>.inl (.inr hg)).grown g3 fun g hg=>.inl (.inl (by injection hg with hg;exact hg.symm));obtain⟨dN,QU⟩:∃dN:Own,dN=fun k=>if v'.ownBlock=az k then(2,6,due,0)else fr Z w.heap.size k:=⟨_,rfl⟩
 have he:∀k,k<w.heap.size->dN k=Z k:=fun k hk=>by
  rw[QU];simp only;by_cases e:v'.ownBlock=az k
  ·rw[if_pos e];rcases loc with q|q
   ·rw[q]at e;exact(i2 k e).symm
   ·rw[q]at e;injection e with e;have:=hb.size;omega
  ·rw[if_neg e,gL hk]
 have g:=h.Ra (fun k=>k=5\/k=6) hc he fun k s=>.inr (by
  rcases s with s|s
  ·rw[s,mT];exact⟨rfl,.inl rfl⟩
  ·rw[i2 k s];exact⟨rfl,.inr rfl⟩)
 have mlv:∀k,v'.ownBlock=az k->¬k=L.ml:=fun k e e2=>by
  subst e2;rcases loc with q|q
  ·rw[q]at e;have:=i2 _ e;rw[mT]at this;simp at this
  ·rw[q]at e;injection e with e;have:=m1.Uu;have:=hb.size;omega
 refine⟨dN,⟨⟨g.root (by decide),g.iP.1⟩,g.plan,g.aK,g.xH,g.La,g.bx,g.up (by decide),g.r0,g.r1,⟨g.bk (by decide),g.IE⟩,⟨g.fl (by decide) (by decide),g.ZL⟩,⟨?_,by rw[he _ m1.Uu];exact mT⟩,g.came (by decide),g.gone (by decide),g.lost (by decide)⟩,⟨hc.mono fun k _ s=>?_,he⟩⟩
 ·refine vG.put (M:=M) m3 m4 hd om ⟨?_,fun k hk=>?_⟩ (fun t e=>if_neg e) (fun t v e hv=>?_)
  ·have h1:=fO own ((Ch.refl (· =L.ml) w2).grown g3 fun g hg=>.inl (by injection hg with hg;exact hg.symm)) mlv;unfold JM;simp only[if_true,bV,eQ,jZ,fP,eO,List.flatMap_nil,jF];exact h1
  ·rw[QU];simp only;rw[if_pos hk]
  ·obtain⟨a1,a2⟩:=m5 t v hv;refine⟨fO a1 hc fun k hk s=>?_,fun k hk=>by rw[he _ (xg a1 k hk).2];exact a2 k hk⟩;have q1:=a2 k hk;rcases s with s|s
   ·rw[s,mT]at q1;simp at q1
   ·rw[i2 k s]at q1;simp at q1;exact e q1.symm
 ·rcases s with s|s
  ·rw[s,mT];decide
  ·rw[i2 k s];exact aC 2
theorem gy.axQ(h:gy Z w b ns cs f L)(due:Nat):∃(n:Nat) (M:Lit->Option aI) (Q:List ((Nat×Fm)×aI)),jo w aH 3 L.mf n M/\n<=1000000000/\Q.map (·.1)=f.fl due/\w.ownsRow 0 122 7 (pJ M due) Q.length (Q.flatMap Hy)/\(∀x∈Q,iQ Z w x.1.2.data x.2)/\(∀g,(pJ M due).ownBlock=az g->Z g=(2,4,due,0))/\(∀(w' w2 w3:aG) (o1:Obj) (x:Nat×Fm) (vx v':aI),due<=900000000->iQ Z w x.2.data vx->aN w.heap.size w w'->w2.ownsRow 0 122 7 v' (Q.length+1) (Q.flatMap Hy++Hy (x,vx))->(w'.alloc o1).grownBy w2 (pJ M due).ownBlock->(v'.ownBlock=(pJ M due).ownBlock\/v'.ownBlock=az (w'.heap.size+1))->jo w3 aH 3 L.mf (n+1) (tJ M (.int .i64 due) v')->w2.grownBy w3 (az L.mf)->jW Z w b ns cs L {f with fl:=fun t=>if t=due then f.fl t++[x]else f.fl t} w3):=by
 obtain⟨⟨n,M,m1,m2,m3,m4,m5⟩,mT⟩:=h.fl;have YN:NC Z w (pJ M due) (f.fl due)/\∀g,(pJ M due).ownBlock=az g->Z g=(2,4,due,0):=by
  unfold pJ;cases hm:M (.int .i64 (due:Nat))with
  |none=>rw[m4 due hm];exact⟨⟨[],rfl,dM w 0 _ _,fun x hx=>by cases hx⟩,fun g e=>by simp[dV]at e⟩
  |some v=>exact m5 due v hm
 obtain⟨⟨Q,q1,i1,q3⟩,i2⟩:=YN;refine⟨n,M,Q,m1,m2,q1,i1,q3,i2,fun w' w2 w3 o1 x vx v' hd hx hb own gr loc om g3=>?_⟩;have hc:Ch (fun k=>k=L.mf\/(pJ M due).ownBlock=az k) w w3:=(((Ch.bY (S:=fun k=>k=L.mf\/(pJ M due).ownBlock=az k) hb).alloc o1).grown gr fun g hg=>.inl (.inr hg)).grown g3 fun g hg=>.inl (.inl (by injection hg with hg;exact hg.symm));obtain⟨dN,QU⟩:∃dN:Own,dN=fun k=>if v'.ownBlock=az k then(2,4,due,0)else fr Z w.heap.size k:=⟨_,rfl⟩
 have he:∀k,k<w.heap.size->dN k=Z k:=fun k hk=>by
  rw[QU];simp only;by_cases e:v'.ownBlock=az k
  ·rw[if_pos e];rcases loc with q|q
   ·rw[q]at e;exact(i2 k e).symm
   ·rw[q]at e;injection e with e;have:=hb.size;omega
  ·rw[if_neg e,gL hk]
 have g:=h.Ra (fun k=>k=3\/k=4) hc he fun k s=>.inr (by
  rcases s with s|s
  ·rw[s,mT];exact⟨rfl,.inl rfl⟩
  ·rw[i2 k s];exact⟨rfl,.inr rfl⟩)
 have mlv:∀k,v'.ownBlock=az k->¬k=L.mf:=fun k e e2=>by
  subst e2;rcases loc with q|q
  ·rw[q]at e;have:=i2 _ e;rw[mT]at this;simp at this
  ·rw[q]at e;injection e with e;have:=m1.Uu;have:=hb.size;omega
 have s1:∀k,(k=L.mf\/(pJ M due).ownBlock=az k)->(Z k).1≠1:=fun k s=>by
  rcases s with s|s
  ·rw[s,mT];decide
  ·rw[i2 k s];simp
 refine⟨dN,⟨⟨g.root (by decide),g.iP.1⟩,g.plan,g.aK,g.xH,g.La,g.bx,g.up (by decide),g.r0,g.r1,⟨g.bk (by decide),g.IE⟩,⟨?_,by rw[he _ m1.Uu];exact mT⟩,⟨g.lim (by decide) (by decide),g.Kl⟩,g.came (by decide),g.gone (by decide),g.lost (by decide)⟩,⟨hc.mono fun k _ s=>?_,he⟩⟩
 ·refine vG.put (M:=M) m3 m4 hd om ⟨?_,fun k hk=>?_⟩ (fun t e=>if_neg e) (fun t v e hv=>?_)
  ·have h1:=fO own ((Ch.refl (· =L.mf) w2).grown g3 fun g hg=>.inl (by injection hg with hg;exact hg.symm)) mlv;refine⟨Q++[(x,vx)],by simp[q1],by simpa using h1,fun y hy=>?_⟩;rcases eZ.1 hy with hy|hy
   ·exact(q3 y hy).jD hc he s1
   ·rw[dz]at hy;subst hy;exact hx.jD hc he s1
  ·rw[QU];simp only;rw[if_pos hk]
  ·obtain⟨a1,a2⟩:=m5 t v hv;refine⟨a1.jD hc he s1 fun k hk s=>?_,fun k hk=>by rw[he _ (a1.lt k hk)];exact a2 k hk⟩;have q1:=a2 k hk;rcases s with s|s
   ·rw[s,mT]at q1;simp at q1
   ·rw[i2 k s]at q1;simp at q1;exact e q1.symm
 ·rcases s with s|s
  ·rw[s,mT];decide
  ·rw[i2 k s];exact aC 2
end
end
section
open Go.RowKit Go.Maps
attribute [local go_sem ↓] fJ fH
theorem FI(w:aG):(zeroValue 114).run aH w=.ok (ay aj 0 0) w:=by kernel_rfl
theorem Ja:(Tryz.prog.info? 116).map (fun i=>(i.zero,i.size,i.bytes))=az (az (.agg #[ah ag 0,ah ag 0,ah ag 0]),3,24):=by kernel_rfl
section
variable(ns:List Nd)(cs:List Cb)
def wX(f:dx)(c v:Nat):dx:=(aO v).foldl (fun f v=>f.Np ns cs c v) f
def sH(f:dx)(c:Nat):dx:=(aO c).foldl (fun f c=>if f.up.getD (c/2) false then(aO f.aK.length).foldl (fun f v=>f.Np ns cs c v) f else f) f
theorem Dq(f:dx)(c v:Nat):wX ns cs f c (v+1)=(wX ns cs f c v).Np ns cs c v:=by unfold wX;rw[dB,fZ];rfl
theorem Ba(f:dx)(c:Nat):sH ns cs f (c+1)=if(sH ns cs f c).up.getD (c/2) false then wX ns cs (sH ns cs f c) c (sH ns cs f c).aK.length else sH ns cs f c:=by unfold sH wX;rw[dB,fZ];rfl
theorem Js(f:dx)(c v:Nat):wX ns cs f c v={f with lim:=(wX ns cs f c v).lim}:=by
 induction v with
 |zero=>rfl
 |succ v ih=>rw[Dq];generalize wX ns cs f c v=g at *;rw[ih];rfl
theorem AZ(f:dx)(c:Nat):sH ns cs f c={f with lim:=(sH ns cs f c).lim}:=by
 induction c with
 |zero=>rfl
 |succ c ih=>
  rw[Ba];generalize sH ns cs f c=g at *;split
  ·rw[Js];generalize(wX ns cs g c g.aK.length).lim=l;rw[ih]
  ·exact ih
theorem Ga(l:List (List Int))(c v:Nat)(h:v<(l.getD c []).length):((l.getD c []).map fun x=>ah .i64 x)[v]?=az (ah ag (dR l c v)):=by unfold dR;generalize l.getD c []=r at *;rw[cO,dw h];simp[bJ,h]
theorem Sl(f:dx)(c v t:Nat):((wX ns cs f c v).lim t).length<=(f.lim t).length+v:=by
 induction v with
 |zero=>exact aC _
 |succ v ih=>
  rw[Dq];generalize wX ns cs f c v=g at *;unfold dx.Np;simp only;split
  ·rw[bV];simp only[eQ,jZ];omega
  ·omega
theorem Qu(f:dx)(c t:Nat)(hk:f.aK.length<=8):((sH ns cs f c).lim t).length<=(f.lim t).length+c*8:=by
 induction c with
 |zero=>exact aC _
 |succ c ih=>
  rw[Ba];have e:(sH ns cs f c).aK=f.aK:=by rw[AZ]
  rw[e];split
  ·have:=Sl ns cs (sH ns cs f c) c f.aK.length t;omega
  ·omega
end
def Xq(Z:Own)(w:aG)(b:Nat)(ns:List Nd)(cs:List Cb)(L:rY)(f:dx)(i:aI)(wr:aG):Prop:=∃c:Nat,c<=2*cs.length/\i=ah ag c/\jW Z w b ns cs L (sH ns cs f c) wr
def Xr(Z:Own)(w:aG)(b:Nat)(ns:List Nd)(cs:List Cb)(L:rY)(f:dx)(c:Nat)(i:aI)(wr:aG):Prop:=∃v:Nat,v<=f.aK.length/\i=ah ag v/\jW Z w b ns cs L (wX ns cs f c v) wr
theorem jW.below{Z:Own}{w w1 w2:aG}{b:Nat}{ns:List Nd}{cs:List Cb}{L:rY}{f:dx}(h:jW Z w b ns cs L f w1)(hb:aN w1.heap.size w1 w2):jW Z w b ns cs L f w2:=by obtain⟨dN,m,n⟩:=h;exact⟨_,m.below hb,n.trans (qo.bY hb)⟩
theorem jW.trans{Z vB:Own}{w w1 w2:aG}{b:Nat}{ns:List Nd}{cs:List Cb}{L:rY}{f:dx}(n:qo Z w vB w1)(h:jW vB w1 b ns cs L f w2):jW Z w b ns cs L f w2:=by obtain⟨dN,m,n'⟩:=h;exact⟨_,m,n.trans n'⟩
theorem abD(f:dx)(N:Nat)(b:Nat)(ns:List Nd)(cs:List Cb)(L:rY)(Z:Own)(w:aG)(h:gy Z w b ns cs f L)(hp:sS ns cs)(rR:dK ns cs f N)(hN:N<=800000000):bZ aH 57 #[pt b] w fun e w'=>e=ax (.tuple #[])/\jW Z w b ns cs L (f.tell ns cs) w':=by
 have PL:=aA hp;have OK:=aA rR;obtain⟨An,Ac,cn,cc,eN,eC,hIP,_,_⟩:=h.plan;have c1:w.cell? ⟨b,0+1,aj⟩=az (ay Ac cs.length cc):=by rw[<-eC];exact h.xA
 have SM:aY (∀(g:dx) (lm:Nat->List (Nat×Nat×Int)) (dN:Own) (w':aG),gy dN w' b ns cs {g with lim:=lm} L->QF w' b ns cs An Ac cn cc):=fun g lm dN w' m=>by obtain⟨An',Ac',cn',cc',e1,e2,hI,_,_⟩:=m.plan;rw[eN]at e1;rw[eC]at e2;injection e1 with a1 _ a2;injection e2 with a3 _ a4;subst a1;subst a2;subst a3;subst a4;exact⟨by rw[m.xA];show az L.vn=_;rw[eN],by rw[m.xA];show az L.vc=_;rw[eC],hI⟩
 have Lb:=hp.Lb;have H0:aY (jW Z w b ns cs L f w):=⟨Z,h,qo.refl _ _⟩;have ET:aY (f.tell ns cs=sH ns cs f (2*cs.length)):=rfl;have hN':=aA hN;have k0:0<f.aK.length:=by have:=rR.rl;have:=rR.k0;omega
 have kl:f.aK.length<=8:=by have:=rR.rl;have:=rR.k1;omega
 obtain⟨gr,cr,eR⟩:=h.aK.OJ (by simpa using k0);have q2:IntKind.i64.wrap ((2:Int)*(cs.length:Int))=2*(cs.length:Int):=fE _ (by omega);clear h hp rR hIP hN;unfold pt;go_enter func57,ntmps57;go_wp2_with fail;go_loopw [2,3,4,5,6,7,8,9,10,18,58] (fun _ _ _ _ _ _ _ _ _ i _ wr=>Xq Z w b ns cs L f i wr) (fun _ _ _ _ _ _ _ _ _ i _ _=>2*cs.length-(aJ i).toNat);case atStart=>exact⟨0,bS _,rfl,H0.o⟩
 case round=>
  obtain⟨c,hc,rfl,hP⟩:=hrel;have HP:=aA hP;clear hP;by_cases QA:c<2*cs.length
  ·obtain⟨F,hFd⟩:∃F,sH ns cs f c=F:=⟨_,rfl⟩;have hF:F={f with lim:=F.lim}:=by rw[<-hFd];exact AZ ns cs f c
   have FT:=aA (Ba ns cs f c);have TLN:aY (∀t,(F.lim t).length<=(f.lim t).length+c*8):=fun t=>(by rw[<-hFd];exact Qu ns cs f c t kl);rw[hFd]at HP FT;have FR:aY (F.aK=f.aK):=(by rw[aY,hF]);have FU:aY (F.up=f.up):=(by rw[aY,hF]);rw[FR.o,FU.o]at FT;have HFE:=aA hF;obtain⟨vB,m,n1⟩:=HP.o;have m':gy vB wr b ns cs {f with lim:=F.lim} L:=(by rw[<-hF];exact m);clear hF hFd;obtain⟨k,hk⟩:∃k,c/2=k:=⟨_,rfl⟩;have HK:=aA hk;rw[hk]at FT;have hi:k<cs.length:=(by omega);have S:=SM.o f F.lim vB wr m';have mu:ku vB wr 4 (PK 1 0) L.vu f.up.length (f.up.map fun x=>.bool x):=m'.up;have ul:=OK.o.up;obtain⟨gu,cu,eU⟩:=mu.OJ (by simp;omega);have u1:wr.cell? ⟨b,6,aj⟩=az (ay (az ⟨gu,0,aj⟩) cs.length cu):=(by rw[m'.xA];show az L.vu=_;rw[eU,ul]);have u2:wr.cell? ⟨gu,k,aj⟩=az (.bool (f.up.getD (k) false)):=(by rw[mu.cellOf eU (by simp;omega)];simp[bJ,ul,hi]);have dl:=PL.o.dl _ hi;obtain⟨bc,oc,ha,hbc,_,_,_,_,_,e4,_⟩:=mq S.plan.2 (k) hi;have c13:wr.cell? ⟨b,13,aj⟩=az (ah ag f.now):=m'.xA;have c1w:=S.c1;rw[ha]at c1w;clear ha;obtain⟨d,hd⟩:∃d:Nat,(cs.getD (k) gX).dl=(d:Int):=⟨(cs.getD (k) gX).dl.toNat,by omega⟩;have dT:(cs.getD (k) gX).dl.toNat=d:=(by omega);simp only at e4;rw[hd]at e4 dl;have hd2:(c:Int)/2=(k:Int):=(by omega);have hd0:(0:Int)<=(k:Int):=(by omega);have hd1:(k:Int)<(cs.length:Int):=(by omega);have hd3:(c:Int).tdiv 2=(k:Int):=(by rw[Int.tdiv_eq_ediv_of_nonneg (by omega)];exact hd2);have hd4:IntKind.i64.wrap (k:Int)=(k:Int):=fE _ (by omega);clear hk;have hc0:(0:Int)<=(c:Int):=(by omega);have hc1:(c:Int)<=100:=(by omega);have aIs:(c:Int)<2*(cs.length:Int):=(by omega);have nw:=OK.o.now;have hNN:=hN'.out;have q3:IntKind.i64.wrap ((f.now:Int)+(d:Int))=(f.now:Int)+(d:Int):=fE _ (by omega);have EN:=PL.o.ends QA;have PT:aY (∀X:Bx,X.bE=kQ (ns.getD (fM cs c).2.2.1 jk)->(fM cs c).2.2.2<X.bE):=fun X hX=>(by rw[hX];exact PL.o.Br EN.2.1 EN.2.2.2.1);have EC:aY (∀w',aN wr.heap.size wr w'->bZ aH 53 #[au (az ⟨b,0,aj⟩),ah ag c] w' (uB cs c w')):=fun w' hb=>Ci c b ns cs An Ac cn cc w' (S.below hb) PL.o QA;have K3:aY (∀w',aN wr.heap.size wr w'->w'.cell? ⟨b,3,aj⟩=az (ay (az ⟨gr,0,aj⟩) f.aK.length cr)):=fun w' hb=>(by have c3:wr.cell? ⟨b,3,aj⟩=az (ay (az ⟨gr,0,aj⟩) f.aK.length cr):=(by rw[m'.xA];show az L.vr=_;rw[eR]);exact(hb.cell (p:=⟨b,3,aj⟩) (aZ _ _ c3)).trans c3);have FZ:=EN.2.1;obtain⟨⟨ea,eb,u,p⟩,hE⟩:∃e,fM cs c=e:=⟨_,rfl⟩;unfold uB at EC;rw[hE]at PT EC FZ;simp only at PT EC FZ;have HE:=aA hE;have HD:=aA dT;clear EN hE S mu eU m m' ul dT hd;cases yD:f.up.getD (k) false with
   |false=>rw[yD]at u2 FT;have R:aY (Xq Z w b ns cs L f (ah ag ((c+1:Nat):Int)) wr):=⟨c+1,by omega,rfl,by rw[FT.o];exact HP.o⟩;clear yD EC K3 c13 e4 c1w;go_wp2_with fail;exact⟨by simpa using R.o,by simp[aJ];omega⟩
   |true=>
    rw[yD]at u2 FT;clear yD;have CC:aY (wr.cell? ⟨b,13,aj⟩=az (ah ag f.now)/\wr.cell? ⟨b,0+1,aj⟩=az (ay (az ⟨bc,oc,aj⟩) cs.length cc)/\wr.cell? ⟨bc,oc+k*6+4,aj⟩=az (ah ag (d:Int))):=⟨c13,c1w,e4⟩;go_wp2_with fail;go_region_held3 (fun w'=>w'.cell? ⟨b,13,aj⟩=az (ah ag f.now)/\w'.cell? ⟨b,0+1,aj⟩=az (ay (az ⟨bc,oc,aj⟩) cs.length cc)/\w'.cell? ⟨bc,oc+k*6+4,aj⟩=az (ah ag (d:Int)))
     (first|exact CC.o)
     (fail)
    clear c13 e4 c1w CC u1 u2;go_wp2_with (first|(go_at_call 53;refine(EC.o _ (aQ _ _).drew).mono ?_;rintro e w5 ⟨rfl,hb⟩;have B5:aY (aN wr.heap.size wr w5):=(show aN wr.heap.size wr w5 from⟨hb.os,hb.tape,hb.output,hb.size,hb.block⟩);have k3:=K3.o _ B5.o;clear hb));clear k3 K3 EC;have HP5:=aA (HP.o.below B5.o);clear HP n1;obtain⟨due,alY⟩:∃due:Nat,f.now+d=due:=⟨_,rfl⟩;have hdI:(f.now:Int)+(d:Int)=(due:Int):=by omega
    rw[hdI]at *;obtain⟨wz,rfl⟩:∃wz:aG,wz=wr:=⟨_,rfl⟩;go_loopw [8,9,10,58] (fun _ _ _ i w'=>Xr Z w b ns cs L F c i w') (fun _ _ _ i _=>f.aK.length-(aJ i).toNat);case atStart=>exact⟨0,bS _,rfl,HP5.o⟩
    case round=>
     obtain⟨v,hv,rfl,hP2⟩:=hrel;rw[FR.o]at hv;by_cases hvn:v<f.aK.length
     ·obtain⟨Dt,m2,n2⟩:=hP2;have N2:=aA n2;obtain⟨G,hGd⟩:∃G,wX ns cs F c v=G:=⟨_,rfl⟩;have hG:G={f with lim:=G.lim}:=(by rw[<-hGd,Js];generalize(wX ns cs F c v).lim=l;rw[HFE.o]);rw[hGd]at m2;have m3:gy Dt wr b ns cs {f with lim:=G.lim} L:=(by rw[<-hG];exact m2);obtain⟨n,M,om,hn,nm,tg,push⟩:=m2.ajJ due;have OM:=aA om;have HN:=aA hn;have NM:=aA nm;have TG:=aA tg;have PU:=aA push;clear om hn nm tg push;have MT:aY (Dt L.ml=(2,5,0,0)):=m2.lim.2;have LL:aY ((G.lim due).length<=810000000):=by
       have l1:=Sl ns cs F c v due;have l2:=TLN.o due;have l3:=OK.o.DV due;rw[hGd]at l1;rw[aY];omega
      have NI:(f.gone.getD c []).length=f.aK.length:=OK.o.gn.row c QA;have aqp:(f.came.getD u []).length=f.aK.length:=OK.o.cm.row u FZ;obtain⟨gg,cg,eG,kG,_,lG,tG⟩:=m3.gone.1.at_ (i:=c) (by simpa using QA);obtain⟨gi,ci,eI,kI,_,lI,tI⟩:=(m3.gone.2 c QA).at_ (i:=v) (by rw[dE];simp only;omega);obtain⟨gc,cg2,eC2,kC,_⟩:=m3.came.1.at_ (i:=u) (by simpa using FZ);obtain⟨gd,cd,eD,kD,_⟩:=(m3.came.2 u FZ).at_ (i:=v) (by rw[dE];simp only;omega);simp only at eG kG eI kI eC2 kC eD kD;rw[NI]at eI;rw[aqp]at eD;have kG':wr.cell? ⟨gg,c,aj⟩=az (ay (az ⟨gi,0,aj⟩) f.aK.length ci):=(by rw[kG,cO,dW QA,<-eI];rfl);have kC':wr.cell? ⟨gc,u,aj⟩=az (ay (az ⟨gd,0,aj⟩) f.aK.length cd):=(by rw[kC,cO,dW FZ,<-eD];rfl);have kI':wr.cell? ⟨gi,v,aj⟩=az (ah ag (dR f.gone c v)):=(by have h1:v<(f.gone.getD c []).length:=(by omega);rw[kI];exact Ga f.gone c v h1);have kD':wr.cell? ⟨gd,v,aj⟩=az (ah ag (dR f.came u v)):=(by have h1:v<(f.came.getD u []).length:=(by omega);rw[kD];exact Ga f.came u v h1);have kR:wr.cell? ⟨gr,v,aj⟩=az (ah ag (f.aK.getD v 0)):=(by have h1:ku Dt wr 3 never L.vr f.aK.length (f.aK.map fun x=>ah ag x):=m3.aK;rw[h1.cellOf eR (by simpa using hvn),cO];simp[bJ,hvn]);have c16:wr.cell? ⟨b,16,aj⟩=az (.map (az L.ml)):=m3.xA;have c17:wr.cell? ⟨b,17,aj⟩=az (ay (az ⟨gc,0,aj⟩) ns.length cg2):=(by rw[<-eC2];exact m3.xA);have c18:wr.cell? ⟨b,18,aj⟩=az (ay (az ⟨gg,0,aj⟩) (2*cs.length) cg):=(by rw[<-eG];exact m3.xA);have K12:aY (∀w',aN wr.heap.size wr w'->w'.cell? ⟨b,16,aj⟩=az (.map (az L.ml))/\w'.cell? ⟨b,18,aj⟩=az (ay (az ⟨gg,0,aj⟩) (2*cs.length) cg)/\w'.cell? ⟨gg,c,aj⟩=az (ay (az ⟨gi,0,aj⟩) f.aK.length ci)/\w'.cell? ⟨gi,v,aj⟩=az (ah ag (dR f.gone c v))):=fun w' hb=>
       ⟨(hb.cell (p:=⟨b,16,aj⟩) (aZ _ _ c16)).trans c16,(hb.cell (p:=⟨b,18,aj⟩) (aZ _ _ c18)).trans c18,(hb.cell (p:=⟨gg,c,aj⟩) (aZ _ _ kG')).trans kG',(hb.cell (p:=⟨gi,v,aj⟩) (aZ _ _ kI')).trans kI'⟩
      have TB:aY (Dt b=(2,0,0,0)/\never (Dt gg)/\PK 8 c (Dt gi)):=⟨m3.root.2,tG,tI⟩;have Uy:aY (b<wr.heap.size/\gg<wr.heap.size/\gi<wr.heap.size):=⟨m3.root.1.lt,lG,lI⟩;have S2:=SM.o f G.lim Dt wr m3;obtain⟨bn,on,hbn,_,_,_,e7,_⟩:=uQ S2.plan.1 u (by simpa using FZ);have c0w:=S2.c0;rw[hbn]at c0w;clear hbn;simp only at e7;obtain⟨gb,cb,eB,c5,Tv,tgb,lgb⟩:=m3.aex FZ;unfold pt at Tv;have KU:=OK.o.box u FZ;have rmb:=OK.o.rv (f.aK.getD v 0) (by simp[bJ,hvn]);have cmb:=OK.o.cv u v FZ hvn;have gnb:=OK.o.gv c v QA hvn;have hpb:=PT.o _ KU.2.1;have LIM:aY (∀w',aN wr.heap.size wr w'->bZ aH 100 #[au (az ⟨L.bx u,0,aj⟩),ah ag p,ah ag v] w' fun e w''=>e=ax (ah ag (dR (f.boxes.getD u default).gv p v).uH)/\aN w'.heap.size w' w''):=fun w' hb=>
       XK p v N _ (3+u) w' (L.bx u) _ _ ((m3.bx u FZ).below hb) KU.1 (by omega) hpb (by rw[KU.2.2];exact hvn)
      have lmb:0<=(dR (f.boxes.getD u default).gv p v).uH/\(dR (f.boxes.getD u default).gv p v).uH<=1000000000:=(by have h1:=KU.1.g p v hpb (by rw[KU.2.2];exact hvn);unfold Gv.uH;have:=h1.r0;have:=h1.r1;have:=h1.f0;have:=h1.f1;have:=h1.n1;omega);have G1:G.now=f.now:=(by rw[hG]);have G2:G.boxes=f.boxes:=(by rw[hG]);have G3:G.aK=f.aK:=(by rw[hG]);have G4:G.came=f.came:=(by rw[hG]);have G5:G.gone=f.gone:=(by rw[hG]);have TE0:aY (wX ns cs F c (v+1)={G with lim:=fun t=>if t=due then G.lim t++[(c,v,(if Am ns u then(dR (f.boxes.getD u default).gv p v).uH else f.aK.getD v 0+dR f.came u v)+dR f.gone c v)]else G.lim t}):=(by rw[aY,Dq,hGd];unfold dx.Np;rw[HE.o];simp only;rw[HK.o,HD.o,G1,G2,G3,G4,G5,alY]);unfold Am at TE0;obtain⟨la,lc,eL⟩:=dO NM.o;have EL:=aA eL;have u0:(0:Int)<=(u:Int):=(by omega);have u1:(u:Int)<(ns.length:Int):=(by omega);have v0:(0:Int)<=(v:Int):=(by omega);have v1:(v:Int)<(f.aK.length:Int):=(by omega);have axJ:due<=810000000:=(by omega);clear m2 m3 n2 eL kG kC kI kD S2 NI aqp tG lG tI lI hG hGd G1 G2 G3 G4 G5 KU hpb eB tgb lgb;generalize f.aK.getD v 0=rm at *;generalize dR f.came u v=cmv at *;generalize dR f.gone c v=gv at *;generalize(dR (f.boxes.getD u default).gv p v).uH=lb at *;have q4:IntKind.i64.wrap (rm+cmv)=rm+cmv:=fE _ (by omega);cases hsw:(ns.getD u jk).sw with
      |true=>
       rw[hsw]at e7 TE0;obtain⟨lv,rfl⟩:∃lv,lv=lb:=⟨_,rfl⟩;have TE:aY (wX ns cs F c (v+1)={G with lim:=fun t=>if t=due then G.lim t++[(c,v,lv+gv)]else G.lim t}):=by rw[aY,TE0.o];simp
       have q5:IntKind.i64.wrap (lv+gv)=lv+gv:=fE _ (by omega);clear TE0;go_wp2_with (first|(go_at_call 100;refine(LIM.o _ (aQ _ _)).mono ?_;rintro e w3 ⟨rfl,hb⟩;have B3:aY (aN wr.heap.size wr w3):=(show aN wr.heap.size wr w3 from⟨hb.os,hb.tape,hb.output,hb.size,hb.block⟩);clear hb));clear LIM c16 c17 c18 kG' kC' kI' kD' kR c0w e7 c5 Tv;have OM3:aY (jo w3 aH 3 L.ml n M):=ni OM.o (Ch.bY (S:=fun _=>False) B3.o) (fun q=>q);have KS:aY (∀w',Ch (fun k=>(pJ M due).ownBlock=az k) w3 w'->w'.cell? ⟨b,16,aj⟩=az (.map (az L.ml))/\w'.cell? ⟨b,18,aj⟩=az (ay (az ⟨gg,0,aj⟩) (2*cs.length) cg)/\w'.cell? ⟨gg,c,aj⟩=az (ay (az ⟨gi,0,aj⟩) f.aK.length ci)/\w'.cell? ⟨gi,v,aj⟩=az (ah ag gv)/\(nJ 91 (.map (az L.ml)) (ah ag due) false).run aH w'=.ok (ay la (G.lim due).length lc) w'):=fun w' qg=>by
        obtain⟨k1,k2,k3,k4⟩:=K12.o w3 B3.o;have lt:∀k,k<wr.heap.size->k<w3.heap.size:=fun k hk=>bW hk B3.o.size;refine⟨(qg.cell (p:=⟨b,16,aj⟩) (lt _ (Uy.o).1) (fun q=>?_)).trans k1,(qg.cell (p:=⟨b,18,aj⟩) (lt _ (Uy.o).1) (fun q=>?_)).trans k2,(qg.cell (p:=⟨gg,c,aj⟩) (lt _ (Uy.o).2.1) (fun q=>?_)).trans k3,(qg.cell (p:=⟨gi,v,aj⟩) (lt _ (Uy.o).2.2) (fun q=>?_)).trans k4,?_⟩
        ·have q1:=TG.o _ q;rw[TB.o.1]at q1;simp at q1
        ·have q1:=TG.o _ q;rw[TB.o.1]at q1;simp at q1
        ·have q1:=TG.o _ q;have q2:=TB.o.2.1;unfold never at q2;rw[q1]at q2;simp at q2
        ·have q1:=TG.o _ q;have q2:=TB.o.2.2;unfold PK at q2;rw[q1]at q2;simp at q2
        ·have o:=ni OM3.o qg (fun q=>by have q1:=TG.o _ q;rw[MT.o]at q1;simp at q1);rw[<-EL.o];exact o.look (int_keyed underlying3) underlying91 (FI _) (keyOf_int_mk underlying3 (ny (due:Int) (by omega) (by omega)))
       have OW3:aY (w3.ownsRow 0 116 3 (ay la (G.lim due).length lc) (G.lim due).length ((G.lim due).flatMap JB)):=(by rw[<-EL.o];exact fO NM.o (Ch.bY (S:=fun _=>False) B3.o) (fun _ _ q=>q));obtain⟨j0,xI,zb,Ad,Ae⟩:=dX Ja;have RN:aY (Reads (w3.alloc (af #[ah ag c,ah ag v,ah ag (lv+gv)] 116)).drew (w3.heap.size+1) 3 (az ⟨w3.heap.size,0,aj⟩) 1 [ah ag c,ah ag v,ah ag (lv+gv)]):=(iB w3 116 [ah ag c,ah ag v,ah ag (lv+gv)] (n:=1) (size:=3) rfl).drew;have OW:aY ((w3.alloc (af #[ah ag c,ah ag v,ah ag (lv+gv)] 116)).drew.ownsRow 0 116 3 (ay la (G.lim due).length lc) (G.lim due).length ((G.lim due).flatMap JB)):=OW3.o.alloc (af #[ah ag c,ah ag v,ah ag (lv+gv)] 116);refine fQ 28 (fun w'=>w'.cell? ⟨b,16,aj⟩=az (.map (az L.ml))/\w'.cell? ⟨b,18,aj⟩=az (ay (az ⟨gg,0,aj⟩) (2*cs.length) cg)/\w'.cell? ⟨gg,c,aj⟩=az (ay (az ⟨gi,0,aj⟩) f.aK.length ci)/\w'.cell? ⟨gi,v,aj⟩=az (ah ag gv)/\(nJ 91 (.map (az L.ml)) (ah ag due) false).run aH w'=.ok (ay la (G.lim due).length lc) w') (by kernel_rfl) (KS.o _ (Ch.refl _ _).drew) (fun aW=>?_);refine bH.tk 0 aW ?_;try simp only[bI]
       refine bH.tk 1 aW ?_;try simp only[bI]
       refine bH.tk 2 aW ?_;try simp only[bI]
       refine bH.tk 3 aW ?_;try simp only[bI]
       refine bH.tk 4 aW ?_;try simp only[bI]
       refine bH.tk 5 aW ?_;try simp only[bI]
       refine bH.tk 6 aW ?_;try simp only[bI]
       refine bH.tk 7 aW ?_;try simp only[bI]
       refine bH.tk 8 aW ?_;try simp only[bI]
       refine bH.tk 9 aW ?_;try simp only[bI]
       refine bH.tk 10 aW ?_;try simp only[bI]
       refine bH.tk 11 aW ?_;try simp only[bI]
       refine bH.tk 12 aW ?_;try simp only[bI]
       refine bH.tk 13 aW ?_;try simp only[bI]
       refine bH.tk 14 aW ?_;try simp only[bI]
       refine bH.tk 15 aW ?_;try simp only[bI]
       refine bH.tk 16 aW ?_;try simp only[bI]
       refine bH.tk 17 aW ?_;try simp only[bI]
       refine bH.tk 18 aW ?_;try simp only[bI]
       refine bH.tk 19 aW ?_;try simp only[bI]
       refine bH.tk 20 aW ?_;try simp only[bI]
       refine bH.tk 21 aW ?_;try simp only[bI]
       refine bH.tk 22 aW ?_;try simp only[bI]
       refine bH.tk 23 aW ?_;try simp only[bI]
       refine bH.tk 24 aW ?_;try simp only[bI]
       refine bH.tk 25 aW ?_;try simp only[bI]
       refine bH.one (i:=26) (by kernel_rfl) rfl (fun K hK=>?_);go_simp;refine hK.out _ _ (fun _=>KS.o _ ((Ch.refl _ _).alloc _).drew) (fun bU=>?_);have aW:=bU (by decide);clear hK bU;try simp only[bI]
       refine bH.one (i:=27) (by kernel_rfl) rfl (fun K hK=>?_);refine fV _ (by rfl) (.tmp 104) (.tmp 120) 114 (by rfl) 0 116 j0 _ 3 24 underlying114 xI zb Ad Ae rfl (by decide) _ _ _ (by rfl) OW.o _ (az ⟨w3.heap.size,0,aj⟩) 1 1 [ah ag c,ah ag v,ah ag (lv+gv)] (by rfl) RN.o ?_ ?_ ?_ ?_ ?_
       ·intro u hu;simp only[dG,dP,or_false]at hu;rcases hu with rfl|rfl|rfl<;>rfl
       ·have:=LL.o;unfold fB;omega
       ·have:=LL.o;omega
       ·exact bS _
       intro v5 w5 uI zM Df;have Cj:(w3.alloc (af #[ah ag c,ah ag v,ah ag (lv+gv)] 116)).grownBy w5 (pJ M due).ownBlock:=by rw[EL.o];exact⟨zM.os,zM.tape,zM.output,zM.size,zM.block⟩
       have om5:jo w5 aH 3 L.ml n M:=(OM3.o.alloc _).kept Cj fun e=>(by have q1:=TG.o _ e.symm;rw[MT.o]at q1;simp at q1);obtain⟨w6,hrun,om6,g6⟩:=om5.store (t:=91) (int_keyed underlying3) underlying91 (by unfold fB;have:=HN.o;omega) (keyOf_int_mk underlying3 (ny (due:Int) (by omega) (by omega))) v5;have R:aY (Xr Z w b ns cs L F c (ah ag ((v+1:Nat):Int)) w6):=(by refine⟨v+1,by rw[FR.o];omega,rfl,?_⟩;rw[TE.o];exact jW.trans N2.o (PU.o w3 w5 w6 _ (c,v,lv+gv) v5 (by omega) B3.o (by simpa[JB]using uI) Cj (by rw[EL.o];simpa using Df) om6 g6));have k16:=KS.o w5 ((((Ch.refl _ w3).alloc _).grown Cj fun g hg=>.inl hg));clear uI zM Cj Df om5 om6 g6;refine hK.out _ _ (fun _=>k16) (fun bU=>?_);have aW:=bU (by decide);clear hK bU;try simp only[bI]
       clear k16;refine bH.one (i:=28) (by kernel_rfl) rfl (fun K hK=>?_);go_simp;refine hK.out _ _ (fun h=>absurd rfl h) (fun _=>?_);clear hK;refine bH.done (by kernel_rfl) ?_ _;try simp only[bI]
       go_wp2_with fail;exact⟨by simpa using R.o,by simp[aJ];omega⟩
      |false=>
       rw[hsw]at e7 TE0;obtain⟨lv,hlv⟩:∃lv,rm+cmv=lv:=⟨_,rfl⟩;have TE:aY (wX ns cs F c (v+1)={G with lim:=fun t=>if t=due then G.lim t++[(c,v,lv+gv)]else G.lim t}):=by rw[aY,TE0.o];simp[hlv]
       have q5:IntKind.i64.wrap (lv+gv)=lv+gv:=fE _ (by omega);rw[hlv]at q4;clear TE0;go_wp2_with fail;clear LIM c16 c17 c18 kG' kC' kI' kD' kR c0w e7 c5 Tv;obtain⟨w3,zP⟩:∃w3:aG,w3=wr:=⟨_,rfl⟩;have B3:aY (aN wr.heap.size wr w3):=(by rw[zP];exact aQ _ _);rw[<-zP];clear zP;have OM3:aY (jo w3 aH 3 L.ml n M):=ni OM.o (Ch.bY (S:=fun _=>False) B3.o) (fun q=>q);have KS:aY (∀w',Ch (fun k=>(pJ M due).ownBlock=az k) w3 w'->w'.cell? ⟨b,16,aj⟩=az (.map (az L.ml))/\w'.cell? ⟨b,18,aj⟩=az (ay (az ⟨gg,0,aj⟩) (2*cs.length) cg)/\w'.cell? ⟨gg,c,aj⟩=az (ay (az ⟨gi,0,aj⟩) f.aK.length ci)/\w'.cell? ⟨gi,v,aj⟩=az (ah ag gv)/\(nJ 91 (.map (az L.ml)) (ah ag due) false).run aH w'=.ok (ay la (G.lim due).length lc) w'):=fun w' qg=>by
        obtain⟨k1,k2,k3,k4⟩:=K12.o w3 B3.o;have lt:∀k,k<wr.heap.size->k<w3.heap.size:=fun k hk=>bW hk B3.o.size;refine⟨(qg.cell (p:=⟨b,16,aj⟩) (lt _ (Uy.o).1) (fun q=>?_)).trans k1,(qg.cell (p:=⟨b,18,aj⟩) (lt _ (Uy.o).1) (fun q=>?_)).trans k2,(qg.cell (p:=⟨gg,c,aj⟩) (lt _ (Uy.o).2.1) (fun q=>?_)).trans k3,(qg.cell (p:=⟨gi,v,aj⟩) (lt _ (Uy.o).2.2) (fun q=>?_)).trans k4,?_⟩
        ·have q1:=TG.o _ q;rw[TB.o.1]at q1;simp at q1
        ·have q1:=TG.o _ q;rw[TB.o.1]at q1;simp at q1
        ·have q1:=TG.o _ q;have q2:=TB.o.2.1;unfold never at q2;rw[q1]at q2;simp at q2
        ·have q1:=TG.o _ q;have q2:=TB.o.2.2;unfold PK at q2;rw[q1]at q2;simp at q2
        ·have o:=ni OM3.o qg (fun q=>by have q1:=TG.o _ q;rw[MT.o]at q1;simp at q1);rw[<-EL.o];exact o.look (int_keyed underlying3) underlying91 (FI _) (keyOf_int_mk underlying3 (ny (due:Int) (by omega) (by omega)))
       have OW3:aY (w3.ownsRow 0 116 3 (ay la (G.lim due).length lc) (G.lim due).length ((G.lim due).flatMap JB)):=(by rw[<-EL.o];exact fO NM.o (Ch.bY (S:=fun _=>False) B3.o) (fun _ _ q=>q));obtain⟨j0,xI,zb,Ad,Ae⟩:=dX Ja;have RN:aY (Reads (w3.alloc (af #[ah ag c,ah ag v,ah ag (lv+gv)] 116)).drew (w3.heap.size+1) 3 (az ⟨w3.heap.size,0,aj⟩) 1 [ah ag c,ah ag v,ah ag (lv+gv)]):=(iB w3 116 [ah ag c,ah ag v,ah ag (lv+gv)] (n:=1) (size:=3) rfl).drew;have OW:aY ((w3.alloc (af #[ah ag c,ah ag v,ah ag (lv+gv)] 116)).drew.ownsRow 0 116 3 (ay la (G.lim due).length lc) (G.lim due).length ((G.lim due).flatMap JB)):=OW3.o.alloc (af #[ah ag c,ah ag v,ah ag (lv+gv)] 116);refine fQ 28 (fun w'=>w'.cell? ⟨b,16,aj⟩=az (.map (az L.ml))/\w'.cell? ⟨b,18,aj⟩=az (ay (az ⟨gg,0,aj⟩) (2*cs.length) cg)/\w'.cell? ⟨gg,c,aj⟩=az (ay (az ⟨gi,0,aj⟩) f.aK.length ci)/\w'.cell? ⟨gi,v,aj⟩=az (ah ag gv)/\(nJ 91 (.map (az L.ml)) (ah ag due) false).run aH w'=.ok (ay la (G.lim due).length lc) w') (by kernel_rfl) (KS.o _ (Ch.refl _ _).drew) (fun aW=>?_);refine bH.tk 0 aW ?_;try simp only[bI]
       refine bH.tk 1 aW ?_;try simp only[bI]
       refine bH.tk 2 aW ?_;try simp only[bI]
       refine bH.tk 3 aW ?_;try simp only[bI]
       refine bH.tk 4 aW ?_;try simp only[bI]
       refine bH.tk 5 aW ?_;try simp only[bI]
       refine bH.tk 6 aW ?_;try simp only[bI]
       refine bH.tk 7 aW ?_;try simp only[bI]
       refine bH.tk 8 aW ?_;try simp only[bI]
       refine bH.tk 9 aW ?_;try simp only[bI]
       refine bH.tk 10 aW ?_;try simp only[bI]
       refine bH.tk 11 aW ?_;try simp only[bI]
       refine bH.tk 12 aW ?_;try simp only[bI]
       refine bH.tk 13 aW ?_;try simp only[bI]
       refine bH.tk 14 aW ?_;try simp only[bI]
       refine bH.tk 15 aW ?_;try simp only[bI]
       refine bH.tk 16 aW ?_;try simp only[bI]
       refine bH.tk 17 aW ?_;try simp only[bI]
       refine bH.tk 18 aW ?_;try simp only[bI]
       refine bH.tk 19 aW ?_;try simp only[bI]
       refine bH.tk 20 aW ?_;try simp only[bI]
       refine bH.tk 21 aW ?_;try simp only[bI]
       refine bH.tk 22 aW ?_;try simp only[bI]
       refine bH.tk 23 aW ?_;try simp only[bI]
       refine bH.tk 24 aW ?_;try simp only[bI]
       refine bH.tk 25 aW ?_;try simp only[bI]
       refine bH.one (i:=26) (by kernel_rfl) rfl (fun K hK=>?_);go_simp;refine hK.out _ _ (fun _=>KS.o _ ((Ch.refl _ _).alloc _).drew) (fun bU=>?_);have aW:=bU (by decide);clear hK bU;try simp only[bI]
       refine bH.one (i:=27) (by kernel_rfl) rfl (fun K hK=>?_);refine fV _ (by rfl) (.tmp 104) (.tmp 120) 114 (by rfl) 0 116 j0 _ 3 24 underlying114 xI zb Ad Ae rfl (by decide) _ _ _ (by rfl) OW.o _ (az ⟨w3.heap.size,0,aj⟩) 1 1 [ah ag c,ah ag v,ah ag (lv+gv)] (by rfl) RN.o ?_ ?_ ?_ ?_ ?_
       ·intro u hu;simp only[dG,dP,or_false]at hu;rcases hu with rfl|rfl|rfl<;>rfl
       ·have:=LL.o;unfold fB;omega
       ·have:=LL.o;omega
       ·exact bS _
       intro v5 w5 uI zM Df;have Cj:(w3.alloc (af #[ah ag c,ah ag v,ah ag (lv+gv)] 116)).grownBy w5 (pJ M due).ownBlock:=by rw[EL.o];exact⟨zM.os,zM.tape,zM.output,zM.size,zM.block⟩
       have om5:jo w5 aH 3 L.ml n M:=(OM3.o.alloc _).kept Cj fun e=>(by have q1:=TG.o _ e.symm;rw[MT.o]at q1;simp at q1);obtain⟨w6,hrun,om6,g6⟩:=om5.store (t:=91) (int_keyed underlying3) underlying91 (by unfold fB;have:=HN.o;omega) (keyOf_int_mk underlying3 (ny (due:Int) (by omega) (by omega))) v5;have R:aY (Xr Z w b ns cs L F c (ah ag ((v+1:Nat):Int)) w6):=(by refine⟨v+1,by rw[FR.o];omega,rfl,?_⟩;rw[TE.o];exact jW.trans N2.o (PU.o w3 w5 w6 _ (c,v,lv+gv) v5 (by omega) B3.o (by simpa[JB]using uI) Cj (by rw[EL.o];simpa using Df) om6 g6));have k16:=KS.o w5 ((((Ch.refl _ w3).alloc _).grown Cj fun g hg=>.inl hg));clear uI zM Cj Df om5 om6 g6;refine hK.out _ _ (fun _=>k16) (fun bU=>?_);have aW:=bU (by decide);clear hK bU;try simp only[bI]
       clear k16;refine bH.one (i:=28) (by kernel_rfl) rfl (fun K hK=>?_);go_simp;refine hK.out _ _ (fun h=>absurd rfl h) (fun _=>?_);clear hK;refine bH.done (by kernel_rfl) ?_ _;try simp only[bI]
       go_wp2_with fail;exact⟨by simpa using R.o,by simp[aJ];omega⟩
     ·obtain rfl:f.aK.length=v:=by omega
      have R:aY (Xq Z w b ns cs L f (ah ag ((c+1:Nat):Int)) wr):=⟨c+1,by omega,rfl,by rw[FT.o];exact hP2⟩;go_wp2_with fail;exact⟨by simpa using R.o,by simp[aJ];omega⟩
  ·have hce:c=2*cs.length:=by omega
   rw[hce,<-ET.o]at HP;have hx:¬(c:Int)<2*(cs.length:Int):=by omega
   have hx2:decide ((c:Int)<2*(cs.length:Int))=false:=decide_eq_false hx;clear hce QA hc;go_wp2_with fail;exact bodyPost_end (results_none rfl _ _ _) rfl ⟨rfl,HP.o⟩
end
section
open Go.RowKit Go.Maps
def Rf(ns:List Nd)(cs:List Cb)(f:dx)(x:Nat×Nat×Int):Prop:=x.1<2*cs.length/\x.2.1<f.aK.length/\0<=x.2.2/\x.2.2<=1000000000000000
section
variable{ns:List Nd}{cs:List Cb}{f:dx}{N:Nat}
theorem acM(h:dK ns cs f N)(hp:sS ns cs)(hN:N<=1000000000){lm:Nat->List (Nat×Nat×Int)}{c v:Nat}(hc:c<2*cs.length)(hv:v<f.aK.length)(hl:∀t x,x∈lm t->Rf ns cs f x):∀t x,x∈((dx.Np ns cs {f with lim:=lm} c v).lim t)->Rf ns cs f x:=by
 intro t x hx;unfold dx.Np at hx;simp only at hx;have EN:=hp.ends hc;have g1:=h.gv c v hc hv;have c1:=h.cv _ v EN.2.1 hv;have r1:=h.rv (f.aK.getD v 0) (by simp[bJ,hv]);have b1:=h.box _ EN.2.1;have pl:=hp.Br EN.2.1 EN.2.2.2.1;have lb:0<=(dR (f.boxes.getD (fM cs c).2.2.1 default).gv (fM cs c).2.2.2 v).uH/\(dR (f.boxes.getD (fM cs c).2.2.1 default).gv (fM cs c).2.2.2 v).uH<=2000000000:=by have h1:=b1.1.g (fM cs c).2.2.2 v (by rw[b1.2.1];exact pl) (by rw[b1.2.2];exact hv);unfold Gv.uH;have:=h1.r0;have:=h1.r1;have:=h1.f0;have:=h1.f1;have:=h1.n1;omega
 split at hx
 ·rcases eZ.1 hx with hx|hx
  ·exact hl t x hx
  ·rw[dz]at hx;subst hx;refine⟨hc,hv,?_,?_⟩
   ·show 0<=_+_;split<;>omega
   ·show _+_<=(1000000000000000:Int);split<;>omega
 ·exact hl t x hx
theorem acN(h:dK ns cs f N)(hp:sS ns cs)(hN:N<=1000000000){lm:Nat->List (Nat×Nat×Int)}{c v:Nat}(hc:c<2*cs.length)(hv:v<=f.aK.length)(hl:∀t x,x∈lm t->Rf ns cs f x):∀t x,x∈((wX ns cs {f with lim:=lm} c v).lim t)->Rf ns cs f x:=by
 induction v with
 |zero=>exact hl
 |succ v ih=>rw[Dq,Js];exact acM h hp hN hc (by omega) (ih (by omega))
theorem Zf(h:dK ns cs f N)(hp:sS ns cs)(hN:N<=1000000000){c:Nat}(hc:c<=2*cs.length):∀t x,x∈((sH ns cs f c).lim t)->Rf ns cs f x:=by
 induction c with
 |zero=>exact h.lim
 |succ c ih=>
  have ih:=ih (by omega);rw[Ba];have e:=AZ ns cs f c;generalize sH ns cs f c=g at *;split
  ·rw[e];exact acN h hp hN (by omega) (aC _) ih
  ·exact ih
theorem Gs(f:dx):f.tell ns cs={f with lim:=(f.tell ns cs).lim}:=AZ ns cs f (2*cs.length)
theorem aiA(h:dK ns cs f N)(hp:sS ns cs)(hN:N<=1000000000):dK ns cs (f.tell ns cs) (N+512):=by
 have k:=h.mono (show N<=N+512 by omega);have hl:∀t x,x∈(f.tell ns cs).lim t->Rf ns cs f x:=Zf h hp hN (aC _);have hn:∀t,((f.tell ns cs).lim t).length<=N+512:=fun t=>by have h1:=Qu ns cs f (2*cs.length) t (by have:=h.rl;have:=h.k1;omega);have h2:=h.DV t;have h3:=hp.Lb;show((sH ns cs f (2*cs.length)).lim t).length<=N+512;omega
 rw[Gs];generalize(f.tell ns cs).lim=lm at *;exact{k0:=k.k0,k1:=k.k1,rl:=k.rl,rv:=k.rv,bl:=k.bl,box:=k.box,q:=fun i p c x a b d e=>by have q:=k.q i p c x a b d e;exact⟨q.c0,q.c1,q.e0,q.e1,q.t0,q.t1,q.d⟩,up:=k.up,r0:=k.r0,r1:=k.r1,bn:=k.bn,a0:=k.a0,a1:=k.a1,now:=k.now,last:=k.last,ll:=k.ll,cm:=k.cm,cv:=k.cv,gn:=k.gn,gv:=k.gv,fl:=fun t x hx=>by have q:=k.fl t x hx;exact⟨q.1,q.2.c0,q.2.c1,q.2.e0,q.2.e1,q.2.t0,q.2.t1,q.2.d⟩,lim:=hl,DK:=k.DK,DV:=hn}
end
theorem Ny.jd{Z:Own}{w:aG}{k:Nat}{v:aI}{row:Nat->aI}{n:Nat}{l:List (List Int)}(h:Ny Z w k v row n l){i j g m c:Nat}(hi:i<n)(hl:l.length=n)(hj:j<(l.getD i []).length)(hm:(l.getD i []).length=m)(e:row i=ay (az ⟨g,0,aj⟩) m c)(x:Int):Ny Z (w.setCell ⟨g,j,aj⟩ (ah ag x)) k v row n (mW l i j x)/\Z g=(2,k,i,0)/\g<w.heap.size:=by
 obtain⟨h1,h2⟩:=h;subst hm;obtain⟨g',c',e',_,_,lg,tg⟩:=(h2 i hi).at_ (i:=j) (by simpa using hj);rw[e]at e';injection e' with e1;injection e1 with e1;injection e1 with e1;subst e1;unfold PK at tg;have hc:Ch (fun k=>k=g) w (w.setCell ⟨g,j,aj⟩ (ah ag x)):=(Ch.refl (fun k=>k=g) w).setCell (p:=⟨g,j,aj⟩) (.inl rfl) _;refine⟨⟨h1.jD hc (fun _ _=>rfl) fun q s=>?_,fun q hq=>?_⟩,tg,lg⟩
 ·rw[s,tg];unfold never;simp
 ·by_cases hqi:q=i
  ·subst hqi;have u:=(h2 q hq).jd (i:=j) (by simpa using hj) e (ah ag x);unfold mW;rw[iO _ _ _ (by omega),jG,vY];exact u
  ·have u:=(h2 q hq).jD hc (dN:=Z) (fun _ _=>rfl) fun p s=>by
    rw[s,tg];unfold PK;simp;exact fun q'=>hqi q'.symm
   unfold mW;rw[iG _ _ _ hqi];exact u
section
variable{Z:Own}{w:aG}{b:Nat}{ns:List Nd}{cs:List Cb}{f:dx}{L:rY}
theorem gy.ahp(h:gy Z w b ns cs f L){i j g m c:Nat}(hi:i<ns.length)(hl:f.came.length=ns.length)(hj:j<(f.came.getD i []).length)(hm:(f.came.getD i []).length=m)(e:L.cm i=ay (az ⟨g,0,aj⟩) m c)(x:Int):jW Z w b ns cs L {f with came:=mW f.came i j x} (w.setCell ⟨g,j,aj⟩ (ah ag x)):=by obtain⟨k1,tg,lg⟩:=h.came.jd hi hl hj hm e x;have hc:Ch (fun k=>k=g) w (w.setCell ⟨g,j,aj⟩ (ah ag x)):=(Ch.refl (fun k=>k=g) w).setCell (p:=⟨g,j,aj⟩) (.inl rfl) _;have g':=h.Ra (fun k=>k=7) (dN:=Z) hc (fun _ _=>rfl) fun k s=>.inr (by rw[s,tg];exact⟨rfl,rfl⟩);exact⟨Z,⟨⟨g'.root (by decide),g'.iP.1⟩,g'.plan,g'.aK,g'.xH,g'.La,g'.bx,g'.up (by decide),g'.r0,g'.r1,⟨g'.bk (by decide),g'.IE⟩,⟨g'.fl (by decide) (by decide),g'.ZL⟩,⟨g'.lim (by decide) (by decide),g'.Kl⟩,k1,g'.gone (by decide),g'.lost (by decide)⟩,⟨hc.mono fun k _ s=>by rw[s,tg];exact aC 2,fun _ _=>rfl⟩⟩
theorem gy.ahz(h:gy Z w b ns cs f L){i j g m c:Nat}(hi:i<2*cs.length)(hl:f.gone.length=2*cs.length)(hj:j<(f.gone.getD i []).length)(hm:(f.gone.getD i []).length=m)(e:L.gn i=ay (az ⟨g,0,aj⟩) m c)(x:Int):jW Z w b ns cs L {f with gone:=mW f.gone i j x} (w.setCell ⟨g,j,aj⟩ (ah ag x)):=by obtain⟨k1,tg,lg⟩:=h.gone.jd hi hl hj hm e x;have hc:Ch (fun k=>k=g) w (w.setCell ⟨g,j,aj⟩ (ah ag x)):=(Ch.refl (fun k=>k=g) w).setCell (p:=⟨g,j,aj⟩) (.inl rfl) _;have g':=h.Ra (fun k=>k=8) (dN:=Z) hc (fun _ _=>rfl) fun k s=>.inr (by rw[s,tg];exact⟨rfl,rfl⟩);exact⟨Z,⟨⟨g'.root (by decide),g'.iP.1⟩,g'.plan,g'.aK,g'.xH,g'.La,g'.bx,g'.up (by decide),g'.r0,g'.r1,⟨g'.bk (by decide),g'.IE⟩,⟨g'.fl (by decide) (by decide),g'.ZL⟩,⟨g'.lim (by decide) (by decide),g'.Kl⟩,g'.came (by decide),k1,g'.lost (by decide)⟩,⟨hc.mono fun k _ s=>by rw[s,tg];exact aC 2,fun _ _=>rfl⟩⟩
end
def Vo(M:Lit->Option aI)(k:Lit):Lit->Option aI:=fun l=>if l.sameKey k then aj else M l
theorem jo.drop{w:aG}{P:Program}{k t e:dL}{b n:Nat}{M:Lit->Option aI}(h:jo w P k b n M)(K:Keyed P k)(ht:P.underlying t=az (.map k e)){key:aI}{kl:Lit}(hkey:keyOf P k key=az kl)(ty:dL):∃w',(Du #[t,k] ty #[.map (az b),key]).run P w=.ok (.tuple #[]) w'/\jo w' P k b n (Vo M kl)/\w.grownBy w' (az b):=by
 obtain⟨D,h,h2⟩:=h;obtain⟨w',hrun,h3,hg⟩:=h.drop K ht hkey ty;refine⟨w',hrun,⟨_,h3,fun l=>?_⟩,hg.grown⟩;unfold Vo;rcases yN (l=kl)with hl|hl
 ·subst hl;rw[if_pos (kW (K.key hkey))];exact⟨by rw[has_del_same];rfl,fun z=>by rw[atKey_del_same];rfl⟩
 ·rw[if_neg (by rw[lY (K.key hkey)];exact hl)];exact⟨by rw[has_del_other hl];exact(h2 l).1,fun z=>by rw[atKey_del_other hl];exact(h2 l).2 z⟩
theorem vG.del{α:Type}{w3:aG}{bm n now:Nat}{fl:Nat->List α}{P':Nat->aI->List α->Prop}{M:Lit->Option aI}(hn:n<=1000000000)(h3:∀l v,M l=az v->∃t:Nat,l=.int .i64 t/\t<=900000000)(h4:∀t,M (.int .i64 (t:Nat))=aj->fl t=[])(om:jo w3 aH 3 bm n (Vo M (.int .i64 now)))(h5:∀t v,t≠now->M (.int .i64 (t:Nat))=az v->P' t v (fl t)):vG w3 bm (fun t=>if t=now then[]else fl t) P':=by
 have kl:uO (.int .i64 (now:Int)):=trivial;have p1:Vo M (.int .i64 now) (.int .i64 now)=aj:=by unfold Vo;rw[if_pos (kW kl)]
 have p2:∀l,l≠.int .i64 (now:Nat)->Vo M (.int .i64 now) l=M l:=fun l e=>by unfold Vo;rw[if_neg (by rw[lY kl];exact e)]
 refine⟨n,_,om,hn,fun l v hv=>?_,fun t ht=>?_,fun t v hv=>?_⟩
 ·rcases yN (l=.int .i64 (now:Nat))with e|e
  ·rw[e,p1]at hv;cases hv
  ·rw[p2 l e]at hv;exact h3 l v hv
 ·by_cases e:t=now
  ·exact if_pos e
  ·rw[p2 _ (fun q=>e (Km.1 q))]at ht;show(if t=now then[]else fl t)=[];rw[if_neg e];exact h4 t ht
 ·by_cases e:t=now
  ·subst e;rw[p1]at hv;cases hv
  ·rw[p2 _ (fun q=>e (Km.1 q))]at hv;show P' t v (if t=now then[]else fl t);rw[if_neg e];exact h5 t v e hv
section
variable{Z:Own}{w:aG}{b:Nat}{ns:List Nd}{cs:List Cb}{f:dx}{L:rY}
theorem gy.YD(h:gy Z w b ns cs f L)(now:Nat)(hn:now<=900000000)(ty:dL):∃w',(Du #[91,3] ty #[.map (az L.ml),ah ag now]).run aH w=.ok (.tuple #[]) w'/\jW Z w b ns cs L {f with lim:=fun t=>if t=now then[]else f.lim t} w':=by
 obtain⟨⟨n,M,m1,m2,m3,m4,m5⟩,mT⟩:=h.lim;obtain⟨w',hrun,om,g3⟩:=m1.drop (int_keyed underlying3) underlying91 (keyOf_int_mk underlying3 (ny (now:Int) (by omega) (by omega))) ty;have hc:Ch (fun k=>k=L.ml) w w':=(Ch.refl (fun k=>k=L.ml) w).grown g3 fun g hg=>.inl (je hg).symm;have g:=h.Ra (fun k=>k=5) (dN:=Z) hc (fun _ _=>rfl) fun k s=>.inr (by rw[s,mT];exact⟨rfl,rfl⟩);refine⟨w',hrun,Z,⟨⟨g.root (by decide),g.iP.1⟩,g.plan,g.aK,g.xH,g.La,g.bx,g.up (by decide),g.r0,g.r1,⟨g.bk (by decide),g.IE⟩,⟨g.fl (by decide) (by decide),g.ZL⟩,⟨?_,mT⟩,g.came (by decide),g.gone (by decide),g.lost (by decide)⟩,⟨hc.mono fun k _ s=>?_,fun _ _=>rfl⟩⟩
 ·refine vG.del (M:=M) m2 m3 m4 om fun t v e hv=>?_;obtain⟨a1,a2⟩:=m5 t v hv;refine⟨fO a1 hc fun k hk s=>?_,fun k hk=>a2 k hk⟩;have q1:=a2 k hk;rw[s,mT]at q1;simp at q1
 ·rw[s,mT];decide
end
end
section
open Go.RowKit Go.Maps
attribute [local go_sem ↓] fJ fH
theorem Uq.toS{Z:Own}{w:aG}{b q:Nat}{ns:List Nd}{vn vf:aI}{r:Rt}(h:Uq Z w ns vn vf r){node port kU:Nat}(hn:node<ns.length)(hpo:port<fw (ns.getD node jk))(ht:kU<ns.length)(c7:w.cell? ⟨b,7+q*2,aj⟩=az vn)(c8:w.cell? ⟨b,7+q*2+1,aj⟩=az vf):RtS w b q ns.length (fw (ns.getD node jk)) node port kU r:=by
 obtain⟨V,⟨a0,cap,e,h0⟩,hV⟩:=h.nx;obtain⟨U,hu,hU⟩:=h.fl;have ln:((aO ns.length).flatMap fun i=>[V i 0,V i 1]).length=ns.length*2:=by
  induction ns.length with
  |zero=>rfl
  |succ n ih=>rw[dB,fP,bV,ih];simp;omega
 obtain⟨g,C,rfl,hb,_,hx⟩:=h0 (by omega);refine⟨⟨g,cap,V node,by rw[c7,e],fun p hp=>?_,fun p hp=>?_⟩,?_⟩
 ·rw[hb.cell,hx _ (by omega),yf (d:=0) (m:=2) (c:=fun i=>[V i 0,V i 1]) (fun _=>rfl) _ node p (by simpa using hn) hp];have e2:(aO ns.length).getD node 0=node:=by simp[bJ,hn]
  rw[e2];rcases(show p=0\/p=1 by omega)with rfl|rfl<;>rfl
 ·obtain⟨g2,c2,e2,k2,_⟩:=(hV node hn p hp).at_ (i:=kU) (by simpa using ht);exact⟨g2,c2,e2,by rw[k2];simp[ht]⟩
 ·obtain⟨g,c,e1,k1,_⟩:=hu.at_ (i:=node) (by simpa using hn);obtain⟨g2,c2,e2,k2,_⟩:=(hU node hn).at_ (i:=port) (by simpa using hpo);exact⟨g,c,g2,c2,by rw[c8,e1],by rw[k1,<-e2];simp[hn],by rw[k2,cO,dW hpo];rfl⟩
section
variable{Z:Own}{w:aG}{b:Nat}{ns:List Nd}{cs:List Cb}{f:dx}{L:rY}{N:Nat}
theorem gy.rtS(h:gy Z w b ns cs f L){node port kU:Nat}{ep:Int}(hn:node<ns.length)(hpo:port<fw (ns.getD node jk))(ht:kU<ns.length)(h0:0<=ep)(h1:ep<=f.dm):RtS w b (ep.toNat%2) ns.length (fw (ns.getD node jk)) node port kU (f.rt ep):=by
 unfold dx.rt;by_cases hm:ep%2=0
 ·rw[if_pos hm,show ep.toNat%2=0 by omega];exact h.r0.toS hn hpo ht h.xA h.xA
 ·rw[if_neg hm,show ep.toNat%2=1 by omega];exact(h.r1 (by omega)).toS hn hpo ht h.xA h.xA
theorem gy.upS(h:gy Z w b ns cs f L)(hl:f.up.length=cs.length):∃gu cu,0<cs.length->w.cell? ⟨b,6,aj⟩=az (ay (az ⟨gu,0,aj⟩) cs.length cu)/\∀i,i<cs.length->w.cell? ⟨gu,i,aj⟩=az (.bool (f.up.getD i false)):=by
 by_cases h0:0<cs.length
 ·obtain⟨a,cap,e,hx⟩:=h.up;obtain⟨g,C,rfl,hb,_,hx⟩:=hx (by simp;omega);refine⟨g,cap,fun _=>⟨by rw[h.xA (i:=6)];show az L.vu=_;rw[e,hl],fun i hi=>?_⟩⟩;rw[hb.cell,hx i (by simp;omega)];simp[bJ,hl,hi]
 ·exact⟨0,0,fun q=>absurd q h0⟩
theorem afj(h:dK ns cs f N){x:Fm}{node port c:Nat}(hn:node<ns.length)(hx:vK ns f x)(hl:f.leave ns cs node port x=az c):c<2*cs.length:=by
 have hr:Ef ns cs (f.rt x.ep):=by
  unfold dx.rt;by_cases hm:x.ep%2=0
  ·rw[if_pos hm];exact h.r0
  ·rw[if_neg hm];exact h.r1 (by have:=hx.e0;have:=hx.e1;omega)
 have k:∀q,q<2->(f.rt x.ep).next node q x.kU.toNat<cs.length/\-2<=(f.rt x.ep).next node q x.kU.toNat:=fun q hq=>(hr node q x.kU.toNat hn hq (by have:=hx.t0;have:=hx.t1;omega)).1;unfold dx.leave at hl;simp only at hl;have k2:=k (if Am ns node&&(f.rt x.ep).sQ node port then 1 else 0) (by split<;>omega);generalize(if Am ns node&&(f.rt x.ep).sQ node port then 1 else 0)=ph at *;generalize(f.rt x.ep).next node ph x.kU.toNat=xH at *;by_cases h1:xH<0
 ·rw[if_pos h1]at hl;cases hl
 ·rw[if_neg h1]at hl;by_cases h2:f.up.getD xH.toNat false=true
  ·rw[if_pos h2]at hl;injection hl with hl;rw[<-hl];unfold iY;split<;>omega
  ·rw[if_neg h2]at hl;cases hl
def uZ(ns:List Nd)(cs:List Cb)(f:dx)(node port:Nat)(x:Fm):Option Nat:=(f.leave ns cs node port x).map fun c=>(fM cs c).2.1
theorem Yl(node p c1 c2:Nat)(x:Fm)(v:aI)(h:gy Z w b ns cs f L)(hp:sS ns cs)(rR:dK ns cs f N)(hn:node<ns.length)(hpo:p<fw (ns.getD node jk))(hx:vK ns f x)(hv:∃a n c,v=ay a n c)(h1:w.cell? ⟨c1,0,aj⟩=az (pt b))(h2:w.cell? ⟨c2,0,aj⟩=az (ah ag node)):bZ aH 98 #[ah ag p,MU x v,pt c1,pt c2] w fun e w'=>e=ax (ah ag (pQ (uZ ns cs f node p x)))/\aN w.heap.size w w':=by
 obtain⟨va,vn,vc,rfl⟩:=hv;obtain⟨An,Ac,cn,cc,hS⟩:=h.toS;obtain⟨gu,cu,hU⟩:=h.upS rR.up;have hr:Ef ns cs (f.rt x.ep):=by
  unfold dx.rt;by_cases hm:x.ep%2=0
  ·rw[if_pos hm];exact rR.r0
  ·rw[if_neg hm];exact rR.r1 (by have:=hx.e0;have:=hx.e1;omega)
 have t1:x.kU.toNat<ns.length:=by have:=hx.t0;have:=hx.t1;omega
 have LT:∀c,f.leave ns cs node p x=az c->c<2*cs.length:=fun c hc=>afj rR hn hx hc;obtain⟨w1,gK⟩:∃w1:aG,w.alloc (af #[ah ag x.id,ah ag x.jR,ah ag x.kU,ah ag x.cls,ah ag x.ep,ay va vn vc] 59)=w1:=⟨_,rfl⟩;have BW:aY (aN w.heap.size w w1):=by rw[<-gK];exact(aQ _ _).alloc (aC _) _
 have FB:dh w1 w.heap.size 59 #[ah ag x.id,ah ag x.jR,ah ag x.kU,ah ag x.cls,ah ag x.ep,ay va vn vc]:=by rw[<-gK];exact dh.new w _ _
 have f0:=FB.cell 0;have f1:=FB.cell 1;have f2:=FB.cell 2;have f3:=FB.cell 3;have f4:=FB.cell 4;have f5:=FB.cell 5;simp only[List.getElem?_toArray,dD,fC]at f0 f1 f2 f3 f4 f5;have S1:=hS.below BW.o;have M1:=h.below BW.o;have k1:w1.cell? ⟨c1,0,aj⟩=az (pt b):=(BW.o.cell (p:=⟨c1,0,aj⟩) (aZ _ _ h1)).trans h1;have k2:w1.cell? ⟨c2,0,aj⟩=az (ah ag node):=(BW.o.cell (p:=⟨c2,0,aj⟩) (aZ _ _ h2)).trans h2;have LV:=aA (Yj f node p b x (ay va vn vc) ns cs An Ac cn cc gu cu w1 S1 hp hn hpo hx.e0 hx.t0 hx.t1 (M1.rtS hn hpo t1 hx.e0 hx.e1) (fun q hq=>(hr node q _ hn hq t1).1) rR.up
  (fun h0=>⟨(BW.o.cell (p:=⟨b,6,aj⟩) (aZ _ _ (hU h0).1)).trans (hU h0).1,fun i hi=>(BW.o.cell (p:=⟨gu,i,aj⟩) (aZ _ _ ((hU h0).2 i hi))).trans ((hU h0).2 i hi)⟩) ⟨va,vn,vc,rfl⟩)
 have K1:aY (∀w2,aN w1.heap.size w1 w2->w2.cell? ⟨c1,0,aj⟩=az (au (az ⟨b,0,aj⟩))):=fun w2 hb=>(hb.cell (p:=⟨c1,0,aj⟩) (aZ _ _ k1)).trans k1;have EN:aY (∀c w2,c<2*cs.length->aN w1.heap.size w1 w2->bZ aH 53 #[au (az ⟨b,0,aj⟩),ah ag c] w2 (uB cs c w2)):=fun c w2 hc hb=>Ci c b ns cs An Ac cn cc w2 (S1.below hb) hp hc;have iZ:aY (∀w2,aN w1.heap.size w1 w2->aN w.heap.size w w2):=fun w2 hb=>BW.o.trans (hb.mono BW.o.size);clear S1 M1 hr t1 hU hS h hp rR h1 h2 FB hn hpo hx;obtain⟨xi,xf,xt,xc,xe,xd⟩:=x;unfold MU pt at *;unfold uZ;simp only at *;generalize f.leave ns cs node p ⟨xi,xf,xt,xc,xe,xd⟩=r at *;cases r with
 |none=>simp only[Option.map_none];have o1:pQ aj=-1:=rfl;rw[o1]at LV|-;go_enter func98,ntmps98;go_wp2_with (first|(go_at_call 66;(with_reducible refine LV.o.mono ?_);rintro e w2 ⟨rfl,hb⟩;have HB:=aA hb;clear hb));go_ret;exact⟨rfl,iZ.out _ HB.o⟩
 |some c=>
  simp only[Option.map_some];have o1:pQ (az c)=c:=rfl;have o2:pQ (az (fM cs c).2.1)=((fM cs c).2.1:Int):=rfl;rw[o1]at LV;rw[o2];have hc:=LT c rfl;have d1:decide ((c:Int)<0)=false:=decide_eq_false (by omega);clear LT;go_enter func98,ntmps98;go_wp2_with (first
   |(go_at_call 66;(with_reducible refine LV.o.mono ?_);rintro e w2 ⟨rfl,hb⟩;have HB:=aA hb;have kk:=K1.o _ hb;clear hb)
   |(go_at_call 53;refine(EN.o c w2 hc HB.o).mono ?_;rintro e w3 ⟨rfl,hb⟩;have HC:aY (aN w1.heap.size w1 w3):=HB.o.trans (hb.mono HB.o.size);clear hb))
  go_ret;exact⟨rfl,iZ.out _ HC.o⟩
end
end
section
open Go.RowKit Go.Maps
theorem nH{α:Type}{d:α}{m:Nat}{c:α->List aI}(hc:∀x,(c x).length=m){w:aG}{base:Nat}{e:dL}{n:Nat}{v:aI}{D:List α}(h:w.ownsRow base e m v n (D.flatMap c))(hn:D.length=n){i:Nat}(hi:i<n):∃g cap,v=ay (az ⟨g,0,aj⟩) n cap/\base<=g/\g<w.heap.size/\v.ownBlock=az g/\∀i,i<n->∀j,j<m->w.cell? ⟨g,i*m+j,aj⟩=(c (D.getD i d))[j]?:=by
 obtain⟨h1,⟨rfl,h2⟩|⟨g,cap,cur,rfl,hb,hg,_,_,_,ht⟩⟩:=h
 ·omega
 ·have hB:dh w g e cur:=hg;refine⟨g,cap,rfl,hb,hB.lt,rfl,fun i hi j hj=>?_⟩;have lt:i*m+j<n*m:=by
   have:(i+1)*m<=n*m:=Nat.mul_le_mul_right m (by omega);rw[Nat.succ_mul]at this;omega
  rw[hB.cell,<-pK,<-yf (d:=d) (m:=m) (c:=c) hc D i j (by omega) hj,<-ht,lX,if_pos lt]
theorem qo.cell{Z dN:Own}{w w':aG}(h:qo Z w dN w'){p:fA}(hl:p.block<w.heap.size)(ht:(Z p.block).1<2):w'.cell? p=w.cell? p:=h.ch.cell hl (by omega)
section
variable(ns:List Nd)(cs:List Cb)
def oO(f:dx)(n:Nat):dx:=(aO n).foldl (dx.qj ns cs) f
theorem KG(f:dx)(n:Nat):oO ns cs f (n+1)=(oO ns cs f n).qj ns cs n:=by unfold oO;rw[dB,fZ];rfl
end
def mv0:Mv:=(0,0,aj,default)
def uP(cs:List Cb)(u:Nat)(F0:dx)(ms:List Mv)(k:Nat):dx:=(ms.take k).foldl (dx.nR cs u) F0
theorem TY(cs:List Cb)(u:Nat)(F0:dx)(ms:List Mv){k:Nat}(hk:k<ms.length):uP cs u F0 ms (k+1)=(uP cs u F0 ms k).nR cs u (ms.getD k mv0):=by unfold uP;rw[ji mv0 ms k hk,fZ];rfl
theorem VZ(cs:List Cb)(u:Nat)(F0:dx)(ms:List Mv):uP cs u F0 ms ms.length=ms.foldl (dx.nR cs u) F0:=by unfold uP;rw[dY]
theorem Tr.outs{bz:Nat->Fm->Option Nat}{b b1:Bx}{ms:List Mv}(h:Tr bz b ms b1):∀m∈ms,∀k,m.2.2.1=az k->k<b.bE/\bz m.1 m.2.2.2=az k:=by
 induction h with
 |nil b=>exact fun m hm=>by cases hm
 |cons mi _ ih=>
  intro m hm k e;have d:=mi.QO;rcases dG.1 hm with q|q
  ·subst q;cases mi with
   |drop p c f l h1 h2 h3 h4=>cases e
   |move i c k' f l pt h1 h2 h3 h4 h5 h6 h7 h8=>injection e with e;subst e;exact⟨h3,h5⟩
  ·have:=ih m q k e;rw[d.1]at this;exact this
 |iU x hx _ ih=>exact fun m hm k e=>ih m hm k e
theorem Rs{cs:List Cb}{u k i:Nat}(h:mZ cs u k=az i):Ei cs u k=(i:Int):=by unfold Ei;rw[h];rfl
theorem Nj{ns:List Nd}{cs:List Cb}{f:dx}{N u p k:Nat}{x:Fm}(hp:sS ns cs)(h:dK ns cs f N)(hu:u<ns.length)(hx:vK ns f x)(hr:uZ ns cs f u p x=az k):∃i,mZ cs u k=az i/\i<cs.length/\((cs.getD i gX).a=(u:Int)\/(cs.getD i gX).b=(u:Int))/\k<fw (ns.getD u jk):=by
 unfold uZ at hr;cases hl:f.leave ns cs u p x with
 |none=>rw[hl]at hr;cases hr
 |some c=>
  rw[hl]at hr;injection hr with hr;have hr:(fM cs c).2.1=k:=hr;have hrt:Ef ns cs (f.rt x.ep):=by
   unfold dx.rt;by_cases hm:x.ep%2=0
   ·rw[if_pos hm];exact h.r0
   ·rw[if_neg hm];exact h.r1 (by have:=hx.e0;have:=hx.e1;omega)
  have key:∀q,q<2->_:=fun q hq=>hrt u q x.kU.toNat hu hq (by have:=hx.t0;have:=hx.t1;omega);unfold dx.leave at hl;simp only at hl;have k2:=key (if Am ns u&&(f.rt x.ep).sQ u p then 1 else 0) (by split<;>omega);generalize(if Am ns u&&(f.rt x.ep).sQ u p then 1 else 0)=ph at *;generalize(f.rt x.ep).next u ph x.kU.toNat=xH at *;by_cases h1:xH<0
  ·rw[if_pos h1]at hl;cases hl
  ·rw[if_neg h1]at hl;by_cases h2:f.up.getD xH.toNat false=true
   ·rw[if_pos h2]at hl;injection hl with hl;have hi:xH.toNat<cs.length:=(by have:=k2.1.1;omega);have ht:=k2.2 (by omega);obtain⟨c1,c2,c3⟩:=hp.chan hi ht;rw[hl]at c1 c2 c3;obtain⟨d1,d2⟩:=hp.AQ c1;rw[c3,c2,hr]at d1;have EN:=hp.ends c1;have pl:=hp.Br EN.1 EN.2.2.1;rw[c3,hr]at pl;exact⟨xH.toNat,d1,hi,ht,pl⟩
   ·rw[if_neg h2]at hl;cases hl
structure ZB(Z:Own)(w:aG)(ms:List Mv)(aM aF:Option fA):Prop where
 mv:∀k,k<ms.length->∃g,aM=az ⟨g,0,aj⟩/\(Z g).1<2/\g<w.heap.size/\∀j,j<3->w.cell? ⟨g,k*3+j,aj⟩=(cM (ms.getD k mv0))[j]?
 fr:∀k,k<ms.length->∃g v,aF=az ⟨g,0,aj⟩/\(Z g).1<2/\g<w.heap.size/\iQ Z w (ms.getD k mv0).2.2.2.data v/\∀j,j<6->w.cell? ⟨g,k*6+j,aj⟩=(Cx ((ms.getD k mv0).2.2.2,v))[j]?
theorem ZB.fnx{Z dN:Own}{w w':aG}{ms:List Mv}{aM aF:Option fA}(h:ZB Z w ms aM aF)(n:qo Z w dN w'):ZB dN w' ms aM aF where
 mv:=fun k hk=>by obtain⟨g,e,t,l,c⟩:=h.mv k hk;exact⟨g,e,by rw[n.ext _ l];exact t,bW l n.ch.size,fun j hj=>(n.cell (p:=⟨g,k*3+j,aj⟩) l t).trans (c j hj)⟩
 fr:=fun k hk=>by obtain⟨g,v,e,t,l,d,c⟩:=h.fr k hk;exact⟨g,v,e,by rw[n.ext _ l];exact t,bW l n.ch.size,d.jD n.ch n.ext (fun k s=>by omega),fun j hj=>(n.cell (p:=⟨g,k*6+j,aj⟩) l t).trans (c j hj)⟩
section
variable(ns:List Nd)(cs:List Cb)
def msF(F:dx)(u:Nat):List Mv:=((F.boxes.getD u default).step (uZ ns cs F u)).2
def alf(F:dx)(u:Nat):dx:={F with boxes:=F.boxes.set u ((F.boxes.getD u default).step (uZ ns cs F u)).1}
theorem afV(F:dx)(u:Nat):F.qj ns cs u=uP cs u (alf ns cs F u) (msF ns cs F u) (msF ns cs F u).length:=by rw[VZ];rfl
end
def aaJ(Z:Own)(w:aG)(b:Nat)(ns:List Nd)(cs:List Cb)(F:dx)(u:Nat)(L:rY)(e:iM)(w':aG):Prop:=
 ∃aM kM aF kF,e=ax (.tuple #[ay aM (msF ns cs F u).length kM,ay aF (msF ns cs F u).length kF])/\∃dN L',gy dN w' b ns cs (alf ns cs F u) L'/\qo Z w dN w'/\KV L L'/\ZB dN w' (msF ns cs F u) aM aF
theorem alG{b u N bF bN:Nat}{ns:List Nd}{cs:List Cb}{F:dx}{L:rY}{Z:Own}{w:aG}(m:gy Z w b ns cs F L)(hp:sS ns cs)(ok:dK ns cs F N)(hN:N<=999999999000)(hu:u<ns.length)(kF:w.cell? ⟨bF,0,aj⟩=az (pt b))(kN:w.cell? ⟨bN,0,aj⟩=az (ah ag u)):bZ aH 99 #[pt (L.bx u),.func (.func 98) #[] #[pt bF,pt bN]] w (aaJ Z w b ns cs F u L):=by
 have B:=ok.box u hu;have S:=aaR N (uZ ns cs F u) bF bN Z (3+u) w (L.bx u) (F.boxes.getD u default) (L.Hw u) (m.bx u hu) (by omega) B.1 hN
  (fun p x v w' hb hpX hq hv=>by
   obtain⟨c,hc,hx⟩:=hq;have hpo:p<fw (ns.getD u jk):=(by rw[YO,<-B.2.1];exact hpX);have hcc:c<F.aK.length:=(by rw[<-B.2.2];exact hc);exact Yl u p bF bN x v (m.below hb) hp ok hu hpo (ok.q u p c x hu hpo hcc hx) hv
    ((hb.cell (p:=⟨bF,0,aj⟩) (aZ _ _ kF)).trans kF) ((hb.cell (p:=⟨bN,0,aj⟩) (aZ _ _ kN)).trans kN))
 refine S.mono ?_;rintro e w3 ⟨vM,vF,Q,dN,LX,rfl,IQ,hnx,oM,oF,hq,hd,tM,tF⟩;obtain⟨aM,kM,eM⟩:=dO oM;have lq:Q.length=(msF ns cs F u).length:=by have:=congrArg oP hq;simpa[msF]using this
 rw[lq]at oF;obtain⟨aF,kF',eF⟩:=dO oF;refine⟨aM,kM,aF,kF',by rw[eM,eF];rfl,dN,_,m.box hu (by rw[ok.bl]) hnx IQ,qo.Kq hnx (by omega),⟨rfl⟩,⟨fun k hk=>?_,fun k hk=>?_⟩⟩
 ·obtain⟨g,cap,e1,hb,hl,ho,hc⟩:=nH (d:=mv0) Lv oM rfl hk;refine⟨g,?_,by rw[tM g ho];omega,hl,fun j hj=>hc k hk j hj⟩;rw[eM]at e1;injection e1
 ·obtain⟨g,cap,e1,hb,hl,ho,hc⟩:=nH (d:=((default:Fm),ay aj 0 0)) (c:=Cx) (m:=6) (fun _=>rfl) oF lq hk;have hk':k<Q.length:=by rw[lq];exact hk
  have eq1:(Q.getD k ((default:Fm),ay aj 0 0)).1=((msF ns cs F u).getD k mv0).2.2.2:=by have h1:(Q.map (·.1))[k]?=((msF ns cs F u).map (·.2.2.2))[k]?:=(by rw[hq];rfl);rw[cO,cO,dw hk',dw hk]at h1;simpa[bJ,hk,hk']using h1
  have hm:Q.getD k ((default:Fm),ay aj 0 0)∈Q:=by simp[bJ,hk']
  have hd1:=hd _ hm;refine⟨g,(Q.getD k ((default:Fm),ay aj 0 0)).2,?_,by rw[tF g ho];omega,hl,by rw[<-eq1];exact hd1,fun j hj=>?_⟩
  ·rw[eF]at e1;injection e1
  ·rw[<-eq1];exact hc k hk j hj
end
section
def De(x:Nat×Fm):Int:=x.1
theorem MP(n:Nat)(l:List (Nat×Fm)):oJ (n+1) l=oJ n l++l.filter (fun x=>x.1==n):=by unfold oJ;rw[dB,fP];simp
theorem xu{n:Nat}{l:List (Nat×Fm)}{x:Nat×Fm}(h:x∈oJ n l):x∈l/\x.1<n:=by
 unfold oJ at h;obtain⟨c,hc,h⟩:=List.mem_flatMap.1 h;rw[jH]at h;have e:x.1=c:=by simpa using h.2
 exact⟨h.1,by rw[e];exact dJ.1 hc⟩
theorem XQ(n:Nat)(l:List (Nat×Fm)):rA De (oJ n l):=by
 induction n with
 |zero=>exact sJ
 |succ n ih=>
  rw[MP];have key:∀x∈l.filter (fun x=>x.1==n),De x=(n:Int):=fun x hx=>by
   rw[jH]at hx;have e:x.1=n:=by simpa using hx.2
   unfold De;rw[e]
  refine rA.app.2 ⟨ih,?_,fun x hx y hy=>?_⟩
  ·unfold rA;exact List.Pairwise.imp_of_mem (R:=fun _ _=>True) (fun{a b} ha hb _=>by rw[key a ha,key b hb];exact Int.le_refl _) (List.pairwise_of_forall (fun _ _=>trivial))
  ·rw[key y hy];have:=(xu hx).2;unfold De;omega
theorem Bj(n:Nat)(l:List (Nat×Fm))(k:Int):(oJ n l).filter (fun x=>De x==k)=l.filter (fun x=>De x==k&&decide (x.1<n)):=by
 induction n with
 |zero=>
  have:l.filter (fun x=>De x==k&&decide (x.1<0))=[]:=by rw[jy];intro x _;simp
  rw[this];rfl
 |succ n ih=>
  rw[MP,ig,ih];by_cases e:k=(n:Int)
  ·subst e;have h1:l.filter (fun x=>De x==(n:Int)&&decide (x.1<n))=[]:=by
    rw[jy];intro x _;unfold De;simp only[cZ,beq_iff_eq,decide_eq_true_eq];omega
   rw[h1,List.nil_append,List.filter_filter];apply pW;intro x _;unfold De;rw[jE];simp only[cZ,beq_iff_eq,decide_eq_true_eq];omega
  ·have h1:(l.filter (fun x=>x.1==n)).filter (fun x=>De x==k)=[]:=by
    rw[jy];intro x hx;rw[jH]at hx;have q:x.1=n:=by simpa using hx.2
    unfold De;simp only[beq_iff_eq];omega
   rw[h1,jF];apply pW;intro x _;unfold De;rw[jE];simp only[cZ,beq_iff_eq,decide_eq_true_eq];omega
theorem aaU{n:Nat}{S l:List (Nat×Fm)}(hl:∀x∈l,x.1<n)(hs:rA De S)(hb:vS De l S):S=oJ n l:=by
 have e:vS De l (oJ n l):=fun k=>by rw[Bj];exact pW fun x hx=>by simp[hl x hx]
 exact vS.uniq hs (XQ n l) (hb.symm.trans e)
section
variable(ns:List Nd)(cs:List Cb)
def zG(f0:dx)(l:List (Nat×Fm))(k:Nat):dx×List Dl:=(l.take k).foldl (dx.gV ns cs) (f0,[])
theorem XE(f0:dx)(l:List (Nat×Fm)){k:Nat}(hk:k<l.length):zG ns cs f0 l (k+1)=dx.gV ns cs (zG ns cs f0 l k) (l.getD k (0,default)):=by unfold zG;rw[ji (0,default) l k hk,fZ];rfl
theorem XG(f:dx):f.jS ns cs=zG ns cs {f with fl:=fun t=>if t=f.now then[]else f.fl t} (oJ (2*cs.length) (f.fl f.now)) (oJ (2*cs.length) (f.fl f.now)).length:=by unfold zG;rw[dY];rfl
end
theorem dK.Tt{ns:List Nd}{cs:List Cb}(hp:sS ns cs):∀(l:List (Nat×Fm)) {s:dx×List Dl} {N:Nat},dK ns cs s.1 N->(∀x∈l,x.1<2*cs.length/\vK ns s.1 x.2)->dK ns cs (l.foldl (dx.gV ns cs) s).1 (N+2*l.length)/\(l.foldl (dx.gV ns cs) s).1.aK=s.1.aK/\(l.foldl (dx.gV ns cs) s).1.dm=s.1.dm/\(l.foldl (dx.gV ns cs) s).1.now=s.1.now
 |[],_,_,h,_=>⟨by simpa using h,rfl,rfl,rfl⟩
 |x::l,(f,D),N,h,hl=>by have k:=dK.gV h hp (hl x (dH ..)).1 (hl x (dH ..)).2 D;have r:=dK.Tt hp l k.1 fun y hy=>⟨(hl y (dU _ hy)).1,(hl y (dU _ hy)).2.yl k.2.1 (by rw[k.2.2.1];exact aC _)⟩;rw[fK];exact⟨r.1.mono (by rw[eQ];omega),r.2.1.trans k.2.1,r.2.2.1.trans k.2.2.1,r.2.2.2.trans k.2.2.2⟩
theorem XF(ns:List Nd)(cs:List Cb)(s:dx×List Dl)(x:Nat×Fm):(dx.gV ns cs s x).1.fl=s.1.fl/\(dx.gV ns cs s x).1.now=s.1.now:=by
 unfold dx.gV;dsimp only;split
 ·dsimp only;split
  ·exact⟨rfl,rfl⟩
  ·exact ZQ _ _
 ·obtain⟨_,_,_,_,_,_,_,_,h9,_,h11,_⟩:=Kv {s.1 with came:=mW s.1.came (fM cs x.1).2.2.1 x.2.cls.toNat (dR s.1.came (fM cs x.1).2.2.1 x.2.cls.toNat+1)} x.2.ep;exact⟨h11,h9⟩
theorem ZC(ns:List Nd)(cs:List Cb):∀(l:List (Nat×Fm)) (s:dx×List Dl),(l.foldl (dx.gV ns cs) s).1.fl=s.1.fl/\(l.foldl (dx.gV ns cs) s).1.now=s.1.now
 |[],s=>⟨rfl,rfl⟩
 |x::l,s=>by rw[fK];have h1:=ZC ns cs l (dx.gV ns cs s x);have h2:=XF ns cs s x;exact⟨h1.1.trans h2.1,h1.2.trans h2.2⟩
def dx.Ak(f:dx)(nr:Rt):dx:=if(f.dm+1)%2=0 then{f with kJ:=false,dm:=f.dm+1,NL:=nr}else{f with kJ:=false,dm:=f.dm+1,QB:=nr}
def dx.Cn(f:dx):dx:={f with now:=f.now+1}
def dx.mh(f:dx)(nr:Rt):dx:=if f.Cn.kJ&&f.Cn.lZ then f.Cn.Ak nr else f.Cn
def dx.mF(cs:List Cb)(f:dx):dx:=(f.lim f.now).foldl (dx.ma cs) f
def dx.yR(f:dx):dx:={f with lim:=fun t=>if t=f.now then[]else f.lim t}
theorem KH(ns:List Nd)(cs:List Cb)(f:dx)(nr:Rt):f.tick ns cs nr=((oO ns cs (((f.mh nr).mF cs).yR.jS ns cs).1 ns.length).tell ns cs,(((f.mh nr).mF cs).yR.jS ns cs).2):=rfl
section
variable{ns:List Nd}{cs:List Cb}{f:dx}{N:Nat}{nr:Rt}
theorem dK.Ep(h:dK ns cs f N)(hb:f.dm+1<=f.now)(hr:Ef ns cs nr):dK ns cs (f.Ak nr) N:=by
 have k:=h;unfold dx.Ak;split
 ·exact{
   k0:=k.k0,k1:=k.k1,rl:=k.rl,rv:=k.rv,bl:=k.bl,box:=k.box,q:=fun i p c x hi yI qg hx=>(k.q i p c x hi yI qg hx).yl rfl (vE _),up:=k.up,r0:=hr,r1:=fun _=>by rename_i e;exact k.r1 (by omega),bn:=hb,a0:=k.a0,a1:=k.a1,now:=k.now,last:=k.last,ll:=k.ll,cm:=k.cm,cv:=k.cv,gn:=k.gn,gv:=k.gv,fl:=fun t x hx=>⟨(k.fl t x hx).1,(k.fl t x hx).2.yl rfl (vE _)⟩,lim:=k.lim,DK:=k.DK,DV:=k.DV}
 ·exact{
   k0:=k.k0,k1:=k.k1,rl:=k.rl,rv:=k.rv,bl:=k.bl,box:=k.box,q:=fun i p c x hi yI qg hx=>(k.q i p c x hi yI qg hx).yl rfl (vE _),up:=k.up,r0:=k.r0,r1:=fun _=>hr,bn:=hb,a0:=k.a0,a1:=k.a1,now:=k.now,last:=k.last,ll:=k.ll,cm:=k.cm,cv:=k.cv,gn:=k.gn,gv:=k.gv,fl:=fun t x hx=>⟨(k.fl t x hx).1,(k.fl t x hx).2.yl rfl (vE _)⟩,lim:=k.lim,DK:=k.DK,DV:=k.DV}
theorem dK.beg(h:dK ns cs f N)(hr:Ef ns cs nr):dK ns cs (f.mh nr) (N+1):=by
 unfold dx.mh;have h1:dK ns cs f.Cn (N+1):=h.afw;split
 ·exact h1.Ep (by show f.dm+1<=f.now+1;have:=h.bn;omega) hr
 ·exact h1
theorem aei(f:dx)(nr:Rt):(f.Ak nr).fl=f.fl/\(f.Ak nr).now=f.now/\(f.Ak nr).lim=f.lim/\(f.Ak nr).aK=f.aK/\(f.Ak nr).boxes=f.boxes/\(f.Ak nr).up=f.up:=by unfold dx.Ak;split<;>exact⟨rfl,rfl,rfl,rfl,rfl,rfl⟩
theorem OO(f:dx)(nr:Rt):(f.mh nr).fl=f.fl/\(f.mh nr).now=f.now+1/\(f.mh nr).lim=f.lim/\(f.mh nr).aK=f.aK/\(f.mh nr).boxes=f.boxes/\(f.mh nr).up=f.up:=by
 unfold dx.mh;split
 ·exact aei f.Cn nr
 ·exact⟨rfl,rfl,rfl,rfl,rfl,rfl⟩
theorem Sd(cs:List Cb):∀(l:List (Nat×Nat×Int)) (f:dx),(l.foldl (dx.ma cs) f).fl=f.fl/\(l.foldl (dx.ma cs) f).lim=f.lim
 |[],f=>⟨rfl,rfl⟩
 |x::l,f=>by rw[fK];exact Sd cs l (dx.ma cs f x)
theorem dK.mF(h:dK ns cs f N)(hp:sS ns cs):dK ns cs (f.mF cs) N/\(f.mF cs).aK=f.aK/\(f.mF cs).dm=f.dm/\(f.mF cs).now=f.now:=
 dK.Mo hp _ h fun x hx=>⟨(h.lim _ x hx).1,(h.lim _ x hx).2.1⟩
theorem dK.mid(h:dK ns cs f N)(hp:sS ns cs)(hr:Ef ns cs nr):dK ns cs ((f.mh nr).mF cs).yR (N+1)/\((f.mh nr).mF cs).yR.now=f.now+1/\((f.mh nr).mF cs).yR.fl=f.fl:=by have h1:=(h.beg hr).mF hp;have h2:=h1.1.YD ((f.mh nr).mF cs).now;refine⟨h2,h1.2.2.2.trans (OO f nr).2.1,?_⟩;show((f.mh nr).mF cs).fl=f.fl;unfold dx.mF;rw[(Sd cs _ _).1,(OO f nr).1]
theorem Be.mid(h:Be cs f)(hp:sS ns cs){g:dx}(e1:g.fl=f.fl)(e2:g.now=f.now+1):Im cs (fun _=>True) g:=by
 refine⟨by rw[e1];exact h.nd,fun t x hx=>?_,fun t x hx _=>?_⟩
 ·rw[e1]at hx;have:=h.due t x hx;rw[e2];omega
 ·rw[e1]at hx;have:=h.due t x hx;rw[e2];omega
theorem dK.jS(h:dK ns cs f N)(hp:sS ns cs)(hnd:((f.fl f.now).map (·.1)).Nodup):dK ns cs (f.jS ns cs).1 (N+128)/\(f.jS ns cs).1.aK=f.aK/\(f.jS ns cs).1.dm=f.dm/\(f.jS ns cs).1.now=f.now:=by
 have hl:∀x∈oJ (2*cs.length) (f.fl f.now),x.1<2*cs.length/\vK ns f x.2:=fun x hx=>⟨(xu hx).2,(h.fl _ x (xu hx).1).2⟩;have r:=dK.Tt hp (oJ (2*cs.length) (f.fl f.now)) (s:=({f with fl:=fun t=>if t=f.now then[]else f.fl t},[])) (h.aeH f.now) fun x hx=>⟨(hl x hx).1,(hl x hx).2.yl rfl (aC _)⟩;have len:(oJ (2*cs.length) (f.fl f.now)).length<=64:=by
  have e1:vS De (f.fl f.now) (oJ (2*cs.length) (f.fl f.now)):=fun k=>by rw[Bj];exact pW fun x hx=>by simp[(h.fl _ x hx).1]
  rw[e1.length];have:=Di (S:=aO (2*cs.length)) hnd fun x hx=>by obtain⟨y,hy,rfl⟩:=gH.1 hx;exact dJ.2 (h.fl _ y hy).1
  have:=hp.Lb;simp only[dE,mO]at *;omega
 exact⟨r.1.mono (by omega),r.2⟩
theorem Im.jS(h:Im cs (fun _=>True) f):Im cs (fun _=>True) (f.jS ns cs).1:=by
 have e:=ZC ns cs (oJ (2*cs.length) (f.fl f.now)) ({f with fl:=fun t=>if t=f.now then[]else f.fl t},[]);have h2:Im cs (fun _=>True) ({f with fl:=fun t=>if t=f.now then[]else f.fl t}:dx):=by
  refine⟨fun t=>?_,fun t x hx=>?_,fun t x hx q=>?_⟩
  ·show((if t=f.now then[]else f.fl t).map (·.1)).Nodup;split
   ·exact List.nodup_nil
   ·exact h.nd t
  ·have hx:x∈(if t=f.now then[]else f.fl t):=hx;split at hx
   ·cases hx
   ·exact h.due t x hx
  ·have hx:x∈(if t=f.now then[]else f.fl t):=hx;split at hx
   ·cases hx
   ·exact h.lt t x hx q
 exact h2.same e.1 e.2
theorem Im.oO(hp:sS ns cs)(h:Im cs (fun _=>True) f)(rR:dK ns cs f N):∀n,n<=ns.length->Im cs (fun c=>n<=(fM cs c).1) (oO ns cs f n)
 |0,_=>h.mono fun _ _=>trivial
 |n+1,hn=>by
  rw[KG];have os:=dK.steps hp (aO n) rR fun x hx=>by have:=dJ.1 hx;omega
  exact Im.qj hp os.1 (by omega) (Im.oO hp h rR n (by omega))
theorem Sm(h:dK ns cs f N)(hf:Be cs f)(hp:sS ns cs)(hr:Ef ns cs nr)(hN:N<=700000000):dK ns cs (f.tick ns cs nr).1 (N+1000+ns.length*5000)/\Be cs (f.tick ns cs nr).1:=by rw[KH];obtain⟨m1,m2,m3⟩:=h.mid hp hr;have f1:=hf.mid hp m3 m2;have a1:=m1.jS hp (by rw[m3];exact hf.nd _);have f2:=f1.jS (ns:=ns);have s1:=dK.steps hp (aO ns.length) a1.1 fun x hx=>dJ.1 hx;rw[mO]at s1;have f3:=Im.oO hp f2 a1.1 ns.length (aC _);have n16:=hp.n16;have t1:=aiA s1.1 hp (by omega);refine⟨t1.mono (by omega),?_⟩;have e:=Gs (ns:=ns) (cs:=cs) (oO ns cs (((f.mh nr).mF cs).yR.jS ns cs).1 ns.length);rw[e];exact f3.azM.same rfl rfl
end
end
section
open Go.RowKit Go.Maps
attribute [local go_sem ↓] fJ fH
section
variable{f:dx}{b:Nat}{ns:List Nd}{cs:List Cb}{L:rY}{Z:Own}{w:aG}
theorem IG(h:gy Z w b ns cs f L):bZ aH 22 #[pt b] w fun e w'=>e=ax (ah ag f.dm)/\w=w':=by have NOW:=aA (Og L.bk f.dm f.wM f.vH w h.bk.1);have c11:w.cell? ⟨b,11,aj⟩=az (au (az ⟨L.bk,0,aj⟩)):=h.xA;clear h;unfold pt;go_enter func22,ntmps22;go_wp2_with (first|(go_at_call 47;refine NOW.o.mono ?_;rintro e w' ⟨rfl,rfl⟩));go_ret;exact⟨rfl,rfl⟩
def dx.Od(f:dx):Int:=if 0<f.dm then f.alive f.dm+f.alive ((f.dm:Int)-1)else f.alive f.dm
theorem Vw(h:gy Z w b ns cs f L)(hs:aeb f):bZ aH 18 #[pt b] w fun e w'=>e=ax (ah ag f.Od)/\w=w':=by
 have A0:=hs.a0;have A1:=hs.a1;have n1:=hs.n1;have NOW:=aA (Og L.bk f.dm f.wM f.vH w h.bk.1);have AL:=aA (xh L.bk f.dm f.wM f.vH f.dm w h.bk.1 (by omega) (by omega));have AM:=aA (xh L.bk f.dm f.wM f.vH ((f.dm:Int)-1) w h.bk.1 (by omega) (by omega));have c11:w.cell? ⟨b,11,aj⟩=az (au (az ⟨L.bk,0,aj⟩)):=h.xA;have bd:∀e,0<=f.alive e/\f.alive e<=1000000000:=fun e=>by
  unfold dx.alive;split
  ·omega
  ·split<;>omega
 have b1:=bd f.dm;have b2:=bd ((f.dm:Int)-1);rw[<-Cc]at AL AM;unfold dx.Od;generalize f.alive f.dm=x at *;generalize f.alive ((f.dm:Int)-1)=y at *;have q1:IntKind.i64.wrap (x+y)=x+y:=fE _ (by omega);have q2:IntKind.i64.wrap ((f.dm:Int)-1)=(f.dm:Int)-1:=fE _ (by omega);clear h hs bd A0 A1;unfold pt;by_cases h0:0<f.dm
 ·rw[if_pos h0];have h0':decide (0<(f.dm:Int))=true:=decide_eq_true (by omega);go_enter func18,ntmps18;go_wp2_with (first
   |(go_at_call 47;refine NOW.o.mono ?_;rintro e w' ⟨rfl,rfl⟩)
   |(go_at_call 61;(with_reducible refine AL.o.mono ?_);rintro e w' ⟨rfl,rfl⟩)
   |(go_at_call 61;(with_reducible refine AM.o.mono ?_);rintro e w' ⟨rfl,rfl⟩))
  go_ret;exact⟨rfl,rfl⟩
 ·rw[if_neg h0];have h0':decide (0<(f.dm:Int))=false:=decide_eq_false (by omega);go_enter func18,ntmps18;go_wp2_with (first
   |(go_at_call 47;refine NOW.o.mono ?_;rintro e w' ⟨rfl,rfl⟩)
   |(go_at_call 61;(with_reducible refine AL.o.mono ?_);rintro e w' ⟨rfl,rfl⟩))
  go_ret;exact⟨rfl,rfl⟩
def dx.yE(f:dx)(i:Int):dx×Int:=if i<0\/(f.up.length:Int)<=i then(f,2)else if f.up.getD i.toNat false then(f,0)else({f with up:=f.up.set i.toNat true,kJ:=true},0)
theorem gy.ajN(h:gy Z w b ns cs f L){i gu c:Nat}(hi:i<f.up.length)(u:Bool)(e:L.vu=ay (az ⟨gu,0,aj⟩) f.up.length c)(w1:aG)(hw:w1=w.setCell ⟨gu,i,aj⟩ (.bool u)):w1.frozen? ⟨b,12,aj⟩=false/\w1.cell? ⟨b,12,aj⟩=az (.bool f.kJ)/\jW Z w b ns cs L {f with up:=f.up.set i u,kJ:=true} (w1.setCell ⟨b,12,aj⟩ (.bool true)):=by
 obtain⟨g,c',e',_,_,_,tg⟩:=h.up.at_ (i:=i) (by simpa using hi);rw[e]at e';injection e' with e1;injection e1 with e1;injection e1 with e1;subst e1;unfold PK at tg;have c1:Ch (fun k=>k=gu) w w1:=by rw[hw];exact(Ch.refl (fun k=>k=gu) w).setCell (p:=⟨gu,i,aj⟩) (.inl rfl) _
 have nb:¬b=gu:=fun q=>by have:=h.root.2;rw[q,tg]at this;simp at this
 have b1:dh w1 b 100 (Bl f L):=h.root.1.ch c1 nb;have c2:Ch (fun k=>k=b\/k=gu) w (w1.setCell ⟨b,12,aj⟩ (.bool true)):=(c1.mono fun k _ q=>.inr q).setCell (p:=⟨b,12,aj⟩) (.inl (.inl rfl)) _;have b2:=b1.jd 12 (.bool true);have u1:=h.up.jd (i:=i) (by simpa using hi) e (.bool u);rw[<-hw]at u1;have u2:ku Z (w1.setCell ⟨b,12,aj⟩ (.bool true)) 4 (PK 1 0) L.vu f.up.length ((f.up.map fun x=>iN x).set i (.bool u)):=u1.jD (S:=fun k=>k=b) ((Ch.refl (fun k=>k=b) w1).setCell (p:=⟨b,12,aj⟩) (.inl rfl) _) (fun _ _=>rfl) fun k q=>by rw[q,h.root.2];unfold PK;simp
 have g:=h.Ra (fun k=>k=0\/k=1) (dN:=Z) c2 (fun _ _=>rfl) fun k s=>.inr (by
  rcases s with s|s
  ·rw[s,h.root.2];exact⟨rfl,.inl rfl⟩
  ·rw[s,tg];exact⟨rfl,.inr rfl⟩)
 refine⟨b1.frozen 12,by have:=b1.cell 12;rw[this];rfl,Z,⟨⟨b2,g.iP.1⟩,g.plan,g.aK,g.xH,g.La,g.bx,?_,g.r0,g.r1,⟨g.bk (by decide),g.IE⟩,⟨g.fl (by decide) (by decide),g.ZL⟩,⟨g.lim (by decide) (by decide),g.Kl⟩,g.came (by decide),g.gone (by decide),g.lost (by decide)⟩,⟨c2.mono fun k _ s=>?_,fun _ _=>rfl⟩⟩
 ·have e3:(f.up.set i u).map (fun x=>iN x)=(f.up.map fun x=>iN x).set i (.bool u):=by rw[vY]
  show ku Z _ 4 (PK 1 0) L.vu (f.up.set i u).length ((f.up.set i u).map fun x=>iN x);rw[e3,jG];exact u2
 ·rcases s with s|s
  ·rw[s,h.root.2];exact aC 2
  ·rw[s,tg];exact aC 2
theorem abB(i:Int)(h:gy Z w b ns cs f L)(hl:f.up.length<=32):bZ aH 17 #[pt b,ah ag i] w fun e w'=>e=ax (ah ag (f.yE i).2)/\jW Z w b ns cs L (f.yE i).1 w':=by
 have H:=aA h;have H0:aY (jW Z w b ns cs L f w):=⟨Z,h,qo.refl _ _⟩;obtain⟨a,cap,eU⟩:=h.up.form;have c6:w.cell? ⟨b,6,aj⟩=az (ay a f.up.length cap):=by rw[h.xA];show az L.vu=_;rw[eU]
 unfold pt;by_cases h1:i<0
 ·have E:f.yE i=(f,2):=by unfold dx.yE;rw[if_pos (.inl h1)]
  rw[E];have d1:decide (i<0)=true:=decide_eq_true h1;clear h E eU;go_enter func17,ntmps17;go_wp2_with fail;go_ret;exact⟨rfl,H0.o⟩
 ·have d1:decide (i<0)=false:=decide_eq_false h1;by_cases h2:(f.up.length:Int)<=i
  ·have E:f.yE i=(f,2):=by unfold dx.yE;rw[if_pos (.inr h2)]
   rw[E];have d2:decide ((f.up.length:Int)<=i)=true:=decide_eq_true h2;clear h E eU;go_enter func17,ntmps17;go_wp2_with fail;go_ret;exact⟨rfl,H0.o⟩
  ·obtain⟨k,rfl⟩:∃k:Nat,i=k:=⟨i.toNat,by omega⟩;have hk:k<f.up.length:=by omega
   have d2:decide ((f.up.length:Int)<=(k:Int))=false:=decide_eq_false h2;have E:f.yE (k:Int)=if f.up.getD k false then(f,0)else({f with up:=f.up.set k true,kJ:=true},0):=by unfold dx.yE;rw[if_neg (by omega)];rfl
   rw[E];obtain⟨gu,cu,eG⟩:=h.up.OJ (by simp;omega);have ck:w.cell? ⟨gu,k,aj⟩=az (.bool (f.up.getD k false)):=by rw[h.up.cellOf eG (by simpa using hk)];simp[bJ,hk]
   have fk:w.frozen? ⟨gu,k,aj⟩=false:=(by obtain⟨g',c',e',_,k5,_⟩:=h.up.at_ (i:=k) (by simpa using hk);rw[eG]at e';injection e' with e1;injection e1 with e1;injection e1 with e1;rw[e1];exact k5);clear c6;have c6:w.cell? ⟨b,6,aj⟩=az (ay (az ⟨gu,0,aj⟩) f.up.length cu):=(by rw[h.xA];show az L.vu=_;rw[eG]);obtain⟨w1,gK⟩:∃w1:aG,w.setCell ⟨gu,k,aj⟩ (.bool true)=w1:=⟨_,rfl⟩;obtain⟨m1,m2,m3⟩:=h.ajN hk true eG w1 gK.symm;have M3:=aA m3;have k0:(0:Int)<=(k:Int):=(by omega);have k1:(k:Int)<(f.up.length:Int):=(by omega);clear h E eU eG m3;cases yD:f.up.getD k false with
   |true=>rw[yD]at ck;simp only[if_true];go_enter func17,ntmps17;go_wp2_with fail;go_ret;exact⟨rfl,H0.o⟩
   |false=>rw[yD]at ck;simp only[jU,if_false];go_enter func17,ntmps17;go_wp2_with fail;go_ret;exact⟨rfl,M3.o⟩
end
end
section
def flW(μ:Fm->Nat)(B:Nat)(fl:Nat->List (Nat×Fm)):Nat:=sm (fun t=>sm (fun x=>μ x.2) (fl t)) (aO B)
def Gd(μ:Fm->Nat)(B:Nat)(f:dx)(H:List Fm):Nat:=sm (fun b:Bx=>qW μ b.q) f.boxes+flW μ B f.fl+sm μ H
def epI(e:Int)(x:Fm):Nat:=if x.ep=e then 1 else 0
structure Ac(B:Nat)(f:dx)(H ins outs:List Fm):Prop where
 acc:∀μ,Gd μ B f H+sm μ outs+sm μ f.lost=sm μ ins
 al:∀e:Int,f.alive e=(Gd (epI e) B f H:Nat)
 a1:f.dm=0->f.vH=0
theorem afK(f:dx)(e:Int):(f.rem e).boxes=f.boxes/\(f.rem e).fl=f.fl/\(f.rem e).dm=f.dm/\(f.rem e).lost=f.lost/\(f.rem e).now=f.now:=by
 unfold dx.rem dx.iC;split
 ·exact⟨rfl,rfl,rfl,rfl,rfl⟩
 ·split<;>exact⟨rfl,rfl,rfl,rfl,rfl⟩
theorem amU{f:dx}{e:Int}(h:f.alive e≠0)(e':Int):(f.rem e).alive e'=f.alive e'-(if e'=e then 1 else 0):=by
 have hb:=(afK f e).2.2.1;unfold dx.rem at hb|-;rw[if_neg h]at hb|-;unfold dx.alive at h|-;rw[hb];by_cases r:e<0\/(f.dm:Int)<e\/e<(f.dm:Int)-1
 ·rw[if_pos r]at h;exact absurd rfl h
 by_cases r':e'<0\/(f.dm:Int)<e'\/e'<(f.dm:Int)-1
 ·rw[if_pos r',if_pos r',if_neg (by rintro rfl;exact r r')];rfl
 ·rw[if_neg r',if_neg r'];unfold dx.iC;by_cases p:e%2=0
  ·by_cases p':e'%2=0
   ·rw[if_pos p,if_pos p',if_pos p',if_pos (by omega)];rfl
   ·rw[if_pos p,if_neg p',if_neg p',if_neg (by omega)];simp
  ·by_cases p':e'%2=0
   ·rw[if_neg p,if_pos p',if_pos p',if_neg (by omega)];simp
   ·rw[if_neg p,if_neg p',if_neg p',if_pos (by omega)];rfl
theorem aaa{f:dx}{e:Int}(h:f.dm=0):(f.rem e).vH=f.vH:=by
 unfold dx.rem;split
 ·rfl
 ·rename_i hz;unfold dx.alive at hz;split at hz
  ·exact absurd rfl hz
  ·unfold dx.iC;rw[if_pos (by omega)]
section
variable{ns:List Nd}{cs:List Cb}{f g:dx}{N B:Nat}{H ins outs:List Fm}{x:Fm}
theorem Fj(μ:Fm->Nat)(B:Nat)(f:dx)(x:Fm)(H:List Fm):Gd μ B f (x::H)=Gd μ B f H+μ x:=by unfold Gd;rw[lV];omega
theorem ahN(μ:Fm->Nat)(B:Nat)(f:dx)(G H:List Fm):Gd μ B f (G++H)=Gd μ B f H+sm μ G:=by unfold Gd;rw[oq];omega
theorem zQ{μ:Fm->Nat}(e1:g.boxes=f.boxes)(e2:g.fl=f.fl):Gd μ B g H=Gd μ B f H:=by unfold Gd;rw[e1,e2]
theorem Ac.yl{H' ajS:List Fm}(h:Ac B f H ins outs)(hw:∀μ,Gd μ B g H'=Gd μ B f H)(ho:∀μ,sm μ ajS=sm μ outs)(hl:g.lost=f.lost)(e1:g.wM=f.wM)(e2:g.vH=f.vH)(e3:g.dm=f.dm):Ac B g H' ins ajS where
 acc:=fun μ=>by rw[hw,ho,hl];exact h.acc μ
 al:=fun e=>by rw[hw];have:=h.al e;unfold dx.alive at this|-;rw[e1,e2,e3];exact this
 a1:=by rw[e2,e3];exact h.a1
theorem Ac.same{H':List Fm}(h:Ac B f H ins outs)(b1:g.boxes=f.boxes)(b2:g.fl=f.fl)(hl:g.lost=f.lost)(e1:g.wM=f.wM)(e2:g.vH=f.vH)(e3:g.dm=f.dm):Ac B g H ins outs:=
 h.yl (fun μ=>zQ b1 b2) (fun _=>rfl) hl e1 e2 e3
theorem Ac.perm{H':List Fm}(h:Ac B f H ins outs)(hp:H'.Perm H):Ac B f H' ins outs:=h.yl (fun μ=>by unfold Gd;rw[Uh hp]) (fun _=>rfl) rfl rfl rfl rfl
theorem Ac.ne0(h:Ac B f (x::H) ins outs):f.alive x.ep≠0:=by rw[h.al x.ep,Fj];have:epI x.ep x=1:=if_pos rfl;omega
theorem Ac.ast(h:Ac B f (x::H) ins outs)(e:Int):(f.rem x.ep).alive e=(Gd (epI e) B f H:Nat):=by
 rw[amU h.ne0 e,h.al e,Fj];unfold epI;by_cases q:e=x.ep
 ·rw[if_pos q,if_pos q.symm];omega
 ·rw[if_neg q,if_neg (iy q)];omega
theorem Ac.o(h:Ac B f (x::H) ins outs):Ac B (f.rem x.ep) H ins (outs++[x]):=by
 obtain⟨b1,b2,b3,b4,_⟩:=afK f x.ep;exact{
  acc:=fun μ=>by have:=h.acc μ;rw[Fj]at this;rw[zQ b1 b2,b4,oq,Jr];omega
  al:=fun e=>by rw[zQ b1 b2];exact h.ast e
  a1:=fun e=>by rw[b3]at e;rw[aaa e];exact h.a1 e}
theorem Ac.qQ(h:Ac B f (x::H) ins outs):Ac B (f.qQ x) H ins outs:=by
 obtain⟨b1,b2,b3,b4,_⟩:=afK f x.ep;exact{
  acc:=fun μ=>by have:=h.acc μ;rw[Fj]at this;have e1:Gd μ B (f.qQ x) H=Gd μ B f H:=zQ b1 b2;have e2:(f.qQ x).lost=f.lost++[x]:=(by show(f.rem x.ep).lost++[x]=_;rw[b4]);rw[e1,e2,oq,Jr];omega
  al:=fun e=>by have e1:Gd (epI e) B (f.qQ x) H=Gd (epI e) B f H:=zQ b1 b2;rw[e1];exact h.ast e
  a1:=fun e=>by have e:f.dm=0:=b3.symm.trans e;show(f.rem x.ep).vH=0;rw[aaa e];exact h.a1 e}
theorem Ac.box{H':List Fm}(h:Ac B f H ins outs){u:Nat}(hu:u<f.boxes.length)(X:Bx)(hq:∀μ,qW μ X.q+sm μ H'=qW μ (f.boxes.getD u default).q+sm μ H):Ac B {f with boxes:=f.boxes.set u X} H' ins outs:=
 h.yl (fun μ=>by unfold Gd;have h1:=Ui (fun b:Bx=>qW μ b.q) f.boxes hu X default;have h2:=hq μ;simp only at h1|-;omega) (fun _=>rfl) rfl rfl rfl rfl
theorem ZM(μ:Fm->Nat){due:Nat}(hB:due<B)(fl:Nat->List (Nat×Fm))(l:List (Nat×Fm)):flW μ B (fun t=>if t=due then l else fl t)+sm (fun x=>μ x.2) (fl due)=flW μ B fl+sm (fun x=>μ x.2) l:=by
 have:=Dn (fun t=>sm (fun x=>μ x.2) (fl t)) B due (sm (fun x=>μ x.2) l) hB;unfold flW;rw[<-this];congr 1;apply zX;intro t _;dsimp only;by_cases e:t=due
 ·rw[if_pos e,if_pos e]
 ·rw[if_neg e,if_neg e]
theorem aag(μ:Fm->Nat)(l:List (Nat×Fm)):sm (fun x=>μ x.2) l=sm μ (l.map (·.2)):=(afU μ (fun x:Nat×Fm=>x.2) l).symm
theorem Ac.take(h:Ac B f H ins outs){now:Nat}(hB:now<B):Ac B {f with fl:=fun t=>if t=now then[]else f.fl t} ((f.fl now).map (·.2)++H) ins outs:=
 h.yl (fun μ=>by rw[ahN];unfold Gd;have:=ZM μ hB f.fl [];rw[Dk,aag]at this;simp only at this|-;omega) (fun _=>rfl) rfl rfl rfl rfl
theorem Ac.put(h:Ac B f (x::H) ins outs){due:Nat}(hB:due<B)(c:Nat):Ac B {f with fl:=fun t=>if t=due then f.fl t++[(c,x)]else f.fl t} H ins outs:=
 h.yl (fun μ=>by
  rw[Fj];unfold Gd;have:=ZM μ hB f.fl (f.fl due++[(c,x)]);rw[oq,Jr]at this;have e:(fun t=>if t=due then f.fl t++[(c,x)]else f.fl t)=fun t=>if t=due then f.fl due++[(c,x)]else f.fl t:=by
   funext t;by_cases q:t=due
   ·rw[if_pos q,if_pos q,q]
   ·rw[if_neg q,if_neg q]
  simp only at this|-;rw[e];omega) (fun _=>rfl) rfl rfl rfl rfl
theorem OI{X:Bx}(hX:lW X N){p:Nat}(hp:p<X.bE)(hc:x.cls.toNat<X.aX):((X.iR p x).2=true->∀μ,qW μ (X.iR p x).1.q=qW μ X.q+μ x)/\((X.iR p x).2=false->(X.iR p x).1.q=X.q):=by
 unfold Bx.iR;simp only;split
 ·rename_i e;refine⟨fun _ μ=>?_,fun q=>by cases q⟩;have:=YQ μ hX.q hp hc (dR X.q p x.cls.toNat++[x]);rw[oq,Jr]at this;simp only;omega
 ·exact⟨fun q=>(by cases q),fun _=>rfl⟩
theorem Ac.gV(hp:sS ns cs){s:dx×List Dl}{x:Nat×Fm}(ok:dK ns cs s.1 N)(h:Ac B s.1 (x.2::H) ins (outs++s.2.map (·.2.2)))(hc:x.1<2*cs.length)(hx:vK ns s.1 x.2):Ac B (dx.gV ns cs s x).1 H ins (outs++(dx.gV ns cs s x).2.map (·.2.2)):=by
 have EN:=hp.ends hc;have pl:=hp.Br EN.2.1 EN.2.2.2.1;obtain⟨f,D⟩:=s;unfold dx.gV;dsimp only at h ok hx|-;by_cases hs:Am ns (fM cs x.1).2.2.1=true
 ·rw[if_pos hs];dsimp only;obtain⟨b1,b2,b3⟩:=ok.box _ EN.2.1;have aw:=OI (x:=x.2) b1 (p:=(fM cs x.1).2.2.2) (by rw[b2];exact pl) (by rw[b3];exact hx.c1);have hu:(fM cs x.1).2.2.1<f.boxes.length:=by rw[ok.bl];exact EN.2.1
  cases hr:((f.boxes.getD (fM cs x.1).2.2.1 default).iR (fM cs x.1).2.2.2 x.2).2 with
  |true=>rw[if_pos rfl];exact h.box hu _ fun μ=>by rw[aw.1 hr μ,lV];omega
  |false=>rw[if_neg (by decide)];exact Ac.qQ (h.box (H':=x.2::H) hu _ fun μ=>by rw[aw.2 hr])
 ·rw[if_neg hs];dsimp only;rw[eY,<-mM];exact Ac.o (x:=x.2) (h.same (H':=[]) (g:={f with came:=mW f.came (fM cs x.1).2.2.1 x.2.cls.toNat (dR f.came (fM cs x.1).2.2.1 x.2.cls.toNat+1)}) rfl rfl rfl rfl rfl rfl)
theorem Ac.Tt(hp:sS ns cs):∀(l:List (Nat×Fm)) {s:dx×List Dl} {N:Nat},dK ns cs s.1 N->(∀x∈l,x.1<2*cs.length/\vK ns s.1 x.2)->Ac B s.1 (l.map (·.2)++H) ins (outs++s.2.map (·.2.2))->Ac B (l.foldl (dx.gV ns cs) s).1 H ins (outs++(l.foldl (dx.gV ns cs) s).2.map (·.2.2))
 |[],_,_,_,_,h=>h
 |x::l,s,N,ok,hl,h=>by rw[fK];have hx:=hl x (dH ..);have k:=dK.gV ok hp hx.1 hx.2 s.2;exact Ac.Tt hp l k.1 (fun y hy=>⟨(hl y (dU _ hy)).1,(hl y (dU _ hy)).2.yl k.2.1 (by rw[k.2.2.1];exact aC _)⟩) (Ac.gV hp ok h hx.1 hx.2)
theorem Tr.weight{bz:Nat->Fm->Option Nat}{b b1:Bx}{ms:List Mv}(h:Tr bz b ms b1)(μ:Fm->Nat):∀{N:Nat},lW b N->qW μ b1.q+sm μ (ms.map (·.2.2.2))=qW μ b.q:=by
 induction h with
 |nil b=>intro N _;simp[Dk]
 |cons hm _ ih=>intro N hb;have h1:=hm.weight μ hb;have h2:=ih (hm.ok hb);rw[mG,lV];omega
 |iU x hx _ ih=>intro N hb;exact ih (hb.Mr hx)
theorem Ac.nR{u:Nat}{m:Mv}(h:Ac B f (m.2.2.2::H) ins outs)(hc:∀k,m.2.2.1=az k->∃i,mZ cs u k=az i)(hB:f.now+101<=B)(hd:∀i,i<cs.length->(cs.getD i gX).dl<=100):Ac B (f.nR cs u m) H ins outs:=by
 unfold dx.nR;cases hm:m.2.2.1 with
 |none=>exact h.qQ
 |some k=>obtain⟨i,hi⟩:=hc k hm;dsimp only;rw[hi];have:=hd i (yO hi).1;exact h.put (due:=f.now+(cs.getD i gX).dl.toNat) (by omega) _
theorem acd(cs:List Cb)(u:Nat)(f:dx)(m:Mv):(f.nR cs u m).now=f.now:=by
 unfold dx.nR;cases m.2.2.1 with
 |none=>exact(Mf f _).2.2
 |some k=>dsimp only;cases mZ cs u k<;>rfl
theorem Ac.Kn{u:Nat}(hd:∀i,i<cs.length->(cs.getD i gX).dl<=100):∀(ms:List Mv) {f:dx},Ac B f (ms.map (·.2.2.2)++H) ins outs->(∀m∈ms,∀k,m.2.2.1=az k->∃i,mZ cs u k=az i)->f.now+101<=B->Ac B (ms.foldl (dx.nR cs u) f) H ins outs
 |[],_,h,_,_=>h
 |m::ms,f,h,hm,hB=>by rw[fK];exact Ac.Kn hd ms (Ac.nR h (hm m (dH ..)) hB hd) (fun y hy=>hm y (dU _ hy)) (by rw[acd];exact hB)
theorem Ac.qj(hp:sS ns cs)(ok:dK ns cs f N){u:Nat}(hu:u<ns.length)(h:Ac B f H ins outs)(hB:f.now+101<=B):Ac B (f.qj ns cs u) H ins outs:=by
 obtain⟨b1,b2,b3⟩:=ok.box u hu;have t:=(Oi _ (uZ ns cs f u) b1).1;have o:=t.outs;have s:=t.sub b1;have e:f.qj ns cs u=(((f.boxes.getD u default).step (uZ ns cs f u)).2).foldl (dx.nR cs u) {f with boxes:=f.boxes.set u ((f.boxes.getD u default).step (uZ ns cs f u)).1}:=rfl;rw[e];refine Ac.Kn (fun i hi=>(hp.dl i hi).2) _ (h.box (by rw[ok.bl];exact hu) _ fun μ=>?_) (fun m hm k hk=>?_) hB
 ·rw[oq];have:=t.weight μ b1;omega
 ·obtain⟨q1,q2,q3⟩:=s.2 m hm;obtain⟨i,hi,_⟩:=Nj hp ok hu (ok.q u m.1 m.2.1 _ hu (by rw[<-b2];exact q1) (by rw[<-b3];exact q2) q3) (o m hm k hk).2;exact⟨i,hi⟩
theorem Ac.steps(hp:sS ns cs):∀(l:List Nat) {f:dx} {N:Nat},dK ns cs f N->(∀u∈l,u<ns.length)->Ac B f H ins outs->f.now+101<=B->Ac B (l.foldl (dx.qj ns cs) f) H ins outs
 |[],_,_,_,_,h,_=>h
 |u::l,f,N,ok,hl,h,hB=>by rw[fK];have k:=ok.qj hp (hl u (dH ..));exact Ac.steps hp l k.1 (fun y hy=>hl y (dU _ hy)) (h.qj hp ok (hl u (dH ..)) hB) (by rw[k.2.2.2];exact hB)
theorem Ac.ma(hp:sS ns cs)(ok:dK ns cs f N){x:Nat×Nat×Int}(hc:x.1<2*cs.length)(h:Ac B f H ins outs):Ac B (dx.ma cs f x) H ins outs:=
 h.box (by rw[ok.bl];exact(hp.ends hc).1) _ fun μ=>rfl
theorem Ac.Mo(hp:sS ns cs):∀(l:List (Nat×Nat×Int)) {f:dx} {N:Nat},dK ns cs f N->(∀x∈l,x.1<2*cs.length/\x.2.1<f.aK.length)->Ac B f H ins outs->Ac B (l.foldl (dx.ma cs) f) H ins outs
 |[],_,_,_,_,h=>h
 |x::l,f,N,ok,hl,h=>by rw[fK];have hx:=hl x (dH ..);have k:=ok.ma hp hx.1 hx.2;exact Ac.Mo hp l k.1 (fun y hy=>by rw[k.2.1];exact hl y (dU _ hy)) (h.ma hp ok hx.1)
theorem Ac.Ep{nr:Rt}(ok:dK ns cs f N)(h:Ac B f [] ins outs)(hm:f.lZ=true):Ac B (f.Ak nr) [] ins outs:=by
 have a0:=ok.a0;have a1:=ok.a1;have hz:f.alive ((f.dm:Int)-1)=0:=by
  unfold dx.lZ at hm;have h1:=of_decide_eq_true hm;have h2:0<=f.alive ((f.dm:Int)-1):=by rw[h.al];exact Int.natCast_nonneg _
  omega
 have e1:(f.Ak nr).boxes=f.boxes/\(f.Ak nr).fl=f.fl/\(f.Ak nr).lost=f.lost/\(f.Ak nr).dm=f.dm+1/\(f.Ak nr).wM=f.wM/\(f.Ak nr).vH=f.vH:=by unfold dx.Ak;split<;>exact⟨rfl,rfl,rfl,rfl,rfl,rfl⟩
 obtain⟨b1,b2,b3,b4,b5,b6⟩:=e1;have key:∀e,(f.Ak nr).alive e=f.alive e:=fun e=>by
  have top:f.dm=0->f.vH=0:=h.a1;unfold dx.alive at hz|-;rw[b4,b5,b6];by_cases q1:e<0\/((f.dm+1:Nat):Int)<e\/e<((f.dm+1:Nat):Int)-1
  ·rw[if_pos q1];by_cases q2:e<0\/(f.dm:Int)<e\/e<(f.dm:Int)-1
   ·rw[if_pos q2]
   ·rw[if_neg q2];have e2:e=(f.dm:Int)-1:=by omega
    rw[if_neg (by omega),<-e2]at hz;exact hz.symm
  ·rw[if_neg q1];by_cases q2:e<0\/(f.dm:Int)<e\/e<(f.dm:Int)-1
   ·rw[if_pos q2];have e2:e=(f.dm:Int)+1:=by omega
    by_cases q3:f.dm=0
    ·have:=top q3;rw[if_neg (by omega)];exact this
    ·rw[if_neg (by omega)]at hz;by_cases q4:e%2=0
     ·rw[if_pos q4];rw[if_pos (by omega)]at hz;exact hz
     ·rw[if_neg q4];rw[if_neg (by omega)]at hz;exact hz
   ·rw[if_neg q2]
 exact⟨fun μ=>by rw[zQ b1 b2,b3];exact h.acc μ,fun e=>by rw[key,zQ b1 b2];exact h.al e,fun e=>by rw[b4]at e;omega⟩
theorem aem(ok:dK ns cs f N):(oJ (2*cs.length) (f.fl f.now)).Perm (f.fl f.now):=by
 haveI:DecidableEq (Nat×Fm):=fun a b=>qG _
 refine Jm fun μ=>?_;unfold oJ;rw[qA];generalize hl:f.fl f.now=l;have hb:∀x∈l,x.1<2*cs.length:=fun x hx=>(ok.fl f.now x (by rw[hl];exact hx)).1;generalize 2*cs.length=n at hb;clear hl
 induction l with
 |nil=>simp only[List.filter_nil];rw[Dk];exact aiu fun _ _=>rfl
 |cons x l ih=>
  rw[lV,<-ih fun y hy=>hb y (dU _ hy)];have:=Dn (fun c=>sm μ (l.filter fun y=>y.1==c)) n x.1 (μ x+sm μ (l.filter fun y=>y.1==x.1)) (hb x (dH ..));have e:sm (fun c=>sm μ ((x::l).filter fun y=>y.1==c)) (aO n)=sm (fun i=>if i=x.1 then μ x+sm μ (l.filter fun y=>y.1==x.1)else sm μ (l.filter fun y=>y.1==i)) (aO n):=by
   apply zX;intro c _;by_cases q:c=x.1
   ·rw[if_pos q,iE,if_pos (by simp[q]),lV,q]
   ·rw[if_neg q,iE,if_neg (by simpa using iy q)]
  rw[e];omega
theorem Ac.tick{nr:Rt}(hp:sS ns cs)(ok:dK ns cs f N)(hf:Be cs f)(hr:Ef ns cs nr)(h:Ac B f [] ins outs)(hB:f.now+102<=B):Ac B (f.tick ns cs nr).1 [] ins (outs++(f.tick ns cs nr).2.map (·.2.2)):=by
 rw[KH];obtain⟨m1,m2,m3⟩:=ok.mid hp hr;have ob:=ok.beg hr;have h1:Ac B (f.mh nr) [] ins outs:=by
  unfold dx.mh;have h0:Ac B f.Cn [] ins outs:=h.same (H':=[]) rfl rfl rfl rfl rfl rfl;split
  ·rename_i q;rw[cZ]at q;exact h0.Ep ok.afw q.2
  ·exact h0
 have h2:Ac B ((f.mh nr).mF cs) [] ins outs:=Ac.Mo hp _ ob (fun x hx=>⟨(ob.lim _ x hx).1,(ob.lim _ x hx).2.1⟩) h1;have h3:Ac B ((f.mh nr).mF cs).yR [] ins outs:=h2.same (H':=[]) rfl rfl rfl rfl rfl rfl;generalize((f.mh nr).mF cs).yR=g at *;have a1:=m1.jS hp (by rw[m3];exact hf.nd _);have h4:Ac B (g.jS ns cs).1 [] ins (outs++(g.jS ns cs).2.map (·.2.2)):=by refine Ac.Tt hp (oJ (2*cs.length) (g.fl g.now)) (s:=({g with fl:=fun t=>if t=g.now then[]else g.fl t},[])) (m1.aeH g.now) (fun x hx=>⟨(xu hx).2,(m1.fl _ x (xu hx).1).2.yl rfl (aC _)⟩) ?_;show Ac B _ (_++[]) ins (outs++[]);rw[jF outs];exact(h3.take (now:=g.now) (by omega)).perm (((aem m1).map _).append_right _)
 have h5:=h4.steps hp (aO ns.length) a1.1 (fun u hu=>dJ.1 hu) (by rw[a1.2.2.2,m2];omega);show Ac B ((oO ns cs (g.jS ns cs).1 ns.length).tell ns cs) [] ins _;rw[Gs];exact h5.same (H':=[]) rfl rfl rfl rfl rfl rfl
end
def jQ{α:Type}(i:Nat)(l:List (Nat×α)):List (Nat×α):=l.filter fun x=>x.1/2 !=i
def El{α:Type}(i:Nat)(l:List (Nat×α)):List (Nat×α):=l.filter fun x=>x.1/2==i
end
section
open Go.RowKit Go.Maps
open Go.ChangeMaps (setBlock heap_setBlock_same heap_setBlock_other modify_eq_set)
open Go.WideElems (Fit rd rg pl rd_key rd_val rg_of rd_mk)
def wL(w:aG)(P:Program)(k:dL)(b r n:Nat)(M:Lit->Option aI)(left:Lit->Bool)(CY:Nat):Prop:=
 ∃D:DataW aI,w.ranges P k rD b r n D left CY/\∀l,JI D l=(M l).isSome/\∀z,D.atKey l (.held z)=.held ((M l).getD z)
section
variable{w w':aG}{P:Program}{k t e:dL}{b r n CY:Nat}{M:Lit->Option aI}{left:Lit->Bool}
theorem wL.omap(h:wL w P k b r n M left CY):jo w P k b n M:=by obtain⟨D,h,h2⟩:=h;exact⟨D,h.owns,h2⟩
theorem wL.left_eq(h:wL w P k b r n M left CY):w.rangeLeft b r=CY:=by obtain⟨D,h,h2⟩:=h;exact h.left_eq
theorem wL.ltR(h:wL w P k b r n M left CY):r<w.heap.size:=by obtain⟨D,h,h2⟩:=h;exact h.lt
theorem wL.ch{S:Nat->Prop}(h:wL w P k b r n M left CY)(hc:Ch S w w')(hb:¬S b)(hr:¬S r):wL w' P k b r n M left CY:=by obtain⟨D,h,h2⟩:=h;have l1:=h.owns.lt;have l2:=h.lt;obtain⟨es,clock,since,seen,c0,sV,F,hs,hD,hr',rest⟩:=h;exact⟨D,⟨es,clock,since,seen,c0,(hc.block b l1 hb).trans sV,F,hs,hD,(hc.block r l2 hr).trans hr',rest⟩,h2⟩
theorem jo.range(h:jo w P k b n M)(K:Keyed P k)(ht:P.underlying t=az (.map k e)):∃w',(Instr.range t (.map (az b))).run P w=.ok (au (az ⟨w.heap.size,0,aj⟩)) w'/\(∃CY,wL w' P k b w.heap.size n M (fun l=>(M l).isSome) CY)/\aN w.heap.size w w'/\w'.heap.size=w.heap.size+1:=by obtain⟨D,h,h2⟩:=h;obtain⟨w',hrun,hr,hg,hs⟩:=h.range K ht;have e1:JI D=fun l=>(M l).isSome:=funext fun l=>(h2 l).1;rw[e1]at hr;exact⟨w',hrun,⟨_,D,hr,h2⟩,⟨hg.os,hg.tape,hg.output,hg.size,fun i hi=>hg.block i hi (by simp)⟩,hs⟩
theorem wL.next(h:wL w P k b r n M left CY)(K:Keyed P k)(ty:dL):(CY=0/\(∀kl,left kl=false)/\(Instr.next (au (az ⟨r,0,aj⟩)) false ty).run P w=.ok (.tuple #[.bool false]) w)\/∃key v kl w' cnt',keyOf P k key=az kl/\left kl=true/\M kl=az v/\(Instr.next (au (az ⟨r,0,aj⟩)) false ty).run P w=.ok (.tuple #[.bool true,key,v]) w'/\wL w' P k b r n M (fun x=>left x&&!x.sameKey kl) cnt'/\cnt'<CY/\w.grownBy w' (az r)/\w'.heap.size=w.heap.size/\(Instr.entry (au (az ⟨r,0,aj⟩))).run P w'=.ok (.tuple #[key,v]) w':=by
 obtain⟨D,h,h2⟩:=h;rcases h.next K ty with q|⟨key,v,kl,y,w',cnt',h3,h4,h5,h6,h7,h8,h9,h10,h11,h12⟩
 ·exact .inl q
 ·refine .inr ⟨key,v,kl,w',cnt',h3,h4,?_,h7,⟨D,h8,h2⟩,h9,h10,h11,h12⟩;unfold rD at h5;injection h5 with h5;have e1:∀z,(M kl).getD z=v:=fun z=>by
   have q1:=h6 (.held z);rw[(h2 kl).2 z,<-h5]at q1;injection q1
  cases hm:M kl with
  |some u=>have:=e1 v;rw[hm]at this;simpa using this
  |none=>have q1:=e1 (.bool true);have q2:=e1 (.bool false);rw[hm]at q1 q2;simp only[Option.getD_none]at q1 q2;rw[<-q2]at q1;cases q1
theorem YX{kl:Lit}{key val:aI}(K:Keyed P k)(ht:P.underlying t=az (.map k e)){es:Array MapEntry}{clock:Nat}(hb:w.heap[b]?=az (.map es clock))(F:Fit P k rD es clock)(hkey:keyOf P k key=az kl){x0:MapEntry}(hx0:x0∈es.toList)(NJ:x0.key=key):∃j e0,es.toList[j]?=az e0/\e0.key=key/\(mX t (.map (az b)) key val).run P w=.ok () (setBlock w b (.map (es.modify j fun e'=>{e' with key:=key,val:=val}) clock)):=by
 rcases K.find w hkey es.toList F.keys with⟨_,h2⟩|⟨j,e0,h1,h2,h3⟩
 ·exact absurd NJ (h2 x0 hx0)
 ·have hj:es[j]?=az e0:=by simpa using h2
  exact⟨j,e0,h2,h3,by simp[mX,run_underlying ht,MapKept.run_getObj_map hb,K.check w false hkey,h1,hj,h3,K.stays w hkey,MapKept.run_setObj_map _ hb,mP,setBlock]⟩
theorem wL.put(h:wL w P k b r n M left CY)(K:Keyed P k)(ht:P.underlying t=az (.map k e))(hn:n<fB){key:aI}{kl:Lit}(hkey:keyOf P k key=az kl)(Gb:(M kl).isSome=true)(v:aI):∃w',(mX t (.map (az b)) key v).run P w=.ok () w'/\wL w' P k b r n (tJ M kl v) left CY/\w.grownBy w' (az b)/\w'.heap.size=w.heap.size:=by
 obtain⟨D,h,h2⟩:=h;have nQ:=h.ne;have ow:=h.owns;obtain⟨es,clock,since,seen,c0,hb,F,hs,hD,hr,hold,hc,hl1,DN,hsc,hsk⟩:=h;have hin':JI D kl=true:=by rw[(h2 kl).1];exact Gb
 rw[hD]at hin';obtain⟨p,hp,hpk⟩:=iD.1 hin';obtain⟨x0,hx0,rfl⟩:=gH.1 (mem_sorted.1 hp);have NJ:x0.key=key:=by obtain⟨y,hy⟩:=F.reads x0 hx0;have m1:=rd_key hy;have e1:=WideAt.sameKey_eq hpk;rw[rg_of hy]at e1;rw[e1]at m1;exact K.inj m1 hkey
 obtain⟨j,e0,h3,h4,hrun⟩:=YX (w:=w) (val:=v) K ht hb F hkey hx0 NJ;obtain⟨es',clock',hrun',F',hput,_⟩:=Maps.fit_store (R':=rD) K ht hb F (Nat.lt_of_le_of_lt hs hn) (fun _ _ _ _ hz=>hz) hkey (val:=v) (yv:=(.held v,[])) rfl;have ee:es'=es.modify j (fun e'=>{e' with key:=key,val:=v})/\clock'=clock:=by rw[hrun]at hrun';injection hrun' with _ hw;have q:=heap_setBlock_same hb (.map es' clock');rw[<-hw,heap_setBlock_same hb]at q;injection q with q;injection q with q1 q2;exact⟨q1.symm,q2.symm⟩
 obtain⟨ee,rfl⟩:=ee;have hlist:es'.toList=es.toList.set j {e0 with key:=key,val:=v}:=by rw[ee,Array.toList_modify,modify_eq_set _ _ _ _ h3]
 have hjl:j<es.toList.length:=(Ah.1 h3).1;have xI:es.toList[j]=e0:=(Ah.1 h3).2;have he0:e0∈es.toList:=List.mem_of_getElem? h3;have rg0:(rg P k rD e0).1=kl:=by obtain⟨y,hy⟩:=F.reads e0 he0;have m1:=rd_key hy;rw[h4,hkey]at m1;rw[rg_of hy];exact(je m1).symm
 have rgn:(rg P k rD {e0 with key:=key,val:=v}).1=kl:=by
  have:rd P k rD {e0 with key:=key,val:=v}=az (kl,.held v):=by unfold rd rD;simp[hkey]
  rw[rg_of this]
 have mem:∀x∈es'.toList,∃y∈es.toList,y.born=x.born/\(rg P k rD y).1=(rg P k rD x).1:=fun x hx=>by
  rw[hlist]at hx;rcases List.mem_or_eq_of_mem_set hx with q|q
  ·exact⟨x,q,rfl,rfl⟩
  ·exact⟨e0,he0,by rw[q],by rw[q,rgn,rg0]⟩
 have aqv:∀a:Array MapEntry,(leftOf a seen).size=(a.toList.map (·.born)).countP (fun i=>!seen.contains i):=fun a=>by unfold leftOf;rw[<-mV,Array.toList_filter,<-List.countP_eq_length_filter,List.countP_map];rfl
 have born:es'.toList.map (·.born)=es.toList.map (·.born):=by
  rw[hlist,vY];apply List.ext_getElem?;intro i;rw[kY];by_cases q:j=i
  ·subst q;rw[if_pos rfl,if_pos (by simpa using hjl),cO,h3];rfl
  ·rw[if_neg q]
 have len:es'.size=es.size:=by rw[ee];simp
 refine⟨_,hrun',⟨D.put kl (.held v),⟨es',clock',since,seen,c0,heap_setBlock_same hb _,F',by rw[len];exact hs,by rw[hD,DataW.put_eq,hput],(heap_setBlock_other hb _ nQ).trans hr,fun x hx=>?_,by rw[aqv,born,<-aqv];exact hc,fun x hx=>?_,fun l hl=>?_,hsc,hsk⟩,fun l=>?_⟩,?_,by simp[setBlock]⟩
 ·obtain⟨y,hy,q,_⟩:=mem x hx;rw[<-q];exact hold y hy
 ·obtain⟨y,hy,q1,q2⟩:=mem x hx;rw[<-q1,<-q2];exact hl1 y hy
 ·obtain⟨y,hy,q⟩:=DN l hl;obtain⟨i,hi,rfl⟩:=qD hy;by_cases e1:i=j
  ·refine⟨{e0 with key:=key,val:=v},?_,?_⟩
   ·rw[hlist];exact pY.2 ⟨j,by simpa using hjl,by simp⟩
   ·subst e1;rw[rgn,<-q,xI,rg0]
  ·refine⟨es.toList[i],?_,q⟩;rw[hlist];exact pY.2 ⟨i,by simpa using hi,by rw[List.getElem_set_ne (iy e1)]⟩
 ·unfold tJ;by_cases hl:l=kl
  ·subst hl;rw[if_pos (kW (K.key hkey))];exact⟨has_put_same ow.isMap (K.key hkey) _,fun z=>atKey_put_same ow.isMap (K.key hkey) _ _⟩
  ·rw[if_neg (by rw[lY (K.key hkey)];exact hl)];exact⟨by rw[has_put_other hl];exact(h2 l).1,fun z=>by rw[atKey_put_other hl];exact(h2 l).2 z⟩
 ·exact⟨rfl,rfl,rfl,by simp[setBlock],fun i _ hi=>heap_setBlock_other hb _ fun e1=>hi (by rw[e1])⟩
end
section
variable{P:Program}(w:aG){ops:Array Oper}{rest:List Oper}{o:Oper}{a:Act}{Q:Exit->Act->aG->Prop}
theorem Ns(hg:o.guard=aj)(m:Operand)(t:dL)(hop:o.op=Op.range t m)(k e:dL)(K:Keyed P k)(ht:P.underlying t=az (.map k e))(b n:Nat)(M:Lit->Option aI)(hm:a.eval m=.map (az b))(h:jo w P k b n M)(hK:∀w',(∃CY,wL w' P k b w.heap.size n M (fun l=>(M l).isSome) CY)->aN w.heap.size w w'->w'.heap.size=w.heap.size+1->wpList P ops Q rest (a.put o.dst (au (az ⟨w.heap.size,0,aj⟩))) w'):wpList P ops Q (o::rest) a w:=by refine wpList_plain hg fun K' hK'=>?_;obtain⟨w',hrun,r1,r2,r3⟩:=h.range K ht;unfold Oper.wp;simp[execOp,hop,hm,hrun,mP];exact hK' _ _ (hK w' r1 r2 r3)
theorem KR(hg:o.guard=aj)(it:Operand)(hop:o.op=Op.next it false)(k:dL)(K:Keyed P k)(b r n:Nat)(M:Lit->Option aI)(left:Lit->Bool)(CY:Nat)(hit:a.eval it=au (az ⟨r,0,aj⟩))(h:wL w P k b r n M left CY)(hDone:CY=0->(∀kl,left kl=false)->wpList P ops Q rest (a.put o.dst (.tuple #[.bool false])) w)(hMore:∀(key v:aI) (kl:Lit) (w':aG) (cnt':Nat),keyOf P k key=az kl->left kl=true->M kl=az v->wL w' P k b r n M (fun x=>left x&&!x.sameKey kl) cnt'->cnt'<CY->w.grownBy w' (az r)->w'.heap.size=w.heap.size->(Instr.entry (au (az ⟨r,0,aj⟩))).run P w'=.ok (.tuple #[key,v]) w'->wpList P ops Q rest (a.put o.dst (.tuple #[.bool true,key,v])) w'):wpList P ops Q (o::rest) a w:=by
 refine wpList_plain hg fun K' hK'=>?_;unfold Oper.wp;rcases h.next K o.type with⟨h0,hl,hrun⟩|⟨key,v,kl,w',cnt',h1,h2,h3,hrun,h5,h6,h7,h8,h9⟩
 ·simp[execOp,hop,hit,hrun,mP];exact hK' _ _ (hDone h0 hl)
 ·simp[execOp,hop,hit,hrun,mP];exact hK' _ _ (hMore key v kl w' cnt' h1 h2 h3 h5 h6 h7 h8 h9)
end
end
section
open Go.RowKit Go.Maps
attribute [local go_sem ↓] fJ fH
abbrev Nt:=Nat×Nat×Int
def Es:Nt:=(0,0,0)
theorem Vm(x:Nt)(i bi:Nat)(w:aG)(hx:x.1<1000000)(hb:w.cell? ⟨bi,0,aj⟩=az (ah ag (i:Int))):bZ aH 60 #[.agg #[ah ag x.1,ah ag x.2.1,ah ag x.2.2],au (az ⟨bi,0,aj⟩)] w fun e w'=>e=ax (.bool (x.1/2==i))/\aN w.heap.size w w':=by
 obtain⟨c,v,l⟩:=x;simp only at hx|-;have hl:=aZ _ _ hb;simp only at hl;obtain⟨w1,gK⟩:∃w1:aG,w.alloc (af #[ah ag c,ah ag v,ah ag l] 116)=w1:=⟨_,rfl⟩;have B:aY (aN w.heap.size w w1):=by rw[<-gK];exact(aQ _ _).alloc (aC _) _
 have k0:w1.cell? ⟨w.heap.size,0,aj⟩=az (ah ag c):=by rw[<-gK];exact(dh.new w _ _).cell 0
 have kb:w1.cell? ⟨bi,0,aj⟩=az (ah ag i):=(B.o.cell (p:=⟨bi,0,aj⟩) hl).trans hb;have hd:(c:Int)/2=((c/2:Nat):Int):=by omega
 have hwk:wrap64 ((c/2:Nat):Int)=((c/2:Nat):Int):=by unfold wrap64;omega
 clear hx;generalize c/2=k at *;clear hb;by_cases hki:k=i
 ·subst hki;have e1:(k==k)=true:=by simp
  rw[e1];go_enter func60,ntmps60;go_wp2_with fail;go_ret;exact⟨rfl,B.o⟩
 ·have e1:(k==i)=false:=by simp[hki]
  have e2:((k:Int)==(i:Int))=false:=by simp;omega
  rw[e1];go_enter func60,ntmps60;go_wp2_with fail;go_ret;exact⟨rfl,B.o⟩
def aja(l:List Nt)(i:Nat)(w0:aG)(s:aI)(wr:aG):Prop:=∃k:Nat,k<=l.length/\s=ah ag k/\(∀j,j<k->((l.getD j Es).1/2==i)=false)/\aN w0.heap.size w0 wr
def aiO(l:List Nt)(i:Nat)(w:aG)(e:iM)(w':aG):Prop:=aN w.heap.size w w'/\((e=ax (ah ag (-1))/\∀j,j<l.length->((l.getD j Es).1/2==i)=false)\/∃k:Nat,k<l.length/\e=ax (ah ag k)/\((l.getD k Es).1/2==i)=true/\∀j,j<k->((l.getD j Es).1/2==i)=false)
theorem aeY(l:List Nt)(i bi:Nat)(v:aI)(w:aG)(hl:l.length<=1000000000)(hsm:∀x∈l,x.1<1000000)(h:w.ownsRow 0 116 3 v l.length (l.flatMap JB))(hb:w.cell? ⟨bi,0,aj⟩=az (ah ag (i:Int))):bZ aH 101 #[v,.func (.func 60) #[] #[au (az ⟨bi,0,aj⟩)]] w (aiO l i w):=by
 obtain⟨a,c,eV⟩:=dO h;have LE:aY (∀(x:Nt) w',x.1<1000000->aN w.heap.size w w'->bZ aH 60 #[.agg #[ah ag x.1,ah ag x.2.1,ah ag x.2.2],au (az ⟨bi,0,aj⟩)] w' fun e w''=>e=ax (.bool (x.1/2==i))/\aN w'.heap.size w' w''):=fun x w' hx hw=>
  Vm x i bi w' hx ((hw.cell (p:=⟨bi,0,aj⟩) (aZ _ _ hb)).trans hb)
 have CE:aY (∀k w',k<l.length->aN w.heap.size w w'->∃g,a=az ⟨g,0,aj⟩/\w'.cell? ⟨g,k*3,aj⟩=az (ah ag (l.getD k Es).1)/\w'.cell? ⟨g,k*3+1,aj⟩=az (ah ag (l.getD k Es).2.1)/\w'.cell? ⟨g,k*3+2,aj⟩=az (ah ag (l.getD k Es).2.2)):=fun k w' hk hw=>by
  obtain⟨g,cap,e1,_,hl,ho,hc⟩:=nH (d:=Es) zH h rfl hk;rw[eV]at e1;injection e1 with e1;refine⟨g,e1,?_,?_,?_⟩
  ·exact(hw.cell (p:=⟨g,k*3,aj⟩) hl).trans (hc k hk 0 (by decide))
  ·exact(hw.cell (p:=⟨g,k*3+1,aj⟩) hl).trans (hc k hk 1 (by decide))
  ·exact(hw.cell (p:=⟨g,k*3+2,aj⟩) hl).trans (hc k hk 2 (by decide))
 subst eV;clear h hb;generalize Ej:aiO l i w=NW;have HP:=aA Ej;clear Ej;go_enter func101,ntmps101;go_wp2_with fail;go_loopw [8] (fun s wr=>aja l i w s wr) (fun s _=>l.length-(aJ s).toNat);case atStart=>exact⟨0,bS _,rfl,by intro j hj;omega,aQ _ _⟩
 case round=>
  obtain⟨k,hk,rfl,hall,gm⟩:=hrel;have HA:=aA hall;have BE:=aA gm;clear hall;by_cases nI:k<l.length
  ·obtain⟨g,ea,e0,e1,e2⟩:=CE.o k wr nI gm;have HS:aY (((l.getD k Es).1/2==i)=false->∀w',aN w.heap.size w w'->aja l i w (ah ag ((k:Int)+1)) w'):=fun hx w' hb=>⟨k+1,by omega,by congr 1,fun j hj=>by
    by_cases e:j=k
    ·subst e;exact hx
    ·exact HA.o j (by omega),hb⟩
   have HY:aY (((l.getD k Es).1/2==i)=true->∀w',aN w.heap.size w w'->NW (ax (ah ag k)) w'):=fun hx w' hb=>(by rw[<-HP.o];exact⟨hb,.inr ⟨k,nI,rfl,hx,HA.o⟩⟩);have HC:=aA (LE.o (l.getD k Es) wr (hsm _ (by simp[bJ,nI])) gm);generalize l.getD k Es=d at *;subst ea;obtain⟨xc,xv,xl⟩:=d;simp only at e0 e1 e2 HC HS HY;have i0:(0:Int)<=(k:Int):=(by omega);have i2:(k:Int)<(l.length:Int):=(by omega);clear gm;go_wp2_with fail;refine HC.o.mono ?_;rintro e w2 ⟨rfl,wN⟩;have B2:aY (aN w.heap.size w w2):=BE.o.trans (wN.mono BE.o.size);clear wN e0 e1 e2;cases hq:(xc/2==i)with
   |true=>have F:=aA (HY.o hq w2 B2.o);clear HS HY hq;go_wp2_with fail;exact F.o
   |false=>have R:=aA (HS.o hq w2 B2.o);clear HS HY hq;go_wp2_with fail;exact⟨R.o,by simp[aJ];omega⟩
  ·obtain rfl:k=l.length:=by omega
   have F:aY (∀w',aN w.heap.size w w'->NW (ax (ah ag (-1))) w'):=fun w' hb=>(by rw[<-HP.o];exact⟨hb,.inl ⟨rfl,HA.o⟩⟩);have i2:¬(l.length:Int)<(l.length:Int):=(by omega);clear gm;go_wp2_with fail;exact F.o _ BE.o
structure OT(w0:aG)(g cap n:Nat)(D:List Nt)(w:aG):Prop where
 own:w.ownsRow 0 116 3 (ay (az ⟨g,0,aj⟩) n cap) n (D.flatMap JB)
 ch:Ch (· =g) w0 w
section
variable{w0 w w':aG}{g cap n:Nat}{D:List Nt}
theorem Ry(l:List Nt):(l.flatMap JB).length=l.length*3:=by
 induction l with
 |nil=>rfl
 |cons x l ih=>rw[eO,bV,ih,eQ];show 3+_=_;omega
theorem OT.JA(h:OT w0 g cap n D w):∃cur,dh w g 116 cur/\n<=cap/\cap<=fB/\cur.size=cap*3/\cur.toList.take (n*3)=D.flatMap JB:=by
 obtain⟨h1,⟨h2,_⟩|⟨g',pG,cur,h2,hb,hg,hn,hc,hs,ht⟩⟩:=h.own
 ·injection h2 with h2;cases h2
 ·injection h2 with h2 _ h3;injection h2 with h2;injection h2 with h2;subst h2;subst h3;exact⟨cur,hg,hn,hc,hs,ht⟩
theorem OT.len(h:OT w0 g cap n D w):D.length=n:=by have h1:=h.own.1;rw[Ry]at h1;omega
theorem OT.JW(h:OT w0 g cap n D w){i j:Nat}(hi:i<n)(hj:j<3):w.cell? ⟨g,i*3+j,aj⟩=(JB (D.getD i Es))[j]?/\w.frozen? ⟨g,i*3+j,aj⟩=false:=by obtain⟨cur,hb,_,_,_,ht⟩:=h.JA;have hl:=h.len;refine⟨?_,hb.frozen _⟩;rw[hb.cell,<-pK,<-yf (d:=Es) (m:=3) (c:=JB) (fun x=>zH x) D i j (by omega) hj,<-ht,lX,if_pos (by omega)]
theorem Qj{xs:List aI}(h:w.ownsRow 0 116 3 (ay (az ⟨g,0,aj⟩) n cap) n xs)(i:Nat)(u:aI):(w.setCell ⟨g,i,aj⟩ u).ownsRow 0 116 3 (ay (az ⟨g,0,aj⟩) n cap) n (xs.set i u):=by
 obtain⟨h1,⟨h2,_⟩|⟨g',pG,cur,h2,hb,hg,hn,hc,hs,ht⟩⟩:=h
 ·injection h2 with h2;cases h2
 ·injection h2 with h2 _ h3;injection h2 with h2;injection h2 with h2;subst h2;subst h3;refine⟨by rw[jG];exact h1,.inr ⟨g,cap,cur.setIfInBounds i u,rfl,hb,(show dh w g 116 cur from hg).jd i u,hn,hc,by simpa using hs,?_⟩⟩;rw[Array.toList_setIfInBounds,List.take_set,ht]
theorem abw(l:List Nt)(i:Nat)(x:Nt)(hi:i<l.length)(v0 v1 v2:aI)(e:JB x=[v0,v1,v2]):(((l.flatMap JB).set (i*3) v0).set (i*3+1) v1).set (i*3+2) v2=(l.set i x).flatMap JB:=by
 induction l generalizing i with
 |nil=>cases hi
 |cons y l ih=>
  cases i with
  |zero=>rw[List.set_cons_zero,eO,eO,e];rfl
  |succ i=>have:=ih i (by simpa using hi);rw[List.set_cons_succ,eO,eO,<-this];rw[show(i+1)*3=(JB y).length+i*3 by rw[zH];omega];simp only[Nat.add_assoc];rw[ic _ _ (by omega),ic _ _ (by omega),ic _ _ (by omega)];simp
theorem OT.azB(h:OT w0 g cap n D w){i:Nat}(hi:i<n)(x:Nt)(v0 v1 v2:aI)(e:JB x=[v0,v1,v2]):OT w0 g cap n (D.set i x) (((w.setCell ⟨g,i*3,aj⟩ v0).setCell ⟨g,i*3+1,aj⟩ v1).setCell ⟨g,i*3+2,aj⟩ v2):=by refine⟨?_,((h.ch.setCell (.inl rfl) _).setCell (.inl rfl) _).setCell (.inl rfl) _⟩;have h1:=Qj (Qj (Qj h.own (i*3) v0) (i*3+1) v1) (i*3+2) v2;rw[abw D i x (by rw[h.len];exact hi) v0 v1 v2 e]at h1;exact h1
theorem OT.below(h:OT w0 g cap n D w)(hb:aN w.heap.size w w'):OT w0 g cap n D w':=
 ⟨fO h.own (Ch.bY (S:=fun _=>False) hb) (fun _ _ q=>q),h.ch.rW hb⟩
theorem Bu(z:Array aI)(m:Nat):(mK z m).size=z.size*m:=by unfold mK;simp[Nat.mul_comm]
theorem Rb{z:Array aI}{m:Nat}{u:aI}(h:u∈(mK z m).toList):u∈z.toList:=by
 unfold mK at h;rw[Array.toList_map,gH]at h;obtain⟨i,hi,rfl⟩:=h;have hi:i<m*z.size:=by simpa using hi
 have hs:0<z.size:=Nat.pos_of_ne_zero fun e=>by rw[e]at hi;omega
 have hm:i%z.size<z.size:=Nat.mod_lt _ hs;rw[getElem!_pos z _ hm];exact Array.getElem_mem_toList hm
theorem Qq{P:Program}(w:aG)(t e ty:dL)(z:aI)(ht:P.underlying t=az (.slice e))(hv:∀w,(zeroValue e).run P w=.ok z w)(h1:∀u∈z.cells.toList,u.oneCell'=true)(g o m c:Nat)(hm:0<m)(cur:Array aI)(hh:w.heap[g]?=az (.cells cur e (0,0)))(QS:o+z.cells.size*m<=cur.size):(Ev #[t] ty #[ay (az ⟨g,o,aj⟩) m c]).run P w=.ok (.tuple #[]) (w.setRow g (cur.toList.take o++(mK z.cells m).toList++cur.toList.drop (o+z.cells.size*m)).toArray):=by have Ic:=run_storeCells_at P g o e (mK z.cells m).toList 0 cur w hh (by rw[mV,Bu];simpa using QS) (by intro v hv';exact h1 v (Rb hv'));rw[mV,Bu]at Ic;simp only[jA]at Ic;obtain⟨m,rfl⟩:∃q,m=q+1:=⟨m-1,by omega⟩;simp[Ev,run_underlying ht,hv,Ic]
end
theorem RZ(l:List Nt)(i k:Nat)(hk:k<l.length):jQ i (l.take (k+1))=if((l.getD k Es).1/2==i)=true then jQ i (l.take k)else jQ i (l.take k)++[l.getD k Es]:=by
 unfold jQ;have e:l.getD k Es=l[k]:=by simp[bJ,hk]
 rw[e,oh,dw hk,Option.toList_some,ig];cases h:(l[k].1/2==i)with
 |true=>simp[h,bne]
 |false=>simp[h,bne]
def Zy(l:List Nt)(i:Nat)(w0:aG)(g cap:Nat)(m j:aI)(wr:aG):Prop:=∃(k q:Nat) (D:List Nt),q<k/\k<=l.length/\m=ah ag q/\j=ah ag k/\jQ i (l.take k)=D.take q/\D.drop k=l.drop k/\OT w0 g cap l.length D wr
theorem anl(w:aG):(zeroValue 116).run aH w=.ok (.agg #[ah ag 0,ah ag 0,ah ag 0]) w:=by obtain⟨i0,hi0,wC,uX,wK⟩:=dX Ja;simp[zeroValue,typeInfo,hi0,wC]
theorem Yi(l:List Nt)(q:Nat):(l.flatMap JB).take (q*3)=(l.take q).flatMap JB:=by
 induction l generalizing q with
 |nil=>simp
 |cons x l ih=>
  cases q with
  |zero=>simp
  |succ q=>rw[List.take_succ_cons,eO,eO,<-ih,show(q+1)*3=(JB x).length+q*3 by rw[zH];omega,List.take_length_add_append]
theorem OT.cut{w0 w:aG}{g cap n:Nat}{D:List Nt}(h:OT w0 g cap n D w){q:Nat}(hq:q<n):∃w',(∀ty,(Ev #[114] ty #[ay (az ⟨g,q*3,aj⟩) (n-q) (cap-q)]).run aH w=.ok (.tuple #[]) w')/\OT w0 g cap q (D.take q) w':=by
 obtain⟨cur,hb,hn,hc,hs,ht⟩:=h.JA;have hl:=h.len;have fit:q*3+3*(n-q)<=cur.size:=by rw[hs];omega
 have run:=fun ty=>Qq w 114 116 ty (.agg #[ah ag 0,ah ag 0,ah ag 0]) underlying114 anl (by intro u hu;simp[Value.cells]at hu;rcases hu with rfl|rfl|rfl<;>rfl) g (q*3) (n-q) (cap-q) (by omega) cur hb fit;obtain⟨zs,hzs⟩:∃zs,(mK (Lr #[ah ag 0,ah ag 0,ah ag 0]).cells (n-q)).toList=zs:=⟨_,rfl⟩;have lz:zs.length=3*(n-q):=by rw[<-hzs,mV,Bu];rfl
 rw[hzs]at run;obtain⟨C,hC⟩:∃C,(cur.toList.take (q*3)++zs++cur.toList.drop (q*3+(Lr #[ah ag 0,ah ag 0,ah ag 0]).cells.size*(n-q))).toArray=C:=⟨_,rfl⟩;rw[hC]at run;have e3:(Lr #[ah ag 0,ah ag 0,ah ag 0]).cells.size=3:=rfl;rw[e3]at hC;refine⟨w.setRow g C,run,⟨by rw[Ry,ik];omega,.inr ⟨g,cap,C,rfl,bS _,?_,by omega,hc,?_,?_⟩⟩,?_⟩
 ·exact setRow_heap w g cur C _ _ hb
 ·rw[<-hC];simp[lz];omega
 ·rw[<-hC];show List.take (q*3) (cur.toList.take (q*3)++zs++cur.toList.drop (q*3+3*(n-q)))=_;rw[mM,List.take_append_of_le_length (by simp;omega),EK,Nat.min_self];have:=congrArg (List.take (q*3)) ht;rw[EK,Nat.min_eq_left (by omega)]at this;rw[this,Yi]
 ·exact h.ch.trans (S':=(· =g)) ⟨rfl,rfl,rfl,by simp,fun k hk hn=>setRow_other w g k C hn⟩ fun _ _ q=>q
def aav(τv:aI)(l:List Nt)(i:Nat)(w:aG)(e:iM)(w':aG):Prop:=∃v',e=ax v'/\JM w' v' (jQ i l)/\v'.ownBlock=τv.ownBlock/\Ch (fun k=>τv.ownBlock=az k) w w'
theorem aeF(l:List Nt)(i bi:Nat)(v:aI)(w:aG)(hl:l.length<=1000000000)(hsm:∀x∈l,x.1<1000000)(h:JM w v l)(hb:dh w bi 3 #[ah ag (i:Int)]):bZ aH 59 #[v,.func (.func 60) #[] #[au (az ⟨bi,0,aj⟩)]] w (aav v l i w):=by
 have IX:=aeY l i bi v w hl hsm h (hb.cell 0);by_cases hall:∀j,j<l.length->((l.getD j Es).1/2==i)=false
 ·have IX2:aY (bZ aH 101 #[v,.func (.func 60) #[] #[au (az ⟨bi,0,aj⟩)]] w fun e w'=>e=ax (ah ag (-1))/\aN w.heap.size w w'):=IX.mono fun e w' q=>by
   rcases q.2 with⟨q1,_⟩|⟨k,hk,_,q2,_⟩
   ·exact⟨q1,q.1⟩
   ·rw[hall k hk]at q2;cases q2
  have E:jQ i l=l:=by unfold jQ;rw[yG];intro x hx;obtain⟨j,hj,rfl⟩:=qD hx;have:=hall j hj;simp only[fF,dw hj,iW]at this;simp only[bne,this];rfl
  have iZ:aY (∀w',aN w.heap.size w w'->aav v l i w (ax v) w'):=fun w' hw=>⟨v,rfl,by rw[E];exact fO h (Ch.bY (S:=fun _=>False) hw) (fun _ _ q=>q),rfl,Ch.bY hw⟩;obtain⟨a,c,eV⟩:=dO h;subst eV;clear h hb IX E hall;generalize aav (ay a l.length c) l i w=NW at *;go_enter func59,ntmps59;go_wp2_with (first|(go_at_call 101;(with_reducible refine IX2.o.mono ?_);rintro e w2 ⟨rfl,wN⟩;have B2:=aA wN;clear wN));exact iZ.out _ B2.o
 ·obtain⟨k0,NJ,hd0,amc⟩:∃k,k<l.length/\((l.getD k Es).1/2==i)=true/\∀j,j<k->((l.getD j Es).1/2==i)=false:=by
   simp only[Ew]at hall;obtain⟨j,hj,hq⟩:=hall;have hq:((l.getD j Es).1/2==i)=true:=by simpa using hq
   induction j using Nat.strongRecOn with
   |ind j ih=>
    by_cases h':∀m,m<j->((l.getD m Es).1/2==i)=false
    ·exact⟨j,hj,hq,h'⟩
    ·simp only[Ew]at h';obtain⟨m,hm,Ib⟩:=h';have Ib:((l.getD m Es).1/2==i)=true:=(by simpa using Ib);exact ih m hm (by omega) (by simpa using Ib) Ib
  have IX2:aY (bZ aH 101 #[v,.func (.func 60) #[] #[au (az ⟨bi,0,aj⟩)]] w fun e w'=>e=ax (ah ag k0)/\aN w.heap.size w w'):=IX.mono fun e w' q=>by
   rcases q.2 with⟨_,q1⟩|⟨k,hk,q1,q2,q3⟩
   ·rw[q1 k0 NJ]at hd0;cases hd0
   ·have:k=k0:=by
     rcases Nat.lt_trichotomy k k0 with r|r|r
     ·rw[amc k r]at q2;cases q2
     ·exact r
     ·rw[q3 k0 r]at hd0;cases hd0
    rw[this]at q1;exact⟨q1,q.1⟩
  obtain⟨g,cap,eV⟩:∃g cap,v=ay (az ⟨g,0,aj⟩) l.length cap:=by obtain⟨g,cap,e1,_⟩:=nH (d:=Es) zH h rfl NJ;exact⟨g,cap,e1⟩
  subst eV;have O0:OT w g cap l.length l w:=⟨h,Ch.refl _ _⟩;have nQ:bi≠g:=by obtain⟨cur,hg,_⟩:=O0.JA;exact dh.sU hb hg (by decide)
  have CAP:aY (l.length<=cap):=by obtain⟨cur,hg,q,_⟩:=O0.JA;exact q
  have BI:aY (∀D wr,OT w g cap l.length D wr->wr.cell? ⟨bi,0,aj⟩=az (ah ag (i:Int))):=fun D wr o=>(hb.ch o.ch nQ).cell 0;have CC:aY (∀(x:Nt) D w1 w',x.1<1000000->OT w g cap l.length D w1->aN w1.heap.size w1 w'->bZ aH 60 #[.agg #[ah ag x.1,ah ag x.2.1,ah ag x.2.2],au (az ⟨bi,0,aj⟩)] w' fun e w''=>e=ax (.bool (x.1/2==i))/\aN w'.heap.size w' w''):=fun x D w1 w' hx o hw=>
   Vm x i bi w' hx ((hw.cell (p:=⟨bi,0,aj⟩) (aZ _ _ (BI.o D w1 o))).trans (BI.o D w1 o))
  have iZ:aY (∀w',OT w g cap (jQ i l).length (jQ i l) w'->aav (ay (az ⟨g,0,aj⟩) l.length cap) l i w (ax (ay (az ⟨g,0,aj⟩) (jQ i l).length cap)) w'):=fun w' o=>
   ⟨_,rfl,o.own,rfl,o.ch.mono fun k _ e=>by rw[e];rfl⟩
  have ST:aY (∀w',aN w.heap.size w w'->Zy l i w g cap (ah ag k0) (ah ag ((k0:Int)+1)) w'):=fun w' hw=>⟨k0+1,k0,l,by omega,NJ,rfl,by congr 1,by
   rw[RZ l i k0 NJ,if_pos hd0];unfold jQ;rw[yG];intro x hx;obtain⟨j,hj,rfl⟩:=qD hx;rw[ik]at hj;have:=amc j (by omega);have hj2:j<l.length:=by omega
   simp only[fF,dw hj2,iW]at this;rw[List.getElem_take];simp only[bne,this];rfl,rfl,O0.below hw⟩
  have k00:(0:Int)<=(k0:Int):=by omega
  have kne:((k0:Int)==-1)=false:=by simp
  have aIA:(k0:Int)+1<=1000000001:=by omega
  clear h hb IX hall hd0 amc O0;generalize aav (ay (az ⟨g,0,aj⟩) l.length cap) l i w=NW at *;go_enter func59,ntmps59;go_wp2_with (first|(go_at_call 101;(with_reducible refine IX2.o.mono ?_);rintro e w2 ⟨rfl,wN⟩;have B2:=aA wN;clear wN));go_loopw [5,6,7] (fun m j _ wr=>Zy l i w g cap m j wr) (fun _ j _ _=>l.length-(aJ j).toNat);case atStart=>exact ST.o _ B2.o
  case round=>
   obtain⟨k,q,D,hqk,hk,rfl,rfl,e1,e2,o⟩:=hrel;have O:=aA o;have DL:=o.len;by_cases nI:k<l.length
   ·have ekd:D.getD k Es=l.getD k Es:=by
     have h1:(D.drop k).getD 0 Es=(l.drop k).getD 0 Es:=(by rw[e2]);simpa[bJ,List.getElem?_drop]using h1
    obtain⟨z0,_⟩:=o.JW (i:=k) (j:=0) nI (by decide);obtain⟨z1,_⟩:=o.JW (i:=k) (j:=1) nI (by decide);obtain⟨z2,_⟩:=o.JW (i:=k) (j:=2) nI (by decide);rw[ekd]at z0 z1 z2;simp only[JB,jA,dD,fC]at z0 z1 z2;have sn:=RZ l i k nI;have hx1:=hsm (l.getD k Es) (by simp[bJ,nI]);have DROP:D.drop (k+1)=l.drop (k+1):=by
     have h1:=congrArg (List.drop 1) e2
     rwa [List.drop_drop,List.drop_drop]at h1
    have YES:aY (((l.getD k Es).1/2==i)=true->∀w',aN wr.heap.size wr w'->Zy l i w g cap (ah ag q) (ah ag ((k:Int)+1)) w'):=fun hq w' hw=>⟨k+1,q,D,by omega,by omega,rfl,by congr 1,by rw[sn,if_pos hq];exact e1,DROP,o.below hw⟩;have NO:aY (((l.getD k Es).1/2==i)=false->∀w',aN wr.heap.size wr w'->∀v0 v1 v2,JB (l.getD k Es)=[v0,v1,v2]->Zy l i w g cap (ah ag ((q:Int)+1)) (ah ag ((k:Int)+1)) (((w'.setCell ⟨g,q*3,aj⟩ v0).setCell ⟨g,q*3+1,aj⟩ v1).setCell ⟨g,q*3+2,aj⟩ v2)):=fun hq w' hw v0 v1 v2 ev=>⟨k+1,q+1,D.set q (l.getD k Es),by omega,by omega,by congr 1,by congr 1,by rw[sn,hq,if_neg (by decide),e1,oh,List.take_set_of_le (by omega),kY,if_pos rfl,if_pos (by omega)];rfl,by rw[List.drop_set_of_lt (by omega)];exact DROP,(o.below hw).azB (by omega) _ v0 v1 v2 ev⟩;have HC:=aA (CC.o (l.getD k Es) D wr);have WR:=aA (fun w' (hw:aN wr.heap.size wr w')=>(o.below hw).JW (i:=q) (j:=0) (by omega) (by decide));have WR1:=aA (fun w' (hw:aN wr.heap.size wr w')=>(o.below hw).JW (i:=q) (j:=1) (by omega) (by decide));have WR2:=aA (fun w' (hw:aN wr.heap.size wr w')=>(o.below hw).JW (i:=q) (j:=2) (by omega) (by decide));generalize l.getD k Es=d at *;obtain⟨xc,xv,xl⟩:=d;simp only at z0 z1 z2 HC YES NO hx1;have i0:(0:Int)<=(k:Int):=(by omega);have i2:(k:Int)<(l.length:Int):=(by omega);have j0:(0:Int)<=(q:Int):=(by omega);have j2:(q:Int)<(l.length:Int):=(by omega);clear e1 e2 ekd sn DROP o;go_wp2_with fail;obtain⟨wA,hwA⟩:∃wA:aG,wr.alloc (af #[ah ag xc,ah ag xv,ah ag xl] 116)=wA:=⟨_,rfl⟩;have BA:aY (aN wr.heap.size wr wA):=(by rw[<-hwA];exact(aQ _ _).alloc (aC _) _);have VA:aY (dh wA wr.heap.size 116 #[ah ag xc,ah ag xv,ah ag xl]):=(by rw[<-hwA];exact dh.new wr _ _);rw[hwA];refine(HC.o wA hx1 O.o BA.o).mono ?_;rintro e w2 ⟨rfl,wN⟩;have B2:aY (aN wr.heap.size wr w2):=BA.o.trans (wN.mono BA.o.size);have V2:=VA.o.below wN VA.o.lt;have y0:=V2.cell 0;have y1:=V2.cell 1;have y2:=V2.cell 2;obtain⟨u0,f0⟩:=WR.o w2 B2.o;obtain⟨u1,f1⟩:=WR1.o w2 B2.o;obtain⟨u2,f2⟩:=WR2.o w2 B2.o;simp only[jA,JB,dD,fC]at f0 u0 u1 u2;generalize D.getD q Es=dq at *;clear wN hwA z0 z1 z2 V2;cases hq:(xc/2==i)with
    |true=>have R:=aA (YES.o hq w2 B2.o);clear YES NO hq;go_wp2_with fail;exact⟨R.o,by simp[aJ];omega⟩
    |false=>have R:=aA (NO.o hq w2 B2.o _ _ _ rfl);clear YES NO hq;go_wp2_with fail;exact⟨R.o,by simp[aJ];omega⟩
   ·have hke:k=l.length:=by omega
    subst hke;rw[dY]at e1;have lo:(jQ i l).length=q:=by rw[e1,ik];omega
    obtain⟨w',hcl,o2⟩:=o.cut (q:=q) hqk;rw[<-e1]at o2;have F:=iZ.out;rw[lo]at F;have FN:=aA (F w' o2);have cne:¬cap=q:=(by have:=CAP.o;omega);have q0:(0:Int)<=(q:Int):=(by omega);have q1:(q:Int)<=(l.length:Int):=(by omega);have q2:(q:Int)<=(cap:Int):=(by have:=CAP.o;omega);clear e1 e2 o o2 F lo;go_wp2_with fail;exact FN.o
end
end Go.Proofs.YtnjjkgjdhljfnaaGreat
