/- Part 12. -/
import Derived.Deep.Cut
import Derived.Deep.CutRange
import Derived.Test.YtnjjkgjdhljfnaaGreatPk11
open Go.Proofs.Tryz
open Array renaming getElem?_toList->pQ,length_toList->mZ
open Bool renaming and_eq_true->dD,eq_iff_iff->kH,false_eq_true->mh,not_eq_true'->jW,or_eq_true->jd
open Classical renaming em->vV,not_forall->EO,propDecidable->vE
open Go renaming Addr->fE,Calls->di,Ending->iL,TypeId->dP,Value->aJ,World->aG,info_parts->eQ,maxLen->fJ,wp_at_succ->fK,wp_at_zero->fM
open Go.Builtin renaming clear_->EM,delete_->DN,zeroCells->mO
open Go.Ending renaming returned->ax
open Go.Instr renaming lookup->oO,mapUpdate->oz
open Go.IntKind renaming i64->ag
open Go.IntWalk renaming i64_in->fH
open Go.Lib renaming hid->aA
open Go.Maps renaming has->JO
open Go.Obj renaming cells->af
open Go.Proofs.Tryz renaming prog->aH
open Go.Result renaming andThen->mR
open Go.RowKit renaming Below->aO,Hid->aZ,intOf->aK
open Go.RowKit.Below renaming refl->aS
open Go.Value renaming agg->Lx,bool->kv,int->ah,ownBlock->eO,pointer->au,slice->ay
open Go.WideAt renaming IsKeyLit->yO,sameKey_iff->pG,sameKey_self->lH
open Go.World renaming block_lt_of_cell?->aY,ownsRow_nil->dR
open Go.World.ownsRow renaming lt->xB
open Int renaming toNat_natCast->cO
open List renaming any_eq_true->jv,append_assoc->jX,append_nil->jr,filter_append->ji,filter_congr->qh,filter_cons->iP,filter_eq_nil_iff->mP,filter_eq_self->yX,flatMap_append->fU,flatMap_cons->dY,foldl_append->fV,foldl_cons->dS,getD->bS,getD_eq_getElem?_getD->dN,getElem?_cons_succ->fP,getElem?_cons_zero->dO,getElem?_eq_getElem->cZ,getElem?_eq_some_iff->AJ,getElem?_map->cK,getElem?_range->eu,getElem?_set->lK,getElem?_take->mq,getElem_of_mem->um,length->oV,length_append->bW,length_cons->fw,length_map->dW,length_nil->kJ,length_range->mQ,length_set->jN,length_take->iG,map_append->fF,map_cons->mK,map_nil->vZ,map_set->zh,mem_append->dU,mem_cons->dM,mem_cons_of_mem->dx,mem_cons_self->bZ,mem_filter->iR,mem_iff_getElem->qj,mem_map->iU,mem_range->dK,mem_singleton->dh,nodup_append->nZ,nodup_cons->qb,not_mem_nil->dZ,range->aN,range_succ->dL,set_append_right->ik,take_add_one->oh,take_length->fB,take_take->Fj
open List.Pairwise renaming nil->sQ
open Nat renaming add_zero->ma,le_refl->aC,le_succ->vG,lt_of_lt_of_le->bY,mul_le_mul_right->tJ,succ_mul->JS,zero_le->bJ
open Ne renaming symm->iB
open Option renaming getD_some->iy,none->aj,some->az
open Option.some renaming inj->mg
set_option maxRecDepth 100000
set_option maxHeartbeats 16000000
set_option linter.unusedVariables false
set_option linter.unusedSimpArgs false
namespace Go.Proofs.YtnjjkgjdhljfnaaGreat
section
open Go.RowKit Go.Maps
attribute [local go_sem ↓] fM fK
def agM(v:Bool)(w:aG)(e:iL)(w':aG):Prop:=e=ax (.bool v)/\w=w'
theorem Kl(x:Int)(b:Nat)(ns:List Nd)(cs:List Cb)(An Ac:Option fE)(cn cc:Nat)(w:aG)(h:QN w b ns cs An Ac cn cc)(hp:nW ns cs):di aH 46 #[pt b,ah ag x] w (agM (xH ns x) w):=by
 have n16:=hp.n16;have c0:=h.c0;by_cases h0:0<=x
 ·by_cases h1:x<(ns.length:Int)
  ·obtain⟨k,rfl⟩:∃k:Nat,x=k:=⟨x.toNat,by omega⟩;obtain⟨b2,o2,ha,uy,_,_,e1,_⟩:=uS h.plan.1 k (by simp only;omega);rw[ha]at c0;have E:xH ns (k:Int)=!(ns.getD k iZ).sw:=by unfold xH qE;simp;omega
   simp only at e1;rw[E];generalize(ns.getD k iZ).sw=sw at *;clear h hp ha E;unfold pt;cases sw with
   |true=>
    go_enter func46,ntmps46;go_wp2_with fail
    go_ret;exact⟨rfl,rfl⟩
   |false=>
    go_enter func46,ntmps46;go_wp2_with fail
    go_ret;exact⟨rfl,rfl⟩
  ·have E:xH ns x=false:=by unfold xH;simp;omega
   rw[E];clear h hp E;have h1':decide (x<(ns.length:Int))=false:=by simpa using h1
   unfold pt;go_enter func46,ntmps46;go_wp2_with fail;go_ret;exact⟨rfl,rfl⟩
 ·have E:xH ns x=false:=by unfold xH;simp;omega
  rw[E];clear h hp E;have h0':decide (0<=x)=false:=by simpa using h0
  unfold pt;go_enter func46,ntmps46;go_wp2_with fail;go_ret;exact⟨rfl,rfl⟩
def aaF(v:Int)(w:aG)(e:iL)(w':aG):Prop:=e=ax (ah ag v)/\aO w.heap.size w w'
structure RtS(w:aG)(b:Nat)(q:Nat)(n bE:Nat)(node port jl:Nat)(r:Rt):Prop where
 nx:∃(g c:Nat) (V:Nat->aJ),w.cell? ⟨b,7+q*2,aj⟩=az (ay (az ⟨g,0,aj⟩) n c)/\(∀p,p<2->w.cell? ⟨g,node*2+p,aj⟩=az (V p))/\∀p,p<2->∃g2 c2,V p=ay (az ⟨g2,0,aj⟩) n c2/\w.cell? ⟨g2,jl,aj⟩=az (ah ag (r.next node p jl))
 fl:∃(g c g2 c2:Nat),w.cell? ⟨b,7+q*2+1,aj⟩=az (ay (az ⟨g,0,aj⟩) n c)/\w.cell? ⟨g,node,aj⟩=az (ay (az ⟨g2,0,aj⟩) bE c2)/\w.cell? ⟨g2,port,aj⟩=az (.bool (r.rz node port))
theorem Yh(f:dB)(node port b:Nat)(x:Fm)(v:aJ)(ns:List Nd)(cs:List Cb)(An Ac:Option fE)(cn cc gu cu:Nat)(w:aG)(h:QN w b ns cs An Ac cn cc)(hp:nW ns cs)(hn:node<ns.length)(hpo:port<fA (ns.getD node iZ))(he:0<=x.ep)(ht0:0<=x.jl)(ht1:x.jl<ns.length)(hR:RtS w b (x.ep.toNat%2) ns.length (fA (ns.getD node iZ)) node port x.jl.toNat (f.rt x.ep))(hr:∀p,p<2->(f.rt x.ep).next node p x.jl.toNat<cs.length/\-2<=(f.rt x.ep).next node p x.jl.toNat)(yS:f.up.length=cs.length)(hU:0<cs.length->w.cell? ⟨b,6,aj⟩=az (ay (az ⟨gu,0,aj⟩) cs.length cu)/\∀i,i<cs.length->w.cell? ⟨gu,i,aj⟩=az (.bool (f.up.getD i false)))(hv:∃a n c,v=ay a n c):di aH 66 #[pt b,ah ag node,ah ag port,Nb x v] w (aaF (pX (f.leave ns cs node port x)) w):=by
 obtain⟨xi,xf,xt,xc,xe,xd⟩:=x;simp only at he ht0 ht1 hR hr;obtain⟨va,vn,vc,rfl⟩:=hv;obtain⟨ep,rfl⟩:∃n:Nat,xe=n:=⟨xe.toNat,by omega⟩;obtain⟨tt,rfl⟩:∃n:Nat,xt=n:=⟨xt.toNat,by omega⟩;simp only[cO]at hR hr;obtain⟨ng,nc,V,n1,n2,n3⟩:=hR.nx;obtain⟨fg,fc,fg2,fc2,f1,f2,f3⟩:=hR.fl;have n16:=hp.n16;have Ll:=hp.Ll;have c0:=h.c0;obtain⟨b2,o2,ha,uy,_,_,e1,_⟩:=uS h.plan.1 node hn;rw[ha]at c0;simp only at e1;have EV:aZ (f.leave ns cs node port ⟨xi,xf,tt,xc,ep,xd⟩=(let yu:=(f.rt ep).next node (if(ns.getD node iZ).sw&&(f.rt ep).rz node port then 1 else 0) tt
  if yu<0 then aj else if f.up.getD yu.toNat false then az (iT cs yu.toNat node)else aj)):=rfl
 generalize f.rt ep=r at *;obtain⟨q,hq⟩:∃q,ep%2=q:=⟨_,rfl⟩;rw[hq]at n1 f1;have q2:q<2:=by omega
 have hqt:((ep:Int)).tmod 2=(q:Int):=by rw[Int.tmod_eq_emod_of_nonneg (by omega)];omega
 have hqm:((ep:Int))%2=(q:Int):=by omega
 have q0:(0:Int)<=(q:Int):=by omega
 have q3:(q:Int)<2:=by omega
 have i0:(0:Int)<=(node:Int):=by omega
 have i1:(node:Int)<(ns.length:Int):=by omega
 have p0:(0:Int)<=(port:Int):=by omega
 have p1:(port:Int)<(fA (ns.getD node iZ):Int):=by omega
 have t0:(0:Int)<=(tt:Int):=by omega
 have t1:(tt:Int)<(ns.length:Int):=by omega
 obtain⟨w1,gK⟩:∃w1:aG,w.alloc (af #[ah ag xi,ah ag xf,ah ag tt,ah ag xc,ah ag ep,ay va vn vc] 59)=w1:=⟨_,rfl⟩;have B1:aZ (aO w.heap.size w w1):=by rw[<-gK];exact(aS _ _).alloc (aC _) _
 have F1:aZ (dG w1 w.heap.size 59 #[ah ag xi,ah ag xf,ah ag tt,ah ag xc,ah ag ep,ay va vn vc]):=by rw[<-gK];exact dG.new w _ _
 have KP:aZ (∀w',aO w.heap.size w w'->w'.cell? ⟨b,7+q*2,aj⟩=az (ay (az ⟨ng,0,aj⟩) ns.length nc)/\w'.cell? ⟨b,7+q*2+1,aj⟩=az (ay (az ⟨fg,0,aj⟩) ns.length fc)):=fun w' hb=>
  ⟨(hb.cell (p:=⟨b,7+q*2,aj⟩) (aY _ _ n1)).trans n1,(hb.cell (p:=⟨b,7+q*2+1,aj⟩) (aY _ _ f1)).trans f1⟩
 clear hR ha hq;unfold Nb;simp only;unfold pt;go_enter func66,ntmps66;go_wp2_with fail;have f4:w1.cell? ⟨w.heap.size,4,aj⟩=az (ah ag ep):=F1.o.cell 4;have kp:=KP.o w1 B1.o;have S1:aZ (w1.heap.size=w.heap.size+1):=by rw[<-gK,aZ];simp
 clear n1 f1 gK;refine fZ 9 (fun w'=>w'.cell? ⟨w.heap.size,4,aj⟩=az (ah ag ep)/\w'.cell? ⟨b,7+q*2,aj⟩=az (ay (az ⟨ng,0,aj⟩) ns.length nc)/\w'.cell? ⟨b,7+q*2+1,aj⟩=az (ay (az ⟨fg,0,aj⟩) ns.length fc)) (by kernel_rfl) ⟨f4,kp.1,kp.2⟩ (fun aW=>?_);refine bH.tk 0 aW ?_;try simp only[bI]
 refine bH.tk 1 aW ?_;try simp only[bI]
 refine bH.tk 2 aW ?_;try simp only[bI]
 refine bH.tk 3 aW ?_;try simp only[bI]
 refine bH.tk 4 aW ?_;try simp only[bI]
 refine bH.tk 5 aW ?_;try simp only[bI]
 refine bH.tk 6 aW ?_;try simp only[bI]
 refine bH.tk 7 aW ?_;try simp only[bI]
 have KA:aZ (∀o,(w1.alloc o).cell? ⟨w.heap.size,4,aj⟩=az (ah ag ep)/\(w1.alloc o).cell? ⟨b,7+q*2,aj⟩=az (ay (az ⟨ng,0,aj⟩) ns.length nc)/\(w1.alloc o).cell? ⟨b,7+q*2+1,aj⟩=az (ay (az ⟨fg,0,aj⟩) ns.length fc)):=fun o=>⟨(F1.o.alloc o).cell 4,(KP.o _ (B1.o.alloc B1.o.size o)).1,(KP.o _ (B1.o.alloc B1.o.size o)).2⟩;refine bH.one (i:=8) (by kernel_rfl) rfl (fun K hK=>?_);go_simp;refine hK.out _ _ (fun _=>KA.o _) (fun bU=>?_);have aW:=bU (by decide);clear hK bU;try simp only[bI]
 refine bH.one (i:=9) (by kernel_rfl) rfl (fun K hK=>?_);go_simp;refine hK.out _ _ (fun h=>absurd rfl h) (fun _=>?_);clear hK;refine bH.done (by kernel_rfl) ?_ _;try simp only[bI]
 clear f4 kp aW;obtain⟨w2,Lp⟩:∃w2:aG,(w1.alloc (af #[ay (az ⟨ng,0,aj⟩) ns.length nc,ay (az ⟨fg,0,aj⟩) ns.length fc] 97)).drew=w2:=⟨_,rfl⟩;rw[Lp];have B2:aZ (aO w.heap.size w w2):=by rw[<-Lp];exact(B1.o.alloc B1.o.size _).drew
 have R2:aZ (dG w2 w1.heap.size 97 #[ay (az ⟨ng,0,aj⟩) ns.length nc,ay (az ⟨fg,0,aj⟩) ns.length fc]):=by rw[<-Lp];exact(dG.new w1 _ _).drew
 have F2:aZ (dG w2 w.heap.size 59 #[ah ag xi,ah ag xf,ah ag tt,ah ag xc,ah ag ep,ay va vn vc]):=by rw[<-Lp];exact(F1.o.alloc _).drew
 have C2:aZ (∀p u,w.cell? p=az u->w2.cell? p=az u):=fun p u hu=>(B2.o.cell (aY _ _ hu)).trans hu;have HF2:=aA f2;have HF3:=aA f3;have HU:=aA hU;have HN2:=aA n2;have HN3:=aA n3;have HR:=aA hr;have HUP:=aA yS;have FCH:aZ (∀i,i<cs.length->∀w',aO w.heap.size w w'->di aH 65 #[au (az ⟨b,0,aj⟩),ah ag i,ah ag node] w' fun e w''=>e=ax (ah ag (iT cs i node:Nat))/\w'=w''):=fun i hi w' hb=>Ma i node b ns cs An Ac cn cc w' (h.below hb) hp hi hn;have d0:=C2.o _ _ c0;have d1:=C2.o _ _ e1;have d2:w2.cell? ⟨w1.heap.size,0+1,aj⟩=az (ay (az ⟨fg,0,aj⟩) ns.length fc):=R2.o.cell 1;have d3:=C2.o _ _ f2;have d4:=C2.o _ _ f3;have d5:w2.cell? ⟨w1.heap.size,0,aj⟩=az (ay (az ⟨ng,0,aj⟩) ns.length nc):=R2.o.cell 0;have d6:w2.cell? ⟨w.heap.size,2,aj⟩=az (ah ag tt):=F2.o.cell 2;clear Lp c0 e1 f2 f3 hU n2 n3 hr yS h hp B1 F1;obtain⟨ph,hph⟩:∃ph,(if(ns.getD node iZ).sw&&r.rz node port then 1 else 0:Nat)=ph:=⟨_,rfl⟩;have ph2:ph<2:=by rw[<-hph];split<;>omega
 obtain⟨g2,c2,eV,n4⟩:=HN3.o ph ph2;have d7:=C2.o _ _ (HN2.o ph ph2);have d8:=C2.o _ _ n4;rw[eV]at d7;have RR:=aA (HR.o ph ph2);rw[hph]at EV;generalize r.next node ph tt=xP at *;have ph0:(0:Int)<=(ph:Int):=by omega
 have ph1:(ph:Int)<2:=by omega
 clear n4 eV;generalize(ns.getD node iZ).sw=sw at *;generalize r.rz node port=fa at *;generalize fA (ns.getD node iZ)=np at *;have e7:∀p:Nat,(node*2+p)=node*2+p:=fun _=>rfl;clear e7;cases sw with
 |true=>
  cases fa with
  |true=>
   obtain rfl:1=ph:=hph;by_cases rP:xP<0
   ·have hcd:decide (xP<0)=true:=decide_eq_true rP;have LV:aZ (f.leave ns cs node port ⟨xi,xf,tt,xc,ep,xd⟩=aj):=by rw[aZ,EV.o];simp only[rP,if_true]
    clear rP;go_wp2_with fail;go_quiet (fail);go_wp2_with fail;go_ret;exact⟨by rw[LV.o];rfl,below_drewN B2.o _⟩
   ·obtain⟨i,rfl⟩:∃i:Nat,xP=i:=⟨xP.toNat,by omega⟩;have hi:i<cs.length:=by have:=RR.o.1;omega
    obtain⟨u1,u2⟩:=HU.o (by omega);have d9:=C2.o _ _ u1;have d10:=C2.o _ _ (u2 i hi);have i0':(0:Int)<=(i:Int):=(by omega);have i1':(i:Int)<(cs.length:Int):=(by omega);have hcd:decide ((i:Int)<0)=false:=decide_eq_false rP;have FC:=aA (FCH.o i hi);cases yS:f.up.getD i false with
    |false=>have LV:aZ (f.leave ns cs node port ⟨xi,xf,tt,xc,ep,xd⟩=aj):=(by rw[aZ,EV.o];simp only[rP,if_false,cO,yS];simp);rw[yS]at d10;clear yS u1 u2 rP;go_wp2_with fail;go_quiet (fail);go_wp2_with fail;go_ret;exact⟨by rw[LV.o];rfl,below_drewN B2.o _⟩
    |true=>have LV:aZ (f.leave ns cs node port ⟨xi,xf,tt,xc,ep,xd⟩=az (iT cs i node)):=(by rw[aZ,EV.o];simp only[rP,if_false,cO,yS,if_true]);rw[yS]at d10;clear yS u1 u2 rP;go_wp2_with fail;go_quiet (fail);go_wp2_with (first|(go_at_call 65;refine(FC.o _ (below_drewN B2.o _)).mono ?_;rintro e w' ⟨rfl,rfl⟩));go_ret;exact⟨by rw[LV.o];rfl,below_drewN B2.o _⟩
  |false=>
   obtain rfl:0=ph:=hph;simp only[ma]at d7;by_cases rP:xP<0
   ·have hcd:decide (xP<0)=true:=decide_eq_true rP;have LV:aZ (f.leave ns cs node port ⟨xi,xf,tt,xc,ep,xd⟩=aj):=by rw[aZ,EV.o];simp only[rP,if_true]
    clear rP;go_wp2_with fail;go_quiet (fail);go_wp2_with fail;go_ret;exact⟨by rw[LV.o];rfl,below_drewN B2.o _⟩
   ·obtain⟨i,rfl⟩:∃i:Nat,xP=i:=⟨xP.toNat,by omega⟩;have hi:i<cs.length:=by have:=RR.o.1;omega
    obtain⟨u1,u2⟩:=HU.o (by omega);have d9:=C2.o _ _ u1;have d10:=C2.o _ _ (u2 i hi);have i0':(0:Int)<=(i:Int):=(by omega);have i1':(i:Int)<(cs.length:Int):=(by omega);have hcd:decide ((i:Int)<0)=false:=decide_eq_false rP;have FC:=aA (FCH.o i hi);cases yS:f.up.getD i false with
    |false=>have LV:aZ (f.leave ns cs node port ⟨xi,xf,tt,xc,ep,xd⟩=aj):=(by rw[aZ,EV.o];simp only[rP,if_false,cO,yS];simp);rw[yS]at d10;clear yS u1 u2 rP;go_wp2_with fail;go_quiet (fail);go_wp2_with fail;go_ret;exact⟨by rw[LV.o];rfl,below_drewN B2.o _⟩
    |true=>have LV:aZ (f.leave ns cs node port ⟨xi,xf,tt,xc,ep,xd⟩=az (iT cs i node)):=(by rw[aZ,EV.o];simp only[rP,if_false,cO,yS,if_true]);rw[yS]at d10;clear yS u1 u2 rP;go_wp2_with fail;go_quiet (fail);go_wp2_with (first|(go_at_call 65;refine(FC.o _ (below_drewN B2.o _)).mono ?_;rintro e w' ⟨rfl,rfl⟩));go_ret;exact⟨by rw[LV.o];rfl,below_drewN B2.o _⟩
 |false=>
  obtain rfl:0=ph:=hph;simp only[ma]at d7;by_cases rP:xP<0
  ·have hcd:decide (xP<0)=true:=decide_eq_true rP;have LV:aZ (f.leave ns cs node port ⟨xi,xf,tt,xc,ep,xd⟩=aj):=by rw[aZ,EV.o];simp only[rP,if_true]
   clear rP;go_wp2_with fail;go_quiet (fail);go_wp2_with fail;go_ret;exact⟨by rw[LV.o];rfl,below_drewN B2.o _⟩
  ·obtain⟨i,rfl⟩:∃i:Nat,xP=i:=⟨xP.toNat,by omega⟩;have hi:i<cs.length:=by have:=RR.o.1;omega
   obtain⟨u1,u2⟩:=HU.o (by omega);have d9:=C2.o _ _ u1;have d10:=C2.o _ _ (u2 i hi);have i0':(0:Int)<=(i:Int):=(by omega);have i1':(i:Int)<(cs.length:Int):=(by omega);have hcd:decide ((i:Int)<0)=false:=decide_eq_false rP;have FC:=aA (FCH.o i hi);cases yS:f.up.getD i false with
   |false=>have LV:aZ (f.leave ns cs node port ⟨xi,xf,tt,xc,ep,xd⟩=aj):=(by rw[aZ,EV.o];simp only[rP,if_false,cO,yS];simp);rw[yS]at d10;clear yS u1 u2 rP;go_wp2_with fail;go_quiet (fail);go_wp2_with fail;go_ret;exact⟨by rw[LV.o];rfl,below_drewN B2.o _⟩
   |true=>have LV:aZ (f.leave ns cs node port ⟨xi,xf,tt,xc,ep,xd⟩=az (iT cs i node)):=(by rw[aZ,EV.o];simp only[rP,if_false,cO,yS,if_true]);rw[yS]at d10;clear yS u1 u2 rP;go_wp2_with fail;go_quiet (fail);go_wp2_with (first|(go_at_call 65;refine(FC.o _ (below_drewN B2.o _)).mono ?_;rintro e w' ⟨rfl,rfl⟩));go_ret;exact⟨by rw[LV.o];rfl,below_drewN B2.o _⟩
end
section
open Go.RowKit Go.Maps
theorem Uv.jM{Z dV:Own}{w w':aG}{ns:List Nd}{vn vf:aJ}{r:Rt}{S:Nat->Prop}(h:Uv Z w ns vn vf r)(hc:Ch S w w')(he:∀k,k<w.heap.size->dV k=Z k)(hS:∀k,S k->(Z k).1≠1):Uv dV w' ns vn vf r:=by obtain⟨V,h1,h2⟩:=h.nx;obtain⟨U,h3,h4⟩:=h.fl;exact⟨⟨V,h1.jM hc he fun k s q=>hS k s q,fun i hi p hp=>(h2 i hi p hp).jM hc he fun k s q=>hS k s q⟩,⟨U,h3.jM hc he fun k s q=>hS k s q,fun i hi=>(h4 i hi).jM hc he fun k s q=>hS k s q⟩⟩
theorem ny{w w':aG}{P:Program}{k:dP}{b n:Nat}{M:Lit->Option aJ}{S:Nat->Prop}(h:jL w P k b n M)(hc:Ch S w w')(hb:¬S b):jL w' P k b n M:=by obtain⟨D,⟨es,clock,h1,h2⟩,h3⟩:=h;exact⟨D,⟨es,clock,(hc.block b (World.ownsMap.lt (⟨es,clock,h1,h2⟩:w.ownsMap P k rM b n D)) hb).trans h1,h2⟩,h3⟩
theorem NH.jM{Z dV:Own}{w w':aG}{v:aJ}{l:List (Nat×Fm)}{S:Nat->Prop}(h:NH Z w v l)(hc:Ch S w w')(he:∀k,k<w.heap.size->dV k=Z k)(hS:∀k,S k->(Z k).1≠1)(hv:∀g,v.ownBlock=az g->¬S g):NH dV w' v l:=by obtain⟨Q,h1,h2,h3⟩:=h;exact⟨Q,h1,fT h2 hc hv,fun x hx=>(h3 x hx).jM hc he hS⟩
theorem NH.lt{Z:Own}{w:aG}{v:aJ}{l:List (Nat×Fm)}(h:NH Z w v l):∀g,v.ownBlock=az g->g<w.heap.size:=by obtain⟨Q,_,h2,_⟩:=h;exact fun g hg=>(h2.lt g hg).2
theorem NF.jM{Z dV:Own}{w w':aG}{k:Nat}{v:aJ}{row:Nat->aJ}{n:Nat}{l:List (List Int)}{S:Nat->Prop}(h:NF Z w k v row n l)(hc:Ch S w w')(he:∀k,k<w.heap.size->dV k=Z k)(hS:∀g,S g->(Z g).1≠1/\((Z g).1=2->(Z g).2.1≠k)):NF dV w' k v row n l:=
 ⟨h.1.jM hc he fun g s q=>(hS g s).1 q,fun i hi=>(h.2 i hi).jM hc he fun g s q=>(hS g s).2 (by rw[q]) (by rw[q])⟩
structure akB(K:Nat->Prop)(Z:Own)(w:aG)(b:Nat)(ns:List Nd)(cs:List Cb)(f:dB)(L:rY):Prop where
 root:¬K 0->dG w b 100 (BU f L)
 iO:Z b=(2,0,0,0)/\b<w.heap.size
 plan:Fq Z w ns cs L.vn L.vc
 aI:kQ Z w 3 never L.vr f.aI.length (f.aI.map fun x=>ah ag x)
 xP:kQ Z w 26 never L.vt ns.length ((aN ns.length).map L.row)/\∀i,i<ns.length->kQ Z w 3 never (L.row i) (fA (ns.getD i iZ)) ((aN (fA (ns.getD i iZ))).map fun p=>ah ag (Ev cs i p))
 Kc:kQ Z w 101 never L.vb ns.length ((aN ns.length).map fun i=>pt (L.bx i))
 bx:∀i,i<ns.length->pW Z (3+i) w (L.bx i) (f.boxes.getD i default) (L.Ik i)
 up:¬K 1->kQ Z w 4 (PW 1 0) L.vu f.up.length (f.up.map fun x=>.bool x)
 r0:Uv Z w ns L.r0n L.r0f f.CR
 r1:0<f.dE->Uv Z w ns L.r1n L.r1f f.JH
 bk:¬K 2->Bk w L.bk f.dE f.wQ f.vJ
 IZ:Z L.bk=(2,2,0,0)
 fl:¬K 3->¬K 4->vH w L.mf f.fl (fun t v l=>NH Z w v l/\∀g,v.ownBlock=az g->Z g=(2,4,t,0))
 ZM:Z L.mf=(2,3,0,0)
 lim:¬K 5->¬K 6->vH w L.ml f.lim (fun t v l=>JU w v l/\∀g,v.ownBlock=az g->Z g=(2,6,t,0))
 Kw:Z L.ml=(2,5,0,0)
 came:¬K 7->NF Z w 7 L.UA L.cm ns.length f.came
 gone:¬K 8->NF Z w 8 L.vg L.gn (2*cs.length) f.gone
 lost:¬K 9->∃ids:List Int,w.ownsRow 0 3 1 L.vl ids.length (ids.flatMap cI)/\(∀g,L.vl.ownBlock=az g->Z g=(2,9,0,0))/\ids.Perm (f.lost.map (·.id))
section
variable{Z dV:Own}{w w':aG}{b:Nat}{ns:List Nd}{cs:List Cb}{f:dB}{L:rY}
theorem jL.Uz{n:Nat}{M:Lit->Option aJ}{bm:Nat}(h:jL w aH 3 bm n M):bm<w.heap.size:=h.lt
theorem gz.Rf{S:Nat->Prop}(K:Nat->Prop)(h:gz Z w b ns cs f L)(hc:Ch S w w')(he:∀k,k<w.heap.size->dV k=Z k)(hS:∀k,S k->(Z k).1=0\/((Z k).1=2/\K (Z k).2.1)):akB K dV w' b ns cs f L:=by
 have s1:∀k,S k->(Z k).1≠1:=fun k s=>by rcases hS k s with q|q<;>omega
 have s2:∀(kd:Nat) {g a d:Nat},¬K kd->Z g=(2,kd,a,d)->¬S g:=fun kd g a d hk e s=>by
  rcases hS g s with q|q
  ·rw[e]at q;simp at q
  ·rw[e]at q;exact hk q.2
 have s3:∀k,S k->∀i,(Z k).1≠3+i:=fun k s i=>by rcases hS k s with q|q<;>omega
 have sn:∀k,S k->¬never (Z k):=fun k s q=>s1 k s q;have lb:=h.root.1.lt;exact{
  root:=fun hk=>h.root.1.ch hc (s2 0 hk h.root.2)
  iO:=⟨by rw[he _ lb];exact h.root.2,bY lb hc.size⟩
  plan:=h.plan.jM hc he s1
  aI:=h.aI.jM hc he sn
  xP:=⟨h.xP.1.jM hc he sn,fun i hi=>(h.xP.2 i hi).jM hc he sn⟩
  Kc:=h.Kc.jM hc he sn
  bx:=fun i hi=>(h.bx i hi).jM hc he fun k s=>⟨s1 k s,s3 k s i⟩
  up:=fun hk=>h.up.jM hc he fun k s q=>s2 1 hk q s
  r0:=h.r0.jM hc he s1
  r1:=fun hb=>(h.r1 hb).jM hc he s1
  bk:=fun hk=>dG.ch h.bk.1 hc (s2 2 hk h.bk.2)
  IZ:=by rw[he _ (dG.lt h.bk.1)];exact h.bk.2
  fl:=fun h3 h4=>by obtain⟨n,M,m1,m2,m3,m4,m5⟩:=h.fl.1;refine⟨n,M,ny m1 hc (s2 3 h3 h.fl.2),m2,m3,m4,fun t v hv=>?_⟩;obtain⟨a1,a2⟩:=m5 t v hv;exact⟨a1.jM hc he s1 fun g hg=>s2 4 h4 (a2 g hg),fun g hg=>by rw[he _ (a1.lt g hg)];exact a2 g hg⟩
  ZM:=by obtain⟨n,M,m1,_⟩:=h.fl.1;rw[he _ m1.Uz];exact h.fl.2
  lim:=fun h3 h4=>by obtain⟨n,M,m1,m2,m3,m4,m5⟩:=h.lim.1;refine⟨n,M,ny m1 hc (s2 5 h3 h.lim.2),m2,m3,m4,fun t v hv=>?_⟩;obtain⟨a1,a2⟩:=m5 t v hv;exact⟨fT a1 hc fun g hg=>s2 6 h4 (a2 g hg),fun g hg=>by rw[he _ (xB a1 g hg).2];exact a2 g hg⟩
  Kw:=by obtain⟨n,M,m1,_⟩:=h.lim.1;rw[he _ m1.Uz];exact h.lim.2
  came:=fun hk=>h.came.jM hc he fun g s=>⟨s1 g s,fun q q2=>by
   rcases hS g s with p|p
   ·omega
   ·rw[q2]at p;exact hk p.2⟩
  gone:=fun hk=>h.gone.jM hc he fun g s=>⟨s1 g s,fun q q2=>by
   rcases hS g s with p|p
   ·omega
   ·rw[q2]at p;exact hk p.2⟩
  lost:=fun hk=>by obtain⟨ids,i1,i2,i3⟩:=h.lost;exact⟨ids,fT i1 hc fun g hg=>s2 9 hk (i2 g hg),fun g hg=>by rw[he _ (i1.lt g hg).2];exact i2 g hg,i3⟩}
theorem akB.all(h:akB (fun _=>False) Z w b ns cs f L):gz Z w b ns cs f L:=
 ⟨⟨h.root id,h.iO.1⟩,h.plan,h.aI,h.xP,h.Kc,h.bx,h.up id,h.r0,h.r1,⟨h.bk id,h.IZ⟩,⟨h.fl id id,h.ZM⟩,⟨h.lim id id,h.Kw⟩,h.came id,h.gone id,h.lost id⟩
theorem gz.jM{S:Nat->Prop}(h:gz Z w b ns cs f L)(hc:Ch S w w')(he:∀k,k<w.heap.size->dV k=Z k)(hS:∀k,S k->(Z k).1=0):gz dV w' b ns cs f L:=
 (h.Rf (fun _=>False) hc he fun k s=>.inl (hS k s)).all
theorem gz.below(h:gz Z w b ns cs f L)(k:aO w.heap.size w w'):gz (fr Z w.heap.size) w' b ns cs f L:=h.jM (S:=fun _=>False) (Ch.dw k) (fun _ hk=>iD hk) (fun _ s=>s.elim)
theorem gz.drew(h:gz Z w b ns cs f L):gz Z w.drew b ns cs f L:=h.jM (S:=fun _=>False) (Ch.refl _ w).drew (fun _ _=>rfl) (fun _ s=>s.elim)
theorem gz.box(h:gz Z w b ns cs f L){i:Nat}(hi:i<ns.length)(hl:f.boxes.length=ns.length){X:Bx}{LX:yV}(k:Nx Z (3+i) w dV w')(hx:pW dV (3+i) w' (L.bx i) X LX):gz dV w' b ns cs {f with boxes:=f.boxes.set i X} {L with Ik:=fun j=>if j=i then LX else L.Ik j}:=by
 have s1:∀k,(Z k).1=3+i->(Z k).1≠1:=fun k s=>by omega
 have s2:∀{g a c d:Nat},Z g=(2,a,c,d)->¬(Z g).1=3+i:=fun e s=>by rw[e]at s;simp at s;omega
 have sn:∀k,(Z k).1=3+i->¬never (Z k):=fun k s q=>s1 k s q;have lb:=h.root.1.lt;have hc:=k.ch;have he:=k.ext;exact{
  root:=⟨h.root.1.ch hc (s2 h.root.2),by rw[he _ lb];exact h.root.2⟩
  plan:=h.plan.jM hc he s1
  aI:=h.aI.jM hc he sn
  xP:=⟨h.xP.1.jM hc he sn,fun i hi=>(h.xP.2 i hi).jM hc he sn⟩
  Kc:=h.Kc.jM hc he sn
  bx:=fun j hj=>by
   show pW dV (3+j) w' (L.bx j) ((f.boxes.set i X).getD j default) (if j=i then LX else L.Ik j);by_cases e:j=i
   ·subst e;rw[iK _ _ _ (by omega),if_pos rfl];exact hx
   ·rw[iC _ _ _ e,if_neg e];exact(h.bx j hj).nx k (by omega) (by omega)
  up:=h.up.jM hc he fun k s q=>s2 q s
  r0:=h.r0.jM hc he s1
  r1:=fun hb=>(h.r1 hb).jM hc he s1
  bk:=⟨dG.ch h.bk.1 hc (s2 h.bk.2),by rw[he _ (dG.lt h.bk.1)];exact h.bk.2⟩
  fl:=by obtain⟨n,M,m1,m2,m3,m4,m5⟩:=h.fl.1;refine⟨⟨n,M,ny m1 hc (s2 h.fl.2),m2,m3,m4,fun t v hv=>?_⟩,by rw[he _ m1.Uz];exact h.fl.2⟩;obtain⟨a1,a2⟩:=m5 t v hv;exact⟨a1.jM hc he s1 fun g hg=>s2 (a2 g hg),fun g hg=>by rw[he _ (a1.lt g hg)];exact a2 g hg⟩
  lim:=by obtain⟨n,M,m1,m2,m3,m4,m5⟩:=h.lim.1;refine⟨⟨n,M,ny m1 hc (s2 h.lim.2),m2,m3,m4,fun t v hv=>?_⟩,by rw[he _ m1.Uz];exact h.lim.2⟩;obtain⟨a1,a2⟩:=m5 t v hv;exact⟨fT a1 hc fun g hg=>s2 (a2 g hg),fun g hg=>by rw[he _ (xB a1 g hg).2];exact a2 g hg⟩
  came:=h.came.jM hc he fun g s=>⟨s1 g s,fun q=>by omega⟩
  gone:=h.gone.jM hc he fun g s=>⟨s1 g s,fun q=>by omega⟩
  lost:=by obtain⟨ids,i1,i2,i3⟩:=h.lost;exact⟨ids,fT i1 hc fun g hg=>s2 (i2 g hg),fun g hg=>by rw[he _ (i1.lt g hg).2];exact i2 g hg,i3⟩}
theorem gz.toS(h:gz Z w b ns cs f L):∃An Ac cn cc,QN w b ns cs An Ac cn cc:=by
 obtain⟨An,Ac,cn,cc,e1,e2,hp,_,_⟩:=h.plan;refine⟨An,Ac,cn,cc,?_,?_,hp⟩
 ·rw[h.root.1.cell];show az L.vn=_;rw[e1]
 ·rw[h.root.1.cell];show az L.vc=_;rw[e2]
end
end
section
open Go.RowKit Go.Maps
attribute [local go_sem ↓] fM fK
structure qA(Z:Own)(w:aG)(dV:Own)(w':aG):Prop where
 ch:Ch (fun k=>2<=(Z k).1) w w'
 ext:∀k,k<w.heap.size->dV k=Z k
theorem qA.refl(Z:Own)(w:aG):qA Z w Z w:=⟨Ch.refl _ _,fun _ _=>rfl⟩
theorem qA.trans{Z dV Gf:Own}{w w' w'':aG}(h:qA Z w dV w')(k:qA dV w' Gf w''):qA Z w Gf w'':=
 ⟨h.ch.trans k.ch fun i hi s=>by rw[h.ext i hi]at s;exact s,fun i hi=>(k.ext i (bY hi h.ch.size)).trans (h.ext i hi)⟩
theorem qA.KE{Z dV:Own}{w w':aG}{o:Nat}(h:Nx Z o w dV w')(ho:2<=o):qA Z w dV w':=⟨h.ch.mono fun k _ s=>by omega,h.ext⟩
theorem qA.dw{Z:Own}{w w':aG}(h:aO w.heap.size w w'):qA Z w (fr Z w.heap.size) w':=⟨Ch.dw h,fun _ hk=>iD hk⟩
theorem qA.drew{Z dV:Own}{w w':aG}(h:qA Z w dV w'):qA Z w dV w'.drew:=⟨h.ch.drew,h.ext⟩
def Gh(Z:Own)(w:aG)(b:Nat)(ns:List Nd)(cs:List Cb)(f':dB)(w':aG):Prop:=∃dV L',gz dV w' b ns cs f' L'/\qA Z w dV w'
structure Li(L L':rY):Prop where
 e:L'={L with Ik:=L'.Ik,vl:=L'.vl}
theorem Li.refl(L:rY):Li L L:=⟨rfl⟩
theorem Li.trans{L L' L'':rY}(h:Li L L')(k:Li L' L''):Li L L'':=⟨by rw[k.e,h.e]⟩
def lX(Z:Own)(w:aG)(b:Nat)(ns:List Nd)(cs:List Cb)(L:rY)(f':dB)(w':aG):Prop:=∃dV L',gz dV w' b ns cs f' L'/\qA Z w dV w'/\Li L L'
theorem lX.then{Z vP:Own}{w w1 w2:aG}{b:Nat}{ns:List Nd}{cs:List Cb}{L L1:rY}{f:dB}(n:qA Z w vP w1)(m:Li L L1)(h:lX vP w1 b ns cs L1 f w2):lX Z w b ns cs L f w2:=by obtain⟨dV,L',h1,h2,h3⟩:=h;exact⟨dV,L',h1,n.trans h2,m.trans h3⟩
def Tn(Z:Own)(k:Nat):Prop:=2<=(Z k).1/\¬((Z k).1=2/\3<=(Z k).2.1/\(Z k).2.1<=6)
structure Ck(Z:Own)(w:aG)(dV:Own)(w':aG):Prop where
 ch:Ch (Tn Z) w w'
 ext:∀k,k<w.heap.size->dV k=Z k
theorem Ck.x{Z dV:Own}{w w':aG}(h:Ck Z w dV w'):qA Z w dV w':=⟨h.ch.mono fun k _ s=>s.1,h.ext⟩
theorem Ck.refl(Z:Own)(w:aG):Ck Z w Z w:=⟨Ch.refl _ _,fun _ _=>rfl⟩
theorem Ck.trans{Z dV Gf:Own}{w w' w'':aG}(h:Ck Z w dV w')(k:Ck dV w' Gf w''):Ck Z w Gf w'':=
 ⟨h.ch.trans k.ch fun i hi s=>by unfold Tn at s|-;rw[h.ext i hi]at s;exact s,fun i hi=>(k.ext i (bY hi h.ch.size)).trans (h.ext i hi)⟩
theorem Ck.KE{Z dV:Own}{w w':aG}{o:Nat}(h:Nx Z o w dV w')(ho:3<=o):Ck Z w dV w':=⟨h.ch.mono fun k _ s=>⟨by omega,fun q=>by omega⟩,h.ext⟩
theorem Ck.dw{Z:Own}{w w':aG}(h:aO w.heap.size w w'):Ck Z w (fr Z w.heap.size) w':=⟨Ch.dw h,fun _ hk=>iD hk⟩
theorem Ck.drew{Z dV:Own}{w w':aG}(h:Ck Z w dV w'):Ck Z w dV w'.drew:=⟨h.ch.drew,h.ext⟩
def JI(Z:Own)(w:aG)(b:Nat)(ns:List Nd)(cs:List Cb)(L:rY)(f':dB)(w':aG):Prop:=∃dV L',gz dV w' b ns cs f' L'/\Ck Z w dV w'/\Li L L'
theorem JI.s{Z:Own}{w w':aG}{b:Nat}{ns:List Nd}{cs:List Cb}{L:rY}{f':dB}(h:JI Z w b ns cs L f' w'):lX Z w b ns cs L f' w':=by obtain⟨dV,L',h1,h2,h3⟩:=h;exact⟨dV,L',h1,h2.x,h3⟩
structure aec(f:dB):Prop where
 n1:f.dE<=1000000000
 a0:0<=f.wQ/\f.wQ<=1000000000
 a1:0<=f.vJ/\f.vJ<=1000000000
 l1:f.lost.length<=1000000000
theorem Cr(f:dB)(e:Int):f.alive e=UW f.dE f.wQ f.vJ e:=rfl
theorem Nc(f:dB)(e:Int)(bk:Nat)(w:aG)(h:Bk w bk f.dE f.wQ f.vJ)(hs:aec f)(h0:0<=e)(h1:e<=f.dE):di aH 97 #[au (az ⟨bk,0,aj⟩),ah ag e] w fun r w'=>(∃c:Int,r=ax (ah ag c))/\Bk w' bk (f.rem e).dE (f.rem e).wQ (f.rem e).vJ/\Ch (· =bk) w w':=by
 have A0:=hs.a0;have A1:=hs.a1;have n1:=hs.n1;by_cases hz:f.alive e=0
 ·have e1:f.rem e=f:=by unfold dB.rem;rw[if_pos hz]
  rw[e1];refine(Ws bk f.dE f.wQ f.vJ e w h (by omega) h0 h1 (by rw[<-Cr];exact hz)).mono ?_;rintro r w' ⟨rfl,rfl⟩;exact⟨⟨_,rfl⟩,h,Ch.refl _ _⟩
 ·have h2:(f.dE:Int)-1<=e:=by
   rcases Int.lt_or_le e ((f.dE:Int)-1)with q|q
   ·exact absurd (by rw[Cr];exact ahi (.inr (.inr q))) hz
   ·exact q
  have hp:0<UW f.dE f.wQ f.vJ e:=by
   rw[Cr]at hz;unfold UW at hz|-;rw[if_neg (by omega)]at hz|-;split at hz
   ·rw[if_pos ‹_›];omega
   ·rw[if_neg ‹_›];omega
  refine(acx bk f.dE f.wQ f.vJ e w h (by omega) h0 h1 h2 hp A0.1 (by omega) A1.1 (by omega)).mono ?_;rintro r w' ⟨rfl,hb,hg⟩;refine⟨⟨_,rfl⟩,?_,⟨hg.os,hg.tape,hg.output,hg.size,fun k hk hn=>hg.block k hk fun q=>hn (by injection q)⟩⟩;unfold dB.rem dB.gQ;rw[if_neg hz];unfold upX upY at hb;by_cases hm:e%2=0
  ·rw[if_pos hm,if_pos hm]at hb;rw[if_pos hm];exact hb
  ·rw[if_neg hm,if_neg hm]at hb;rw[if_neg hm];exact hb
theorem KJ(f:dB)(e:Int):(f.rem e).aX=f.aX/\(f.rem e).aI=f.aI/\(f.rem e).boxes=f.boxes/\(f.rem e).up=f.up/\(f.rem e).CR=f.CR/\(f.rem e).JH=f.JH/\(f.rem e).dE=f.dE/\(f.rem e).mW=f.mW/\(f.rem e).now=f.now/\(f.rem e).last=f.last/\(f.rem e).fl=f.fl/\(f.rem e).lim=f.lim/\(f.rem e).came=f.came/\(f.rem e).gone=f.gone/\(f.rem e).lost=f.lost:=by
 unfold dB.rem dB.gQ;split
 ·exact⟨rfl,rfl,rfl,rfl,rfl,rfl,rfl,rfl,rfl,rfl,rfl,rfl,rfl,rfl,rfl⟩
 ·split<;>exact⟨rfl,rfl,rfl,rfl,rfl,rfl,rfl,rfl,rfl,rfl,rfl,rfl,rfl,rfl,rfl⟩
theorem gz.book{Z dV:Own}{w w':aG}{b:Nat}{ns:List Nd}{cs:List Cb}{f f':dB}{L:rY}(h:gz Z w b ns cs f L)(hc:Ch (· =L.bk) w w')(he:∀k,k<w.heap.size->dV k=Z k)(hb:Bk w' L.bk f'.dE f'.wQ f'.vJ)(e:f'={f with wQ:=f'.wQ,vJ:=f'.vJ}):gz dV w' b ns cs f' L:=by have g:=h.Rf (fun k=>k=2) hc he fun k s=>.inr (by rw[s,h.bk.2];exact⟨rfl,rfl⟩);rw[e];exact⟨⟨g.root (by decide),g.iO.1⟩,g.plan,g.aI,g.xP,g.Kc,g.bx,g.up (by decide),g.r0,g.r1,⟨by rw[e]at hb;exact hb,g.IZ⟩,⟨g.fl (by decide) (by decide),g.ZM⟩,⟨g.lim (by decide) (by decide),g.Kw⟩,g.came (by decide),g.gone (by decide),g.lost (by decide)⟩
theorem afL(f:dB)(e:Int):f.rem e={f with wQ:=(f.rem e).wQ,vJ:=(f.rem e).vJ}:=by
 unfold dB.rem dB.gQ;split
 ·rfl
 ·split<;>rfl
theorem gz.xu{Z:Own}{w:aG}{b:Nat}{ns:List Nd}{cs:List Cb}{f:dB}{L:rY}(h:gz Z w b ns cs f L){i:Nat}:w.cell? ⟨b,i,aj⟩=(BU f L)[i]?:=h.root.1.cell i
theorem gz.afI{Z:Own}{w w5:aG}{b:Nat}{ns:List Nd}{cs:List Cb}{f:dB}{L:rY}{x:Fm}{o1:Obj}{ids:List Int}{v':aJ}(h:gz Z w b ns cs f L)(i1:w.ownsRow 0 3 1 L.vl ids.length (ids.flatMap cI))(i2:∀g,L.vl.ownBlock=az g->Z g=(2,9,0,0))(i3:ids.Perm (f.lost.map (·.id)))(own:w5.ownsRow 0 3 1 v' (ids.length+1) (ids.flatMap cI++[ah ag x.id]))(gr:(w.alloc o1).grownBy w5 L.vl.ownBlock)(loc:v'.ownBlock=L.vl.ownBlock\/v'.ownBlock=az (w.heap.size+1)):dG w5 b 100 (BU f L)/\∃dV,gz dV (w5.setCell ⟨b,19,aj⟩ v') b ns cs {f with lost:=f.lost++[x]} {L with vl:=v'}/\Ck Z w dV (w5.setCell ⟨b,19,aj⟩ v'):=by
 have nb:∀g,L.vl.ownBlock=az g->b≠g:=fun g hg e=>by have:=i2 g hg;rw[<-e,h.root.2]at this;simp at this
 have b5:dG w5 b 100 (BU f L):=(h.root.1.alloc o1).grown gr fun e=>nb _ e.symm rfl;have hc:Ch (fun k=>k=b\/L.vl.ownBlock=az k) w (w5.setCell ⟨b,19,aj⟩ v'):=(((Ch.refl _ w).alloc o1).grown gr fun g hg=>.inl (.inr hg)).setCell (p:=⟨b,19,aj⟩) (.inl (.inl rfl)) v';obtain⟨dV,QX⟩:∃dV:Own,dV=fun k=>if v'.ownBlock=az k then(2,9,0,0)else fr Z w.heap.size k:=⟨_,rfl⟩
 have he:∀k,k<w.heap.size->dV k=Z k:=fun k hk=>by
  rw[QX];simp only;by_cases e:v'.ownBlock=az k
  ·rw[if_pos e];rcases loc with q|q
   ·rw[q]at e;exact(i2 k e).symm
   ·rw[q]at e;injection e with e;omega
  ·rw[if_neg e,iD hk]
 have g:=h.Rf (fun k=>k=0\/k=9) hc he fun k s=>.inr (by
  rcases s with s|s
  ·rw[s,h.root.2];exact⟨rfl,.inl rfl⟩
  ·rw[i2 k s];exact⟨rfl,.inr rfl⟩)
 have bl:=kY own;refine⟨b5,dV,⟨⟨?_,g.iO.1⟩,g.plan,g.aI,g.xP,g.Kc,g.bx,g.up (by decide),g.r0,g.r1,⟨g.bk (by decide),g.IZ⟩,⟨g.fl (by decide) (by decide),g.ZM⟩,⟨g.lim (by decide) (by decide),g.Kw⟩,g.came (by decide),g.gone (by decide),?_⟩,⟨hc.mono fun k _ s=>?_,he⟩⟩
 ·have:=b5.jy 19 v';exact this
 ·refine⟨ids++[x.id],?_,fun k hk=>?_,?_⟩
  ·have:=nK own (p:=⟨b,19,aj⟩) v' fun k hk e=>by
    obtain⟨cs',hb⟩:=bl k hk;exact dG.sZ b5 hb (by decide) (by rw[e])
   simpa[cI]using this
  ·rw[QX];simp only;rw[if_pos hk]
  ·simp only[fF,mK,vZ];exact i3.append_right _
 ·unfold Tn;rcases s with s|s
  ·rw[s,h.root.2];decide
  ·rw[i2 k s];decide
theorem Ja(f:dB)(x:Fm)(v:aJ)(b:Nat)(ns:List Nd)(cs:List Cb)(L:rY)(Z:Own)(w:aG)(h:gz Z w b ns cs f L)(hs:aec f)(h0:0<=x.ep)(h1:x.ep<=f.dE)(hv:∃a n c,v=ay a n c):di aH 58 #[pt b,Nb x v] w fun e w'=>e=ax (.tuple #[])/\JI Z w b ns cs L (f.oG x) w':=by
 obtain⟨va,vn,vc,rfl⟩:=hv;obtain⟨w1,gK⟩:∃w1:aG,w.alloc (af #[ah ag x.id,ah ag x.iN,ah ag x.jl,ah ag x.cls,ah ag x.ep,ay va vn vc] 59)=w1:=⟨_,rfl⟩;have B1:aZ (aO w.heap.size w w1):=by rw[<-gK];exact(aS _ _).alloc (aC _) _
 have F1:aZ (dG w1 w.heap.size 59 #[ah ag x.id,ah ag x.iN,ah ag x.jl,ah ag x.cls,ah ag x.ep,ay va vn vc]):=by rw[<-gK];exact dG.new w _ _
 have H1:=aA (h.below B1.o);have S1:aZ (w1.heap.size=w.heap.size+1):=by rw[<-gK,aZ];simp
 have RM:=aA (Nc f x.ep L.bk w1.drew H1.o.bk.1 hs h0 h1);have HS:=aA hs;have k11:w1.cell? ⟨b,11,aj⟩=az (au (az ⟨L.bk,0,aj⟩)):=H1.o.xu;have f4:w1.cell? ⟨w.heap.size,4,aj⟩=az (ah ag x.ep):=F1.o.cell 4;have KM:aZ (∀w',Ch (· =L.bk) w1 w'->w'.cell? ⟨b,11,aj⟩=az (au (az ⟨L.bk,0,aj⟩))/\w'.cell? ⟨w.heap.size,4,aj⟩=az (ah ag x.ep)):=fun w' hc=>by
  refine⟨(hc.cell (p:=⟨b,11,aj⟩) H1.o.root.1.lt (fun e=>?_)).trans k11,(hc.cell (p:=⟨w.heap.size,4,aj⟩) F1.o.lt (fun e=>?_)).trans f4⟩
  ·have q1:=H1.o.root.2;have q2:=H1.o.bk.2;simp only at e;rw[e,q2]at q1;simp at q1
  ·have q2:=H1.o.bk.2;simp only at e;rw[<-e,mH (aC _)]at q2;simp at q2
 clear h hs;generalize hP:JI Z w b ns cs L (f.oG x)=PP;have HP:=aA hP;clear hP;unfold Nb pt;go_enter func58,ntmps58;go_wp2_with fail;clear gK;go_region_held3 (fun w'=>w'.cell? ⟨b,11,aj⟩=az (au (az ⟨L.bk,0,aj⟩))/\w'.cell? ⟨w.heap.size,4,aj⟩=az (ah ag x.ep))
  (first|exact⟨k11,f4⟩|exact KM.o _ (Ch.refl _ _).drew|exact KM.o _ CB.o)
  (first
   |(go_at_call 97;refine RM.o.mono ?_;rintro e w2 ⟨⟨c,rfl⟩,hb,cb⟩;have HB:=aA hb;have CB:aZ (Ch (· =L.bk) w1 w2):=(show Ch (· =L.bk) w1 w2 from⟨cb.os,cb.tape,cb.output,cb.size,cb.block⟩);clear hb cb))
 have H2:=aA (H1.o.book (f':=f.rem x.ep) (dV:=fr Z w.heap.size) CB.o (fun _ _=>rfl) HB.o (afL f x.ep));obtain⟨ids,i1,i2,i3⟩:=H2.o.lost;have LL:aZ (ids.length<=1000000000):=by have:=i3.length_eq;have h2:=HS.o.l1;rw[dW,(KJ f x.ep).2.2.2.2.2.2.2.2.2.2.2.2.2.2]at this;rw[aZ];omega
 obtain⟨la,lc,eL⟩:=dX i1;have c19:w2.cell? ⟨b,19,aj⟩=az (ay la ids.length lc):=by rw[<-eL];exact H2.o.xu
 have F2:aZ (dG w2 w.heap.size 59 #[ah ag x.id,ah ag x.iN,ah ag x.jl,ah ag x.cls,ah ag x.ep,ay va vn vc]):=F1.o.ch CB.o fun e=>by have q2:=H1.o.bk.2;rw[<-e,mH (aC _)]at q2;simp at q2
 have f0:w2.cell? ⟨w.heap.size,0,aj⟩=az (ah ag x.id):=F2.o.cell 0;have EL:=aA eL;have I1:aZ (w2.ownsRow 0 3 1 (ay la ids.length lc) ids.length (ids.flatMap cI)):=by rw[<-eL];exact i1
 have I2:=aA i2;have I3:=aA i3;have KA:aZ (∀w',aO w2.heap.size w2 w'->w'.cell? ⟨b,19,aj⟩=az (ay la ids.length lc)/\w'.cell? ⟨w.heap.size,0,aj⟩=az (ah ag x.id)):=fun w' hb=>
  ⟨(hb.cell (p:=⟨b,19,aj⟩) (aY _ _ c19)).trans c19,(hb.cell (p:=⟨w.heap.size,0,aj⟩) F2.o.lt).trans f0⟩
 clear i1 i2 i3 eL c19 f0;go_wp2_with fail;refine fZ 11 (fun w'=>w'.cell? ⟨b,19,aj⟩=az (ay la ids.length lc)/\w'.cell? ⟨w.heap.size,0,aj⟩=az (ah ag x.id)) (by kernel_rfl) (KA.o _ ((aS _ _).drew)) (fun aW=>?_);refine bH.tk 0 aW ?_;try simp only[bI]
 refine bH.tk 1 aW ?_;try simp only[bI]
 refine bH.tk 2 aW ?_;try simp only[bI]
 refine bH.tk 3 aW ?_;try simp only[bI]
 refine bH.tk 4 aW ?_;try simp only[bI]
 refine bH.tk 5 aW ?_;try simp only[bI]
 refine bH.tk 6 aW ?_;try simp only[bI]
 obtain⟨j0,xQ,zC,Aq,Av⟩:=eQ PK;have BA:aZ (∀o,aO w2.heap.size w2 (w2.alloc o).drew):=fun o=>((aS _ _).alloc (aC _) o).drew;have RN:aZ (Reads (w2.alloc (af #[ah ag x.id] 3)).drew (w2.heap.size+1) 1 (az ⟨w2.heap.size,0,aj⟩) 1 [ah ag x.id]):=(iE w2 3 [ah ag x.id] (n:=1) (size:=1) rfl).drew;have OW:aZ ((w2.alloc (af #[ah ag x.id] 3)).drew.ownsRow 0 3 1 (ay la ids.length lc) ids.length (ids.flatMap cI)):=(I1.o.alloc (af #[ah ag x.id] 3));refine bH.one (i:=7) (by kernel_rfl) rfl (fun K hK=>?_);go_simp;refine hK.out _ _ (fun _=>KA.o _ (BA.o _)) (fun bU=>?_);have aW:=bU (by decide);clear hK bU;try simp only[bI]
 refine bH.one (i:=8) (by kernel_rfl) rfl (fun K hK=>?_);refine gy _ (by rfl) (.tmp 15) (.tmp 18) 26 (by rfl) 0 3 j0 _ 1 8 underlying26 xQ zC Aq Av rfl (by decide) _ _ _ (by rfl) OW.o _ (az ⟨w2.heap.size,0,aj⟩) 1 1 [ah ag x.id] (by rfl) RN.o ?_ ?_ ?_ ?_ ?_
 ·intro u hu;simp only[dM,dZ,or_false]at hu;subst hu;rfl
 ·have:=LL.o;unfold fJ;omega
 ·have:=LL.o;omega
 ·exact bJ _
 intro v5 w5 uL zW Dw;obtain⟨P1,zz,P2,P3⟩:=H2.o.afI (x:=x) (by rw[EL.o];exact I1.o) I2.o I3.o uL (by rw[EL.o];exact⟨zW.os,zW.tape,zW.output,zW.size,zW.block⟩) (by rw[EL.o];simpa using Dw);have HP1:=aA P1;have HP2:=aA P2;have HP3:=aA P3;obtain⟨la5,lc5,rfl⟩:=dX uL;have c19:w5.cell? ⟨b,19,aj⟩=az (ay la ids.length lc):=by rw[HP1.o.cell,<-EL.o];rfl
 have f19:=HP1.o.frozen 19;have f0:w5.cell? ⟨w.heap.size,0,aj⟩=az (ah ag x.id):=by
  have Cu:(w2.alloc (af #[ah ag x.id] 3)).grownBy w5 (ay la ids.length lc).ownBlock:=⟨zW.os,zW.tape,zW.output,zW.size,zW.block⟩;have h1:=(F2.o.alloc (af #[ah ag x.id] 3)).grown Cu fun e=>by obtain⟨cs',hb⟩:=kY I1.o _ e.symm;exact dG.sZ F2.o hb (by decide) rfl
  exact h1.cell 0
 clear uL zW Dw P1 P2 P3;refine hK.out _ _ (fun _=>⟨c19,f0⟩) (fun bU=>?_);have aW:=bU (by decide);clear hK bU;try simp only[bI]
 refine bH.tk 9 aW ?_;try simp only[bI]
 refine bH.tk 10 aW ?_;try simp only[bI]
 refine bH.one (i:=11) (by kernel_rfl) rfl (fun K hK=>?_);go_simp;refine hK.out _ _ (fun h=>absurd rfl h) (fun _=>?_);clear hK;refine bH.done (by kernel_rfl) ?_ _;try simp only[bI]
 clear c19 f19 f0;have jm:aZ (PP (w5.setCell ⟨b,19,aj⟩ (ay la5 (ids.length+1) lc5))):=by rw[aZ,<-HP.o];refine⟨zz,_,HP2.o,?_,⟨rfl⟩⟩;exact((Ck.dw B1.o).trans ⟨CB.o.mono fun k _ e=>by unfold Tn;rw[e,H1.o.bk.2];decide,fun _ _=>rfl⟩).trans HP3.o
 go_wp2_with fail;exact bodyPost_end (results_none rfl _ _ _) rfl ⟨rfl,jm.out⟩
theorem abB(f:dB)(x:Fm)(v:aJ)(b:Nat)(ns:List Nd)(cs:List Cb)(L:rY)(Z:Own)(w:aG)(h:gz Z w b ns cs f L)(hs:aec f)(h0:0<=x.ep)(h1:x.ep<=f.dE)(hv:∃a n c,v=ay a n c):di aH 58 #[pt b,Nb x v] w fun e w'=>e=ax (.tuple #[])/\lX Z w b ns cs L (f.oG x) w':=
 (Ja f x v b ns cs L Z w h hs h0 h1 hv).mono fun e w' k=>⟨k.1,k.2.s⟩
end
section
def dlF(cs:List Cb)(c:Nat):Nat:=(cs.getD (c/2) gV).dl.toNat
structure yJ(cs:List Cb)(f:dB):Prop where
 nd:∀t,((f.fl t).map (·.1)).Nodup
 due:∀t x,x∈f.fl t->t<=f.now+dlF cs x.1
structure IG(cs:List Cb)(P:Nat->Prop)(f:dB):Prop where
 nd:∀t,((f.fl t).map (·.1)).Nodup
 due:∀t x,x∈f.fl t->t<=f.now+dlF cs x.1
 lt:∀t x,x∈f.fl t->P x.1->t<f.now+dlF cs x.1
section
variable{ns:List Nd}{cs:List Cb}{f g:dB}{P Q:Nat->Prop}
theorem IG.mono(h:IG cs P f)(hq:∀c,Q c->P c):IG cs Q f:=⟨h.nd,h.due,fun t x hx q=>h.lt t x hx (hq _ q)⟩
theorem IG.same(h:IG cs P f)(e1:g.fl=f.fl)(e2:g.now=f.now):IG cs P g:=⟨by rw[e1];exact h.nd,by rw[e1,e2];exact h.due,by rw[e1,e2];exact h.lt⟩
theorem yJ.same(h:yJ cs f)(e1:g.fl=f.fl)(e2:g.now=f.now):yJ cs g:=⟨by rw[e1];exact h.nd,by rw[e1,e2];exact h.due⟩
theorem IG.azx(h:IG cs P f):yJ cs f:=⟨h.nd,h.due⟩
theorem ZU(f:dB)(x:Fm):(f.oG x).fl=f.fl/\(f.oG x).now=f.now:=by unfold dB.oG;obtain⟨_,_,_,_,_,_,_,_,h9,_,h11,_⟩:=KJ f x.ep;exact⟨h11,h9⟩
theorem nW.Vi(h:nW ns cs){u k i:Nat}(hc:jH cs u k=az i):iT cs i u<2*cs.length/\(bV cs (iT cs i u)).1=u/\(bV cs (iT cs i u)).2.1=k/\iT cs i u/2=i:=by
 obtain⟨c1,c2⟩:=wu hc;obtain⟨h1,h2,h3⟩:=h.chan c1 c2;refine⟨h1,h3,?_,h2⟩;unfold jH at hc;have h4:=List.find?_some hc;simp only[jd,dD,beq_iff_eq]at h4;have ab:=h.ab _ c1;have C:=h.ap _ c1;have D:=h.bp _ c1;unfold iT;by_cases e:(cs.getD i gV).a=(u:Int)
 ·rw[if_pos e];unfold bV;rw[if_pos (by omega),show 2*i/2=i by omega];simp only;rcases h4 with q|q
  ·omega
  ·omega
 ·rw[if_neg e];unfold bV;rw[if_neg (by omega),show(2*i+1)/2=i by omega];simp only;rcases h4 with q|q
  ·omega
  ·omega
def adr(cs:List Cb)(u:Nat)(ks:List Nat)(c:Nat):Prop:=((bV cs c).1=u/\(bV cs c).2.1∈ks)\/u<(bV cs c).1
theorem IG.lU(hp:nW ns cs){u:Nat}{m:Mv}{ks:List Nat}(h:IG cs (adr cs u (mV [m]++ks)) f)(hn:(mV [m]++ks).Nodup):IG cs (adr cs u ks) (f.lU cs u m):=by
 unfold dB.lU;have mo:IG cs (adr cs u ks) f:=h.mono fun c q=>by
  rcases q with q|q
  ·exact .inl ⟨q.1,List.mem_append_right _ q.2⟩
  ·exact .inr q
 cases hm:m.2.2.1 with
 |none=>obtain⟨e1,e2⟩:=ZU f m.2.2.2;exact mo.same e1 e2
 |some k=>
  have eo:mV [m]=[k]:=by unfold mV;simp[hm]
  rw[eo]at h hn;rw[List.singleton_append,qb]at hn;dsimp only;cases e:jH cs u k with
  |none=>exact mo
  |some i=>
   obtain⟨p1,p2,p3,p4⟩:=hp.Vi e;dsimp only;have ed:dlF cs (iT cs i u)=(cs.getD i gV).dl.toNat:=(by unfold dlF;rw[p4]);have fresh:∀x,x∈f.fl (f.now+(cs.getD i gV).dl.toNat)->x.1≠iT cs i u:=fun x hx q=>(by have:=h.lt _ x hx (by rw[q];exact .inl ⟨p2,by rw[p3];simp⟩);rw[q,ed]at this;omega);refine⟨fun t=>?_,fun t x hx=>?_,fun t x hx q=>?_⟩
   ·simp only;by_cases q:t=f.now+(cs.getD i gV).dl.toNat
    ·rw[if_pos q,fF,nZ];refine⟨h.nd t,by simp,fun a ha b hb=>?_⟩;obtain⟨x,hx,rfl⟩:=iU.1 ha;simp only[mK,vZ,dh]at hb;rw[hb];exact fresh x (by rw[<-q];exact hx)
    ·rw[if_neg q];exact h.nd t
   ·simp only at hx|-;split at hx
    ·rename_i q;rcases dU.1 hx with hx|hx
     ·exact h.due t x hx
     ·rw[dh]at hx;subst hx;rw[ed,q];exact aC _
    ·exact h.due t x hx
   ·simp only at hx|-;split at hx
    ·rename_i q';rcases dU.1 hx with hx|hx
     ·exact mo.lt t x hx q
     ·rw[dh]at hx;subst hx;exfalso;rcases q with q|q
      ·simp only at q;rw[p3]at q;exact hn.1 q.2
      ·simp only at q;rw[p2]at q;omega
    ·exact mo.lt t x hx q
theorem Wm(m:Mv)(ms:List Mv):mV (m::ms)=mV [m]++mV ms:=by unfold mV;rw[<-List.filterMap_append];rfl
theorem IG.Ab(hp:nW ns cs){u:Nat}:∀(ms:List Mv) {f:dB},IG cs (adr cs u (mV ms)) f->(mV ms).Nodup->IG cs (adr cs u []) (ms.foldl (dB.lU cs u) f)
 |[],f,h,_=>h
 |m::ms,f,h,hn=>by rw[Wm]at h hn;rw[dS];exact IG.Ab hp ms (h.lU hp hn) (nZ.1 hn).2.1
theorem IG.kE{N u:Nat}(hp:nW ns cs)(qX:dH ns cs f N)(hu:u<ns.length)(h:IG cs (fun c=>u<=(bV cs c).1) f):IG cs (fun c=>u+1<=(bV cs c).1) (f.kE ns cs u):=by
 unfold dB.kE;have nd:=(DD (f.boxes.getD u default) (fun port x=>(f.leave ns cs u port x).map fun c=>(bV cs c).2.1) (qX.box u hu).1).2.1;refine(IG.Ab hp _ ((h.mono fun c q=>?_).same (g:={f with boxes:=f.boxes.set u ((f.boxes.getD u default).step fun port x=>(f.leave ns cs u port x).map fun c=>(bV cs c).2.1).1}) rfl rfl) nd).mono fun c q=>.inr q;rcases q with q|q
 ·rw[q.1];exact aC _
 ·exact Nat.le_of_lt q
end
end
section
open Go.RowKit Go.Maps
attribute [local go_sem ↓] fM fK
theorem Yb(n cls k:Nat)(w:aG)(hn:n<=1000000000000)(hk:1<=k/\k<=4)(hc:cls<k):di aH 48 #[ah ag n,ah ag cls,ah ag k] w fun e w'=>e=ax (.tuple #[ah ag ((cls+k*(n%2):Nat):Int),ah ag 0])/\w=w':=by
 have k1:1<=(k:Int):=by omega
 have k4:(k:Int)<=4:=by omega
 have c0:0<=(cls:Int):=by omega
 have c1:(cls:Int)<(k:Int):=by omega
 have n0:0<=(n:Int):=by omega
 rcases(show n%2=0\/n%2=1 by omega)with h|h
 ·have hm:(n:Int)%2=0:=by omega
  have E:((cls+k*(n%2):Nat):Int)=(cls:Int):=by rw[h];simp
  rw[E];clear E h;go_enter func48,ntmps48;go_wp2_with fail;go_ret2;exact⟨by simp,rfl⟩
 ·have hm:(n:Int)%2=1:=by omega
  have E:((cls+k*(n%2):Nat):Int)=(cls:Int)+(k:Int):=by rw[h];push_cast;simp
  rw[E];clear E h;go_enter func48,ntmps48;go_wp2_with fail;go_ret2;exact⟨by simp,rfl⟩
theorem gz.azl{Z dV:Own}{w w':aG}{b:Nat}{ns:List Nd}{cs:List Cb}{f f':dB}{L:rY}(h:gz Z w b ns cs f L)(hc:Ch (· =b) w w')(he:∀k,k<w.heap.size->dV k=Z k)(hb:dG w' b 100 (BU f' L))(e:f'={f with mW:=f'.mW,now:=f'.now,last:=f'.last}):gz dV w' b ns cs f' L:=by have g:=h.Rf (fun k=>k=0) hc he fun k s=>.inr (by rw[s,h.root.2];exact⟨rfl,rfl⟩);rw[e];exact⟨⟨by rw[e]at hb;exact hb,g.iO.1⟩,g.plan,g.aI,g.xP,g.Kc,g.bx,g.up (by decide),g.r0,g.r1,⟨g.bk (by decide),g.IZ⟩,⟨g.fl (by decide) (by decide),g.ZM⟩,⟨g.lim (by decide) (by decide),g.Kw⟩,g.came (by decide),g.gone (by decide),g.lost (by decide)⟩
theorem YN(n:Nd):fA n=gJ n:=rfl
theorem dH.afR{ns:List Nd}{cs:List Cb}{f:dB}{N:Nat}(h:dH ns cs f N)(hN:N<=1000000000):aec f:=
 ⟨by have:=h.bn;have:=h.now;omega,by have:=h.a0;omega,by have:=h.a1;omega,by have:=h.ll;omega⟩
theorem Vs{ns:List Nd}{x:Int}(h:xH ns x=true):∃k:Nat,x=k/\k<ns.length/\(ns.getD k iZ).sw=false:=by unfold xH qE at h;simp only[dD,jW,decide_eq_true_eq]at h;exact⟨x.toNat,by omega,by omega,h.2⟩
theorem gz.aaU{Z:Own}{w:aG}{b:Nat}{ns:List Nd}{cs:List Cb}{f:dB}{L:rY}(h:gz Z w b ns cs f L){i:Nat}(hi:i<ns.length):∃g c,L.vb=ay (az ⟨g,0,aj⟩) ns.length c/\w.cell? ⟨b,5,aj⟩=az (ay (az ⟨g,0,aj⟩) ns.length c)/\w.cell? ⟨g,i,aj⟩=az (pt (L.bx i))/\(Z g).1=1/\g<w.heap.size:=by
 obtain⟨g,c,e,h1,_,h5,h6⟩:=h.Kc.at_ (i:=i) (by simpa using hi);refine⟨g,c,e,?_,?_,h6,h5⟩
 ·rw[<-e];exact h.xu
 ·rw[h1,cK,eu hi];rfl
theorem gz.asq{Z:Own}{w:aG}{b:Nat}{ns:List Nd}{cs:List Cb}{f:dB}{L:rY}(h:gz Z w b ns cs f L){i:Nat}(hi:i<f.aI.length):∃g c,L.vr=ay (az ⟨g,0,aj⟩) f.aI.length c/\w.cell? ⟨b,3,aj⟩=az (ay (az ⟨g,0,aj⟩) f.aI.length c)/\w.cell? ⟨g,i,aj⟩=az (ah ag (f.aI.getD i 0)):=by
 obtain⟨g,c,e,h1,_,_,_⟩:=h.aI.at_ (i:=i) (by simpa using hi);refine⟨g,c,e,?_,?_⟩
 ·rw[<-e];exact h.xu
 ·rw[h1,cK];simp[bS,hi]
def JJ(Z:Own)(w:aG)(b:Nat)(ns:List Nd)(cs:List Cb)(r:dB×Int×Int)(e:iL)(w':aG):Prop:=e=ax (.tuple #[ah ag r.2.1,ah ag r.2.2])/\Gh Z w b ns cs r.1 w'
section
variable(f:dB)(iN jl cls:Int)(data:List Int)(b:Nat)(ns:List Nd)(cs:List Cb)(L:rY)(Z:Own)(w:aG)(h:gz Z w b ns cs f L)(hp:nW ns cs)
include h hp
theorem Vv(a:Option fE)(c:Nat)(hd:data.length<=1000000000)(hb:xH ns iN=false\/xH ns jl=false\/cls<0\/(f.aX:Int)<=cls\/64<data.length):di aH 14 #[pt b,ah ag iN,ah ag jl,ah ag cls,ay a data.length c] w (JJ Z w b ns cs (f.iF ns iN jl cls data)):=by
 have E:f.iF ns iN jl cls data=(f,0,2):=by
  unfold dB.iF;rw[if_pos];simp only[jd,jW,decide_eq_true_eq];rcases hb with q|q|q|q|q
  ·exact .inl (.inl (.inl (.inl q)))
  ·exact .inl (.inl (.inl (.inr q)))
  ·exact .inl (.inl (.inr q))
  ·exact .inl (.inr q)
  ·exact .inr q
 rw[E];clear E;obtain⟨An,Ac,cn,cc,hS⟩:=h.toS;have C1:=aA (Kl iN b ns cs An Ac cn cc w hS hp);have C2:=aA (Kl jl b ns cs An Ac cn cc w hS hp);have c2:w.cell? ⟨b,0+2,aj⟩=az (ah ag f.aX):=h.xu;have jm:aZ (Gh Z w b ns cs f w):=⟨Z,L,h,qA.refl _ _⟩;clear h hp hS;unfold pt at *;cases hb1:xH ns iN with
 |false=>
  rw[hb1]at C1;clear hb1 hb;go_enter func14,ntmps14;go_wp2_with (first
   |(go_at_call 46;(with_reducible refine C1.o.mono ?_);rintro e w' ⟨rfl,rfl⟩)
   |(go_at_call 46;(with_reducible refine C2.o.mono ?_);rintro e w' ⟨rfl,rfl⟩))
  go_ret2;exact⟨rfl,jm.out⟩
 |true=>
  rw[hb1]at C1;cases uy:xH ns jl with
  |false=>
   rw[uy]at C2;clear hb1 uy hb;go_enter func14,ntmps14;go_wp2_with (first
    |(go_at_call 46;(with_reducible refine C1.o.mono ?_);rintro e w' ⟨rfl,rfl⟩)
    |(go_at_call 46;(with_reducible refine C2.o.mono ?_);rintro e w' ⟨rfl,rfl⟩))
   go_ret2;exact⟨rfl,jm.out⟩
  |true=>
   rw[uy]at C2;have tq:cls<0\/(f.aX:Int)<=cls\/64<data.length:=by
    rcases hb with q|q|q
    ·rw[hb1]at q;cases q
    ·rw[uy]at q;cases q
    ·exact q
   clear hb1 uy hb;by_cases k1:cls<0
   ·have d1:decide (cls<0)=true:=decide_eq_true k1;clear tq;go_enter func14,ntmps14;go_wp2_with (first
     |(go_at_call 46;(with_reducible refine C1.o.mono ?_);rintro e w' ⟨rfl,rfl⟩)
     |(go_at_call 46;(with_reducible refine C2.o.mono ?_);rintro e w' ⟨rfl,rfl⟩))
    go_ret2;exact⟨rfl,jm.out⟩
   ·have d1:decide (cls<0)=false:=decide_eq_false k1;by_cases k2:(f.aX:Int)<=cls
    ·have d2:decide ((f.aX:Int)<=cls)=true:=decide_eq_true k2;clear tq;go_enter func14,ntmps14;go_wp2_with (first
      |(go_at_call 46;(with_reducible refine C1.o.mono ?_);rintro e w' ⟨rfl,rfl⟩)
      |(go_at_call 46;(with_reducible refine C2.o.mono ?_);rintro e w' ⟨rfl,rfl⟩))
     go_ret2;exact⟨rfl,jm.out⟩
    ·have d2:decide ((f.aX:Int)<=cls)=false:=decide_eq_false k2;have k3:64<data.length:=by omega
     have d3:decide ((64:Int)<(data.length:Int))=true:=decide_eq_true (by omega);have d4:decide (64<data.length)=true:=decide_eq_true k3;clear tq;go_enter func14,ntmps14;go_wp2_with (first
      |(go_at_call 46;(with_reducible refine C1.o.mono ?_);rintro e w' ⟨rfl,rfl⟩)
      |(go_at_call 46;(with_reducible refine C2.o.mono ?_);rintro e w' ⟨rfl,rfl⟩))
     go_ret2;exact⟨rfl,jm.out⟩
end
theorem Na(f:dB)(N:Nat)(iN jl cls:Int)(data:List Int)(b:Nat)(ns:List Nd)(cs:List Cb)(L:rY)(Z:Own)(w:aG)(h:gz Z w b ns cs f L)(hp:nW ns cs)(qX:dH ns cs f N)(hN:N<=800000000)(a:Option fE)(c:Nat)(hd:data.length<=1000000000)(Je:data.length<=64->iX Z w data (ay a data.length c)):di aH 14 #[pt b,ah ag iN,ah ag jl,ah ag cls,ay a data.length c] w (JJ Z w b ns cs (f.iF ns iN jl cls data)):=by
 by_cases hbad:xH ns iN=false\/xH ns jl=false\/cls<0\/(f.aX:Int)<=cls\/64<data.length
 ·exact Vv f iN jl cls data b ns cs L Z w h hp a c hd hbad
 simp only[not_or,Bool.not_eq_false,Int.not_lt,Int.not_le]at hbad;obtain⟨e1,e2,k0,k1,k2⟩:=hbad;have Je:=Je (by omega);obtain⟨u,rfl,hu,su⟩:=Vs e1;obtain⟨v,rfl,hv,sv⟩:=Vs e2;obtain⟨kc,rfl⟩:∃n:Nat,cls=n:=⟨cls.toNat,by omega⟩;have EV:f.iF ns (u:Int) (v:Int) (kc:Int) data=if(u:Int)=(v:Int)then((f,0,12):dB×Int×Int)else
  (let vc:=kc+f.aX*(f.dE%2)
  if f.aI.getD vc 0<=(dz (f.boxes.getD u default).q 1 vc).length then(f,0,5)
  else
   let x:Fm:=⟨f.last+1,u,v,vc,f.dE,data⟩;let r:=(f.boxes.getD u default).gT 1 x
   if r.2 then({f.gQ f.dE 1 with boxes:=f.boxes.set u r.1,last:=f.last+1},(f.last:Int)+1,0)else({f with boxes:=f.boxes.set u r.1},0,5)):=by
  unfold dB.iF;rw[if_neg]
  ·simp only[cO]
  ·simp only[e1,e2,Bool.not_true,Bool.false_or,jd,decide_eq_true_eq];omega
 obtain⟨An,Ac,cn,cc,hS⟩:=h.toS;have C1:=aA (Kl u b ns cs An Ac cn cc w hS hp);have C2:=aA (Kl v b ns cs An Ac cn cc w hS hp);rw[e1]at C1;rw[e2]at C2;have c2:w.cell? ⟨b,0+2,aj⟩=az (ah ag f.aX):=h.xu;have d1:decide ((kc:Int)<0)=false:=decide_eq_false (by omega);have d2:decide ((f.aX:Int)<=(kc:Int))=false:=decide_eq_false (by omega);have d3:decide ((64:Int)<(data.length:Int))=false:=decide_eq_false (by omega);have d4:decide (64<data.length)=false:=decide_eq_false (by omega);have H:=aA h;have OK:=aA qX;have PL:=aA hp;clear h qX hp hS e1 e2;by_cases huv:u=v
 ·subst huv;rw[EV,if_pos rfl];clear EV;have jm:aZ (Gh Z w b ns cs f w):=⟨Z,L,H.o,qA.refl _ _⟩;unfold pt at *;go_enter func14,ntmps14;go_wp2_with (first|(go_at_call 46;(with_reducible refine C1.o.mono ?_);rintro e w' ⟨rfl,rfl⟩));go_ret2;exact⟨rfl,jm.out⟩
 rw[EV,if_neg (by omega)];clear EV;obtain⟨vc,hvc⟩:∃vc,kc+f.aX*(f.dE%2)=vc:=⟨_,rfl⟩;have vlt:vc<f.aI.length:=by rw[OK.o.rl,<-hvc];rcases(show f.dE%2=0\/f.dE%2=1 by omega)with q|q<;>rw[q]<;>omega
 have CLS:=aA (Yb f.dE kc f.aX w (by have:=OK.o.bn;have:=OK.o.now;omega) ⟨OK.o.k0,OK.o.k1⟩ (by omega));have NOW:=aA (Oj L.bk f.dE f.wQ f.vJ w H.o.bk.1);have c11:w.cell? ⟨b,11,aj⟩=az (au (az ⟨L.bk,0,aj⟩)):=H.o.xu;simp only;rw[hvc]at CLS|-;clear hvc;obtain⟨gb,cb,eb,c5,TH,tgb,lgb⟩:=H.o.aaU hu;obtain⟨gr,cr,er,c3,crm⟩:=H.o.asq vlt;unfold pt at TH;have Lh:=OK.o.box u hu;have P2:gJ (ns.getD u iZ)=2:=by unfold gJ;rw[if_neg (by rw[su];simp)]
 have QC:aZ (∀w',aO w.heap.size w w'->di aH 49 #[au (az ⟨L.bx u,0,aj⟩),ah ag 1,ah ag vc] w' (adC (dz (f.boxes.getD u default).q 1 vc) w')):=fun w' hb=>
  XJ 1 vc N Z (3+u) w' (L.bx u) _ _ ((H.o.bx u hu).below hb) Lh.1 (by rw[Lh.2.1,P2];omega) (by rw[Lh.2.2];exact vlt)
 have KP:aZ (∀w',aO w.heap.size w w'->w'.cell? ⟨b,5,aj⟩=az (ay (az ⟨gb,0,aj⟩) ns.length cb)/\w'.cell? ⟨gb,u,aj⟩=az (au (az ⟨L.bx u,0,aj⟩))/\w'.cell? ⟨b,3,aj⟩=az (ay (az ⟨gr,0,aj⟩) f.aI.length cr)/\w'.cell? ⟨gr,vc,aj⟩=az (ah ag (f.aI.getD vc 0))):=fun w' hb=>
  ⟨(hb.cell (p:=⟨b,5,aj⟩) (aY _ _ c5)).trans c5,(hb.cell (p:=⟨gb,u,aj⟩) (aY _ _ TH)).trans TH,(hb.cell (p:=⟨b,3,aj⟩) (aY _ _ c3)).trans c3,(hb.cell (p:=⟨gr,vc,aj⟩) (aY _ _ crm)).trans crm⟩
 have u0:(0:Int)<=(u:Int):=by omega
 have u1:(u:Int)<(ns.length:Int):=by omega
 have v0:(0:Int)<=(vc:Int):=by omega
 have v1:(vc:Int)<(f.aI.length:Int):=by omega
 have aIe:((u:Int)==(v:Int))=false:=by rw[beq_eq_false_iff_ne];omega
 have aIf:¬(u:Int)=(v:Int):=by omega
 have QL:=aA (Lh.1.Wp (p:=1) (c:=vc) (by rw[Lh.2.1,P2];omega) (by rw[Lh.2.2];exact vlt));clear eb er c5 TH c3 crm su sv Lh;by_cases hfull:f.aI.getD vc 0<=((dz (f.boxes.getD u default).q 1 vc).length:Int)
 ·rw[if_pos hfull];generalize dz (f.boxes.getD u default).q 1 vc=q at *;generalize f.aI.getD vc 0=rm at *;have jm:aZ (∀w',aO w.heap.size w w'->Gh Z w b ns cs f w'):=fun w' hb=>⟨_,L,H.o.below hb,qA.dw hb⟩;unfold pt at *;go_enter func14,ntmps14;go_wp2_with (first
   |(go_at_call 46;(with_reducible refine C1.o.mono ?_);rintro e w' ⟨rfl,rfl⟩)
   |(go_at_call 46;(with_reducible refine C2.o.mono ?_);rintro e w' ⟨rfl,rfl⟩)
   |(go_at_call 47;refine NOW.o.mono ?_;rintro e w' ⟨rfl,rfl⟩)
   |(go_at_call 48;refine CLS.o.mono ?_;rintro e w' ⟨rfl,rfl⟩))
  go_region_held3 (fun w'=>w'.cell? ⟨b,5,aj⟩=az (ay (az ⟨gb,0,aj⟩) ns.length cb)/\w'.cell? ⟨gb,u,aj⟩=az (au (az ⟨L.bx u,0,aj⟩))/\w'.cell? ⟨b,3,aj⟩=az (ay (az ⟨gr,0,aj⟩) f.aI.length cr)/\w'.cell? ⟨gr,vc,aj⟩=az (ah ag rm))
   (first|exact KP.o _ (aS _ _).drew|exact KP.o _ BQ.o)
   (first|(go_at_call 49;refine(QC.o _ (aS _ _).drew).mono ?_;rintro e wq ⟨vq,Q,rfl,hQ,ow,bq⟩;have OW:=aA ow;have HQ:=aA hQ;have BQ:aZ (aO w.heap.size w wq):=(show aO w.heap.size w wq from⟨bq.os,bq.tape,bq.output,bq.size,bq.block⟩);obtain⟨qa,qc,rfl⟩:=dX ow;have d5:decide (rm<=(Q.length:Int))=true:=decide_eq_true (by have e:=congrArg oV hQ;rw[dW]at e;omega);clear bq ow hQ))
  go_wp2_with fail;go_ret2
  exact⟨rfl,jm.out _ BQ.o⟩
 ·rw[if_neg hfull];generalize dz (f.boxes.getD u default).q 1 vc=q at *;generalize f.aI.getD vc 0=rm at *;unfold pt at *;have c14:w.cell? ⟨b,14,aj⟩=az (ah ag f.last):=H.o.xu;have KL:aZ (∀w',aO w.heap.size w w'->w'.cell? ⟨b,14,aj⟩=az (ah ag f.last)):=fun w' hb=>(hb.cell (p:=⟨b,14,aj⟩) (aY _ _ c14)).trans c14;have q1:IntKind.i64.wrap ((f.last:Int)+1)=(f.last:Int)+1:=fH _ (by have:=OK.o.last;omega);obtain⟨⟨X',ok⟩,hRA⟩:∃RA,(f.boxes.getD u default).gT 1 ⟨(f.last:Int)+1,u,v,vc,f.dE,data⟩=RA:=⟨_,rfl⟩;rw[hRA];have X7:aZ (∀w1,aO w.heap.size w w1->∀w2,Ch (fun k=>(fr Z w.heap.size k).1=3+u) w1 w2->w2.cell? ⟨b,5,aj⟩=az (ay (az ⟨gb,0,aj⟩) ns.length cb)/\w2.cell? ⟨gb,u,aj⟩=az (au (az ⟨L.bx u,0,aj⟩))):=fun w1 h1 w2 h2=>by
   have hb:=H.o.root;obtain⟨k1,k2,_⟩:=KP.o w1 h1;refine⟨(h2.cell (p:=⟨b,5,aj⟩) (bY hb.1.lt h1.size) (fun q=>by simp only at q;rw[iD hb.1.lt,hb.2]at q;simp at q;omega)).trans k1,(h2.cell (p:=⟨gb,u,aj⟩) (bY lgb h1.size) (fun q=>by simp only at q;rw[iD lgb,tgb]at q;omega)).trans k2⟩
  cases ok
  ·simp only[mh,if_false];generalize Ex:JJ Z w b ns cs _=NZ;go_enter func14,ntmps14;go_wp2_with (first
    |(go_at_call 46;(with_reducible refine C1.o.mono ?_);rintro e w' ⟨rfl,rfl⟩)
    |(go_at_call 46;(with_reducible refine C2.o.mono ?_);rintro e w' ⟨rfl,rfl⟩)
    |(go_at_call 47;refine NOW.o.mono ?_;rintro e w' ⟨rfl,rfl⟩)
    |(go_at_call 48;refine CLS.o.mono ?_;rintro e w' ⟨rfl,rfl⟩))
   go_region_held3 (fun w'=>w'.cell? ⟨b,5,aj⟩=az (ay (az ⟨gb,0,aj⟩) ns.length cb)/\w'.cell? ⟨gb,u,aj⟩=az (au (az ⟨L.bx u,0,aj⟩))/\w'.cell? ⟨b,3,aj⟩=az (ay (az ⟨gr,0,aj⟩) f.aI.length cr)/\w'.cell? ⟨gr,vc,aj⟩=az (ah ag rm))
    (first|exact KP.o _ (aS _ _).drew|exact KP.o _ BQ.o)
    (first|(go_at_call 49;refine(QC.o _ (aS _ _).drew).mono ?_;rintro e wq ⟨vq,Q,rfl,hQ,ow,bq⟩;have OW:=aA ow;have HQ:=aA hQ;have BQ:aZ (aO w.heap.size w wq):=(show aO w.heap.size w wq from⟨bq.os,bq.tape,bq.output,bq.size,bq.block⟩);obtain⟨qa,qc,rfl⟩:=dX ow;have d5:decide (rm<=(Q.length:Int))=false:=decide_eq_false (by have e:=congrArg oV hQ;rw[dW]at e;omega);have ll:=KL.o _ BQ.o;clear bq ow hQ))
   clear C1 C2 NOW CLS QC c2 c11 c14 d1 d2 d3 d4;obtain⟨kp1,kp2,kp3,kp4⟩:=KP.o _ BQ.o;go_wp2_with fail;obtain⟨wf,sN⟩:∃wf,wq.alloc (af #[ah ag ((f.last:Int)+1),ah ag u,ah ag v,ah ag vc,ah ag f.dE,ay a data.length c] 59)=wf:=⟨_,rfl⟩;rw[sN];have BF:aZ (aO w.heap.size w wf):=by rw[<-sN];exact BQ.o.alloc BQ.o.size _
   have FB:aZ (dG wf wq.heap.size 59 #[ah ag ((f.last:Int)+1),ah ag u,ah ag v,ah ag vc,ah ag f.dE,ay a data.length c]):=(by rw[<-sN];exact dG.new wq _ _);have H1:aZ (gz (fr Z w.heap.size) wf.drew b ns cs f L):=(H.o.below BF.o).drew;have DT:iX (fr Z w.heap.size) wf.drew data (ay a data.length c):=(Je.jM (Ch.dw (S:=fun _=>False) BF.o.drew) (fun _ hk=>iD hk) (fun _ q=>q.elim));have BX:=OK.o.box u hu;have AC:aZ (di aH 50 #[au (az ⟨L.bx u,0,aj⟩),ah ag 1,.agg #[ah ag ((f.last:Int)+1),ah ag u,ah ag v,ah ag vc,ah ag f.dE,ay a data.length c]] wf.drew fun e w'=>e=ax (ah ag 5)/\yI (fr Z w.heap.size) (3+u) wf.drew (L.bx u) X' (L.Ik u) w'):=(by have h:=Fx 1 N ⟨(f.last:Int)+1,u,v,vc,f.dE,data⟩ (ay a data.length c) (fr Z w.heap.size) (3+u) wf.drew (L.bx u) _ _ (H1.o.bx u hu) (by omega) BX.1 (by omega) (by rw[BX.2.1,P2];omega) (by simp only;omega) (by rw[BX.2.2];simpa using vlt) DT;rw[hRA]at h;exact h);have KQ:aZ (∀w2,Ch (fun k=>(fr Z w.heap.size k).1=3+u) wf w2->w2.cell? ⟨b,5,aj⟩=az (ay (az ⟨gb,0,aj⟩) ns.length cb)/\w2.cell? ⟨gb,u,aj⟩=az (au (az ⟨L.bx u,0,aj⟩))/\w2.cell? ⟨wq.heap.size,0,aj⟩=az (ah ag ((f.last:Int)+1))/\w2.cell? ⟨wq.heap.size,1,aj⟩=az (ah ag u)/\w2.cell? ⟨wq.heap.size,2,aj⟩=az (ah ag v)/\w2.cell? ⟨wq.heap.size,3,aj⟩=az (ah ag vc)/\w2.cell? ⟨wq.heap.size,4,aj⟩=az (ah ag f.dE)/\w2.cell? ⟨wq.heap.size,5,aj⟩=az (ay a data.length c)):=fun w2 h2=>(by obtain⟨k1,k2⟩:=X7.o wf BF.o w2 h2;have k3:dG w2 wq.heap.size 59 _:=FB.o.ch h2 fun q=>(by rw[mH BQ.o.size]at q;simp at q;omega);exact⟨k1,k2,k3.cell 0,k3.cell 1,k3.cell 2,k3.cell 3,k3.cell 4,k3.cell 5⟩);clear BX DT kp1 kp2 kp3 kp4 ll sN;go_region_held3 (fun w2=>w2.cell? ⟨b,5,aj⟩=az (ay (az ⟨gb,0,aj⟩) ns.length cb)/\w2.cell? ⟨gb,u,aj⟩=az (au (az ⟨L.bx u,0,aj⟩))/\w2.cell? ⟨wq.heap.size,0,aj⟩=az (ah ag ((f.last:Int)+1))/\w2.cell? ⟨wq.heap.size,1,aj⟩=az (ah ag u)/\w2.cell? ⟨wq.heap.size,2,aj⟩=az (ah ag v)/\w2.cell? ⟨wq.heap.size,3,aj⟩=az (ah ag vc)/\w2.cell? ⟨wq.heap.size,4,aj⟩=az (ah ag f.dE)/\w2.cell? ⟨wq.heap.size,5,aj⟩=az (ay a data.length c))
    (first|exact KQ.o _ (Ch.refl _ wf).drew|exact KQ.o _ ((Ch.refl _ wf).drew.trans N2.o.ch fun _ _ e=>e))
    (first|(go_at_call 50;refine AC.o.mono ?_;rintro e w2 ⟨rfl,DK,L2,m2,n2⟩;have M2:=aA m2;have N2:=aA n2;clear m2 n2))
   have MB:=aA (H1.o.box hu OK.o.bl N2.o M2.o);have FN2:aZ (qA Z w DK w2):=(qA.dw BF.o.drew).trans (qA.KE N2.o (by omega));clear KQ AC X7 KP KL;go_wp2_with fail;rw[<-Ex];exact⟨rfl,DK,_,MB.o,FN2.o⟩
  ·simp only[if_true];generalize Ex:JJ Z w b ns cs _=NZ;go_enter func14,ntmps14;go_wp2_with (first
    |(go_at_call 46;(with_reducible refine C1.o.mono ?_);rintro e w' ⟨rfl,rfl⟩)
    |(go_at_call 46;(with_reducible refine C2.o.mono ?_);rintro e w' ⟨rfl,rfl⟩)
    |(go_at_call 47;refine NOW.o.mono ?_;rintro e w' ⟨rfl,rfl⟩)
    |(go_at_call 48;refine CLS.o.mono ?_;rintro e w' ⟨rfl,rfl⟩))
   go_region_held3 (fun w'=>w'.cell? ⟨b,5,aj⟩=az (ay (az ⟨gb,0,aj⟩) ns.length cb)/\w'.cell? ⟨gb,u,aj⟩=az (au (az ⟨L.bx u,0,aj⟩))/\w'.cell? ⟨b,3,aj⟩=az (ay (az ⟨gr,0,aj⟩) f.aI.length cr)/\w'.cell? ⟨gr,vc,aj⟩=az (ah ag rm))
    (first|exact KP.o _ (aS _ _).drew|exact KP.o _ BQ.o)
    (first|(go_at_call 49;refine(QC.o _ (aS _ _).drew).mono ?_;rintro e wq ⟨vq,Q,rfl,hQ,ow,bq⟩;have OW:=aA ow;have HQ:=aA hQ;have BQ:aZ (aO w.heap.size w wq):=(show aO w.heap.size w wq from⟨bq.os,bq.tape,bq.output,bq.size,bq.block⟩);obtain⟨qa,qc,rfl⟩:=dX ow;have d5:decide (rm<=(Q.length:Int))=false:=decide_eq_false (by have e:=congrArg oV hQ;rw[dW]at e;omega);have ll:=KL.o _ BQ.o;clear bq ow hQ))
   clear C1 C2 NOW CLS QC c2 c11 c14 d1 d2 d3 d4;obtain⟨kp1,kp2,kp3,kp4⟩:=KP.o _ BQ.o;go_wp2_with fail;obtain⟨wf,sN⟩:∃wf,wq.alloc (af #[ah ag ((f.last:Int)+1),ah ag u,ah ag v,ah ag vc,ah ag f.dE,ay a data.length c] 59)=wf:=⟨_,rfl⟩;rw[sN];have BF:aZ (aO w.heap.size w wf):=by rw[<-sN];exact BQ.o.alloc BQ.o.size _
   have FB:aZ (dG wf wq.heap.size 59 #[ah ag ((f.last:Int)+1),ah ag u,ah ag v,ah ag vc,ah ag f.dE,ay a data.length c]):=(by rw[<-sN];exact dG.new wq _ _);have H1:aZ (gz (fr Z w.heap.size) wf.drew b ns cs f L):=(H.o.below BF.o).drew;have DT:iX (fr Z w.heap.size) wf.drew data (ay a data.length c):=(Je.jM (Ch.dw (S:=fun _=>False) BF.o.drew) (fun _ hk=>iD hk) (fun _ q=>q.elim));have BX:=OK.o.box u hu;have AC:aZ (di aH 50 #[au (az ⟨L.bx u,0,aj⟩),ah ag 1,.agg #[ah ag ((f.last:Int)+1),ah ag u,ah ag v,ah ag vc,ah ag f.dE,ay a data.length c]] wf.drew fun e w'=>e=ax (ah ag 0)/\yI (fr Z w.heap.size) (3+u) wf.drew (L.bx u) X' (L.Ik u) w'):=(by have h:=Fx 1 N ⟨(f.last:Int)+1,u,v,vc,f.dE,data⟩ (ay a data.length c) (fr Z w.heap.size) (3+u) wf.drew (L.bx u) _ _ (H1.o.bx u hu) (by omega) BX.1 (by omega) (by rw[BX.2.1,P2];omega) (by simp only;omega) (by rw[BX.2.2];simpa using vlt) DT;rw[hRA]at h;exact h);have KQ:aZ (∀w2,Ch (fun k=>(fr Z w.heap.size k).1=3+u) wf w2->w2.cell? ⟨b,5,aj⟩=az (ay (az ⟨gb,0,aj⟩) ns.length cb)/\w2.cell? ⟨gb,u,aj⟩=az (au (az ⟨L.bx u,0,aj⟩))/\w2.cell? ⟨wq.heap.size,0,aj⟩=az (ah ag ((f.last:Int)+1))/\w2.cell? ⟨wq.heap.size,1,aj⟩=az (ah ag u)/\w2.cell? ⟨wq.heap.size,2,aj⟩=az (ah ag v)/\w2.cell? ⟨wq.heap.size,3,aj⟩=az (ah ag vc)/\w2.cell? ⟨wq.heap.size,4,aj⟩=az (ah ag f.dE)/\w2.cell? ⟨wq.heap.size,5,aj⟩=az (ay a data.length c)):=fun w2 h2=>(by obtain⟨k1,k2⟩:=X7.o wf BF.o w2 h2;have k3:dG w2 wq.heap.size 59 _:=FB.o.ch h2 fun q=>(by rw[mH BQ.o.size]at q;simp at q;omega);exact⟨k1,k2,k3.cell 0,k3.cell 1,k3.cell 2,k3.cell 3,k3.cell 4,k3.cell 5⟩);clear BX DT kp1 kp2 kp3 kp4 ll sN;go_region_held3 (fun w2=>w2.cell? ⟨b,5,aj⟩=az (ay (az ⟨gb,0,aj⟩) ns.length cb)/\w2.cell? ⟨gb,u,aj⟩=az (au (az ⟨L.bx u,0,aj⟩))/\w2.cell? ⟨wq.heap.size,0,aj⟩=az (ah ag ((f.last:Int)+1))/\w2.cell? ⟨wq.heap.size,1,aj⟩=az (ah ag u)/\w2.cell? ⟨wq.heap.size,2,aj⟩=az (ah ag v)/\w2.cell? ⟨wq.heap.size,3,aj⟩=az (ah ag vc)/\w2.cell? ⟨wq.heap.size,4,aj⟩=az (ah ag f.dE)/\w2.cell? ⟨wq.heap.size,5,aj⟩=az (ay a data.length c))
    (first|exact KQ.o _ (Ch.refl _ wf).drew|exact KQ.o _ ((Ch.refl _ wf).drew.trans N2.o.ch fun _ _ e=>e))
    (first|(go_at_call 50;refine AC.o.mono ?_;rintro e w2 ⟨rfl,DK,L2,m2,n2⟩;have M2:=aA m2;have N2:=aA n2;clear m2 n2))
   have MB:=aA (H1.o.box hu OK.o.bl N2.o M2.o);have FN2:aZ (qA Z w DK w2):=(qA.dw BF.o.drew).trans (qA.KE N2.o (by omega));clear KQ AC X7 KP KL;have c11:w2.cell? ⟨b,11,aj⟩=az (au (az ⟨L.bk,0,aj⟩)):=MB.o.xu;have IJ:=aA (abU L.bk f.dE f.wQ f.vJ w2 MB.o.bk.1 (by omega) (by have:=OK.o.a0;omega) (by have:=OK.o.a0;omega) (by have:=OK.o.a1;omega) (by have:=OK.o.a1;omega));have AA:∀w3,Bk w3 L.bk f.dE (upX f.dE f.wQ 1) (upY f.dE f.vJ 1)->w2.grownBy w3 (az L.bk)->gz DK w3 b ns cs {(f.gQ f.dE 1)with boxes:=f.boxes.set u X'} {L with Ik:=fun j=>if j=u then L2 else L.Ik j}/\qA DK w2 DK w3:=fun w3 hb hg=>by
    have hc:Ch (· =L.bk) w2 w3:=⟨hg.os,hg.tape,hg.output,hg.size,fun k hk hn=>hg.block k hk fun q=>hn (by injection q)⟩;refine⟨MB.o.book hc (fun _ _=>rfl) ?_ ?_,⟨hc.mono fun k _ e=>?_,fun _ _=>rfl⟩⟩
    ·unfold upX upY at hb;unfold dB.gQ;by_cases hm:(f.dE:Int)%2=0
     ·rw[if_pos hm,if_pos hm]at hb;rw[if_pos hm];exact hb
     ·rw[if_neg hm,if_neg hm]at hb;rw[if_neg hm];exact hb
    ·unfold dB.gQ;split<;>rfl
    ·have:=MB.o.bk.2;simp only at this;rw[e,this];decide
   have AA:=aA AA;have SC:aZ (∀w3,Bk w3 L.bk f.dE (upX f.dE f.wQ 1) (upY f.dE f.vJ 1)->w2.grownBy w3 (az L.bk)->w3.cell? ⟨b,14,aj⟩=az (ah ag f.last)/\w3.frozen? ⟨b,14,aj⟩=false/\(w3.setCell ⟨b,14,aj⟩ (ah ag ((f.last:Int)+1))).cell? ⟨b,14,aj⟩=az (ah ag ((f.last:Int)+1))/\Gh Z w b ns cs {(f.gQ f.dE 1)with boxes:=f.boxes.set u X',last:=f.last+1} (w3.setCell ⟨b,14,aj⟩ (ah ag ((f.last:Int)+1)))):=fun w3 hb hg=>by
    obtain⟨m3,n3⟩:=AA.o w3 hb hg;have xm:(f.gQ (f.dE:Int) 1).last=f.last:=by unfold dB.gQ;split<;>rfl
    have r3:=m3.root.1;have ch:Ch (· =b) w3 (w3.setCell ⟨b,14,aj⟩ (ah ag ((f.last:Int)+1))):=(Ch.refl (· =b) w3).setCell (p:=⟨b,14,aj⟩) (.inl rfl) _;have r4:=r3.jy 14 (ah ag ((f.last:Int)+1));refine⟨by have:=r3.cell 14;rw[this];simp[BU,xm],r3.frozen 14,by have:=r4.cell 14;rw[this];simp[BU],DK,_,m3.azl ch (fun _ _=>rfl) ?_ ?_,(FN2.o.trans n3).trans ⟨ch.mono fun k _ e=>?_,fun _ _=>rfl⟩⟩
    ·have e:(BU {(f.gQ f.dE 1)with boxes:=f.boxes.set u X'} {L with Ik:=fun j=>if j=u then L2 else L.Ik j}).setIfInBounds 14 (ah ag ((f.last:Int)+1))=BU {(f.gQ f.dE 1)with boxes:=f.boxes.set u X',last:=f.last+1} {L with Ik:=fun j=>if j=u then L2 else L.Ik j}:=by
      unfold BU;simp
     rw[<-e];exact r4
    ·rfl
    ·rw[e,m3.root.2];decide
   go_wp2_with (first|(go_at_call 51;refine IJ.o.mono ?_;rintro e w3 ⟨rfl,Pt,hg3⟩;obtain⟨s1,s2,s3,s4⟩:=SC.o w3 Pt hg3;have S4:=aA s4;clear s4 Pt hg3));rw[<-Ex]
   exact⟨rfl,S4.o⟩
end
section
open Go.RowKit Go.Maps
theorem Dy{α:Type}[DecidableEq α]{C S:List α}(h:C.Nodup)(hs:∀x∈C,x∈S):C.length<=S.length:=by
 induction C generalizing S with
 |nil=>simp
 |cons a C ih=>rw[qb]at h;have h1:=ih (S:=S.erase a) h.2 fun x hx=>(List.mem_erase_of_ne (fun e=>h.1 (by rw[<-e];exact hx))).2 (hs x (dx _ hx));have h2:=List.length_erase_of_mem (hs a (bZ ..));have h3:=List.length_pos_of_mem (hs a (bZ ..));simp only[fw];omega
theorem jL.tight{w:aG}{b n H:Nat}{M:Lit->Option aJ}(h:jL w aH 3 b n M)(hk:∀l v,M l=az v->∃t:Nat,l=.int .i64 t/\t<=H):jL w aH 3 b (H+1) M:=by
 obtain⟨D,h,h2⟩:=h;have sz:size D<=H+1:=by
  obtain⟨es,hD,hpw,hkl⟩:=h.entries (int_keyed underlying3);subst hD;rw[size_eq];have nd:(es.map (·.1)).Nodup:=List.pairwise_map.2 hpw;have sub:∀l∈es.map (·.1),l∈(aN (H+1)).map fun t:Nat=>(Lit.int .i64 (t:Int)):=fun l hl=>by have e1:has (.map es) l=true:=(by rw[has_eq,jv];obtain⟨p,hp,rfl⟩:=iU.1 hl;exact⟨p,hp,lH (hkl p hp)⟩);rw[(h2 l).1]at e1;obtain⟨v,hv⟩:=Option.isSome_iff_exists.1 e1;obtain⟨t,rfl,ht⟩:=hk l v hv;exact iU.2 ⟨t,dK.2 (by omega),rfl⟩
  have:=@Dy Lit (fun a b=>vE _) _ _ nd sub;simpa using this
 obtain⟨es,clock,hb,F,hs,hD⟩:=h;refine⟨D,⟨es,clock,hb,F,?_,hD⟩,h2⟩;have e1:=sz;rw[hD,size_eq,length_sorted,dW,mZ]at e1;exact e1
def ko(Z:Own)(w:aG)(b:Nat)(ns:List Nd)(cs:List Cb)(L:rY)(f':dB)(w':aG):Prop:=∃dV,gz dV w' b ns cs f' L/\qA Z w dV w'
def pM(M:Lit->Option aJ)(t:Nat):aJ:=(M (.int .i64 (t:Nat))).getD (ay aj 0 0)
theorem Ky{t u:Nat}:(Lit.int .i64 (t:Int))=.int .i64 (u:Int)↔t=u:=by
 constructor
 ·intro h;injection h with _ h;omega
 ·rintro rfl;rfl
theorem vH.put{α:Type}{w3:aG}{bm n due:Nat}{fl fl':Nat->List α}{P':Nat->aJ->List α->Prop}{M:Lit->Option aJ}{v':aJ}(h3:∀l v,M l=az v->∃t:Nat,l=.int .i64 t/\t<=900000000)(h4:∀t,M (.int .i64 (t:Nat))=aj->fl t=[])(hd:due<=900000000)(om:jL w3 aH 3 bm n (uC M (.int .i64 due) v'))(hp:P' due v' (fl' due))(ho:∀t,t≠due->fl' t=fl t)(h5:∀t v,t≠due->M (.int .i64 (t:Nat))=az v->P' t v (fl t)):vH w3 bm fl' P':=by
 have kl:yO (.int .i64 (due:Int)):=trivial;have p1:uC M (.int .i64 due) v' (.int .i64 due)=az v':=by unfold uC;rw[if_pos (lH kl)]
 have p2:∀l,l≠.int .i64 (due:Nat)->uC M (.int .i64 due) v' l=M l:=fun l e=>by unfold uC;rw[if_neg (by rw[pG kl];exact e)]
 have h3':∀l v,uC M (.int .i64 due) v' l=az v->∃t:Nat,l=.int .i64 t/\t<=900000000:=fun l v hv=>by
  rcases vV (l=.int .i64 (due:Nat))with e|e
  ·exact⟨due,e,hd⟩
  ·rw[p2 l e]at hv;exact h3 l v hv
 refine⟨900000000+1,_,om.tight h3',by omega,h3',fun t ht=>?_,fun t v hv=>?_⟩
 ·by_cases e:t=due
  ·subst e;rw[p1]at ht;cases ht
  ·rw[p2 _ (fun q=>e (Ky.1 q))]at ht;rw[ho t e];exact h4 t ht
 ·by_cases e:t=due
  ·subst e;rw[p1]at hv;injection hv with hv;subst hv;exact hp
  ·rw[p2 _ (fun q=>e (Ky.1 q))]at hv;rw[ho t e];exact h5 t v e hv
theorem kQ.cellOf{Z:Own}{w:aG}{t:dP}{T:Tg->Prop}{v:aJ}{xs:List aJ}{n g c i:Nat}(h:kQ Z w t T v n xs)(e:v=ay (az ⟨g,0,aj⟩) n c)(hi:i<xs.length):w.cell? ⟨g,i,aj⟩=xs[i]?:=by obtain⟨g',c',e',k,_⟩:=h.at_ hi;rw[e]at e';injection e' with e1;injection e1 with e1;injection e1 with e1;subst e1;exact k
theorem kQ.OJ{Z:Own}{w:aG}{t:dP}{T:Tg->Prop}{v:aJ}{xs:List aJ}{n:Nat}(h:kQ Z w t T v n xs)(hi:0<xs.length):∃g c,v=ay (az ⟨g,0,aj⟩) n c:=by obtain⟨g,c,e,_⟩:=h.at_ hi;exact⟨g,c,e⟩
section
variable{Z:Own}{w:aG}{b:Nat}{ns:List Nd}{cs:List Cb}{f:dB}{L:rY}
theorem gz.ajM(h:gz Z w b ns cs f L)(due:Nat):∃(n:Nat) (M:Lit->Option aJ),jL w aH 3 L.ml n M/\n<=1000000000/\JU w (pM M due) (f.lim due)/\(∀g,(pM M due).ownBlock=az g->Z g=(2,6,due,0))/\(∀(w' w2 w3:aG) (o1:Obj) (x:Nat×Nat×Int) (v':aJ),due<=900000000->aO w.heap.size w w'->w2.ownsRow 0 116 3 v' ((f.lim due).length+1) ((f.lim due).flatMap JG++JG x)->(w'.alloc o1).grownBy w2 (pM M due).ownBlock->(v'.ownBlock=(pM M due).ownBlock\/v'.ownBlock=az (w'.heap.size+1))->jL w3 aH 3 L.ml (n+1) (uC M (.int .i64 due) v')->w2.grownBy w3 (az L.ml)->ko Z w b ns cs L {f with lim:=fun t=>if t=due then f.lim t++[x]else f.lim t} w3):=by
 obtain⟨⟨n,M,m1,m2,m3,m4,m5⟩,mT⟩:=h.lim;have YL:JU w (pM M due) (f.lim due)/\∀g,(pM M due).ownBlock=az g->Z g=(2,6,due,0):=by
  unfold pM;cases hm:M (.int .i64 (due:Nat))with
  |none=>rw[m4 due hm];exact⟨dR w 0 _ _,fun g e=>by simp[eO]at e⟩
  |some v=>exact m5 due v hm
 refine⟨n,M,m1,m2,YL.1,YL.2,fun w' w2 w3 o1 x v' hd hb own gr loc om g3=>?_⟩;obtain⟨i1,i2⟩:=YL;have hc:Ch (fun k=>k=L.ml\/(pM M due).ownBlock=az k) w w3:=(((Ch.dw (S:=fun k=>k=L.ml\/(pM M due).ownBlock=az k) hb).alloc o1).grown gr fun g hg=>.inl (.inr hg)).grown g3 fun g hg=>.inl (.inl (by injection hg with hg;exact hg.symm));obtain⟨dV,QX⟩:∃dV:Own,dV=fun k=>if v'.ownBlock=az k then(2,6,due,0)else fr Z w.heap.size k:=⟨_,rfl⟩
 have he:∀k,k<w.heap.size->dV k=Z k:=fun k hk=>by
  rw[QX];simp only;by_cases e:v'.ownBlock=az k
  ·rw[if_pos e];rcases loc with q|q
   ·rw[q]at e;exact(i2 k e).symm
   ·rw[q]at e;injection e with e;have:=hb.size;omega
  ·rw[if_neg e,iD hk]
 have g:=h.Rf (fun k=>k=5\/k=6) hc he fun k s=>.inr (by
  rcases s with s|s
  ·rw[s,mT];exact⟨rfl,.inl rfl⟩
  ·rw[i2 k s];exact⟨rfl,.inr rfl⟩)
 have mlv:∀k,v'.ownBlock=az k->¬k=L.ml:=fun k e e2=>by
  subst e2;rcases loc with q|q
  ·rw[q]at e;have:=i2 _ e;rw[mT]at this;simp at this
  ·rw[q]at e;injection e with e;have:=m1.Uz;have:=hb.size;omega
 refine⟨dV,⟨⟨g.root (by decide),g.iO.1⟩,g.plan,g.aI,g.xP,g.Kc,g.bx,g.up (by decide),g.r0,g.r1,⟨g.bk (by decide),g.IZ⟩,⟨g.fl (by decide) (by decide),g.ZM⟩,⟨?_,by rw[he _ m1.Uz];exact mT⟩,g.came (by decide),g.gone (by decide),g.lost (by decide)⟩,⟨hc.mono fun k _ s=>?_,he⟩⟩
 ·refine vH.put (M:=M) m3 m4 hd om ⟨?_,fun k hk=>?_⟩ (fun t e=>if_neg e) (fun t v e hv=>?_)
  ·have h1:=fT own ((Ch.refl (· =L.ml) w2).grown g3 fun g hg=>.inl (by injection hg with hg;exact hg.symm)) mlv;unfold JU;simp only[if_true,bW,fw,kJ,fU,dY,List.flatMap_nil,jr];exact h1
  ·rw[QX];simp only;rw[if_pos hk]
  ·obtain⟨a1,a2⟩:=m5 t v hv;refine⟨fT a1 hc fun k hk s=>?_,fun k hk=>by rw[he _ (xB a1 k hk).2];exact a2 k hk⟩;have q1:=a2 k hk;rcases s with s|s
   ·rw[s,mT]at q1;simp at q1
   ·rw[i2 k s]at q1;simp at q1;exact e q1.symm
 ·rcases s with s|s
  ·rw[s,mT];decide
  ·rw[i2 k s];exact aC 2
theorem gz.axD(h:gz Z w b ns cs f L)(due:Nat):∃(n:Nat) (M:Lit->Option aJ) (Q:List ((Nat×Fm)×aJ)),jL w aH 3 L.mf n M/\n<=1000000000/\Q.map (·.1)=f.fl due/\w.ownsRow 0 122 7 (pM M due) Q.length (Q.flatMap Il)/\(∀x∈Q,iX Z w x.1.2.data x.2)/\(∀g,(pM M due).ownBlock=az g->Z g=(2,4,due,0))/\(∀(w' w2 w3:aG) (o1:Obj) (x:Nat×Fm) (vx v':aJ),due<=900000000->iX Z w x.2.data vx->aO w.heap.size w w'->w2.ownsRow 0 122 7 v' (Q.length+1) (Q.flatMap Il++Il (x,vx))->(w'.alloc o1).grownBy w2 (pM M due).ownBlock->(v'.ownBlock=(pM M due).ownBlock\/v'.ownBlock=az (w'.heap.size+1))->jL w3 aH 3 L.mf (n+1) (uC M (.int .i64 due) v')->w2.grownBy w3 (az L.mf)->ko Z w b ns cs L {f with fl:=fun t=>if t=due then f.fl t++[x]else f.fl t} w3):=by
 obtain⟨⟨n,M,m1,m2,m3,m4,m5⟩,mT⟩:=h.fl;have YL:NH Z w (pM M due) (f.fl due)/\∀g,(pM M due).ownBlock=az g->Z g=(2,4,due,0):=by
  unfold pM;cases hm:M (.int .i64 (due:Nat))with
  |none=>rw[m4 due hm];exact⟨⟨[],rfl,dR w 0 _ _,fun x hx=>by cases hx⟩,fun g e=>by simp[eO]at e⟩
  |some v=>exact m5 due v hm
 obtain⟨⟨Q,q1,i1,q3⟩,i2⟩:=YL;refine⟨n,M,Q,m1,m2,q1,i1,q3,i2,fun w' w2 w3 o1 x vx v' hd hx hb own gr loc om g3=>?_⟩;have hc:Ch (fun k=>k=L.mf\/(pM M due).ownBlock=az k) w w3:=(((Ch.dw (S:=fun k=>k=L.mf\/(pM M due).ownBlock=az k) hb).alloc o1).grown gr fun g hg=>.inl (.inr hg)).grown g3 fun g hg=>.inl (.inl (by injection hg with hg;exact hg.symm));obtain⟨dV,QX⟩:∃dV:Own,dV=fun k=>if v'.ownBlock=az k then(2,4,due,0)else fr Z w.heap.size k:=⟨_,rfl⟩
 have he:∀k,k<w.heap.size->dV k=Z k:=fun k hk=>by
  rw[QX];simp only;by_cases e:v'.ownBlock=az k
  ·rw[if_pos e];rcases loc with q|q
   ·rw[q]at e;exact(i2 k e).symm
   ·rw[q]at e;injection e with e;have:=hb.size;omega
  ·rw[if_neg e,iD hk]
 have g:=h.Rf (fun k=>k=3\/k=4) hc he fun k s=>.inr (by
  rcases s with s|s
  ·rw[s,mT];exact⟨rfl,.inl rfl⟩
  ·rw[i2 k s];exact⟨rfl,.inr rfl⟩)
 have mlv:∀k,v'.ownBlock=az k->¬k=L.mf:=fun k e e2=>by
  subst e2;rcases loc with q|q
  ·rw[q]at e;have:=i2 _ e;rw[mT]at this;simp at this
  ·rw[q]at e;injection e with e;have:=m1.Uz;have:=hb.size;omega
 have s1:∀k,(k=L.mf\/(pM M due).ownBlock=az k)->(Z k).1≠1:=fun k s=>by
  rcases s with s|s
  ·rw[s,mT];decide
  ·rw[i2 k s];simp
 refine⟨dV,⟨⟨g.root (by decide),g.iO.1⟩,g.plan,g.aI,g.xP,g.Kc,g.bx,g.up (by decide),g.r0,g.r1,⟨g.bk (by decide),g.IZ⟩,⟨?_,by rw[he _ m1.Uz];exact mT⟩,⟨g.lim (by decide) (by decide),g.Kw⟩,g.came (by decide),g.gone (by decide),g.lost (by decide)⟩,⟨hc.mono fun k _ s=>?_,he⟩⟩
 ·refine vH.put (M:=M) m3 m4 hd om ⟨?_,fun k hk=>?_⟩ (fun t e=>if_neg e) (fun t v e hv=>?_)
  ·have h1:=fT own ((Ch.refl (· =L.mf) w2).grown g3 fun g hg=>.inl (by injection hg with hg;exact hg.symm)) mlv;refine⟨Q++[(x,vx)],by simp[q1],by simpa using h1,fun y hy=>?_⟩;rcases dU.1 hy with hy|hy
   ·exact(q3 y hy).jM hc he s1
   ·rw[dh]at hy;subst hy;exact hx.jM hc he s1
  ·rw[QX];simp only;rw[if_pos hk]
  ·obtain⟨a1,a2⟩:=m5 t v hv;refine⟨a1.jM hc he s1 fun k hk s=>?_,fun k hk=>by rw[he _ (a1.lt k hk)];exact a2 k hk⟩;have q1:=a2 k hk;rcases s with s|s
   ·rw[s,mT]at q1;simp at q1
   ·rw[i2 k s]at q1;simp at q1;exact e q1.symm
 ·rcases s with s|s
  ·rw[s,mT];decide
  ·rw[i2 k s];exact aC 2
end
end
section
open Go.RowKit Go.Maps
attribute [local go_sem ↓] fM fK
theorem Gd(w:aG):(zeroValue 114).run aH w=.ok (ay aj 0 0) w:=by kernel_rfl
theorem Jg:(Tryz.prog.info? 116).map (fun i=>(i.zero,i.size,i.bytes))=az (az (.agg #[ah ag 0,ah ag 0,ah ag 0]),3,24):=by kernel_rfl
section
variable(ns:List Nd)(cs:List Cb)
def xw(f:dB)(c v:Nat):dB:=(aN v).foldl (fun f v=>f.Gb ns cs c v) f
def sO(f:dB)(c:Nat):dB:=(aN c).foldl (fun f c=>if f.up.getD (c/2) false then(aN f.aI.length).foldl (fun f v=>f.Gb ns cs c v) f else f) f
theorem DI(f:dB)(c v:Nat):xw ns cs f c (v+1)=(xw ns cs f c v).Gb ns cs c v:=by unfold xw;rw[dL,fV];rfl
theorem Br(f:dB)(c:Nat):sO ns cs f (c+1)=if(sO ns cs f c).up.getD (c/2) false then xw ns cs (sO ns cs f c) c (sO ns cs f c).aI.length else sO ns cs f c:=by unfold sO xw;rw[dL,fV];rfl
theorem Jy(f:dB)(c v:Nat):xw ns cs f c v={f with lim:=(xw ns cs f c v).lim}:=by
 induction v with
 |zero=>rfl
 |succ v ih=>rw[DI];generalize xw ns cs f c v=g at *;rw[ih];rfl
theorem Bq(f:dB)(c:Nat):sO ns cs f c={f with lim:=(sO ns cs f c).lim}:=by
 induction c with
 |zero=>rfl
 |succ c ih=>
  rw[Br];generalize sO ns cs f c=g at *;split
  ·rw[Jy];generalize(xw ns cs g c g.aI.length).lim=l;rw[ih]
  ·exact ih
theorem Gq(l:List (List Int))(c v:Nat)(h:v<(l.getD c []).length):((l.getD c []).map fun x=>ah .i64 x)[v]?=az (ah ag (dz l c v)):=by unfold dz;generalize l.getD c []=r at *;rw[cK,cZ h];simp[bS,h]
theorem SE(f:dB)(c v t:Nat):((xw ns cs f c v).lim t).length<=(f.lim t).length+v:=by
 induction v with
 |zero=>exact aC _
 |succ v ih=>
  rw[DI];generalize xw ns cs f c v=g at *;unfold dB.Gb;simp only;split
  ·rw[bW];simp only[fw,kJ];omega
  ·omega
theorem QB(f:dB)(c t:Nat)(hk:f.aI.length<=8):((sO ns cs f c).lim t).length<=(f.lim t).length+c*8:=by
 induction c with
 |zero=>exact aC _
 |succ c ih=>
  rw[Br];have e:(sO ns cs f c).aI=f.aI:=by rw[Bq]
  rw[e];split
  ·have:=SE ns cs (sO ns cs f c) c f.aI.length t;omega
  ·omega
end
def Xn(Z:Own)(w:aG)(b:Nat)(ns:List Nd)(cs:List Cb)(L:rY)(f:dB)(i:aJ)(wr:aG):Prop:=∃c:Nat,c<=2*cs.length/\i=ah ag c/\ko Z w b ns cs L (sO ns cs f c) wr
def Xo(Z:Own)(w:aG)(b:Nat)(ns:List Nd)(cs:List Cb)(L:rY)(f:dB)(c:Nat)(i:aJ)(wr:aG):Prop:=∃v:Nat,v<=f.aI.length/\i=ah ag v/\ko Z w b ns cs L (xw ns cs f c v) wr
theorem ko.below{Z:Own}{w w1 w2:aG}{b:Nat}{ns:List Nd}{cs:List Cb}{L:rY}{f:dB}(h:ko Z w b ns cs L f w1)(hb:aO w1.heap.size w1 w2):ko Z w b ns cs L f w2:=by obtain⟨dV,m,n⟩:=h;exact⟨_,m.below hb,n.trans (qA.dw hb)⟩
theorem ko.trans{Z vP:Own}{w w1 w2:aG}{b:Nat}{ns:List Nd}{cs:List Cb}{L:rY}{f:dB}(n:qA Z w vP w1)(h:ko vP w1 b ns cs L f w2):ko Z w b ns cs L f w2:=by obtain⟨dV,m,n'⟩:=h;exact⟨_,m,n.trans n'⟩
theorem abH(f:dB)(N:Nat)(b:Nat)(ns:List Nd)(cs:List Cb)(L:rY)(Z:Own)(w:aG)(h:gz Z w b ns cs f L)(hp:nW ns cs)(qX:dH ns cs f N)(hN:N<=800000000):di aH 57 #[pt b] w fun e w'=>e=ax (.tuple #[])/\ko Z w b ns cs L (f.tell ns cs) w':=by
 have PL:=aA hp;have OK:=aA qX;obtain⟨An,Ac,cn,cc,eN,eC,hIP,_,_⟩:=h.plan;have c1:w.cell? ⟨b,0+1,aj⟩=az (ay Ac cs.length cc):=by rw[<-eC];exact h.xu
 have SM:aZ (∀(g:dB) (lm:Nat->List (Nat×Nat×Int)) (dV:Own) (w':aG),gz dV w' b ns cs {g with lim:=lm} L->QN w' b ns cs An Ac cn cc):=fun g lm dV w' m=>by obtain⟨An',Ac',cn',cc',e1,e2,hI,_,_⟩:=m.plan;rw[eN]at e1;rw[eC]at e2;injection e1 with a1 _ a2;injection e2 with a3 _ a4;subst a1;subst a2;subst a3;subst a4;exact⟨by rw[m.xu];show az L.vn=_;rw[eN],by rw[m.xu];show az L.vc=_;rw[eC],hI⟩
 have Ll:=hp.Ll;have H0:aZ (ko Z w b ns cs L f w):=⟨Z,h,qA.refl _ _⟩;have ET:aZ (f.tell ns cs=sO ns cs f (2*cs.length)):=rfl;have hN':=aA hN;have k0:0<f.aI.length:=by have:=qX.rl;have:=qX.k0;omega
 have kl:f.aI.length<=8:=by have:=qX.rl;have:=qX.k1;omega
 obtain⟨gr,cr,eR⟩:=h.aI.OJ (by simpa using k0);have q2:IntKind.i64.wrap ((2:Int)*(cs.length:Int))=2*(cs.length:Int):=fH _ (by omega);clear h hp qX hIP hN;unfold pt;go_enter func57,ntmps57;go_wp2_with fail;go_loopw [2,3,4,5,6,7,8,9,10,18,58] (fun _ _ _ _ _ _ _ _ _ i _ wr=>Xn Z w b ns cs L f i wr) (fun _ _ _ _ _ _ _ _ _ i _ _=>2*cs.length-(aK i).toNat);case atStart=>exact⟨0,bJ _,rfl,H0.o⟩
 case round=>
  obtain⟨c,hc,rfl,hP⟩:=hrel;have HP:=aA hP;clear hP;by_cases QM:c<2*cs.length
  ·obtain⟨F,hFd⟩:∃F,sO ns cs f c=F:=⟨_,rfl⟩;have hF:F={f with lim:=F.lim}:=by rw[<-hFd];exact Bq ns cs f c
   have Gj:=aA (Br ns cs f c);have TLN:aZ (∀t,(F.lim t).length<=(f.lim t).length+c*8):=fun t=>(by rw[<-hFd];exact QB ns cs f c t kl);rw[hFd]at HP Gj;have FR:aZ (F.aI=f.aI):=(by rw[aZ,hF]);have FU:aZ (F.up=f.up):=(by rw[aZ,hF]);rw[FR.o,FU.o]at Gj;have HFE:=aA hF;obtain⟨vP,m,n1⟩:=HP.o;have m':gz vP wr b ns cs {f with lim:=F.lim} L:=(by rw[<-hF];exact m);clear hF hFd;obtain⟨k,hk⟩:∃k,c/2=k:=⟨_,rfl⟩;have HK:=aA hk;rw[hk]at Gj;have hi:k<cs.length:=(by omega);have S:=SM.o f F.lim vP wr m';have mu:kQ vP wr 4 (PW 1 0) L.vu f.up.length (f.up.map fun x=>.bool x):=m'.up;have ul:=OK.o.up;obtain⟨gu,cu,eU⟩:=mu.OJ (by simp;omega);have u1:wr.cell? ⟨b,6,aj⟩=az (ay (az ⟨gu,0,aj⟩) cs.length cu):=(by rw[m'.xu];show az L.vu=_;rw[eU,ul]);have u2:wr.cell? ⟨gu,k,aj⟩=az (.bool (f.up.getD (k) false)):=(by rw[mu.cellOf eU (by simp;omega)];simp[bS,ul,hi]);have dl:=PL.o.dl _ hi;obtain⟨bc,oc,ha,hbc,_,_,_,_,_,e4,_⟩:=mE S.plan.2 (k) hi;have c13:wr.cell? ⟨b,13,aj⟩=az (ah ag f.now):=m'.xu;have c1w:=S.c1;rw[ha]at c1w;clear ha;obtain⟨d,hd⟩:∃d:Nat,(cs.getD (k) gV).dl=(d:Int):=⟨(cs.getD (k) gV).dl.toNat,by omega⟩;have dT:(cs.getD (k) gV).dl.toNat=d:=(by omega);simp only at e4;rw[hd]at e4 dl;have hd2:(c:Int)/2=(k:Int):=(by omega);have hd0:(0:Int)<=(k:Int):=(by omega);have hd1:(k:Int)<(cs.length:Int):=(by omega);have hd3:(c:Int).tdiv 2=(k:Int):=(by rw[Int.tdiv_eq_ediv_of_nonneg (by omega)];exact hd2);have hd4:IntKind.i64.wrap (k:Int)=(k:Int):=fH _ (by omega);clear hk;have hc0:(0:Int)<=(c:Int):=(by omega);have hc1:(c:Int)<=100:=(by omega);have aHJ:(c:Int)<2*(cs.length:Int):=(by omega);have nw:=OK.o.now;have hNN:=hN'.out;have q3:IntKind.i64.wrap ((f.now:Int)+(d:Int))=(f.now:Int)+(d:Int):=fH _ (by omega);have EN:=PL.o.ends QM;have PT:aZ (∀X:Bx,X.bE=gJ (ns.getD (bV cs c).2.2.1 iZ)->(bV cs c).2.2.2<X.bE):=fun X hX=>(by rw[hX];exact PL.o.qP EN.2.1 EN.2.2.2.1);have EC:aZ (∀w',aO wr.heap.size wr w'->di aH 53 #[au (az ⟨b,0,aj⟩),ah ag c] w' (uD cs c w')):=fun w' hb=>Ct c b ns cs An Ac cn cc w' (S.below hb) PL.o QM;have K3:aZ (∀w',aO wr.heap.size wr w'->w'.cell? ⟨b,3,aj⟩=az (ay (az ⟨gr,0,aj⟩) f.aI.length cr)):=fun w' hb=>(by have c3:wr.cell? ⟨b,3,aj⟩=az (ay (az ⟨gr,0,aj⟩) f.aI.length cr):=(by rw[m'.xu];show az L.vr=_;rw[eR]);exact(hb.cell (p:=⟨b,3,aj⟩) (aY _ _ c3)).trans c3);have Gp:=EN.2.1;obtain⟨⟨ea,eb,u,p⟩,hE⟩:∃e,bV cs c=e:=⟨_,rfl⟩;unfold uD at EC;rw[hE]at PT EC Gp;simp only at PT EC Gp;have HE:=aA hE;have HD:=aA dT;clear EN hE S mu eU m m' ul dT hd;cases yS:f.up.getD (k) false with
   |false=>rw[yS]at u2 Gj;have R:aZ (Xn Z w b ns cs L f (ah ag ((c+1:Nat):Int)) wr):=⟨c+1,by omega,rfl,by rw[Gj.o];exact HP.o⟩;clear yS EC K3 c13 e4 c1w;go_wp2_with fail;exact⟨by simpa using R.o,by simp[aK];omega⟩
   |true=>
    rw[yS]at u2 Gj;clear yS;have CC:aZ (wr.cell? ⟨b,13,aj⟩=az (ah ag f.now)/\wr.cell? ⟨b,0+1,aj⟩=az (ay (az ⟨bc,oc,aj⟩) cs.length cc)/\wr.cell? ⟨bc,oc+k*6+4,aj⟩=az (ah ag (d:Int))):=⟨c13,c1w,e4⟩;go_wp2_with fail;go_region_held3 (fun w'=>w'.cell? ⟨b,13,aj⟩=az (ah ag f.now)/\w'.cell? ⟨b,0+1,aj⟩=az (ay (az ⟨bc,oc,aj⟩) cs.length cc)/\w'.cell? ⟨bc,oc+k*6+4,aj⟩=az (ah ag (d:Int)))
     (first|exact CC.o)
     (fail)
    clear c13 e4 c1w CC u1 u2;go_wp2_with (first|(go_at_call 53;refine(EC.o _ (aS _ _).drew).mono ?_;rintro e w5 ⟨rfl,hb⟩;have B5:aZ (aO wr.heap.size wr w5):=(show aO wr.heap.size wr w5 from⟨hb.os,hb.tape,hb.output,hb.size,hb.block⟩);have k3:=K3.o _ B5.o;clear hb));clear k3 K3 EC;have HP5:=aA (HP.o.below B5.o);clear HP n1;obtain⟨due,alZ⟩:∃due:Nat,f.now+d=due:=⟨_,rfl⟩;have hdI:(f.now:Int)+(d:Int)=(due:Int):=by omega
    rw[hdI]at *;obtain⟨wz,rfl⟩:∃wz:aG,wz=wr:=⟨_,rfl⟩;go_loopw [8,9,10,58] (fun _ _ _ i w'=>Xo Z w b ns cs L F c i w') (fun _ _ _ i _=>f.aI.length-(aK i).toNat);case atStart=>exact⟨0,bJ _,rfl,HP5.o⟩
    case round=>
     obtain⟨v,hv,rfl,hP2⟩:=hrel;rw[FR.o]at hv;by_cases hvn:v<f.aI.length
     ·obtain⟨DK,m2,n2⟩:=hP2;have N2:=aA n2;obtain⟨G,hGd⟩:∃G,xw ns cs F c v=G:=⟨_,rfl⟩;have hG:G={f with lim:=G.lim}:=(by rw[<-hGd,Jy];generalize(xw ns cs F c v).lim=l;rw[HFE.o]);rw[hGd]at m2;have m3:gz DK wr b ns cs {f with lim:=G.lim} L:=(by rw[<-hG];exact m2);obtain⟨n,M,om,hn,nm,tg,push⟩:=m2.ajM due;have OM:=aA om;have HN:=aA hn;have NM:=aA nm;have TG:=aA tg;have PU:=aA push;clear om hn nm tg push;have MT:aZ (DK L.ml=(2,5,0,0)):=m2.lim.2;have LL:aZ ((G.lim due).length<=810000000):=by
       have l1:=SE ns cs F c v due;have l2:=TLN.o due;have l3:=OK.o.Ei due;rw[hGd]at l1;rw[aZ];omega
      have NT:(f.gone.getD c []).length=f.aI.length:=OK.o.gn.row c QM;have aqi:(f.came.getD u []).length=f.aI.length:=OK.o.cm.row u Gp;obtain⟨gg,cg,eG,kG,_,lG,tG⟩:=m3.gone.1.at_ (i:=c) (by simpa using QM);obtain⟨gi,ci,eI,kI,_,lI,tI⟩:=(m3.gone.2 c QM).at_ (i:=v) (by rw[dW];simp only;omega);obtain⟨gc,cg2,eC2,kC,_⟩:=m3.came.1.at_ (i:=u) (by simpa using Gp);obtain⟨gd,cd,eD,kD,_⟩:=(m3.came.2 u Gp).at_ (i:=v) (by rw[dW];simp only;omega);simp only at eG kG eI kI eC2 kC eD kD;rw[NT]at eI;rw[aqi]at eD;have kG':wr.cell? ⟨gg,c,aj⟩=az (ay (az ⟨gi,0,aj⟩) f.aI.length ci):=(by rw[kG,cK,eu QM,<-eI];rfl);have kC':wr.cell? ⟨gc,u,aj⟩=az (ay (az ⟨gd,0,aj⟩) f.aI.length cd):=(by rw[kC,cK,eu Gp,<-eD];rfl);have kI':wr.cell? ⟨gi,v,aj⟩=az (ah ag (dz f.gone c v)):=(by have h1:v<(f.gone.getD c []).length:=(by omega);rw[kI];exact Gq f.gone c v h1);have kD':wr.cell? ⟨gd,v,aj⟩=az (ah ag (dz f.came u v)):=(by have h1:v<(f.came.getD u []).length:=(by omega);rw[kD];exact Gq f.came u v h1);have kR:wr.cell? ⟨gr,v,aj⟩=az (ah ag (f.aI.getD v 0)):=(by have h1:kQ DK wr 3 never L.vr f.aI.length (f.aI.map fun x=>ah ag x):=m3.aI;rw[h1.cellOf eR (by simpa using hvn),cK];simp[bS,hvn]);have c16:wr.cell? ⟨b,16,aj⟩=az (.map (az L.ml)):=m3.xu;have c17:wr.cell? ⟨b,17,aj⟩=az (ay (az ⟨gc,0,aj⟩) ns.length cg2):=(by rw[<-eC2];exact m3.xu);have c18:wr.cell? ⟨b,18,aj⟩=az (ay (az ⟨gg,0,aj⟩) (2*cs.length) cg):=(by rw[<-eG];exact m3.xu);have K12:aZ (∀w',aO wr.heap.size wr w'->w'.cell? ⟨b,16,aj⟩=az (.map (az L.ml))/\w'.cell? ⟨b,18,aj⟩=az (ay (az ⟨gg,0,aj⟩) (2*cs.length) cg)/\w'.cell? ⟨gg,c,aj⟩=az (ay (az ⟨gi,0,aj⟩) f.aI.length ci)/\w'.cell? ⟨gi,v,aj⟩=az (ah ag (dz f.gone c v))):=fun w' hb=>
       ⟨(hb.cell (p:=⟨b,16,aj⟩) (aY _ _ c16)).trans c16,(hb.cell (p:=⟨b,18,aj⟩) (aY _ _ c18)).trans c18,(hb.cell (p:=⟨gg,c,aj⟩) (aY _ _ kG')).trans kG',(hb.cell (p:=⟨gi,v,aj⟩) (aY _ _ kI')).trans kI'⟩
      have TB:aZ (DK b=(2,0,0,0)/\never (DK gg)/\PW 8 c (DK gi)):=⟨m3.root.2,tG,tI⟩;have UD:aZ (b<wr.heap.size/\gg<wr.heap.size/\gi<wr.heap.size):=⟨m3.root.1.lt,lG,lI⟩;have S2:=SM.o f G.lim DK wr m3;obtain⟨bn,on,hbn,_,_,_,e7,_⟩:=uS S2.plan.1 u (by simpa using Gp);have c0w:=S2.c0;rw[hbn]at c0w;clear hbn;simp only at e7;obtain⟨gb,cb,eB,c5,TH,tgb,lgb⟩:=m3.aaU Gp;unfold pt at TH;have Lh:=OK.o.box u Gp;have rmb:=OK.o.rv (f.aI.getD v 0) (by simp[bS,hvn]);have cmb:=OK.o.cv u v Gp hvn;have gnb:=OK.o.gv c v QM hvn;have hpb:=PT.o _ Lh.2.1;have LIM:aZ (∀w',aO wr.heap.size wr w'->di aH 100 #[au (az ⟨L.bx u,0,aj⟩),ah ag p,ah ag v] w' fun e w''=>e=ax (ah ag (dz (f.boxes.getD u default).gv p v).nP)/\aO w'.heap.size w' w''):=fun w' hb=>
       XH p v N _ (3+u) w' (L.bx u) _ _ ((m3.bx u Gp).below hb) Lh.1 (by omega) hpb (by rw[Lh.2.2];exact hvn)
      have lmb:0<=(dz (f.boxes.getD u default).gv p v).nP/\(dz (f.boxes.getD u default).gv p v).nP<=1000000000:=(by have h1:=Lh.1.g p v hpb (by rw[Lh.2.2];exact hvn);unfold Gv.nP;have:=h1.r0;have:=h1.r1;have:=h1.f0;have:=h1.f1;have:=h1.n1;omega);have G1:G.now=f.now:=(by rw[hG]);have G2:G.boxes=f.boxes:=(by rw[hG]);have G3:G.aI=f.aI:=(by rw[hG]);have G4:G.came=f.came:=(by rw[hG]);have G5:G.gone=f.gone:=(by rw[hG]);have TE0:aZ (xw ns cs F c (v+1)={G with lim:=fun t=>if t=due then G.lim t++[(c,v,(if qE ns u then(dz (f.boxes.getD u default).gv p v).nP else f.aI.getD v 0+dz f.came u v)+dz f.gone c v)]else G.lim t}):=(by rw[aZ,DI,hGd];unfold dB.Gb;rw[HE.o];simp only;rw[HK.o,HD.o,G1,G2,G3,G4,G5,alZ]);unfold qE at TE0;obtain⟨la,lc,eL⟩:=dX NM.o;have EL:=aA eL;have u0:(0:Int)<=(u:Int):=(by omega);have u1:(u:Int)<(ns.length:Int):=(by omega);have v0:(0:Int)<=(v:Int):=(by omega);have v1:(v:Int)<(f.aI.length:Int):=(by omega);have axv:due<=810000000:=(by omega);clear m2 m3 n2 eL kG kC kI kD S2 NT aqi tG lG tI lI hG hGd G1 G2 G3 G4 G5 Lh hpb eB tgb lgb;generalize f.aI.getD v 0=rm at *;generalize dz f.came u v=cmv at *;generalize dz f.gone c v=gv at *;generalize(dz (f.boxes.getD u default).gv p v).nP=lb at *;have q4:IntKind.i64.wrap (rm+cmv)=rm+cmv:=fH _ (by omega);cases hsw:(ns.getD u iZ).sw with
      |true=>
       rw[hsw]at e7 TE0;obtain⟨lv,rfl⟩:∃lv,lv=lb:=⟨_,rfl⟩;have TE:aZ (xw ns cs F c (v+1)={G with lim:=fun t=>if t=due then G.lim t++[(c,v,lv+gv)]else G.lim t}):=by rw[aZ,TE0.o];simp
       have q5:IntKind.i64.wrap (lv+gv)=lv+gv:=fH _ (by omega);clear TE0;go_wp2_with (first|(go_at_call 100;refine(LIM.o _ (aS _ _)).mono ?_;rintro e w3 ⟨rfl,hb⟩;have B3:aZ (aO wr.heap.size wr w3):=(show aO wr.heap.size wr w3 from⟨hb.os,hb.tape,hb.output,hb.size,hb.block⟩);clear hb));clear LIM c16 c17 c18 kG' kC' kI' kD' kR c0w e7 c5 TH;have OM3:aZ (jL w3 aH 3 L.ml n M):=ny OM.o (Ch.dw (S:=fun _=>False) B3.o) (fun q=>q);have KS:aZ (∀w',Ch (fun k=>(pM M due).ownBlock=az k) w3 w'->w'.cell? ⟨b,16,aj⟩=az (.map (az L.ml))/\w'.cell? ⟨b,18,aj⟩=az (ay (az ⟨gg,0,aj⟩) (2*cs.length) cg)/\w'.cell? ⟨gg,c,aj⟩=az (ay (az ⟨gi,0,aj⟩) f.aI.length ci)/\w'.cell? ⟨gi,v,aj⟩=az (ah ag gv)/\(oO 91 (.map (az L.ml)) (ah ag due) false).run aH w'=.ok (ay la (G.lim due).length lc) w'):=fun w' qx=>by
        obtain⟨k1,k2,k3,k4⟩:=K12.o w3 B3.o;have lt:∀k,k<wr.heap.size->k<w3.heap.size:=fun k hk=>bY hk B3.o.size;refine⟨(qx.cell (p:=⟨b,16,aj⟩) (lt _ (UD.o).1) (fun q=>?_)).trans k1,(qx.cell (p:=⟨b,18,aj⟩) (lt _ (UD.o).1) (fun q=>?_)).trans k2,(qx.cell (p:=⟨gg,c,aj⟩) (lt _ (UD.o).2.1) (fun q=>?_)).trans k3,(qx.cell (p:=⟨gi,v,aj⟩) (lt _ (UD.o).2.2) (fun q=>?_)).trans k4,?_⟩
        ·have q1:=TG.o _ q;rw[TB.o.1]at q1;simp at q1
        ·have q1:=TG.o _ q;rw[TB.o.1]at q1;simp at q1
        ·have q1:=TG.o _ q;have q2:=TB.o.2.1;unfold never at q2;rw[q1]at q2;simp at q2
        ·have q1:=TG.o _ q;have q2:=TB.o.2.2;unfold PW at q2;rw[q1]at q2;simp at q2
        ·have o:=ny OM3.o qx (fun q=>by have q1:=TG.o _ q;rw[MT.o]at q1;simp at q1);rw[<-EL.o];exact o.look (int_keyed underlying3) underlying91 (Gd _) (keyOf_int_mk underlying3 (pO (due:Int) (by omega) (by omega)))
       have OW3:aZ (w3.ownsRow 0 116 3 (ay la (G.lim due).length lc) (G.lim due).length ((G.lim due).flatMap JG)):=(by rw[<-EL.o];exact fT NM.o (Ch.dw (S:=fun _=>False) B3.o) (fun _ _ q=>q));obtain⟨j0,xQ,zC,Aq,Av⟩:=eQ Jg;have RN:aZ (Reads (w3.alloc (af #[ah ag c,ah ag v,ah ag (lv+gv)] 116)).drew (w3.heap.size+1) 3 (az ⟨w3.heap.size,0,aj⟩) 1 [ah ag c,ah ag v,ah ag (lv+gv)]):=(iE w3 116 [ah ag c,ah ag v,ah ag (lv+gv)] (n:=1) (size:=3) rfl).drew;have OW:aZ ((w3.alloc (af #[ah ag c,ah ag v,ah ag (lv+gv)] 116)).drew.ownsRow 0 116 3 (ay la (G.lim due).length lc) (G.lim due).length ((G.lim due).flatMap JG)):=OW3.o.alloc (af #[ah ag c,ah ag v,ah ag (lv+gv)] 116);refine fZ 28 (fun w'=>w'.cell? ⟨b,16,aj⟩=az (.map (az L.ml))/\w'.cell? ⟨b,18,aj⟩=az (ay (az ⟨gg,0,aj⟩) (2*cs.length) cg)/\w'.cell? ⟨gg,c,aj⟩=az (ay (az ⟨gi,0,aj⟩) f.aI.length ci)/\w'.cell? ⟨gi,v,aj⟩=az (ah ag gv)/\(oO 91 (.map (az L.ml)) (ah ag due) false).run aH w'=.ok (ay la (G.lim due).length lc) w') (by kernel_rfl) (KS.o _ (Ch.refl _ _).drew) (fun aW=>?_);refine bH.tk 0 aW ?_;try simp only[bI]
       refine bH.tk 1 aW ?_;try simp only[bI]
       refine bH.tk 2 aW ?_;try simp only[bI]
       refine bH.tk 3 aW ?_;try simp only[bI]
       refine bH.tk 4 aW ?_;try simp only[bI]
       refine bH.tk 5 aW ?_;try simp only[bI]
       refine bH.tk 6 aW ?_;try simp only[bI]
       refine bH.tk 7 aW ?_;try simp only[bI]
       refine bH.tk 8 aW ?_;try simp only[bI]
       refine bH.tk 9 aW ?_;try simp only[bI]
       refine bH.tk 10 aW ?_;try simp only[bI]
       refine bH.tk 11 aW ?_;try simp only[bI]
       refine bH.tk 12 aW ?_;try simp only[bI]
       refine bH.tk 13 aW ?_;try simp only[bI]
       refine bH.tk 14 aW ?_;try simp only[bI]
       refine bH.tk 15 aW ?_;try simp only[bI]
       refine bH.tk 16 aW ?_;try simp only[bI]
       refine bH.tk 17 aW ?_;try simp only[bI]
       refine bH.tk 18 aW ?_;try simp only[bI]
       refine bH.tk 19 aW ?_;try simp only[bI]
       refine bH.tk 20 aW ?_;try simp only[bI]
       refine bH.tk 21 aW ?_;try simp only[bI]
       refine bH.tk 22 aW ?_;try simp only[bI]
       refine bH.tk 23 aW ?_;try simp only[bI]
       refine bH.tk 24 aW ?_;try simp only[bI]
       refine bH.tk 25 aW ?_;try simp only[bI]
       refine bH.one (i:=26) (by kernel_rfl) rfl (fun K hK=>?_);go_simp;refine hK.out _ _ (fun _=>KS.o _ ((Ch.refl _ _).alloc _).drew) (fun bU=>?_);have aW:=bU (by decide);clear hK bU;try simp only[bI]
       refine bH.one (i:=27) (by kernel_rfl) rfl (fun K hK=>?_);refine gy _ (by rfl) (.tmp 104) (.tmp 120) 114 (by rfl) 0 116 j0 _ 3 24 underlying114 xQ zC Aq Av rfl (by decide) _ _ _ (by rfl) OW.o _ (az ⟨w3.heap.size,0,aj⟩) 1 1 [ah ag c,ah ag v,ah ag (lv+gv)] (by rfl) RN.o ?_ ?_ ?_ ?_ ?_
       ·intro u hu;simp only[dM,dZ,or_false]at hu;rcases hu with rfl|rfl|rfl<;>rfl
       ·have:=LL.o;unfold fJ;omega
       ·have:=LL.o;omega
       ·exact bJ _
       intro v5 w5 uL zW Dw;have Cu:(w3.alloc (af #[ah ag c,ah ag v,ah ag (lv+gv)] 116)).grownBy w5 (pM M due).ownBlock:=by rw[EL.o];exact⟨zW.os,zW.tape,zW.output,zW.size,zW.block⟩
       have om5:jL w5 aH 3 L.ml n M:=(OM3.o.alloc _).kept Cu fun e=>(by have q1:=TG.o _ e.symm;rw[MT.o]at q1;simp at q1);obtain⟨w6,hrun,om6,g6⟩:=om5.store (t:=91) (int_keyed underlying3) underlying91 (by unfold fJ;have:=HN.o;omega) (keyOf_int_mk underlying3 (pO (due:Int) (by omega) (by omega))) v5;have R:aZ (Xo Z w b ns cs L F c (ah ag ((v+1:Nat):Int)) w6):=(by refine⟨v+1,by rw[FR.o];omega,rfl,?_⟩;rw[TE.o];exact ko.trans N2.o (PU.o w3 w5 w6 _ (c,v,lv+gv) v5 (by omega) B3.o (by simpa[JG]using uL) Cu (by rw[EL.o];simpa using Dw) om6 g6));have k16:=KS.o w5 ((((Ch.refl _ w3).alloc _).grown Cu fun g hg=>.inl hg));clear uL zW Cu Dw om5 om6 g6;refine hK.out _ _ (fun _=>k16) (fun bU=>?_);have aW:=bU (by decide);clear hK bU;try simp only[bI]
       clear k16;refine bH.one (i:=28) (by kernel_rfl) rfl (fun K hK=>?_);go_simp;refine hK.out _ _ (fun h=>absurd rfl h) (fun _=>?_);clear hK;refine bH.done (by kernel_rfl) ?_ _;try simp only[bI]
       go_wp2_with fail;exact⟨by simpa using R.o,by simp[aK];omega⟩
      |false=>
       rw[hsw]at e7 TE0;obtain⟨lv,hlv⟩:∃lv,rm+cmv=lv:=⟨_,rfl⟩;have TE:aZ (xw ns cs F c (v+1)={G with lim:=fun t=>if t=due then G.lim t++[(c,v,lv+gv)]else G.lim t}):=by rw[aZ,TE0.o];simp[hlv]
       have q5:IntKind.i64.wrap (lv+gv)=lv+gv:=fH _ (by omega);rw[hlv]at q4;clear TE0;go_wp2_with fail;clear LIM c16 c17 c18 kG' kC' kI' kD' kR c0w e7 c5 TH;obtain⟨w3,zZ⟩:∃w3:aG,w3=wr:=⟨_,rfl⟩;have B3:aZ (aO wr.heap.size wr w3):=(by rw[zZ];exact aS _ _);rw[<-zZ];clear zZ;have OM3:aZ (jL w3 aH 3 L.ml n M):=ny OM.o (Ch.dw (S:=fun _=>False) B3.o) (fun q=>q);have KS:aZ (∀w',Ch (fun k=>(pM M due).ownBlock=az k) w3 w'->w'.cell? ⟨b,16,aj⟩=az (.map (az L.ml))/\w'.cell? ⟨b,18,aj⟩=az (ay (az ⟨gg,0,aj⟩) (2*cs.length) cg)/\w'.cell? ⟨gg,c,aj⟩=az (ay (az ⟨gi,0,aj⟩) f.aI.length ci)/\w'.cell? ⟨gi,v,aj⟩=az (ah ag gv)/\(oO 91 (.map (az L.ml)) (ah ag due) false).run aH w'=.ok (ay la (G.lim due).length lc) w'):=fun w' qx=>by
        obtain⟨k1,k2,k3,k4⟩:=K12.o w3 B3.o;have lt:∀k,k<wr.heap.size->k<w3.heap.size:=fun k hk=>bY hk B3.o.size;refine⟨(qx.cell (p:=⟨b,16,aj⟩) (lt _ (UD.o).1) (fun q=>?_)).trans k1,(qx.cell (p:=⟨b,18,aj⟩) (lt _ (UD.o).1) (fun q=>?_)).trans k2,(qx.cell (p:=⟨gg,c,aj⟩) (lt _ (UD.o).2.1) (fun q=>?_)).trans k3,(qx.cell (p:=⟨gi,v,aj⟩) (lt _ (UD.o).2.2) (fun q=>?_)).trans k4,?_⟩
        ·have q1:=TG.o _ q;rw[TB.o.1]at q1;simp at q1
        ·have q1:=TG.o _ q;rw[TB.o.1]at q1;simp at q1
        ·have q1:=TG.o _ q;have q2:=TB.o.2.1;unfold never at q2;rw[q1]at q2;simp at q2
        ·have q1:=TG.o _ q;have q2:=TB.o.2.2;unfold PW at q2;rw[q1]at q2;simp at q2
        ·have o:=ny OM3.o qx (fun q=>by have q1:=TG.o _ q;rw[MT.o]at q1;simp at q1);rw[<-EL.o];exact o.look (int_keyed underlying3) underlying91 (Gd _) (keyOf_int_mk underlying3 (pO (due:Int) (by omega) (by omega)))
       have OW3:aZ (w3.ownsRow 0 116 3 (ay la (G.lim due).length lc) (G.lim due).length ((G.lim due).flatMap JG)):=(by rw[<-EL.o];exact fT NM.o (Ch.dw (S:=fun _=>False) B3.o) (fun _ _ q=>q));obtain⟨j0,xQ,zC,Aq,Av⟩:=eQ Jg;have RN:aZ (Reads (w3.alloc (af #[ah ag c,ah ag v,ah ag (lv+gv)] 116)).drew (w3.heap.size+1) 3 (az ⟨w3.heap.size,0,aj⟩) 1 [ah ag c,ah ag v,ah ag (lv+gv)]):=(iE w3 116 [ah ag c,ah ag v,ah ag (lv+gv)] (n:=1) (size:=3) rfl).drew;have OW:aZ ((w3.alloc (af #[ah ag c,ah ag v,ah ag (lv+gv)] 116)).drew.ownsRow 0 116 3 (ay la (G.lim due).length lc) (G.lim due).length ((G.lim due).flatMap JG)):=OW3.o.alloc (af #[ah ag c,ah ag v,ah ag (lv+gv)] 116);refine fZ 28 (fun w'=>w'.cell? ⟨b,16,aj⟩=az (.map (az L.ml))/\w'.cell? ⟨b,18,aj⟩=az (ay (az ⟨gg,0,aj⟩) (2*cs.length) cg)/\w'.cell? ⟨gg,c,aj⟩=az (ay (az ⟨gi,0,aj⟩) f.aI.length ci)/\w'.cell? ⟨gi,v,aj⟩=az (ah ag gv)/\(oO 91 (.map (az L.ml)) (ah ag due) false).run aH w'=.ok (ay la (G.lim due).length lc) w') (by kernel_rfl) (KS.o _ (Ch.refl _ _).drew) (fun aW=>?_);refine bH.tk 0 aW ?_;try simp only[bI]
       refine bH.tk 1 aW ?_;try simp only[bI]
       refine bH.tk 2 aW ?_;try simp only[bI]
       refine bH.tk 3 aW ?_;try simp only[bI]
       refine bH.tk 4 aW ?_;try simp only[bI]
       refine bH.tk 5 aW ?_;try simp only[bI]
       refine bH.tk 6 aW ?_;try simp only[bI]
       refine bH.tk 7 aW ?_;try simp only[bI]
       refine bH.tk 8 aW ?_;try simp only[bI]
       refine bH.tk 9 aW ?_;try simp only[bI]
       refine bH.tk 10 aW ?_;try simp only[bI]
       refine bH.tk 11 aW ?_;try simp only[bI]
       refine bH.tk 12 aW ?_;try simp only[bI]
       refine bH.tk 13 aW ?_;try simp only[bI]
       refine bH.tk 14 aW ?_;try simp only[bI]
       refine bH.tk 15 aW ?_;try simp only[bI]
       refine bH.tk 16 aW ?_;try simp only[bI]
       refine bH.tk 17 aW ?_;try simp only[bI]
       refine bH.tk 18 aW ?_;try simp only[bI]
       refine bH.tk 19 aW ?_;try simp only[bI]
       refine bH.tk 20 aW ?_;try simp only[bI]
       refine bH.tk 21 aW ?_;try simp only[bI]
       refine bH.tk 22 aW ?_;try simp only[bI]
       refine bH.tk 23 aW ?_;try simp only[bI]
       refine bH.tk 24 aW ?_;try simp only[bI]
       refine bH.tk 25 aW ?_;try simp only[bI]
       refine bH.one (i:=26) (by kernel_rfl) rfl (fun K hK=>?_);go_simp;refine hK.out _ _ (fun _=>KS.o _ ((Ch.refl _ _).alloc _).drew) (fun bU=>?_);have aW:=bU (by decide);clear hK bU;try simp only[bI]
       refine bH.one (i:=27) (by kernel_rfl) rfl (fun K hK=>?_);refine gy _ (by rfl) (.tmp 104) (.tmp 120) 114 (by rfl) 0 116 j0 _ 3 24 underlying114 xQ zC Aq Av rfl (by decide) _ _ _ (by rfl) OW.o _ (az ⟨w3.heap.size,0,aj⟩) 1 1 [ah ag c,ah ag v,ah ag (lv+gv)] (by rfl) RN.o ?_ ?_ ?_ ?_ ?_
       ·intro u hu;simp only[dM,dZ,or_false]at hu;rcases hu with rfl|rfl|rfl<;>rfl
       ·have:=LL.o;unfold fJ;omega
       ·have:=LL.o;omega
       ·exact bJ _
       intro v5 w5 uL zW Dw;have Cu:(w3.alloc (af #[ah ag c,ah ag v,ah ag (lv+gv)] 116)).grownBy w5 (pM M due).ownBlock:=by rw[EL.o];exact⟨zW.os,zW.tape,zW.output,zW.size,zW.block⟩
       have om5:jL w5 aH 3 L.ml n M:=(OM3.o.alloc _).kept Cu fun e=>(by have q1:=TG.o _ e.symm;rw[MT.o]at q1;simp at q1);obtain⟨w6,hrun,om6,g6⟩:=om5.store (t:=91) (int_keyed underlying3) underlying91 (by unfold fJ;have:=HN.o;omega) (keyOf_int_mk underlying3 (pO (due:Int) (by omega) (by omega))) v5;have R:aZ (Xo Z w b ns cs L F c (ah ag ((v+1:Nat):Int)) w6):=(by refine⟨v+1,by rw[FR.o];omega,rfl,?_⟩;rw[TE.o];exact ko.trans N2.o (PU.o w3 w5 w6 _ (c,v,lv+gv) v5 (by omega) B3.o (by simpa[JG]using uL) Cu (by rw[EL.o];simpa using Dw) om6 g6));have k16:=KS.o w5 ((((Ch.refl _ w3).alloc _).grown Cu fun g hg=>.inl hg));clear uL zW Cu Dw om5 om6 g6;refine hK.out _ _ (fun _=>k16) (fun bU=>?_);have aW:=bU (by decide);clear hK bU;try simp only[bI]
       clear k16;refine bH.one (i:=28) (by kernel_rfl) rfl (fun K hK=>?_);go_simp;refine hK.out _ _ (fun h=>absurd rfl h) (fun _=>?_);clear hK;refine bH.done (by kernel_rfl) ?_ _;try simp only[bI]
       go_wp2_with fail;exact⟨by simpa using R.o,by simp[aK];omega⟩
     ·obtain rfl:f.aI.length=v:=by omega
      have R:aZ (Xn Z w b ns cs L f (ah ag ((c+1:Nat):Int)) wr):=⟨c+1,by omega,rfl,by rw[Gj.o];exact hP2⟩;go_wp2_with fail;exact⟨by simpa using R.o,by simp[aK];omega⟩
  ·have hce:c=2*cs.length:=by omega
   rw[hce,<-ET.o]at HP;have hx:¬(c:Int)<2*(cs.length:Int):=by omega
   have hx2:decide ((c:Int)<2*(cs.length:Int))=false:=decide_eq_false hx;clear hce QM hc;go_wp2_with fail;exact bodyPost_end (results_none rfl _ _ _) rfl ⟨rfl,HP.o⟩
end
section
open Go.RowKit Go.Maps
def Rk(ns:List Nd)(cs:List Cb)(f:dB)(x:Nat×Nat×Int):Prop:=x.1<2*cs.length/\x.2.1<f.aI.length/\0<=x.2.2/\x.2.2<=1000000000000000
section
variable{ns:List Nd}{cs:List Cb}{f:dB}{N:Nat}
theorem acM(h:dH ns cs f N)(hp:nW ns cs)(hN:N<=1000000000){lm:Nat->List (Nat×Nat×Int)}{c v:Nat}(hc:c<2*cs.length)(hv:v<f.aI.length)(hl:∀t x,x∈lm t->Rk ns cs f x):∀t x,x∈((dB.Gb ns cs {f with lim:=lm} c v).lim t)->Rk ns cs f x:=by
 intro t x hx;unfold dB.Gb at hx;simp only at hx;have EN:=hp.ends hc;have g1:=h.gv c v hc hv;have c1:=h.cv _ v EN.2.1 hv;have r1:=h.rv (f.aI.getD v 0) (by simp[bS,hv]);have b1:=h.box _ EN.2.1;have pl:=hp.qP EN.2.1 EN.2.2.2.1;have lb:0<=(dz (f.boxes.getD (bV cs c).2.2.1 default).gv (bV cs c).2.2.2 v).nP/\(dz (f.boxes.getD (bV cs c).2.2.1 default).gv (bV cs c).2.2.2 v).nP<=2000000000:=by have h1:=b1.1.g (bV cs c).2.2.2 v (by rw[b1.2.1];exact pl) (by rw[b1.2.2];exact hv);unfold Gv.nP;have:=h1.r0;have:=h1.r1;have:=h1.f0;have:=h1.f1;have:=h1.n1;omega
 split at hx
 ·rcases dU.1 hx with hx|hx
  ·exact hl t x hx
  ·rw[dh]at hx;subst hx;refine⟨hc,hv,?_,?_⟩
   ·show 0<=_+_;split<;>omega
   ·show _+_<=(1000000000000000:Int);split<;>omega
 ·exact hl t x hx
theorem acN(h:dH ns cs f N)(hp:nW ns cs)(hN:N<=1000000000){lm:Nat->List (Nat×Nat×Int)}{c v:Nat}(hc:c<2*cs.length)(hv:v<=f.aI.length)(hl:∀t x,x∈lm t->Rk ns cs f x):∀t x,x∈((xw ns cs {f with lim:=lm} c v).lim t)->Rk ns cs f x:=by
 induction v with
 |zero=>exact hl
 |succ v ih=>rw[DI,Jy];exact acM h hp hN hc (by omega) (ih (by omega))
theorem Zf(h:dH ns cs f N)(hp:nW ns cs)(hN:N<=1000000000){c:Nat}(hc:c<=2*cs.length):∀t x,x∈((sO ns cs f c).lim t)->Rk ns cs f x:=by
 induction c with
 |zero=>exact h.lim
 |succ c ih=>
  have ih:=ih (by omega);rw[Br];have e:=Bq ns cs f c;generalize sO ns cs f c=g at *;split
  ·rw[e];exact acN h hp hN (by omega) (aC _) ih
  ·exact ih
theorem zG(f:dB):f.tell ns cs={f with lim:=(f.tell ns cs).lim}:=Bq ns cs f (2*cs.length)
theorem aiE(h:dH ns cs f N)(hp:nW ns cs)(hN:N<=1000000000):dH ns cs (f.tell ns cs) (N+512):=by
 have k:=h.mono (show N<=N+512 by omega);have hl:∀t x,x∈(f.tell ns cs).lim t->Rk ns cs f x:=Zf h hp hN (aC _);have hn:∀t,((f.tell ns cs).lim t).length<=N+512:=fun t=>by have h1:=QB ns cs f (2*cs.length) t (by have:=h.rl;have:=h.k1;omega);have h2:=h.Ei t;have h3:=hp.Ll;show((sO ns cs f (2*cs.length)).lim t).length<=N+512;omega
 rw[zG];generalize(f.tell ns cs).lim=lm at *;exact{k0:=k.k0,k1:=k.k1,rl:=k.rl,rv:=k.rv,bl:=k.bl,box:=k.box,q:=fun i p c x a b d e=>by have q:=k.q i p c x a b d e;exact⟨q.c0,q.c1,q.e0,q.e1,q.t0,q.t1,q.d⟩,up:=k.up,r0:=k.r0,r1:=k.r1,bn:=k.bn,a0:=k.a0,a1:=k.a1,now:=k.now,last:=k.last,ll:=k.ll,cm:=k.cm,cv:=k.cv,gn:=k.gn,gv:=k.gv,fl:=fun t x hx=>by have q:=k.fl t x hx;exact⟨q.1,q.2.c0,q.2.c1,q.2.e0,q.2.e1,q.2.t0,q.2.t1,q.2.d⟩,lim:=hl,Ee:=k.Ee,Ei:=hn}
end
theorem NF.jy{Z:Own}{w:aG}{k:Nat}{v:aJ}{row:Nat->aJ}{n:Nat}{l:List (List Int)}(h:NF Z w k v row n l){i j g m c:Nat}(hi:i<n)(hl:l.length=n)(hj:j<(l.getD i []).length)(hm:(l.getD i []).length=m)(e:row i=ay (az ⟨g,0,aj⟩) m c)(x:Int):NF Z (w.setCell ⟨g,j,aj⟩ (ah ag x)) k v row n (jA l i j x)/\Z g=(2,k,i,0)/\g<w.heap.size:=by
 obtain⟨h1,h2⟩:=h;subst hm;obtain⟨g',c',e',_,_,lg,tg⟩:=(h2 i hi).at_ (i:=j) (by simpa using hj);rw[e]at e';injection e' with e1;injection e1 with e1;injection e1 with e1;subst e1;unfold PW at tg;have hc:Ch (fun k=>k=g) w (w.setCell ⟨g,j,aj⟩ (ah ag x)):=(Ch.refl (fun k=>k=g) w).setCell (p:=⟨g,j,aj⟩) (.inl rfl) _;refine⟨⟨h1.jM hc (fun _ _=>rfl) fun q s=>?_,fun q hq=>?_⟩,tg,lg⟩
 ·rw[s,tg];unfold never;simp
 ·by_cases hqi:q=i
  ·subst hqi;have u:=(h2 q hq).jy (i:=j) (by simpa using hj) e (ah ag x);unfold jA;rw[iK _ _ _ (by omega),jN,zh];exact u
  ·have u:=(h2 q hq).jM hc (dV:=Z) (fun _ _=>rfl) fun p s=>by
    rw[s,tg];unfold PW;simp;exact fun q'=>hqi q'.symm
   unfold jA;rw[iC _ _ _ hqi];exact u
section
variable{Z:Own}{w:aG}{b:Nat}{ns:List Nd}{cs:List Cb}{f:dB}{L:rY}
theorem gz.ahu(h:gz Z w b ns cs f L){i j g m c:Nat}(hi:i<ns.length)(hl:f.came.length=ns.length)(hj:j<(f.came.getD i []).length)(hm:(f.came.getD i []).length=m)(e:L.cm i=ay (az ⟨g,0,aj⟩) m c)(x:Int):ko Z w b ns cs L {f with came:=jA f.came i j x} (w.setCell ⟨g,j,aj⟩ (ah ag x)):=by obtain⟨k1,tg,lg⟩:=h.came.jy hi hl hj hm e x;have hc:Ch (fun k=>k=g) w (w.setCell ⟨g,j,aj⟩ (ah ag x)):=(Ch.refl (fun k=>k=g) w).setCell (p:=⟨g,j,aj⟩) (.inl rfl) _;have g':=h.Rf (fun k=>k=7) (dV:=Z) hc (fun _ _=>rfl) fun k s=>.inr (by rw[s,tg];exact⟨rfl,rfl⟩);exact⟨Z,⟨⟨g'.root (by decide),g'.iO.1⟩,g'.plan,g'.aI,g'.xP,g'.Kc,g'.bx,g'.up (by decide),g'.r0,g'.r1,⟨g'.bk (by decide),g'.IZ⟩,⟨g'.fl (by decide) (by decide),g'.ZM⟩,⟨g'.lim (by decide) (by decide),g'.Kw⟩,k1,g'.gone (by decide),g'.lost (by decide)⟩,⟨hc.mono fun k _ s=>by rw[s,tg];exact aC 2,fun _ _=>rfl⟩⟩
theorem gz.ahE(h:gz Z w b ns cs f L){i j g m c:Nat}(hi:i<2*cs.length)(hl:f.gone.length=2*cs.length)(hj:j<(f.gone.getD i []).length)(hm:(f.gone.getD i []).length=m)(e:L.gn i=ay (az ⟨g,0,aj⟩) m c)(x:Int):ko Z w b ns cs L {f with gone:=jA f.gone i j x} (w.setCell ⟨g,j,aj⟩ (ah ag x)):=by obtain⟨k1,tg,lg⟩:=h.gone.jy hi hl hj hm e x;have hc:Ch (fun k=>k=g) w (w.setCell ⟨g,j,aj⟩ (ah ag x)):=(Ch.refl (fun k=>k=g) w).setCell (p:=⟨g,j,aj⟩) (.inl rfl) _;have g':=h.Rf (fun k=>k=8) (dV:=Z) hc (fun _ _=>rfl) fun k s=>.inr (by rw[s,tg];exact⟨rfl,rfl⟩);exact⟨Z,⟨⟨g'.root (by decide),g'.iO.1⟩,g'.plan,g'.aI,g'.xP,g'.Kc,g'.bx,g'.up (by decide),g'.r0,g'.r1,⟨g'.bk (by decide),g'.IZ⟩,⟨g'.fl (by decide) (by decide),g'.ZM⟩,⟨g'.lim (by decide) (by decide),g'.Kw⟩,g'.came (by decide),k1,g'.lost (by decide)⟩,⟨hc.mono fun k _ s=>by rw[s,tg];exact aC 2,fun _ _=>rfl⟩⟩
end
def Vo(M:Lit->Option aJ)(k:Lit):Lit->Option aJ:=fun l=>if l.sameKey k then aj else M l
theorem jL.drop{w:aG}{P:Program}{k t e:dP}{b n:Nat}{M:Lit->Option aJ}(h:jL w P k b n M)(K:Keyed P k)(ht:P.underlying t=az (.map k e)){key:aJ}{kl:Lit}(hkey:keyOf P k key=az kl)(ty:dP):∃w',(DN #[t,k] ty #[.map (az b),key]).run P w=.ok (.tuple #[]) w'/\jL w' P k b n (Vo M kl)/\w.grownBy w' (az b):=by
 obtain⟨D,h,h2⟩:=h;obtain⟨w',hrun,h3,hg⟩:=h.drop K ht hkey ty;refine⟨w',hrun,⟨_,h3,fun l=>?_⟩,hg.grown⟩;unfold Vo;rcases vV (l=kl)with hl|hl
 ·subst hl;rw[if_pos (lH (K.key hkey))];exact⟨by rw[has_del_same];rfl,fun z=>by rw[atKey_del_same];rfl⟩
 ·rw[if_neg (by rw[pG (K.key hkey)];exact hl)];exact⟨by rw[has_del_other hl];exact(h2 l).1,fun z=>by rw[atKey_del_other hl];exact(h2 l).2 z⟩
theorem vH.del{α:Type}{w3:aG}{bm n now:Nat}{fl:Nat->List α}{P':Nat->aJ->List α->Prop}{M:Lit->Option aJ}(hn:n<=1000000000)(h3:∀l v,M l=az v->∃t:Nat,l=.int .i64 t/\t<=900000000)(h4:∀t,M (.int .i64 (t:Nat))=aj->fl t=[])(om:jL w3 aH 3 bm n (Vo M (.int .i64 now)))(h5:∀t v,t≠now->M (.int .i64 (t:Nat))=az v->P' t v (fl t)):vH w3 bm (fun t=>if t=now then[]else fl t) P':=by
 have kl:yO (.int .i64 (now:Int)):=trivial;have p1:Vo M (.int .i64 now) (.int .i64 now)=aj:=by unfold Vo;rw[if_pos (lH kl)]
 have p2:∀l,l≠.int .i64 (now:Nat)->Vo M (.int .i64 now) l=M l:=fun l e=>by unfold Vo;rw[if_neg (by rw[pG kl];exact e)]
 refine⟨n,_,om,hn,fun l v hv=>?_,fun t ht=>?_,fun t v hv=>?_⟩
 ·rcases vV (l=.int .i64 (now:Nat))with e|e
  ·rw[e,p1]at hv;cases hv
  ·rw[p2 l e]at hv;exact h3 l v hv
 ·by_cases e:t=now
  ·exact if_pos e
  ·rw[p2 _ (fun q=>e (Ky.1 q))]at ht;show(if t=now then[]else fl t)=[];rw[if_neg e];exact h4 t ht
 ·by_cases e:t=now
  ·subst e;rw[p1]at hv;cases hv
  ·rw[p2 _ (fun q=>e (Ky.1 q))]at hv;show P' t v (if t=now then[]else fl t);rw[if_neg e];exact h5 t v e hv
section
variable{Z:Own}{w:aG}{b:Nat}{ns:List Nd}{cs:List Cb}{f:dB}{L:rY}
theorem gz.YB(h:gz Z w b ns cs f L)(now:Nat)(hn:now<=900000000)(ty:dP):∃w',(DN #[91,3] ty #[.map (az L.ml),ah ag now]).run aH w=.ok (.tuple #[]) w'/\ko Z w b ns cs L {f with lim:=fun t=>if t=now then[]else f.lim t} w':=by
 obtain⟨⟨n,M,m1,m2,m3,m4,m5⟩,mT⟩:=h.lim;obtain⟨w',hrun,om,g3⟩:=m1.drop (int_keyed underlying3) underlying91 (keyOf_int_mk underlying3 (pO (now:Int) (by omega) (by omega))) ty;have hc:Ch (fun k=>k=L.ml) w w':=(Ch.refl (fun k=>k=L.ml) w).grown g3 fun g hg=>.inl (mg hg).symm;have g:=h.Rf (fun k=>k=5) (dV:=Z) hc (fun _ _=>rfl) fun k s=>.inr (by rw[s,mT];exact⟨rfl,rfl⟩);refine⟨w',hrun,Z,⟨⟨g.root (by decide),g.iO.1⟩,g.plan,g.aI,g.xP,g.Kc,g.bx,g.up (by decide),g.r0,g.r1,⟨g.bk (by decide),g.IZ⟩,⟨g.fl (by decide) (by decide),g.ZM⟩,⟨?_,mT⟩,g.came (by decide),g.gone (by decide),g.lost (by decide)⟩,⟨hc.mono fun k _ s=>?_,fun _ _=>rfl⟩⟩
 ·refine vH.del (M:=M) m2 m3 m4 om fun t v e hv=>?_;obtain⟨a1,a2⟩:=m5 t v hv;refine⟨fT a1 hc fun k hk s=>?_,fun k hk=>a2 k hk⟩;have q1:=a2 k hk;rw[s,mT]at q1;simp at q1
 ·rw[s,mT];decide
end
end
section
open Go.RowKit Go.Maps
attribute [local go_sem ↓] fM fK
theorem Uv.toS{Z:Own}{w:aG}{b q:Nat}{ns:List Nd}{vn vf:aJ}{r:Rt}(h:Uv Z w ns vn vf r){node port jl:Nat}(hn:node<ns.length)(hpo:port<fA (ns.getD node iZ))(ht:jl<ns.length)(c7:w.cell? ⟨b,7+q*2,aj⟩=az vn)(c8:w.cell? ⟨b,7+q*2+1,aj⟩=az vf):RtS w b q ns.length (fA (ns.getD node iZ)) node port jl r:=by
 obtain⟨V,⟨a0,cap,e,h0⟩,hV⟩:=h.nx;obtain⟨U,hu,hU⟩:=h.fl;have ln:((aN ns.length).flatMap fun i=>[V i 0,V i 1]).length=ns.length*2:=by
  induction ns.length with
  |zero=>rfl
  |succ n ih=>rw[dL,fU,bW,ih];simp;omega
 obtain⟨g,C,rfl,hb,_,hx⟩:=h0 (by omega);refine⟨⟨g,cap,V node,by rw[c7,e],fun p hp=>?_,fun p hp=>?_⟩,?_⟩
 ·rw[hb.cell,hx _ (by omega),yz (d:=0) (m:=2) (c:=fun i=>[V i 0,V i 1]) (fun _=>rfl) _ node p (by simpa using hn) hp];have e2:(aN ns.length).getD node 0=node:=by simp[bS,hn]
  rw[e2];rcases(show p=0\/p=1 by omega)with rfl|rfl<;>rfl
 ·obtain⟨g2,c2,e2,k2,_⟩:=(hV node hn p hp).at_ (i:=jl) (by simpa using ht);exact⟨g2,c2,e2,by rw[k2];simp[ht]⟩
 ·obtain⟨g,c,e1,k1,_⟩:=hu.at_ (i:=node) (by simpa using hn);obtain⟨g2,c2,e2,k2,_⟩:=(hU node hn).at_ (i:=port) (by simpa using hpo);exact⟨g,c,g2,c2,by rw[c8,e1],by rw[k1,<-e2];simp[hn],by rw[k2,cK,eu hpo];rfl⟩
section
variable{Z:Own}{w:aG}{b:Nat}{ns:List Nd}{cs:List Cb}{f:dB}{L:rY}{N:Nat}
theorem gz.rtS(h:gz Z w b ns cs f L){node port jl:Nat}{ep:Int}(hn:node<ns.length)(hpo:port<fA (ns.getD node iZ))(ht:jl<ns.length)(h0:0<=ep)(h1:ep<=f.dE):RtS w b (ep.toNat%2) ns.length (fA (ns.getD node iZ)) node port jl (f.rt ep):=by
 unfold dB.rt;by_cases hm:ep%2=0
 ·rw[if_pos hm,show ep.toNat%2=0 by omega];exact h.r0.toS hn hpo ht h.xu h.xu
 ·rw[if_neg hm,show ep.toNat%2=1 by omega];exact(h.r1 (by omega)).toS hn hpo ht h.xu h.xu
theorem gz.upS(h:gz Z w b ns cs f L)(hl:f.up.length=cs.length):∃gu cu,0<cs.length->w.cell? ⟨b,6,aj⟩=az (ay (az ⟨gu,0,aj⟩) cs.length cu)/\∀i,i<cs.length->w.cell? ⟨gu,i,aj⟩=az (.bool (f.up.getD i false)):=by
 by_cases h0:0<cs.length
 ·obtain⟨a,cap,e,hx⟩:=h.up;obtain⟨g,C,rfl,hb,_,hx⟩:=hx (by simp;omega);refine⟨g,cap,fun _=>⟨by rw[h.xu (i:=6)];show az L.vu=_;rw[e,hl],fun i hi=>?_⟩⟩;rw[hb.cell,hx i (by simp;omega)];simp[bS,hl,hi]
 ·exact⟨0,0,fun q=>absurd q h0⟩
theorem afk(h:dH ns cs f N){x:Fm}{node port c:Nat}(hn:node<ns.length)(hx:qR ns f x)(hl:f.leave ns cs node port x=az c):c<2*cs.length:=by
 have hr:AV ns cs (f.rt x.ep):=by
  unfold dB.rt;by_cases hm:x.ep%2=0
  ·rw[if_pos hm];exact h.r0
  ·rw[if_neg hm];exact h.r1 (by have:=hx.e0;have:=hx.e1;omega)
 have k:∀q,q<2->(f.rt x.ep).next node q x.jl.toNat<cs.length/\-2<=(f.rt x.ep).next node q x.jl.toNat:=fun q hq=>(hr node q x.jl.toNat hn hq (by have:=hx.t0;have:=hx.t1;omega)).1;unfold dB.leave at hl;simp only at hl;have k2:=k (if qE ns node&&(f.rt x.ep).rz node port then 1 else 0) (by split<;>omega);generalize(if qE ns node&&(f.rt x.ep).rz node port then 1 else 0)=ph at *;generalize(f.rt x.ep).next node ph x.jl.toNat=xP at *;by_cases h1:xP<0
 ·rw[if_pos h1]at hl;cases hl
 ·rw[if_neg h1]at hl;by_cases h2:f.up.getD xP.toNat false=true
  ·rw[if_pos h2]at hl;injection hl with hl;rw[<-hl];unfold iT;split<;>omega
  ·rw[if_neg h2]at hl;cases hl
def lY(ns:List Nd)(cs:List Cb)(f:dB)(node port:Nat)(x:Fm):Option Nat:=(f.leave ns cs node port x).map fun c=>(bV cs c).2.1
theorem Yj(node p c1 c2:Nat)(x:Fm)(v:aJ)(h:gz Z w b ns cs f L)(hp:nW ns cs)(qX:dH ns cs f N)(hn:node<ns.length)(hpo:p<fA (ns.getD node iZ))(hx:qR ns f x)(hv:∃a n c,v=ay a n c)(h1:w.cell? ⟨c1,0,aj⟩=az (pt b))(h2:w.cell? ⟨c2,0,aj⟩=az (ah ag node)):di aH 98 #[ah ag p,Nb x v,pt c1,pt c2] w fun e w'=>e=ax (ah ag (pX (lY ns cs f node p x)))/\aO w.heap.size w w':=by
 obtain⟨va,vn,vc,rfl⟩:=hv;obtain⟨An,Ac,cn,cc,hS⟩:=h.toS;obtain⟨gu,cu,hU⟩:=h.upS qX.up;have hr:AV ns cs (f.rt x.ep):=by
  unfold dB.rt;by_cases hm:x.ep%2=0
  ·rw[if_pos hm];exact qX.r0
  ·rw[if_neg hm];exact qX.r1 (by have:=hx.e0;have:=hx.e1;omega)
 have t1:x.jl.toNat<ns.length:=by have:=hx.t0;have:=hx.t1;omega
 have LT:∀c,f.leave ns cs node p x=az c->c<2*cs.length:=fun c hc=>afk qX hn hx hc;obtain⟨w1,gK⟩:∃w1:aG,w.alloc (af #[ah ag x.id,ah ag x.iN,ah ag x.jl,ah ag x.cls,ah ag x.ep,ay va vn vc] 59)=w1:=⟨_,rfl⟩;have BW:aZ (aO w.heap.size w w1):=by rw[<-gK];exact(aS _ _).alloc (aC _) _
 have FB:dG w1 w.heap.size 59 #[ah ag x.id,ah ag x.iN,ah ag x.jl,ah ag x.cls,ah ag x.ep,ay va vn vc]:=by rw[<-gK];exact dG.new w _ _
 have f0:=FB.cell 0;have f1:=FB.cell 1;have f2:=FB.cell 2;have f3:=FB.cell 3;have f4:=FB.cell 4;have f5:=FB.cell 5;simp only[List.getElem?_toArray,dO,fP]at f0 f1 f2 f3 f4 f5;have S1:=hS.below BW.o;have M1:=h.below BW.o;have k1:w1.cell? ⟨c1,0,aj⟩=az (pt b):=(BW.o.cell (p:=⟨c1,0,aj⟩) (aY _ _ h1)).trans h1;have k2:w1.cell? ⟨c2,0,aj⟩=az (ah ag node):=(BW.o.cell (p:=⟨c2,0,aj⟩) (aY _ _ h2)).trans h2;have LV:=aA (Yh f node p b x (ay va vn vc) ns cs An Ac cn cc gu cu w1 S1 hp hn hpo hx.e0 hx.t0 hx.t1 (M1.rtS hn hpo t1 hx.e0 hx.e1) (fun q hq=>(hr node q _ hn hq t1).1) qX.up
  (fun h0=>⟨(BW.o.cell (p:=⟨b,6,aj⟩) (aY _ _ (hU h0).1)).trans (hU h0).1,fun i hi=>(BW.o.cell (p:=⟨gu,i,aj⟩) (aY _ _ ((hU h0).2 i hi))).trans ((hU h0).2 i hi)⟩) ⟨va,vn,vc,rfl⟩)
 have K1:aZ (∀w2,aO w1.heap.size w1 w2->w2.cell? ⟨c1,0,aj⟩=az (au (az ⟨b,0,aj⟩))):=fun w2 hb=>(hb.cell (p:=⟨c1,0,aj⟩) (aY _ _ k1)).trans k1;have EN:aZ (∀c w2,c<2*cs.length->aO w1.heap.size w1 w2->di aH 53 #[au (az ⟨b,0,aj⟩),ah ag c] w2 (uD cs c w2)):=fun c w2 hc hb=>Ct c b ns cs An Ac cn cc w2 (S1.below hb) hp hc;have jm:aZ (∀w2,aO w1.heap.size w1 w2->aO w.heap.size w w2):=fun w2 hb=>BW.o.trans (hb.mono BW.o.size);clear S1 M1 hr t1 hU hS h hp qX h1 h2 FB hn hpo hx;obtain⟨xi,xf,xt,xc,xe,xd⟩:=x;unfold Nb pt at *;unfold lY;simp only at *;generalize f.leave ns cs node p ⟨xi,xf,xt,xc,xe,xd⟩=r at *;cases r with
 |none=>simp only[Option.map_none];have o1:pX aj=-1:=rfl;rw[o1]at LV|-;go_enter func98,ntmps98;go_wp2_with (first|(go_at_call 66;(with_reducible refine LV.o.mono ?_);rintro e w2 ⟨rfl,hb⟩;have HB:=aA hb;clear hb));go_ret;exact⟨rfl,jm.out _ HB.o⟩
 |some c=>
  simp only[Option.map_some];have o1:pX (az c)=c:=rfl;have o2:pX (az (bV cs c).2.1)=((bV cs c).2.1:Int):=rfl;rw[o1]at LV;rw[o2];have hc:=LT c rfl;have d1:decide ((c:Int)<0)=false:=decide_eq_false (by omega);clear LT;go_enter func98,ntmps98;go_wp2_with (first
   |(go_at_call 66;(with_reducible refine LV.o.mono ?_);rintro e w2 ⟨rfl,hb⟩;have HB:=aA hb;have kk:=K1.o _ hb;clear hb)
   |(go_at_call 53;refine(EN.o c w2 hc HB.o).mono ?_;rintro e w3 ⟨rfl,hb⟩;have HC:aZ (aO w1.heap.size w1 w3):=HB.o.trans (hb.mono HB.o.size);clear hb))
  go_ret;exact⟨rfl,jm.out _ HC.o⟩
end
end
section
open Go.RowKit Go.Maps
theorem qf{α:Type}{d:α}{m:Nat}{c:α->List aJ}(hc:∀x,(c x).length=m){w:aG}{base:Nat}{e:dP}{n:Nat}{v:aJ}{D:List α}(h:w.ownsRow base e m v n (D.flatMap c))(hn:D.length=n){i:Nat}(hi:i<n):∃g cap,v=ay (az ⟨g,0,aj⟩) n cap/\base<=g/\g<w.heap.size/\v.ownBlock=az g/\∀i,i<n->∀j,j<m->w.cell? ⟨g,i*m+j,aj⟩=(c (D.getD i d))[j]?:=by
 obtain⟨h1,⟨rfl,h2⟩|⟨g,cap,cur,rfl,hb,hg,_,_,_,ht⟩⟩:=h
 ·omega
 ·have hB:dG w g e cur:=hg;refine⟨g,cap,rfl,hb,hB.lt,rfl,fun i hi j hj=>?_⟩;have lt:i*m+j<n*m:=by
   have:(i+1)*m<=n*m:=tJ m (by omega);rw[JS]at this;omega
  rw[hB.cell,<-pQ,<-yz (d:=d) (m:=m) (c:=c) hc D i j (by omega) hj,<-ht,mq,if_pos lt]
theorem qA.cell{Z dV:Own}{w w':aG}(h:qA Z w dV w'){p:fE}(hl:p.block<w.heap.size)(ht:(Z p.block).1<2):w'.cell? p=w.cell? p:=h.ch.cell hl (by omega)
section
variable(ns:List Nd)(cs:List Cb)
def nL(f:dB)(n:Nat):dB:=(aN n).foldl (dB.kE ns cs) f
theorem Lc(f:dB)(n:Nat):nL ns cs f (n+1)=(nL ns cs f n).kE ns cs n:=by unfold nL;rw[dL,fV];rfl
end
def mv0:Mv:=(0,0,aj,default)
def uR(cs:List Cb)(u:Nat)(F0:dB)(ms:List Mv)(k:Nat):dB:=(ms.take k).foldl (dB.lU cs u) F0
theorem Uf(cs:List Cb)(u:Nat)(F0:dB)(ms:List Mv){k:Nat}(hk:k<ms.length):uR cs u F0 ms (k+1)=(uR cs u F0 ms k).lU cs u (ms.getD k mv0):=by unfold uR;rw[jU mv0 ms k hk,fV];rfl
theorem VW(cs:List Cb)(u:Nat)(F0:dB)(ms:List Mv):uR cs u F0 ms ms.length=ms.foldl (dB.lU cs u) F0:=by unfold uR;rw[fB]
theorem Tr.outs{bz:Nat->Fm->Option Nat}{b b1:Bx}{ms:List Mv}(h:Tr bz b ms b1):∀m∈ms,∀k,m.2.2.1=az k->k<b.bE/\bz m.1 m.2.2.2=az k:=by
 induction h with
 |nil b=>exact fun m hm=>by cases hm
 |cons mi _ ih=>
  intro m hm k e;have d:=mi.LY;rcases dM.1 hm with q|q
  ·subst q;cases mi with
   |drop p c f l h1 h2 h3 h4=>cases e
   |move i c k' f l pt h1 h2 h3 h4 h5 h6 h7 h8=>injection e with e;subst e;exact⟨h3,h5⟩
  ·have:=ih m q k e;rw[d.1]at this;exact this
 |iY x hx _ ih=>exact fun m hm k e=>ih m hm k e
theorem Rz{cs:List Cb}{u k i:Nat}(h:jH cs u k=az i):Ev cs u k=(i:Int):=by unfold Ev;rw[h];rfl
theorem Bp{ns:List Nd}{cs:List Cb}{f:dB}{N u p k:Nat}{x:Fm}(hp:nW ns cs)(h:dH ns cs f N)(hu:u<ns.length)(hx:qR ns f x)(hr:lY ns cs f u p x=az k):∃i,jH cs u k=az i/\i<cs.length/\((cs.getD i gV).a=(u:Int)\/(cs.getD i gV).b=(u:Int))/\k<fA (ns.getD u iZ):=by
 unfold lY at hr;cases hl:f.leave ns cs u p x with
 |none=>rw[hl]at hr;cases hr
 |some c=>
  rw[hl]at hr;injection hr with hr;have hr:(bV cs c).2.1=k:=hr;have hrt:AV ns cs (f.rt x.ep):=by
   unfold dB.rt;by_cases hm:x.ep%2=0
   ·rw[if_pos hm];exact h.r0
   ·rw[if_neg hm];exact h.r1 (by have:=hx.e0;have:=hx.e1;omega)
  have key:∀q,q<2->_:=fun q hq=>hrt u q x.jl.toNat hu hq (by have:=hx.t0;have:=hx.t1;omega);unfold dB.leave at hl;simp only at hl;have k2:=key (if qE ns u&&(f.rt x.ep).rz u p then 1 else 0) (by split<;>omega);generalize(if qE ns u&&(f.rt x.ep).rz u p then 1 else 0)=ph at *;generalize(f.rt x.ep).next u ph x.jl.toNat=xP at *;by_cases h1:xP<0
  ·rw[if_pos h1]at hl;cases hl
  ·rw[if_neg h1]at hl;by_cases h2:f.up.getD xP.toNat false=true
   ·rw[if_pos h2]at hl;injection hl with hl;have hi:xP.toNat<cs.length:=(by have:=k2.1.1;omega);have ht:=k2.2 (by omega);obtain⟨c1,c2,c3⟩:=hp.chan hi ht;rw[hl]at c1 c2 c3;obtain⟨d1,d2⟩:=hp.yu c1;rw[c3,c2,hr]at d1;have EN:=hp.ends c1;have pl:=hp.qP EN.1 EN.2.2.1;rw[c3,hr]at pl;exact⟨xP.toNat,d1,hi,ht,pl⟩
   ·rw[if_neg h2]at hl;cases hl
structure ZB(Z:Own)(w:aG)(ms:List Mv)(aM aF:Option fE):Prop where
 mv:∀k,k<ms.length->∃g,aM=az ⟨g,0,aj⟩/\(Z g).1<2/\g<w.heap.size/\∀j,j<3->w.cell? ⟨g,k*3+j,aj⟩=(cM (ms.getD k mv0))[j]?
 fr:∀k,k<ms.length->∃g v,aF=az ⟨g,0,aj⟩/\(Z g).1<2/\g<w.heap.size/\iX Z w (ms.getD k mv0).2.2.2.data v/\∀j,j<6->w.cell? ⟨g,k*6+j,aj⟩=(Dm ((ms.getD k mv0).2.2.2,v))[j]?
theorem ZB.fnx{Z dV:Own}{w w':aG}{ms:List Mv}{aM aF:Option fE}(h:ZB Z w ms aM aF)(n:qA Z w dV w'):ZB dV w' ms aM aF where
 mv:=fun k hk=>by obtain⟨g,e,t,l,c⟩:=h.mv k hk;exact⟨g,e,by rw[n.ext _ l];exact t,bY l n.ch.size,fun j hj=>(n.cell (p:=⟨g,k*3+j,aj⟩) l t).trans (c j hj)⟩
 fr:=fun k hk=>by obtain⟨g,v,e,t,l,d,c⟩:=h.fr k hk;exact⟨g,v,e,by rw[n.ext _ l];exact t,bY l n.ch.size,d.jM n.ch n.ext (fun k s=>by omega),fun j hj=>(n.cell (p:=⟨g,k*6+j,aj⟩) l t).trans (c j hj)⟩
section
variable(ns:List Nd)(cs:List Cb)
def msF(F:dB)(u:Nat):List Mv:=((F.boxes.getD u default).step (lY ns cs F u)).2
def ale(F:dB)(u:Nat):dB:={F with boxes:=F.boxes.set u ((F.boxes.getD u default).step (lY ns cs F u)).1}
theorem afX(F:dB)(u:Nat):F.kE ns cs u=uR cs u (ale ns cs F u) (msF ns cs F u) (msF ns cs F u).length:=by rw[VW];rfl
end
def aaK(Z:Own)(w:aG)(b:Nat)(ns:List Nd)(cs:List Cb)(F:dB)(u:Nat)(L:rY)(e:iL)(w':aG):Prop:=
 ∃aM kM aF kF,e=ax (.tuple #[ay aM (msF ns cs F u).length kM,ay aF (msF ns cs F u).length kF])/\∃dV L',gz dV w' b ns cs (ale ns cs F u) L'/\qA Z w dV w'/\Li L L'/\ZB dV w' (msF ns cs F u) aM aF
theorem alH{b u N bF bN:Nat}{ns:List Nd}{cs:List Cb}{F:dB}{L:rY}{Z:Own}{w:aG}(m:gz Z w b ns cs F L)(hp:nW ns cs)(ok:dH ns cs F N)(hN:N<=999999999000)(hu:u<ns.length)(kF:w.cell? ⟨bF,0,aj⟩=az (pt b))(kN:w.cell? ⟨bN,0,aj⟩=az (ah ag u)):di aH 99 #[pt (L.bx u),.func (.func 98) #[] #[pt bF,pt bN]] w (aaK Z w b ns cs F u L):=by
 have B:=ok.box u hu;have S:=aaV N (lY ns cs F u) bF bN Z (3+u) w (L.bx u) (F.boxes.getD u default) (L.Ik u) (m.bx u hu) (by omega) B.1 hN
  (fun p x v w' hb hpX hq hv=>by
   obtain⟨c,hc,hx⟩:=hq;have hpo:p<fA (ns.getD u iZ):=(by rw[YN,<-B.2.1];exact hpX);have hcc:c<F.aI.length:=(by rw[<-B.2.2];exact hc);exact Yj u p bF bN x v (m.below hb) hp ok hu hpo (ok.q u p c x hu hpo hcc hx) hv
    ((hb.cell (p:=⟨bF,0,aj⟩) (aY _ _ kF)).trans kF) ((hb.cell (p:=⟨bN,0,aj⟩) (aY _ _ kN)).trans kN))
 refine S.mono ?_;rintro e w3 ⟨vM,vF,Q,dV,LX,rfl,Jc,hnx,oM,oF,hq,hd,tM,tF⟩;obtain⟨aM,kM,eM⟩:=dX oM;have lq:Q.length=(msF ns cs F u).length:=by have:=congrArg oV hq;simpa[msF]using this
 rw[lq]at oF;obtain⟨aF,kF',eF⟩:=dX oF;refine⟨aM,kM,aF,kF',by rw[eM,eF];rfl,dV,_,m.box hu (by rw[ok.bl]) hnx Jc,qA.KE hnx (by omega),⟨rfl⟩,⟨fun k hk=>?_,fun k hk=>?_⟩⟩
 ·obtain⟨g,cap,e1,hb,hl,ho,hc⟩:=qf (d:=mv0) LJ oM rfl hk;refine⟨g,?_,by rw[tM g ho];omega,hl,fun j hj=>hc k hk j hj⟩;rw[eM]at e1;injection e1
 ·obtain⟨g,cap,e1,hb,hl,ho,hc⟩:=qf (d:=((default:Fm),ay aj 0 0)) (c:=Dm) (m:=6) (fun _=>rfl) oF lq hk;have hk':k<Q.length:=by rw[lq];exact hk
  have eq1:(Q.getD k ((default:Fm),ay aj 0 0)).1=((msF ns cs F u).getD k mv0).2.2.2:=by have h1:(Q.map (·.1))[k]?=((msF ns cs F u).map (·.2.2.2))[k]?:=(by rw[hq];rfl);rw[cK,cK,cZ hk',cZ hk]at h1;simpa[bS,hk,hk']using h1
  have hm:Q.getD k ((default:Fm),ay aj 0 0)∈Q:=by simp[bS,hk']
  have hd1:=hd _ hm;refine⟨g,(Q.getD k ((default:Fm),ay aj 0 0)).2,?_,by rw[tF g ho];omega,hl,by rw[<-eq1];exact hd1,fun j hj=>?_⟩
  ·rw[eF]at e1;injection e1
  ·rw[<-eq1];exact hc k hk j hj
end
section
def Dv(x:Nat×Fm):Int:=x.1
theorem MX(n:Nat)(l:List (Nat×Fm)):mG (n+1) l=mG n l++l.filter (fun x=>x.1==n):=by unfold mG;rw[dL,fU];simp
theorem mU{n:Nat}{l:List (Nat×Fm)}{x:Nat×Fm}(h:x∈mG n l):x∈l/\x.1<n:=by
 unfold mG at h;obtain⟨c,hc,h⟩:=List.mem_flatMap.1 h;rw[iR]at h;have e:x.1=c:=by simpa using h.2
 exact⟨h.1,by rw[e];exact dK.1 hc⟩
theorem XN(n:Nat)(l:List (Nat×Fm)):rJ Dv (mG n l):=by
 induction n with
 |zero=>exact sQ
 |succ n ih=>
  rw[MX];have key:∀x∈l.filter (fun x=>x.1==n),Dv x=(n:Int):=fun x hx=>by
   rw[iR]at hx;have e:x.1=n:=by simpa using hx.2
   unfold Dv;rw[e]
  refine rJ.app.2 ⟨ih,?_,fun x hx y hy=>?_⟩
  ·unfold rJ;exact List.Pairwise.imp_of_mem (R:=fun _ _=>True) (fun{a b} ha hb _=>by rw[key a ha,key b hb];exact Int.le_refl _) (List.pairwise_of_forall (fun _ _=>trivial))
  ·rw[key y hy];have:=(mU hx).2;unfold Dv;omega
theorem BN(n:Nat)(l:List (Nat×Fm))(k:Int):(mG n l).filter (fun x=>Dv x==k)=l.filter (fun x=>Dv x==k&&decide (x.1<n)):=by
 induction n with
 |zero=>
  have:l.filter (fun x=>Dv x==k&&decide (x.1<0))=[]:=by rw[mP];intro x _;simp
  rw[this];rfl
 |succ n ih=>
  rw[MX,ji,ih];by_cases e:k=(n:Int)
  ·subst e;have h1:l.filter (fun x=>Dv x==(n:Int)&&decide (x.1<n))=[]:=by
    rw[mP];intro x _;unfold Dv;simp only[dD,beq_iff_eq,decide_eq_true_eq];omega
   rw[h1,List.nil_append,List.filter_filter];apply qh;intro x _;unfold Dv;rw[kH];simp only[dD,beq_iff_eq,decide_eq_true_eq];omega
  ·have h1:(l.filter (fun x=>x.1==n)).filter (fun x=>Dv x==k)=[]:=by
    rw[mP];intro x hx;rw[iR]at hx;have q:x.1=n:=by simpa using hx.2
    unfold Dv;simp only[beq_iff_eq];omega
   rw[h1,jr];apply qh;intro x _;unfold Dv;rw[kH];simp only[dD,beq_iff_eq,decide_eq_true_eq];omega
theorem aaY{n:Nat}{S l:List (Nat×Fm)}(hl:∀x∈l,x.1<n)(hs:rJ Dv S)(hb:vT Dv l S):S=mG n l:=by
 have e:vT Dv l (mG n l):=fun k=>by rw[BN];exact qh fun x hx=>by simp[hl x hx]
 exact vT.uniq hs (XN n l) (hb.symm.trans e)
section
variable(ns:List Nd)(cs:List Cb)
def zT(f0:dB)(l:List (Nat×Fm))(k:Nat):dB×List Dl:=(l.take k).foldl (dB.fO ns cs) (f0,[])
theorem XB(f0:dB)(l:List (Nat×Fm)){k:Nat}(hk:k<l.length):zT ns cs f0 l (k+1)=dB.fO ns cs (zT ns cs f0 l k) (l.getD k (0,default)):=by unfold zT;rw[jU (0,default) l k hk,fV];rfl
theorem XD(f:dB):f.jf ns cs=zT ns cs {f with fl:=fun t=>if t=f.now then[]else f.fl t} (mG (2*cs.length) (f.fl f.now)) (mG (2*cs.length) (f.fl f.now)).length:=by unfold zT;rw[fB];rfl
end
theorem dH.Es{ns:List Nd}{cs:List Cb}(hp:nW ns cs):∀(l:List (Nat×Fm)) {s:dB×List Dl} {N:Nat},dH ns cs s.1 N->(∀x∈l,x.1<2*cs.length/\qR ns s.1 x.2)->dH ns cs (l.foldl (dB.fO ns cs) s).1 (N+2*l.length)/\(l.foldl (dB.fO ns cs) s).1.aI=s.1.aI/\(l.foldl (dB.fO ns cs) s).1.dE=s.1.dE/\(l.foldl (dB.fO ns cs) s).1.now=s.1.now
 |[],_,_,h,_=>⟨by simpa using h,rfl,rfl,rfl⟩
 |x::l,(f,D),N,h,hl=>by have k:=dH.fO h hp (hl x (bZ ..)).1 (hl x (bZ ..)).2 D;have r:=dH.Es hp l k.1 fun y hy=>⟨(hl y (dx _ hy)).1,(hl y (dx _ hy)).2.qY k.2.1 (by rw[k.2.2.1];exact aC _)⟩;rw[dS];exact⟨r.1.mono (by rw[fw];omega),r.2.1.trans k.2.1,r.2.2.1.trans k.2.2.1,r.2.2.2.trans k.2.2.2⟩
theorem XC(ns:List Nd)(cs:List Cb)(s:dB×List Dl)(x:Nat×Fm):(dB.fO ns cs s x).1.fl=s.1.fl/\(dB.fO ns cs s x).1.now=s.1.now:=by
 unfold dB.fO;dsimp only;split
 ·dsimp only;split
  ·exact⟨rfl,rfl⟩
  ·exact ZU _ _
 ·obtain⟨_,_,_,_,_,_,_,_,h9,_,h11,_⟩:=KJ {s.1 with came:=jA s.1.came (bV cs x.1).2.2.1 x.2.cls.toNat (dz s.1.came (bV cs x.1).2.2.1 x.2.cls.toNat+1)} x.2.ep;exact⟨h11,h9⟩
theorem ZC(ns:List Nd)(cs:List Cb):∀(l:List (Nat×Fm)) (s:dB×List Dl),(l.foldl (dB.fO ns cs) s).1.fl=s.1.fl/\(l.foldl (dB.fO ns cs) s).1.now=s.1.now
 |[],s=>⟨rfl,rfl⟩
 |x::l,s=>by rw[dS];have h1:=ZC ns cs l (dB.fO ns cs s x);have h2:=XC ns cs s x;exact⟨h1.1.trans h2.1,h1.2.trans h2.2⟩
def dB.uG(f:dB)(nr:Rt):dB:=if(f.dE+1)%2=0 then{f with mW:=false,dE:=f.dE+1,CR:=nr}else{f with mW:=false,dE:=f.dE+1,JH:=nr}
def dB.xI(f:dB):dB:={f with now:=f.now+1}
def dB.jk(f:dB)(nr:Rt):dB:=if f.xI.mW&&f.xI.mJ then f.xI.uG nr else f.xI
def dB.iM(cs:List Cb)(f:dB):dB:=(f.lim f.now).foldl (dB.jh cs) f
def dB.uA(f:dB):dB:={f with lim:=fun t=>if t=f.now then[]else f.lim t}
theorem Bt(ns:List Nd)(cs:List Cb)(f:dB)(nr:Rt):f.tick ns cs nr=((nL ns cs (((f.jk nr).iM cs).uA.jf ns cs).1 ns.length).tell ns cs,(((f.jk nr).iM cs).uA.jf ns cs).2):=rfl
section
variable{ns:List Nd}{cs:List Cb}{f:dB}{N:Nat}{nr:Rt}
theorem dH.Eb(h:dH ns cs f N)(hb:f.dE+1<=f.now)(hr:AV ns cs nr):dH ns cs (f.uG nr) N:=by
 have k:=h;unfold dB.uG;split
 ·exact{
   k0:=k.k0,k1:=k.k1,rl:=k.rl,rv:=k.rv,bl:=k.bl,box:=k.box,q:=fun i p c x hi xh qx hx=>(k.q i p c x hi xh qx hx).qY rfl (vG _),up:=k.up,r0:=hr,r1:=fun _=>by rename_i e;exact k.r1 (by omega),bn:=hb,a0:=k.a0,a1:=k.a1,now:=k.now,last:=k.last,ll:=k.ll,cm:=k.cm,cv:=k.cv,gn:=k.gn,gv:=k.gv,fl:=fun t x hx=>⟨(k.fl t x hx).1,(k.fl t x hx).2.qY rfl (vG _)⟩,lim:=k.lim,Ee:=k.Ee,Ei:=k.Ei}
 ·exact{
   k0:=k.k0,k1:=k.k1,rl:=k.rl,rv:=k.rv,bl:=k.bl,box:=k.box,q:=fun i p c x hi xh qx hx=>(k.q i p c x hi xh qx hx).qY rfl (vG _),up:=k.up,r0:=k.r0,r1:=fun _=>hr,bn:=hb,a0:=k.a0,a1:=k.a1,now:=k.now,last:=k.last,ll:=k.ll,cm:=k.cm,cv:=k.cv,gn:=k.gn,gv:=k.gv,fl:=fun t x hx=>⟨(k.fl t x hx).1,(k.fl t x hx).2.qY rfl (vG _)⟩,lim:=k.lim,Ee:=k.Ee,Ei:=k.Ei}
theorem dH.beg(h:dH ns cs f N)(hr:AV ns cs nr):dH ns cs (f.jk nr) (N+1):=by
 unfold dB.jk;have h1:dH ns cs f.xI (N+1):=h.YJ;split
 ·exact h1.Eb (by show f.dE+1<=f.now+1;have:=h.bn;omega) hr
 ·exact h1
theorem aej(f:dB)(nr:Rt):(f.uG nr).fl=f.fl/\(f.uG nr).now=f.now/\(f.uG nr).lim=f.lim/\(f.uG nr).aI=f.aI/\(f.uG nr).boxes=f.boxes/\(f.uG nr).up=f.up:=by unfold dB.uG;split<;>exact⟨rfl,rfl,rfl,rfl,rfl,rfl⟩
theorem OO(f:dB)(nr:Rt):(f.jk nr).fl=f.fl/\(f.jk nr).now=f.now+1/\(f.jk nr).lim=f.lim/\(f.jk nr).aI=f.aI/\(f.jk nr).boxes=f.boxes/\(f.jk nr).up=f.up:=by
 unfold dB.jk;split
 ·exact aej f.xI nr
 ·exact⟨rfl,rfl,rfl,rfl,rfl,rfl⟩
theorem Sr(cs:List Cb):∀(l:List (Nat×Nat×Int)) (f:dB),(l.foldl (dB.jh cs) f).fl=f.fl/\(l.foldl (dB.jh cs) f).lim=f.lim
 |[],f=>⟨rfl,rfl⟩
 |x::l,f=>by rw[dS];exact Sr cs l (dB.jh cs f x)
theorem dH.iM(h:dH ns cs f N)(hp:nW ns cs):dH ns cs (f.iM cs) N/\(f.iM cs).aI=f.aI/\(f.iM cs).dE=f.dE/\(f.iM cs).now=f.now:=
 dH.wJ hp _ h fun x hx=>⟨(h.lim _ x hx).1,(h.lim _ x hx).2.1⟩
theorem dH.mid(h:dH ns cs f N)(hp:nW ns cs)(hr:AV ns cs nr):dH ns cs ((f.jk nr).iM cs).uA (N+1)/\((f.jk nr).iM cs).uA.now=f.now+1/\((f.jk nr).iM cs).uA.fl=f.fl:=by have h1:=(h.beg hr).iM hp;have h2:=h1.1.YB ((f.jk nr).iM cs).now;refine⟨h2,h1.2.2.2.trans (OO f nr).2.1,?_⟩;show((f.jk nr).iM cs).fl=f.fl;unfold dB.iM;rw[(Sr cs _ _).1,(OO f nr).1]
theorem yJ.mid(h:yJ cs f)(hp:nW ns cs){g:dB}(e1:g.fl=f.fl)(e2:g.now=f.now+1):IG cs (fun _=>True) g:=by
 refine⟨by rw[e1];exact h.nd,fun t x hx=>?_,fun t x hx _=>?_⟩
 ·rw[e1]at hx;have:=h.due t x hx;rw[e2];omega
 ·rw[e1]at hx;have:=h.due t x hx;rw[e2];omega
theorem dH.jf(h:dH ns cs f N)(hp:nW ns cs)(hnd:((f.fl f.now).map (·.1)).Nodup):dH ns cs (f.jf ns cs).1 (N+128)/\(f.jf ns cs).1.aI=f.aI/\(f.jf ns cs).1.dE=f.dE/\(f.jf ns cs).1.now=f.now:=by
 have hl:∀x∈mG (2*cs.length) (f.fl f.now),x.1<2*cs.length/\qR ns f x.2:=fun x hx=>⟨(mU hx).2,(h.fl _ x (mU hx).1).2⟩;have r:=dH.Es hp (mG (2*cs.length) (f.fl f.now)) (s:=({f with fl:=fun t=>if t=f.now then[]else f.fl t},[])) (h.Pp f.now) fun x hx=>⟨(hl x hx).1,(hl x hx).2.qY rfl (aC _)⟩;have len:(mG (2*cs.length) (f.fl f.now)).length<=64:=by
  have e1:vT Dv (f.fl f.now) (mG (2*cs.length) (f.fl f.now)):=fun k=>by rw[BN];exact qh fun x hx=>by simp[(h.fl _ x hx).1]
  rw[e1.length];have:=Dy (S:=aN (2*cs.length)) hnd fun x hx=>by obtain⟨y,hy,rfl⟩:=iU.1 hx;exact dK.2 (h.fl _ y hy).1
  have:=hp.Ll;simp only[dW,mQ]at *;omega
 exact⟨r.1.mono (by omega),r.2⟩
theorem IG.jf(h:IG cs (fun _=>True) f):IG cs (fun _=>True) (f.jf ns cs).1:=by
 have e:=ZC ns cs (mG (2*cs.length) (f.fl f.now)) ({f with fl:=fun t=>if t=f.now then[]else f.fl t},[]);have h2:IG cs (fun _=>True) ({f with fl:=fun t=>if t=f.now then[]else f.fl t}:dB):=by
  refine⟨fun t=>?_,fun t x hx=>?_,fun t x hx q=>?_⟩
  ·show((if t=f.now then[]else f.fl t).map (·.1)).Nodup;split
   ·exact List.nodup_nil
   ·exact h.nd t
  ·have hx:x∈(if t=f.now then[]else f.fl t):=hx;split at hx
   ·cases hx
   ·exact h.due t x hx
  ·have hx:x∈(if t=f.now then[]else f.fl t):=hx;split at hx
   ·cases hx
   ·exact h.lt t x hx q
 exact h2.same e.1 e.2
theorem IG.nL(hp:nW ns cs)(h:IG cs (fun _=>True) f)(qX:dH ns cs f N):∀n,n<=ns.length->IG cs (fun c=>n<=(bV cs c).1) (nL ns cs f n)
 |0,_=>h.mono fun _ _=>trivial
 |n+1,hn=>by
  rw[Lc];have os:=dH.steps hp (aN n) qX fun x hx=>by have:=dK.1 hx;omega
  exact IG.kE hp os.1 (by omega) (IG.nL hp h qX n (by omega))
theorem SF(h:dH ns cs f N)(hf:yJ cs f)(hp:nW ns cs)(hr:AV ns cs nr)(hN:N<=700000000):dH ns cs (f.tick ns cs nr).1 (N+1000+ns.length*5000)/\yJ cs (f.tick ns cs nr).1:=by rw[Bt];obtain⟨m1,m2,m3⟩:=h.mid hp hr;have f1:=hf.mid hp m3 m2;have a1:=m1.jf hp (by rw[m3];exact hf.nd _);have f2:=f1.jf (ns:=ns);have s1:=dH.steps hp (aN ns.length) a1.1 fun x hx=>dK.1 hx;rw[mQ]at s1;have f3:=IG.nL hp f2 a1.1 ns.length (aC _);have n16:=hp.n16;have t1:=aiE s1.1 hp (by omega);refine⟨t1.mono (by omega),?_⟩;have e:=zG (ns:=ns) (cs:=cs) (nL ns cs (((f.jk nr).iM cs).uA.jf ns cs).1 ns.length);rw[e];exact f3.azx.same rfl rfl
end
end
section
open Go.RowKit Go.Maps
attribute [local go_sem ↓] fM fK
section
variable{f:dB}{b:Nat}{ns:List Nd}{cs:List Cb}{L:rY}{Z:Own}{w:aG}
theorem Yc(h:gz Z w b ns cs f L):di aH 22 #[pt b] w fun e w'=>e=ax (ah ag f.dE)/\w=w':=by have NOW:=aA (Oj L.bk f.dE f.wQ f.vJ w h.bk.1);have c11:w.cell? ⟨b,11,aj⟩=az (au (az ⟨L.bk,0,aj⟩)):=h.xu;clear h;unfold pt;go_enter func22,ntmps22;go_wp2_with (first|(go_at_call 47;refine NOW.o.mono ?_;rintro e w' ⟨rfl,rfl⟩));go_ret;exact⟨rfl,rfl⟩
def dB.Oh(f:dB):Int:=if 0<f.dE then f.alive f.dE+f.alive ((f.dE:Int)-1)else f.alive f.dE
theorem Vw(h:gz Z w b ns cs f L)(hs:aec f):di aH 18 #[pt b] w fun e w'=>e=ax (ah ag f.Oh)/\w=w':=by
 have A0:=hs.a0;have A1:=hs.a1;have n1:=hs.n1;have NOW:=aA (Oj L.bk f.dE f.wQ f.vJ w h.bk.1);have AL:=aA (xC L.bk f.dE f.wQ f.vJ f.dE w h.bk.1 (by omega) (by omega));have AM:=aA (xC L.bk f.dE f.wQ f.vJ ((f.dE:Int)-1) w h.bk.1 (by omega) (by omega));have c11:w.cell? ⟨b,11,aj⟩=az (au (az ⟨L.bk,0,aj⟩)):=h.xu;have bd:∀e,0<=f.alive e/\f.alive e<=1000000000:=fun e=>by
  unfold dB.alive;split
  ·omega
  ·split<;>omega
 have b1:=bd f.dE;have b2:=bd ((f.dE:Int)-1);rw[<-Cr]at AL AM;unfold dB.Oh;generalize f.alive f.dE=x at *;generalize f.alive ((f.dE:Int)-1)=y at *;have q1:IntKind.i64.wrap (x+y)=x+y:=fH _ (by omega);have q2:IntKind.i64.wrap ((f.dE:Int)-1)=(f.dE:Int)-1:=fH _ (by omega);clear h hs bd A0 A1;unfold pt;by_cases h0:0<f.dE
 ·rw[if_pos h0];have h0':decide (0<(f.dE:Int))=true:=decide_eq_true (by omega);go_enter func18,ntmps18;go_wp2_with (first
   |(go_at_call 47;refine NOW.o.mono ?_;rintro e w' ⟨rfl,rfl⟩)
   |(go_at_call 61;(with_reducible refine AL.o.mono ?_);rintro e w' ⟨rfl,rfl⟩)
   |(go_at_call 61;(with_reducible refine AM.o.mono ?_);rintro e w' ⟨rfl,rfl⟩))
  go_ret;exact⟨rfl,rfl⟩
 ·rw[if_neg h0];have h0':decide (0<(f.dE:Int))=false:=decide_eq_false (by omega);go_enter func18,ntmps18;go_wp2_with (first
   |(go_at_call 47;refine NOW.o.mono ?_;rintro e w' ⟨rfl,rfl⟩)
   |(go_at_call 61;(with_reducible refine AL.o.mono ?_);rintro e w' ⟨rfl,rfl⟩))
  go_ret;exact⟨rfl,rfl⟩
def dB.tZ(f:dB)(i:Int):dB×Int:=if i<0\/(f.up.length:Int)<=i then(f,2)else if f.up.getD i.toNat false then(f,0)else({f with up:=f.up.set i.toNat true,mW:=true},0)
theorem gz.ajQ(h:gz Z w b ns cs f L){i gu c:Nat}(hi:i<f.up.length)(u:Bool)(e:L.vu=ay (az ⟨gu,0,aj⟩) f.up.length c)(w1:aG)(hw:w1=w.setCell ⟨gu,i,aj⟩ (.bool u)):w1.frozen? ⟨b,12,aj⟩=false/\w1.cell? ⟨b,12,aj⟩=az (.bool f.mW)/\ko Z w b ns cs L {f with up:=f.up.set i u,mW:=true} (w1.setCell ⟨b,12,aj⟩ (.bool true)):=by
 obtain⟨g,c',e',_,_,_,tg⟩:=h.up.at_ (i:=i) (by simpa using hi);rw[e]at e';injection e' with e1;injection e1 with e1;injection e1 with e1;subst e1;unfold PW at tg;have c1:Ch (fun k=>k=gu) w w1:=by rw[hw];exact(Ch.refl (fun k=>k=gu) w).setCell (p:=⟨gu,i,aj⟩) (.inl rfl) _
 have nb:¬b=gu:=fun q=>by have:=h.root.2;rw[q,tg]at this;simp at this
 have b1:dG w1 b 100 (BU f L):=h.root.1.ch c1 nb;have c2:Ch (fun k=>k=b\/k=gu) w (w1.setCell ⟨b,12,aj⟩ (.bool true)):=(c1.mono fun k _ q=>.inr q).setCell (p:=⟨b,12,aj⟩) (.inl (.inl rfl)) _;have b2:=b1.jy 12 (.bool true);have u1:=h.up.jy (i:=i) (by simpa using hi) e (.bool u);rw[<-hw]at u1;have u2:kQ Z (w1.setCell ⟨b,12,aj⟩ (.bool true)) 4 (PW 1 0) L.vu f.up.length ((f.up.map fun x=>kv x).set i (.bool u)):=u1.jM (S:=fun k=>k=b) ((Ch.refl (fun k=>k=b) w1).setCell (p:=⟨b,12,aj⟩) (.inl rfl) _) (fun _ _=>rfl) fun k q=>by rw[q,h.root.2];unfold PW;simp
 have g:=h.Rf (fun k=>k=0\/k=1) (dV:=Z) c2 (fun _ _=>rfl) fun k s=>.inr (by
  rcases s with s|s
  ·rw[s,h.root.2];exact⟨rfl,.inl rfl⟩
  ·rw[s,tg];exact⟨rfl,.inr rfl⟩)
 refine⟨b1.frozen 12,by have:=b1.cell 12;rw[this];rfl,Z,⟨⟨b2,g.iO.1⟩,g.plan,g.aI,g.xP,g.Kc,g.bx,?_,g.r0,g.r1,⟨g.bk (by decide),g.IZ⟩,⟨g.fl (by decide) (by decide),g.ZM⟩,⟨g.lim (by decide) (by decide),g.Kw⟩,g.came (by decide),g.gone (by decide),g.lost (by decide)⟩,⟨c2.mono fun k _ s=>?_,fun _ _=>rfl⟩⟩
 ·have e3:(f.up.set i u).map (fun x=>kv x)=(f.up.map fun x=>kv x).set i (.bool u):=by rw[zh]
  show kQ Z _ 4 (PW 1 0) L.vu (f.up.set i u).length ((f.up.set i u).map fun x=>kv x);rw[e3,jN];exact u2
 ·rcases s with s|s
  ·rw[s,h.root.2];exact aC 2
  ·rw[s,tg];exact aC 2
theorem abE(i:Int)(h:gz Z w b ns cs f L)(hl:f.up.length<=32):di aH 17 #[pt b,ah ag i] w fun e w'=>e=ax (ah ag (f.tZ i).2)/\ko Z w b ns cs L (f.tZ i).1 w':=by
 have H:=aA h;have H0:aZ (ko Z w b ns cs L f w):=⟨Z,h,qA.refl _ _⟩;obtain⟨a,cap,eU⟩:=h.up.form;have c6:w.cell? ⟨b,6,aj⟩=az (ay a f.up.length cap):=by rw[h.xu];show az L.vu=_;rw[eU]
 unfold pt;by_cases h1:i<0
 ·have E:f.tZ i=(f,2):=by unfold dB.tZ;rw[if_pos (.inl h1)]
  rw[E];have d1:decide (i<0)=true:=decide_eq_true h1;clear h E eU;go_enter func17,ntmps17;go_wp2_with fail;go_ret;exact⟨rfl,H0.o⟩
 ·have d1:decide (i<0)=false:=decide_eq_false h1;by_cases h2:(f.up.length:Int)<=i
  ·have E:f.tZ i=(f,2):=by unfold dB.tZ;rw[if_pos (.inr h2)]
   rw[E];have d2:decide ((f.up.length:Int)<=i)=true:=decide_eq_true h2;clear h E eU;go_enter func17,ntmps17;go_wp2_with fail;go_ret;exact⟨rfl,H0.o⟩
  ·obtain⟨k,rfl⟩:∃k:Nat,i=k:=⟨i.toNat,by omega⟩;have hk:k<f.up.length:=by omega
   have d2:decide ((f.up.length:Int)<=(k:Int))=false:=decide_eq_false h2;have E:f.tZ (k:Int)=if f.up.getD k false then(f,0)else({f with up:=f.up.set k true,mW:=true},0):=by unfold dB.tZ;rw[if_neg (by omega)];rfl
   rw[E];obtain⟨gu,cu,eG⟩:=h.up.OJ (by simp;omega);have ck:w.cell? ⟨gu,k,aj⟩=az (.bool (f.up.getD k false)):=by rw[h.up.cellOf eG (by simpa using hk)];simp[bS,hk]
   have fk:w.frozen? ⟨gu,k,aj⟩=false:=(by obtain⟨g',c',e',_,k5,_⟩:=h.up.at_ (i:=k) (by simpa using hk);rw[eG]at e';injection e' with e1;injection e1 with e1;injection e1 with e1;rw[e1];exact k5);clear c6;have c6:w.cell? ⟨b,6,aj⟩=az (ay (az ⟨gu,0,aj⟩) f.up.length cu):=(by rw[h.xu];show az L.vu=_;rw[eG]);obtain⟨w1,gK⟩:∃w1:aG,w.setCell ⟨gu,k,aj⟩ (.bool true)=w1:=⟨_,rfl⟩;obtain⟨m1,m2,m3⟩:=h.ajQ hk true eG w1 gK.symm;have M3:=aA m3;have k0:(0:Int)<=(k:Int):=(by omega);have k1:(k:Int)<(f.up.length:Int):=(by omega);clear h E eU eG m3;cases yS:f.up.getD k false with
   |true=>rw[yS]at ck;simp only[if_true];go_enter func17,ntmps17;go_wp2_with fail;go_ret;exact⟨rfl,H0.o⟩
   |false=>rw[yS]at ck;simp only[mh,if_false];go_enter func17,ntmps17;go_wp2_with fail;go_ret;exact⟨rfl,M3.o⟩
end
end
section
def flW(μ:Fm->Nat)(B:Nat)(fl:Nat->List (Nat×Fm)):Nat:=sm (fun t=>sm (fun x=>μ x.2) (fl t)) (aN B)
def Ey(μ:Fm->Nat)(B:Nat)(f:dB)(H:List Fm):Nat:=sm (fun b:Bx=>qW μ b.q) f.boxes+flW μ B f.fl+sm μ H
def epI(e:Int)(x:Fm):Nat:=if x.ep=e then 1 else 0
structure Ac(B:Nat)(f:dB)(H ins outs:List Fm):Prop where
 acc:∀μ,Ey μ B f H+sm μ outs+sm μ f.lost=sm μ ins
 al:∀e:Int,f.alive e=(Ey (epI e) B f H:Nat)
 a1:f.dE=0->f.vJ=0
theorem Qt(f:dB)(e:Int):(f.rem e).boxes=f.boxes/\(f.rem e).fl=f.fl/\(f.rem e).dE=f.dE/\(f.rem e).lost=f.lost/\(f.rem e).now=f.now:=by
 unfold dB.rem dB.gQ;split
 ·exact⟨rfl,rfl,rfl,rfl,rfl⟩
 ·split<;>exact⟨rfl,rfl,rfl,rfl,rfl⟩
theorem amV{f:dB}{e:Int}(h:f.alive e≠0)(e':Int):(f.rem e).alive e'=f.alive e'-(if e'=e then 1 else 0):=by
 have hb:=(Qt f e).2.2.1;unfold dB.rem at hb|-;rw[if_neg h]at hb|-;unfold dB.alive at h|-;rw[hb];by_cases r:e<0\/(f.dE:Int)<e\/e<(f.dE:Int)-1
 ·rw[if_pos r]at h;exact absurd rfl h
 by_cases r':e'<0\/(f.dE:Int)<e'\/e'<(f.dE:Int)-1
 ·rw[if_pos r',if_pos r',if_neg (by rintro rfl;exact r r')];rfl
 ·rw[if_neg r',if_neg r'];unfold dB.gQ;by_cases p:e%2=0
  ·by_cases p':e'%2=0
   ·rw[if_pos p,if_pos p',if_pos p',if_pos (by omega)];rfl
   ·rw[if_pos p,if_neg p',if_neg p',if_neg (by omega)];simp
  ·by_cases p':e'%2=0
   ·rw[if_neg p,if_pos p',if_pos p',if_neg (by omega)];simp
   ·rw[if_neg p,if_neg p',if_neg p',if_pos (by omega)];rfl
theorem aad{f:dB}{e:Int}(h:f.dE=0):(f.rem e).vJ=f.vJ:=by
 unfold dB.rem;split
 ·rfl
 ·rename_i hz;unfold dB.alive at hz;split at hz
  ·exact absurd rfl hz
  ·unfold dB.gQ;rw[if_pos (by omega)]
section
variable{ns:List Nd}{cs:List Cb}{f g:dB}{N B:Nat}{H ins outs:List Fm}{x:Fm}
theorem FJ(μ:Fm->Nat)(B:Nat)(f:dB)(x:Fm)(H:List Fm):Ey μ B f (x::H)=Ey μ B f H+μ x:=by unfold Ey;rw[jK];omega
theorem ahQ(μ:Fm->Nat)(B:Nat)(f:dB)(G H:List Fm):Ey μ B f (G++H)=Ey μ B f H+sm μ G:=by unfold Ey;rw[nG];omega
theorem Aa{μ:Fm->Nat}(e1:g.boxes=f.boxes)(e2:g.fl=f.fl):Ey μ B g H=Ey μ B f H:=by unfold Ey;rw[e1,e2]
theorem Ac.qY{H' ajW:List Fm}(h:Ac B f H ins outs)(hw:∀μ,Ey μ B g H'=Ey μ B f H)(ho:∀μ,sm μ ajW=sm μ outs)(hl:g.lost=f.lost)(e1:g.wQ=f.wQ)(e2:g.vJ=f.vJ)(e3:g.dE=f.dE):Ac B g H' ins ajW where
 acc:=fun μ=>by rw[hw,ho,hl];exact h.acc μ
 al:=fun e=>by rw[hw];have:=h.al e;unfold dB.alive at this|-;rw[e1,e2,e3];exact this
 a1:=by rw[e2,e3];exact h.a1
theorem Ac.same{H':List Fm}(h:Ac B f H ins outs)(b1:g.boxes=f.boxes)(b2:g.fl=f.fl)(hl:g.lost=f.lost)(e1:g.wQ=f.wQ)(e2:g.vJ=f.vJ)(e3:g.dE=f.dE):Ac B g H ins outs:=
 h.qY (fun μ=>Aa b1 b2) (fun _=>rfl) hl e1 e2 e3
theorem Ac.perm{H':List Fm}(h:Ac B f H ins outs)(hp:H'.Perm H):Ac B f H' ins outs:=h.qY (fun μ=>by unfold Ey;rw[La hp]) (fun _=>rfl) rfl rfl rfl rfl
theorem Ac.ne0(h:Ac B f (x::H) ins outs):f.alive x.ep≠0:=by rw[h.al x.ep,FJ];have:epI x.ep x=1:=if_pos rfl;omega
theorem Ac.aso(h:Ac B f (x::H) ins outs)(e:Int):(f.rem x.ep).alive e=(Ey (epI e) B f H:Nat):=by
 rw[amV h.ne0 e,h.al e,FJ];unfold epI;by_cases q:e=x.ep
 ·rw[if_pos q,if_pos q.symm];omega
 ·rw[if_neg q,if_neg (iB q)];omega
theorem Ac.o(h:Ac B f (x::H) ins outs):Ac B (f.rem x.ep) H ins (outs++[x]):=by
 obtain⟨b1,b2,b3,b4,_⟩:=Qt f x.ep;exact{
  acc:=fun μ=>by have:=h.acc μ;rw[FJ]at this;rw[Aa b1 b2,b4,nG,yT];omega
  al:=fun e=>by rw[Aa b1 b2];exact h.aso e
  a1:=fun e=>by rw[b3]at e;rw[aad e];exact h.a1 e}
theorem Ac.oG(h:Ac B f (x::H) ins outs):Ac B (f.oG x) H ins outs:=by
 obtain⟨b1,b2,b3,b4,_⟩:=Qt f x.ep;exact{
  acc:=fun μ=>by have:=h.acc μ;rw[FJ]at this;have e1:Ey μ B (f.oG x) H=Ey μ B f H:=Aa b1 b2;have e2:(f.oG x).lost=f.lost++[x]:=(by show(f.rem x.ep).lost++[x]=_;rw[b4]);rw[e1,e2,nG,yT];omega
  al:=fun e=>by have e1:Ey (epI e) B (f.oG x) H=Ey (epI e) B f H:=Aa b1 b2;rw[e1];exact h.aso e
  a1:=fun e=>by have e:f.dE=0:=b3.symm.trans e;show(f.rem x.ep).vJ=0;rw[aad e];exact h.a1 e}
theorem Ac.box{H':List Fm}(h:Ac B f H ins outs){u:Nat}(hu:u<f.boxes.length)(X:Bx)(hq:∀μ,qW μ X.q+sm μ H'=qW μ (f.boxes.getD u default).q+sm μ H):Ac B {f with boxes:=f.boxes.set u X} H' ins outs:=
 h.qY (fun μ=>by unfold Ey;have h1:=Uq (fun b:Bx=>qW μ b.q) f.boxes hu X default;have h2:=hq μ;simp only at h1|-;omega) (fun _=>rfl) rfl rfl rfl rfl
theorem ZP(μ:Fm->Nat){due:Nat}(hB:due<B)(fl:Nat->List (Nat×Fm))(l:List (Nat×Fm)):flW μ B (fun t=>if t=due then l else fl t)+sm (fun x=>μ x.2) (fl due)=flW μ B fl+sm (fun x=>μ x.2) l:=by
 have:=zx (fun t=>sm (fun x=>μ x.2) (fl t)) B due (sm (fun x=>μ x.2) l) hB;unfold flW;rw[<-this];congr 1;apply yD;intro t _;dsimp only;by_cases e:t=due
 ·rw[if_pos e,if_pos e]
 ·rw[if_neg e,if_neg e]
theorem aiy(μ:Fm->Nat)(l:List (Nat×Fm)):sm (fun x=>μ x.2) l=sm μ (l.map (·.2)):=(afW μ (fun x:Nat×Fm=>x.2) l).symm
theorem Ac.take(h:Ac B f H ins outs){now:Nat}(hB:now<B):Ac B {f with fl:=fun t=>if t=now then[]else f.fl t} ((f.fl now).map (·.2)++H) ins outs:=
 h.qY (fun μ=>by rw[ahQ];unfold Ey;have:=ZP μ hB f.fl [];rw[wK,aiy]at this;simp only at this|-;omega) (fun _=>rfl) rfl rfl rfl rfl
theorem Ac.put(h:Ac B f (x::H) ins outs){due:Nat}(hB:due<B)(c:Nat):Ac B {f with fl:=fun t=>if t=due then f.fl t++[(c,x)]else f.fl t} H ins outs:=
 h.qY (fun μ=>by
  rw[FJ];unfold Ey;have:=ZP μ hB f.fl (f.fl due++[(c,x)]);rw[nG,yT]at this;have e:(fun t=>if t=due then f.fl t++[(c,x)]else f.fl t)=fun t=>if t=due then f.fl due++[(c,x)]else f.fl t:=by
   funext t;by_cases q:t=due
   ·rw[if_pos q,if_pos q,q]
   ·rw[if_neg q,if_neg q]
  simp only at this|-;rw[e];omega) (fun _=>rfl) rfl rfl rfl rfl
theorem JZ{X:Bx}(hX:lW X N){p:Nat}(hp:p<X.bE)(hc:x.cls.toNat<X.aX):((X.gT p x).2=true->∀μ,qW μ (X.gT p x).1.q=qW μ X.q+μ x)/\((X.gT p x).2=false->(X.gT p x).1.q=X.q):=by
 unfold Bx.gT;simp only;split
 ·rename_i e;refine⟨fun _ μ=>?_,fun q=>by cases q⟩;have:=YP μ hX.q hp hc (dz X.q p x.cls.toNat++[x]);rw[nG,yT]at this;simp only;omega
 ·exact⟨fun q=>(by cases q),fun _=>rfl⟩
theorem Ac.fO(hp:nW ns cs){s:dB×List Dl}{x:Nat×Fm}(ok:dH ns cs s.1 N)(h:Ac B s.1 (x.2::H) ins (outs++s.2.map (·.2.2)))(hc:x.1<2*cs.length)(hx:qR ns s.1 x.2):Ac B (dB.fO ns cs s x).1 H ins (outs++(dB.fO ns cs s x).2.map (·.2.2)):=by
 have EN:=hp.ends hc;have pl:=hp.qP EN.2.1 EN.2.2.2.1;obtain⟨f,D⟩:=s;unfold dB.fO;dsimp only at h ok hx|-;by_cases hs:qE ns (bV cs x.1).2.2.1=true
 ·rw[if_pos hs];dsimp only;obtain⟨b1,b2,b3⟩:=ok.box _ EN.2.1;have aw:=JZ (x:=x.2) b1 (p:=(bV cs x.1).2.2.2) (by rw[b2];exact pl) (by rw[b3];exact hx.c1);have hu:(bV cs x.1).2.2.1<f.boxes.length:=by rw[ok.bl];exact EN.2.1
  cases hr:((f.boxes.getD (bV cs x.1).2.2.1 default).gT (bV cs x.1).2.2.2 x.2).2 with
  |true=>rw[if_pos rfl];exact h.box hu _ fun μ=>by rw[aw.1 hr μ,jK];omega
  |false=>rw[if_neg (by decide)];exact Ac.oG (h.box (H':=x.2::H) hu _ fun μ=>by rw[aw.2 hr])
 ·rw[if_neg hs];dsimp only;rw[fF,<-jX];exact Ac.o (x:=x.2) (h.same (H':=[]) (g:={f with came:=jA f.came (bV cs x.1).2.2.1 x.2.cls.toNat (dz f.came (bV cs x.1).2.2.1 x.2.cls.toNat+1)}) rfl rfl rfl rfl rfl rfl)
theorem Ac.Es(hp:nW ns cs):∀(l:List (Nat×Fm)) {s:dB×List Dl} {N:Nat},dH ns cs s.1 N->(∀x∈l,x.1<2*cs.length/\qR ns s.1 x.2)->Ac B s.1 (l.map (·.2)++H) ins (outs++s.2.map (·.2.2))->Ac B (l.foldl (dB.fO ns cs) s).1 H ins (outs++(l.foldl (dB.fO ns cs) s).2.map (·.2.2))
 |[],_,_,_,_,h=>h
 |x::l,s,N,ok,hl,h=>by rw[dS];have hx:=hl x (bZ ..);have k:=dH.fO ok hp hx.1 hx.2 s.2;exact Ac.Es hp l k.1 (fun y hy=>⟨(hl y (dx _ hy)).1,(hl y (dx _ hy)).2.qY k.2.1 (by rw[k.2.2.1];exact aC _)⟩) (Ac.fO hp ok h hx.1 hx.2)
theorem Tr.weight{bz:Nat->Fm->Option Nat}{b b1:Bx}{ms:List Mv}(h:Tr bz b ms b1)(μ:Fm->Nat):∀{N:Nat},lW b N->qW μ b1.q+sm μ (ms.map (·.2.2.2))=qW μ b.q:=by
 induction h with
 |nil b=>intro N _;simp[wK]
 |cons hm _ ih=>intro N hb;have h1:=hm.weight μ hb;have h2:=ih (hm.ok hb);rw[mK,jK];omega
 |iY x hx _ ih=>intro N hb;exact ih (hb.Ju hx)
theorem Ac.lU{u:Nat}{m:Mv}(h:Ac B f (m.2.2.2::H) ins outs)(hc:∀k,m.2.2.1=az k->∃i,jH cs u k=az i)(hB:f.now+101<=B)(hd:∀i,i<cs.length->(cs.getD i gV).dl<=100):Ac B (f.lU cs u m) H ins outs:=by
 unfold dB.lU;cases hm:m.2.2.1 with
 |none=>exact h.oG
 |some k=>obtain⟨i,hi⟩:=hc k hm;dsimp only;rw[hi];have:=hd i (wu hi).1;exact h.put (due:=f.now+(cs.getD i gV).dl.toNat) (by omega) _
theorem Si(cs:List Cb)(u:Nat)(f:dB)(m:Mv):(f.lU cs u m).now=f.now:=by
 unfold dB.lU;cases m.2.2.1 with
 |none=>exact(Mo f _).2.2
 |some k=>dsimp only;cases jH cs u k<;>rfl
theorem Ac.Ab{u:Nat}(hd:∀i,i<cs.length->(cs.getD i gV).dl<=100):∀(ms:List Mv) {f:dB},Ac B f (ms.map (·.2.2.2)++H) ins outs->(∀m∈ms,∀k,m.2.2.1=az k->∃i,jH cs u k=az i)->f.now+101<=B->Ac B (ms.foldl (dB.lU cs u) f) H ins outs
 |[],_,h,_,_=>h
 |m::ms,f,h,hm,hB=>by rw[dS];exact Ac.Ab hd ms (Ac.lU h (hm m (bZ ..)) hB hd) (fun y hy=>hm y (dx _ hy)) (by rw[Si];exact hB)
theorem Ac.kE(hp:nW ns cs)(ok:dH ns cs f N){u:Nat}(hu:u<ns.length)(h:Ac B f H ins outs)(hB:f.now+101<=B):Ac B (f.kE ns cs u) H ins outs:=by
 obtain⟨b1,b2,b3⟩:=ok.box u hu;have t:=(DD _ (lY ns cs f u) b1).1;have o:=t.outs;have s:=t.sub b1;have e:f.kE ns cs u=(((f.boxes.getD u default).step (lY ns cs f u)).2).foldl (dB.lU cs u) {f with boxes:=f.boxes.set u ((f.boxes.getD u default).step (lY ns cs f u)).1}:=rfl;rw[e];refine Ac.Ab (fun i hi=>(hp.dl i hi).2) _ (h.box (by rw[ok.bl];exact hu) _ fun μ=>?_) (fun m hm k hk=>?_) hB
 ·rw[nG];have:=t.weight μ b1;omega
 ·obtain⟨q1,q2,q3⟩:=s.2 m hm;obtain⟨i,hi,_⟩:=Bp hp ok hu (ok.q u m.1 m.2.1 _ hu (by rw[<-b2];exact q1) (by rw[<-b3];exact q2) q3) (o m hm k hk).2;exact⟨i,hi⟩
theorem Ac.steps(hp:nW ns cs):∀(l:List Nat) {f:dB} {N:Nat},dH ns cs f N->(∀u∈l,u<ns.length)->Ac B f H ins outs->f.now+101<=B->Ac B (l.foldl (dB.kE ns cs) f) H ins outs
 |[],_,_,_,_,h,_=>h
 |u::l,f,N,ok,hl,h,hB=>by rw[dS];have k:=ok.kE hp (hl u (bZ ..));exact Ac.steps hp l k.1 (fun y hy=>hl y (dx _ hy)) (h.kE hp ok (hl u (bZ ..)) hB) (by rw[k.2.2.2];exact hB)
theorem Ac.jh(hp:nW ns cs)(ok:dH ns cs f N){x:Nat×Nat×Int}(hc:x.1<2*cs.length)(h:Ac B f H ins outs):Ac B (dB.jh cs f x) H ins outs:=
 h.box (by rw[ok.bl];exact(hp.ends hc).1) _ fun μ=>rfl
theorem Ac.wJ(hp:nW ns cs):∀(l:List (Nat×Nat×Int)) {f:dB} {N:Nat},dH ns cs f N->(∀x∈l,x.1<2*cs.length/\x.2.1<f.aI.length)->Ac B f H ins outs->Ac B (l.foldl (dB.jh cs) f) H ins outs
 |[],_,_,_,_,h=>h
 |x::l,f,N,ok,hl,h=>by rw[dS];have hx:=hl x (bZ ..);have k:=ok.jh hp hx.1 hx.2;exact Ac.wJ hp l k.1 (fun y hy=>by rw[k.2.1];exact hl y (dx _ hy)) (h.jh hp ok hx.1)
theorem Ac.Eb{nr:Rt}(ok:dH ns cs f N)(h:Ac B f [] ins outs)(hm:f.mJ=true):Ac B (f.uG nr) [] ins outs:=by
 have a0:=ok.a0;have a1:=ok.a1;have hz:f.alive ((f.dE:Int)-1)=0:=by
  unfold dB.mJ at hm;have h1:=of_decide_eq_true hm;have h2:0<=f.alive ((f.dE:Int)-1):=by rw[h.al];exact Int.natCast_nonneg _
  omega
 have e1:(f.uG nr).boxes=f.boxes/\(f.uG nr).fl=f.fl/\(f.uG nr).lost=f.lost/\(f.uG nr).dE=f.dE+1/\(f.uG nr).wQ=f.wQ/\(f.uG nr).vJ=f.vJ:=by unfold dB.uG;split<;>exact⟨rfl,rfl,rfl,rfl,rfl,rfl⟩
 obtain⟨b1,b2,b3,b4,b5,b6⟩:=e1;have key:∀e,(f.uG nr).alive e=f.alive e:=fun e=>by
  have top:f.dE=0->f.vJ=0:=h.a1;unfold dB.alive at hz|-;rw[b4,b5,b6];by_cases q1:e<0\/((f.dE+1:Nat):Int)<e\/e<((f.dE+1:Nat):Int)-1
  ·rw[if_pos q1];by_cases q2:e<0\/(f.dE:Int)<e\/e<(f.dE:Int)-1
   ·rw[if_pos q2]
   ·rw[if_neg q2];have e2:e=(f.dE:Int)-1:=by omega
    rw[if_neg (by omega),<-e2]at hz;exact hz.symm
  ·rw[if_neg q1];by_cases q2:e<0\/(f.dE:Int)<e\/e<(f.dE:Int)-1
   ·rw[if_pos q2];have e2:e=(f.dE:Int)+1:=by omega
    by_cases q3:f.dE=0
    ·have:=top q3;rw[if_neg (by omega)];exact this
    ·rw[if_neg (by omega)]at hz;by_cases q4:e%2=0
     ·rw[if_pos q4];rw[if_pos (by omega)]at hz;exact hz
     ·rw[if_neg q4];rw[if_neg (by omega)]at hz;exact hz
   ·rw[if_neg q2]
 exact⟨fun μ=>by rw[Aa b1 b2,b3];exact h.acc μ,fun e=>by rw[key,Aa b1 b2];exact h.al e,fun e=>by rw[b4]at e;omega⟩
theorem OI(ok:dH ns cs f N):(mG (2*cs.length) (f.fl f.now)).Perm (f.fl f.now):=by
 haveI:DecidableEq (Nat×Fm):=fun a b=>vE _
 refine Qo fun μ=>?_;unfold mG;rw[ve];generalize hl:f.fl f.now=l;have hb:∀x∈l,x.1<2*cs.length:=fun x hx=>(ok.fl f.now x (by rw[hl];exact hx)).1;generalize 2*cs.length=n at hb;clear hl
 induction l with
 |nil=>simp only[List.filter_nil];rw[wK];exact aaj fun _ _=>rfl
 |cons x l ih=>
  rw[jK,<-ih fun y hy=>hb y (dx _ hy)];have:=zx (fun c=>sm μ (l.filter fun y=>y.1==c)) n x.1 (μ x+sm μ (l.filter fun y=>y.1==x.1)) (hb x (bZ ..));have e:sm (fun c=>sm μ ((x::l).filter fun y=>y.1==c)) (aN n)=sm (fun i=>if i=x.1 then μ x+sm μ (l.filter fun y=>y.1==x.1)else sm μ (l.filter fun y=>y.1==i)) (aN n):=by
   apply yD;intro c _;by_cases q:c=x.1
   ·rw[if_pos q,iP,if_pos (by simp[q]),jK,q]
   ·rw[if_neg q,iP,if_neg (by simpa using iB q)]
  rw[e];omega
theorem Ac.tick{nr:Rt}(hp:nW ns cs)(ok:dH ns cs f N)(hf:yJ cs f)(hr:AV ns cs nr)(h:Ac B f [] ins outs)(hB:f.now+102<=B):Ac B (f.tick ns cs nr).1 [] ins (outs++(f.tick ns cs nr).2.map (·.2.2)):=by
 rw[Bt];obtain⟨m1,m2,m3⟩:=ok.mid hp hr;have ob:=ok.beg hr;have h1:Ac B (f.jk nr) [] ins outs:=by
  unfold dB.jk;have h0:Ac B f.xI [] ins outs:=h.same (H':=[]) rfl rfl rfl rfl rfl rfl;split
  ·rename_i q;rw[dD]at q;exact h0.Eb ok.YJ q.2
  ·exact h0
 have h2:Ac B ((f.jk nr).iM cs) [] ins outs:=Ac.wJ hp _ ob (fun x hx=>⟨(ob.lim _ x hx).1,(ob.lim _ x hx).2.1⟩) h1;have h3:Ac B ((f.jk nr).iM cs).uA [] ins outs:=h2.same (H':=[]) rfl rfl rfl rfl rfl rfl;generalize((f.jk nr).iM cs).uA=g at *;have a1:=m1.jf hp (by rw[m3];exact hf.nd _);have h4:Ac B (g.jf ns cs).1 [] ins (outs++(g.jf ns cs).2.map (·.2.2)):=by refine Ac.Es hp (mG (2*cs.length) (g.fl g.now)) (s:=({g with fl:=fun t=>if t=g.now then[]else g.fl t},[])) (m1.Pp g.now) (fun x hx=>⟨(mU hx).2,(m1.fl _ x (mU hx).1).2.qY rfl (aC _)⟩) ?_;show Ac B _ (_++[]) ins (outs++[]);rw[jr outs];exact(h3.take (now:=g.now) (by omega)).perm (((OI m1).map _).append_right _)
 have h5:=h4.steps hp (aN ns.length) a1.1 (fun u hu=>dK.1 hu) (by rw[a1.2.2.2,m2];omega);show Ac B ((nL ns cs (g.jf ns cs).1 ns.length).tell ns cs) [] ins _;rw[zG];exact h5.same (H':=[]) rfl rfl rfl rfl rfl rfl
end
def jJ{α:Type}(i:Nat)(l:List (Nat×α)):List (Nat×α):=l.filter fun x=>x.1/2 !=i
def El{α:Type}(i:Nat)(l:List (Nat×α)):List (Nat×α):=l.filter fun x=>x.1/2==i
end
section
open Go.RowKit Go.Maps
attribute [local go_sem ↓] fM fK
def Qm(f:dB)(n:Nat):Nat:=(aN n).foldl (fun s i=>s+(f.boxes.getD i default).ov) 0
theorem Ms(f:dB)(n:Nat):Qm f (n+1)=Qm f n+(f.boxes.getD n default).ov:=by unfold Qm;rw[dL,fV];rfl
theorem ail(f:dB){N n m:Nat}(h:∀i,i<m->(f.boxes.getD i default).ov<=N)(hn:n<=m):Qm f n<=n*N:=by
 induction n with
 |zero=>exact bJ _
 |succ n ih=>rw[Ms,JS];have:=h n (by omega);have:=ih (by omega);omega
def apB(w:aG)(f:dB)(n:Nat)(s i:aJ)(wr:aG):Prop:=∃k:Nat,k<=n/\i=ah ag k/\s=ah ag (Qm f k)/\wr=w
theorem abF{f:dB}{N b:Nat}{ns:List Nd}{cs:List Cb}{L:rY}{Z:Own}{w:aG}(h:gz Z w b ns cs f L)(hp:nW ns cs)(qX:dH ns cs f N)(hN:N<=1000000000):di aH 20 #[pt b] w fun e w'=>e=ax (ah ag (Qm f ns.length))/\w=w':=by
 have n16:=hp.n16;have H:=aA h;have OV:aZ (∀k,k<ns.length->(f.boxes.getD k default).ov<=N):=fun k hk=>(qX.box k hk).1.ov;obtain⟨a,cap,eB⟩:=h.Kc.form;have c5:w.cell? ⟨b,5,aj⟩=az (ay a ns.length cap):=by rw[h.xu];show az L.vb=_;rw[eB]
 have HA:aZ (∀k,k<ns.length->∃g,a=az ⟨g,0,aj⟩/\w.cell? ⟨g,k,aj⟩=az (au (az ⟨L.bx k,0,aj⟩))):=fun k hk=>by obtain⟨g,c,e,_,k2,_,_⟩:=h.aaU hk;rw[eB]at e;injection e with e1;exact⟨g,e1,k2⟩
 clear h hp qX eB;unfold pt;go_enter func20,ntmps20;go_wp2_with fail;go_loopw [3,5,13] (fun s _ i wr=>apB w f ns.length s i wr) (fun _ _ i _=>ns.length-(aK i).toNat);case atStart=>exact⟨0,bJ _,rfl,rfl,rfl⟩
 case round=>
  obtain⟨k,hk,rfl,rfl,rfl⟩:=hrel;by_cases yH:k<ns.length
  ·obtain⟨g,rfl,cg⟩:=HA.o k yH;have BO:=aaT _ _ _ _ _ _ (H.o.bx k yH);unfold pt at BO;have BO:=aA BO;have k0:(0:Int)<=(k:Int):=by omega
   have k1:(k:Int)<(ns.length:Int):=(by omega);have l1:=ail f (n:=k) OV.o (by omega);have l2:=OV.o k yH;have l3:k*N<=16*N:=tJ N (by omega);have SU:=aA (Ms f k);have R:aZ (apB wr f ns.length (ah ag (Qm f (k+1))) (ah ag ((k+1:Nat):Int)) wr):=⟨k+1,by omega,rfl,rfl,rfl⟩;rw[SU.o]at R;generalize(f.boxes.getD k default).ov=y at *;generalize Qm f k=x at *;have q1:IntKind.i64.wrap ((x:Int)+(y:Int))=(x:Int)+(y:Int):=fH _ (by omega);clear l1 l2 l3 SU;go_wp2_with (first|(go_at_call 64;refine BO.o.mono ?_;rintro e w' ⟨rfl,rfl⟩));exact⟨by simpa using R.o,by simp[aK];omega⟩
  ·obtain rfl:ns.length=k:=by omega
   go_wp2_with fail;go_ret
   exact⟨rfl,rfl⟩
end
section
open Go.RowKit Go.Maps
open Go.ChangeMaps (setBlock heap_setBlock_same heap_setBlock_other modify_eq_set)
open Go.WideElems (Fit rd rg pl rd_key rd_val rg_of rd_mk)
def wO(w:aG)(P:Program)(k:dP)(b r n:Nat)(M:Lit->Option aJ)(left:Lit->Bool)(Ec:Nat):Prop:=
 ∃D:DataW aJ,w.ranges P k rM b r n D left Ec/\∀l,JO D l=(M l).isSome/\∀z,D.atKey l (.held z)=.held ((M l).getD z)
section
variable{w w':aG}{P:Program}{k t e:dP}{b r n Ec:Nat}{M:Lit->Option aJ}{left:Lit->Bool}
theorem wO.omap(h:wO w P k b r n M left Ec):jL w P k b n M:=by obtain⟨D,h,h2⟩:=h;exact⟨D,h.owns,h2⟩
theorem wO.left_eq(h:wO w P k b r n M left Ec):w.rangeLeft b r=Ec:=by obtain⟨D,h,h2⟩:=h;exact h.left_eq
theorem wO.ltR(h:wO w P k b r n M left Ec):r<w.heap.size:=by obtain⟨D,h,h2⟩:=h;exact h.lt
theorem wO.ch{S:Nat->Prop}(h:wO w P k b r n M left Ec)(hc:Ch S w w')(hb:¬S b)(hr:¬S r):wO w' P k b r n M left Ec:=by obtain⟨D,h,h2⟩:=h;have l1:=h.owns.lt;have l2:=h.lt;obtain⟨es,clock,since,seen,c0,tq,F,hs,hD,hr',rest⟩:=h;exact⟨D,⟨es,clock,since,seen,c0,(hc.block b l1 hb).trans tq,F,hs,hD,(hc.block r l2 hr).trans hr',rest⟩,h2⟩
theorem jL.range(h:jL w P k b n M)(K:Keyed P k)(ht:P.underlying t=az (.map k e)):∃w',(Instr.range t (.map (az b))).run P w=.ok (au (az ⟨w.heap.size,0,aj⟩)) w'/\(∃Ec,wO w' P k b w.heap.size n M (fun l=>(M l).isSome) Ec)/\aO w.heap.size w w'/\w'.heap.size=w.heap.size+1:=by obtain⟨D,h,h2⟩:=h;obtain⟨w',hrun,hr,hg,hs⟩:=h.range K ht;have e1:JO D=fun l=>(M l).isSome:=funext fun l=>(h2 l).1;rw[e1]at hr;exact⟨w',hrun,⟨_,D,hr,h2⟩,⟨hg.os,hg.tape,hg.output,hg.size,fun i hi=>hg.block i hi (by simp)⟩,hs⟩
theorem wO.next(h:wO w P k b r n M left Ec)(K:Keyed P k)(ty:dP):(Ec=0/\(∀kl,left kl=false)/\(Instr.next (au (az ⟨r,0,aj⟩)) false ty).run P w=.ok (.tuple #[.bool false]) w)\/∃key v kl w' cnt',keyOf P k key=az kl/\left kl=true/\M kl=az v/\(Instr.next (au (az ⟨r,0,aj⟩)) false ty).run P w=.ok (.tuple #[.bool true,key,v]) w'/\wO w' P k b r n M (fun x=>left x&&!x.sameKey kl) cnt'/\cnt'<Ec/\w.grownBy w' (az r)/\w'.heap.size=w.heap.size/\(Instr.entry (au (az ⟨r,0,aj⟩))).run P w'=.ok (.tuple #[key,v]) w':=by
 obtain⟨D,h,h2⟩:=h;rcases h.next K ty with q|⟨key,v,kl,y,w',cnt',h3,h4,h5,h6,h7,h8,h9,h10,h11,h12⟩
 ·exact .inl q
 ·refine .inr ⟨key,v,kl,w',cnt',h3,h4,?_,h7,⟨D,h8,h2⟩,h9,h10,h11,h12⟩;unfold rM at h5;injection h5 with h5;have e1:∀z,(M kl).getD z=v:=fun z=>by
   have q1:=h6 (.held z);rw[(h2 kl).2 z,<-h5]at q1;injection q1
  cases hm:M kl with
  |some u=>have:=e1 v;rw[hm]at this;simpa using this
  |none=>have q1:=e1 (.bool true);have q2:=e1 (.bool false);rw[hm]at q1 q2;simp only[Option.getD_none]at q1 q2;rw[<-q2]at q1;cases q1
theorem YW{kl:Lit}{key val:aJ}(K:Keyed P k)(ht:P.underlying t=az (.map k e)){es:Array MapEntry}{clock:Nat}(hb:w.heap[b]?=az (.map es clock))(F:Fit P k rM es clock)(hkey:keyOf P k key=az kl){x0:MapEntry}(hx0:x0∈es.toList)(NU:x0.key=key):∃j e0,es.toList[j]?=az e0/\e0.key=key/\(oz t (.map (az b)) key val).run P w=.ok () (setBlock w b (.map (es.modify j fun e'=>{e' with key:=key,val:=val}) clock)):=by
 rcases K.find w hkey es.toList F.keys with⟨_,h2⟩|⟨j,e0,h1,h2,h3⟩
 ·exact absurd NU (h2 x0 hx0)
 ·have hj:es[j]?=az e0:=by simpa using h2
  exact⟨j,e0,h2,h3,by simp[oz,run_underlying ht,MapKept.run_getObj_map hb,K.check w false hkey,h1,hj,h3,K.stays w hkey,MapKept.run_setObj_map _ hb,mR,setBlock]⟩
theorem wO.put(h:wO w P k b r n M left Ec)(K:Keyed P k)(ht:P.underlying t=az (.map k e))(hn:n<fJ){key:aJ}{kl:Lit}(hkey:keyOf P k key=az kl)(Gr:(M kl).isSome=true)(v:aJ):∃w',(oz t (.map (az b)) key v).run P w=.ok () w'/\wO w' P k b r n (uC M kl v) left Ec/\w.grownBy w' (az b)/\w'.heap.size=w.heap.size:=by
 obtain⟨D,h,h2⟩:=h;have nJ:=h.ne;have ow:=h.owns;obtain⟨es,clock,since,seen,c0,hb,F,hs,hD,hr,hold,hc,hl1,Ef,hsc,hsk⟩:=h;have hin':JO D kl=true:=by rw[(h2 kl).1];exact Gr
 rw[hD]at hin';obtain⟨p,hp,hpk⟩:=jv.1 hin';obtain⟨x0,hx0,rfl⟩:=iU.1 (mem_sorted.1 hp);have NU:x0.key=key:=by obtain⟨y,hy⟩:=F.reads x0 hx0;have m1:=rd_key hy;have e1:=WideAt.sameKey_eq hpk;rw[rg_of hy]at e1;rw[e1]at m1;exact K.inj m1 hkey
 obtain⟨j,e0,h3,h4,hrun⟩:=YW (w:=w) (val:=v) K ht hb F hkey hx0 NU;obtain⟨es',clock',hrun',F',hput,_⟩:=Maps.fit_store (R':=rM) K ht hb F (Nat.lt_of_le_of_lt hs hn) (fun _ _ _ _ hz=>hz) hkey (val:=v) (yv:=(.held v,[])) rfl;have ee:es'=es.modify j (fun e'=>{e' with key:=key,val:=v})/\clock'=clock:=by rw[hrun]at hrun';injection hrun' with _ hw;have q:=heap_setBlock_same hb (.map es' clock');rw[<-hw,heap_setBlock_same hb]at q;injection q with q;injection q with q1 q2;exact⟨q1.symm,q2.symm⟩
 obtain⟨ee,rfl⟩:=ee;have hlist:es'.toList=es.toList.set j {e0 with key:=key,val:=v}:=by rw[ee,Array.toList_modify,modify_eq_set _ _ _ _ h3]
 have hjl:j<es.toList.length:=(AJ.1 h3).1;have xQ:es.toList[j]=e0:=(AJ.1 h3).2;have he0:e0∈es.toList:=List.mem_of_getElem? h3;have rg0:(rg P k rM e0).1=kl:=by obtain⟨y,hy⟩:=F.reads e0 he0;have m1:=rd_key hy;rw[h4,hkey]at m1;rw[rg_of hy];exact(mg m1).symm
 have rgn:(rg P k rM {e0 with key:=key,val:=v}).1=kl:=by
  have:rd P k rM {e0 with key:=key,val:=v}=az (kl,.held v):=by unfold rd rM;simp[hkey]
  rw[rg_of this]
 have mem:∀x∈es'.toList,∃y∈es.toList,y.born=x.born/\(rg P k rM y).1=(rg P k rM x).1:=fun x hx=>by
  rw[hlist]at hx;rcases List.mem_or_eq_of_mem_set hx with q|q
  ·exact⟨x,q,rfl,rfl⟩
  ·exact⟨e0,he0,by rw[q],by rw[q,rgn,rg0]⟩
 have aqm:∀a:Array MapEntry,(leftOf a seen).size=(a.toList.map (·.born)).countP (fun i=>!seen.contains i):=fun a=>by unfold leftOf;rw[<-mZ,Array.toList_filter,<-List.countP_eq_length_filter,List.countP_map];rfl
 have born:es'.toList.map (·.born)=es.toList.map (·.born):=by
  rw[hlist,zh];apply List.ext_getElem?;intro i;rw[lK];by_cases q:j=i
  ·subst q;rw[if_pos rfl,if_pos (by simpa using hjl),cK,h3];rfl
  ·rw[if_neg q]
 have len:es'.size=es.size:=by rw[ee];simp
 refine⟨_,hrun',⟨D.put kl (.held v),⟨es',clock',since,seen,c0,heap_setBlock_same hb _,F',by rw[len];exact hs,by rw[hD,DataW.put_eq,hput],(heap_setBlock_other hb _ nJ).trans hr,fun x hx=>?_,by rw[aqm,born,<-aqm];exact hc,fun x hx=>?_,fun l hl=>?_,hsc,hsk⟩,fun l=>?_⟩,?_,by simp[setBlock]⟩
 ·obtain⟨y,hy,q,_⟩:=mem x hx;rw[<-q];exact hold y hy
 ·obtain⟨y,hy,q1,q2⟩:=mem x hx;rw[<-q1,<-q2];exact hl1 y hy
 ·obtain⟨y,hy,q⟩:=Ef l hl;obtain⟨i,hi,rfl⟩:=um hy;by_cases e1:i=j
  ·refine⟨{e0 with key:=key,val:=v},?_,?_⟩
   ·rw[hlist];exact qj.2 ⟨j,by simpa using hjl,by simp⟩
   ·subst e1;rw[rgn,<-q,xQ,rg0]
  ·refine⟨es.toList[i],?_,q⟩;rw[hlist];exact qj.2 ⟨i,by simpa using hi,by rw[List.getElem_set_ne (iB e1)]⟩
 ·unfold uC;by_cases hl:l=kl
  ·subst hl;rw[if_pos (lH (K.key hkey))];exact⟨has_put_same ow.isMap (K.key hkey) _,fun z=>atKey_put_same ow.isMap (K.key hkey) _ _⟩
  ·rw[if_neg (by rw[pG (K.key hkey)];exact hl)];exact⟨by rw[has_put_other hl];exact(h2 l).1,fun z=>by rw[atKey_put_other hl];exact(h2 l).2 z⟩
 ·exact⟨rfl,rfl,rfl,by simp[setBlock],fun i _ hi=>heap_setBlock_other hb _ fun e1=>hi (by rw[e1])⟩
end
section
variable{P:Program}(w:aG){ops:Array Oper}{rest:List Oper}{o:Oper}{a:Act}{Q:Exit->Act->aG->Prop}
theorem Nw(hg:o.guard=aj)(m:Operand)(t:dP)(hop:o.op=Op.range t m)(k e:dP)(K:Keyed P k)(ht:P.underlying t=az (.map k e))(b n:Nat)(M:Lit->Option aJ)(hm:a.eval m=.map (az b))(h:jL w P k b n M)(hK:∀w',(∃Ec,wO w' P k b w.heap.size n M (fun l=>(M l).isSome) Ec)->aO w.heap.size w w'->w'.heap.size=w.heap.size+1->wpList P ops Q rest (a.put o.dst (au (az ⟨w.heap.size,0,aj⟩))) w'):wpList P ops Q (o::rest) a w:=by refine wpList_plain hg fun K' hK'=>?_;obtain⟨w',hrun,r1,r2,r3⟩:=h.range K ht;unfold Oper.wp;simp[execOp,hop,hm,hrun,mR];exact hK' _ _ (hK w' r1 r2 r3)
theorem Lg(hg:o.guard=aj)(it:Operand)(hop:o.op=Op.next it false)(k:dP)(K:Keyed P k)(b r n:Nat)(M:Lit->Option aJ)(left:Lit->Bool)(Ec:Nat)(hit:a.eval it=au (az ⟨r,0,aj⟩))(h:wO w P k b r n M left Ec)(hDone:Ec=0->(∀kl,left kl=false)->wpList P ops Q rest (a.put o.dst (.tuple #[.bool false])) w)(hMore:∀(key v:aJ) (kl:Lit) (w':aG) (cnt':Nat),keyOf P k key=az kl->left kl=true->M kl=az v->wO w' P k b r n M (fun x=>left x&&!x.sameKey kl) cnt'->cnt'<Ec->w.grownBy w' (az r)->w'.heap.size=w.heap.size->(Instr.entry (au (az ⟨r,0,aj⟩))).run P w'=.ok (.tuple #[key,v]) w'->wpList P ops Q rest (a.put o.dst (.tuple #[.bool true,key,v])) w'):wpList P ops Q (o::rest) a w:=by
 refine wpList_plain hg fun K' hK'=>?_;unfold Oper.wp;rcases h.next K o.type with⟨h0,hl,hrun⟩|⟨key,v,kl,w',cnt',h1,h2,h3,hrun,h5,h6,h7,h8,h9⟩
 ·simp[execOp,hop,hit,hrun,mR];exact hK' _ _ (hDone h0 hl)
 ·simp[execOp,hop,hit,hrun,mR];exact hK' _ _ (hMore key v kl w' cnt' h1 h2 h3 h5 h6 h7 h8 h9)
end
end
section
open Go.RowKit Go.Maps
attribute [local go_sem ↓] fM fK
abbrev Nt:=Nat×Nat×Int
def EI:Nt:=(0,0,0)
theorem Vm(x:Nt)(i bi:Nat)(w:aG)(hx:x.1<1000000)(hb:w.cell? ⟨bi,0,aj⟩=az (ah ag (i:Int))):di aH 60 #[.agg #[ah ag x.1,ah ag x.2.1,ah ag x.2.2],au (az ⟨bi,0,aj⟩)] w fun e w'=>e=ax (.bool (x.1/2==i))/\aO w.heap.size w w':=by
 obtain⟨c,v,l⟩:=x;simp only at hx|-;have hl:=aY _ _ hb;simp only at hl;obtain⟨w1,gK⟩:∃w1:aG,w.alloc (af #[ah ag c,ah ag v,ah ag l] 116)=w1:=⟨_,rfl⟩;have B:aZ (aO w.heap.size w w1):=by rw[<-gK];exact(aS _ _).alloc (aC _) _
 have k0:w1.cell? ⟨w.heap.size,0,aj⟩=az (ah ag c):=by rw[<-gK];exact(dG.new w _ _).cell 0
 have kb:w1.cell? ⟨bi,0,aj⟩=az (ah ag i):=(B.o.cell (p:=⟨bi,0,aj⟩) hl).trans hb;have hd:(c:Int)/2=((c/2:Nat):Int):=by omega
 have hwk:wrap64 ((c/2:Nat):Int)=((c/2:Nat):Int):=by unfold wrap64;omega
 clear hx;generalize c/2=k at *;clear hb;by_cases hki:k=i
 ·subst hki;have e1:(k==k)=true:=by simp
  rw[e1];go_enter func60,ntmps60;go_wp2_with fail;go_ret;exact⟨rfl,B.o⟩
 ·have e1:(k==i)=false:=by simp[hki]
  have e2:((k:Int)==(i:Int))=false:=by simp;omega
  rw[e1];go_enter func60,ntmps60;go_wp2_with fail;go_ret;exact⟨rfl,B.o⟩
def ajd(l:List Nt)(i:Nat)(w0:aG)(s:aJ)(wr:aG):Prop:=∃k:Nat,k<=l.length/\s=ah ag k/\(∀j,j<k->((l.getD j EI).1/2==i)=false)/\aO w0.heap.size w0 wr
def aiS(l:List Nt)(i:Nat)(w:aG)(e:iL)(w':aG):Prop:=aO w.heap.size w w'/\((e=ax (ah ag (-1))/\∀j,j<l.length->((l.getD j EI).1/2==i)=false)\/∃k:Nat,k<l.length/\e=ax (ah ag k)/\((l.getD k EI).1/2==i)=true/\∀j,j<k->((l.getD j EI).1/2==i)=false)
theorem aeY(l:List Nt)(i bi:Nat)(v:aJ)(w:aG)(hl:l.length<=1000000000)(hsm:∀x∈l,x.1<1000000)(h:w.ownsRow 0 116 3 v l.length (l.flatMap JG))(hb:w.cell? ⟨bi,0,aj⟩=az (ah ag (i:Int))):di aH 101 #[v,.func (.func 60) #[] #[au (az ⟨bi,0,aj⟩)]] w (aiS l i w):=by
 obtain⟨a,c,eV⟩:=dX h;have LE:aZ (∀(x:Nt) w',x.1<1000000->aO w.heap.size w w'->di aH 60 #[.agg #[ah ag x.1,ah ag x.2.1,ah ag x.2.2],au (az ⟨bi,0,aj⟩)] w' fun e w''=>e=ax (.bool (x.1/2==i))/\aO w'.heap.size w' w''):=fun x w' hx hw=>
  Vm x i bi w' hx ((hw.cell (p:=⟨bi,0,aj⟩) (aY _ _ hb)).trans hb)
 have CE:aZ (∀k w',k<l.length->aO w.heap.size w w'->∃g,a=az ⟨g,0,aj⟩/\w'.cell? ⟨g,k*3,aj⟩=az (ah ag (l.getD k EI).1)/\w'.cell? ⟨g,k*3+1,aj⟩=az (ah ag (l.getD k EI).2.1)/\w'.cell? ⟨g,k*3+2,aj⟩=az (ah ag (l.getD k EI).2.2)):=fun k w' hk hw=>by
  obtain⟨g,cap,e1,_,hl,ho,hc⟩:=qf (d:=EI) zU h rfl hk;rw[eV]at e1;injection e1 with e1;refine⟨g,e1,?_,?_,?_⟩
  ·exact(hw.cell (p:=⟨g,k*3,aj⟩) hl).trans (hc k hk 0 (by decide))
  ·exact(hw.cell (p:=⟨g,k*3+1,aj⟩) hl).trans (hc k hk 1 (by decide))
  ·exact(hw.cell (p:=⟨g,k*3+2,aj⟩) hl).trans (hc k hk 2 (by decide))
 subst eV;clear h hb;generalize Ex:aiS l i w=NZ;have HP:=aA Ex;clear Ex;go_enter func101,ntmps101;go_wp2_with fail;go_loopw [8] (fun s wr=>ajd l i w s wr) (fun s _=>l.length-(aK s).toNat);case atStart=>exact⟨0,bJ _,rfl,by intro j hj;omega,aS _ _⟩
 case round=>
  obtain⟨k,hk,rfl,hall,gB⟩:=hrel;have HA:=aA hall;have BE:=aA gB;clear hall;by_cases nH:k<l.length
  ·obtain⟨g,ea,e0,e1,e2⟩:=CE.o k wr nH gB;have HS:aZ (((l.getD k EI).1/2==i)=false->∀w',aO w.heap.size w w'->ajd l i w (ah ag ((k:Int)+1)) w'):=fun hx w' hb=>⟨k+1,by omega,by congr 1,fun j hj=>by
    by_cases e:j=k
    ·subst e;exact hx
    ·exact HA.o j (by omega),hb⟩
   have HY:aZ (((l.getD k EI).1/2==i)=true->∀w',aO w.heap.size w w'->NZ (ax (ah ag k)) w'):=fun hx w' hb=>(by rw[<-HP.o];exact⟨hb,.inr ⟨k,nH,rfl,hx,HA.o⟩⟩);have HC:=aA (LE.o (l.getD k EI) wr (hsm _ (by simp[bS,nH])) gB);generalize l.getD k EI=d at *;subst ea;obtain⟨xc,xv,xl⟩:=d;simp only at e0 e1 e2 HC HS HY;have i0:(0:Int)<=(k:Int):=(by omega);have i2:(k:Int)<(l.length:Int):=(by omega);clear gB;go_wp2_with fail;refine HC.o.mono ?_;rintro e w2 ⟨rfl,wR⟩;have B2:aZ (aO w.heap.size w w2):=BE.o.trans (wR.mono BE.o.size);clear wR e0 e1 e2;cases hq:(xc/2==i)with
   |true=>have F:=aA (HY.o hq w2 B2.o);clear HS HY hq;go_wp2_with fail;exact F.o
   |false=>have R:=aA (HS.o hq w2 B2.o);clear HS HY hq;go_wp2_with fail;exact⟨R.o,by simp[aK];omega⟩
  ·obtain rfl:k=l.length:=by omega
   have F:aZ (∀w',aO w.heap.size w w'->NZ (ax (ah ag (-1))) w'):=fun w' hb=>(by rw[<-HP.o];exact⟨hb,.inl ⟨rfl,HA.o⟩⟩);have i2:¬(l.length:Int)<(l.length:Int):=(by omega);clear gB;go_wp2_with fail;exact F.o _ BE.o
structure OT(w0:aG)(g cap n:Nat)(D:List Nt)(w:aG):Prop where
 own:w.ownsRow 0 116 3 (ay (az ⟨g,0,aj⟩) n cap) n (D.flatMap JG)
 ch:Ch (· =g) w0 w
section
variable{w0 w w':aG}{g cap n:Nat}{D:List Nt}
theorem RU(l:List Nt):(l.flatMap JG).length=l.length*3:=by
 induction l with
 |nil=>rfl
 |cons x l ih=>rw[dY,bW,ih,fw];show 3+_=_;omega
theorem OT.JF(h:OT w0 g cap n D w):∃cur,dG w g 116 cur/\n<=cap/\cap<=fJ/\cur.size=cap*3/\cur.toList.take (n*3)=D.flatMap JG:=by
 obtain⟨h1,⟨h2,_⟩|⟨g',pJ,cur,h2,hb,hg,hn,hc,hs,ht⟩⟩:=h.own
 ·injection h2 with h2;cases h2
 ·injection h2 with h2 _ h3;injection h2 with h2;injection h2 with h2;subst h2;subst h3;exact⟨cur,hg,hn,hc,hs,ht⟩
theorem OT.len(h:OT w0 g cap n D w):D.length=n:=by have h1:=h.own.1;rw[RU]at h1;omega
theorem OT.Kg(h:OT w0 g cap n D w){i j:Nat}(hi:i<n)(hj:j<3):w.cell? ⟨g,i*3+j,aj⟩=(JG (D.getD i EI))[j]?/\w.frozen? ⟨g,i*3+j,aj⟩=false:=by obtain⟨cur,hb,_,_,_,ht⟩:=h.JF;have hl:=h.len;refine⟨?_,hb.frozen _⟩;rw[hb.cell,<-pQ,<-yz (d:=EI) (m:=3) (c:=JG) (fun x=>zU x) D i j (by omega) hj,<-ht,mq,if_pos (by omega)]
theorem Qn{xs:List aJ}(h:w.ownsRow 0 116 3 (ay (az ⟨g,0,aj⟩) n cap) n xs)(i:Nat)(u:aJ):(w.setCell ⟨g,i,aj⟩ u).ownsRow 0 116 3 (ay (az ⟨g,0,aj⟩) n cap) n (xs.set i u):=by
 obtain⟨h1,⟨h2,_⟩|⟨g',pJ,cur,h2,hb,hg,hn,hc,hs,ht⟩⟩:=h
 ·injection h2 with h2;cases h2
 ·injection h2 with h2 _ h3;injection h2 with h2;injection h2 with h2;subst h2;subst h3;refine⟨by rw[jN];exact h1,.inr ⟨g,cap,cur.setIfInBounds i u,rfl,hb,(show dG w g 116 cur from hg).jy i u,hn,hc,by simpa using hs,?_⟩⟩;rw[Array.toList_setIfInBounds,List.take_set,ht]
theorem abz(l:List Nt)(i:Nat)(x:Nt)(hi:i<l.length)(v0 v1 v2:aJ)(e:JG x=[v0,v1,v2]):(((l.flatMap JG).set (i*3) v0).set (i*3+1) v1).set (i*3+2) v2=(l.set i x).flatMap JG:=by
 induction l generalizing i with
 |nil=>cases hi
 |cons y l ih=>
  cases i with
  |zero=>rw[List.set_cons_zero,dY,dY,e];rfl
  |succ i=>have:=ih i (by simpa using hi);rw[List.set_cons_succ,dY,dY,<-this];rw[show(i+1)*3=(JG y).length+i*3 by rw[zU];omega];simp only[Nat.add_assoc];rw[ik _ _ (by omega),ik _ _ (by omega),ik _ _ (by omega)];simp
theorem OT.azm(h:OT w0 g cap n D w){i:Nat}(hi:i<n)(x:Nt)(v0 v1 v2:aJ)(e:JG x=[v0,v1,v2]):OT w0 g cap n (D.set i x) (((w.setCell ⟨g,i*3,aj⟩ v0).setCell ⟨g,i*3+1,aj⟩ v1).setCell ⟨g,i*3+2,aj⟩ v2):=by refine⟨?_,((h.ch.setCell (.inl rfl) _).setCell (.inl rfl) _).setCell (.inl rfl) _⟩;have h1:=Qn (Qn (Qn h.own (i*3) v0) (i*3+1) v1) (i*3+2) v2;rw[abz D i x (by rw[h.len];exact hi) v0 v1 v2 e]at h1;exact h1
theorem OT.below(h:OT w0 g cap n D w)(hb:aO w.heap.size w w'):OT w0 g cap n D w':=
 ⟨fT h.own (Ch.dw (S:=fun _=>False) hb) (fun _ _ q=>q),h.ch.sH hb⟩
theorem Ci(z:Array aJ)(m:Nat):(mO z m).size=z.size*m:=by unfold mO;simp[Nat.mul_comm]
theorem Rh{z:Array aJ}{m:Nat}{u:aJ}(h:u∈(mO z m).toList):u∈z.toList:=by
 unfold mO at h;rw[Array.toList_map,iU]at h;obtain⟨i,hi,rfl⟩:=h;have hi:i<m*z.size:=by simpa using hi
 have hs:0<z.size:=Nat.pos_of_ne_zero fun e=>by rw[e]at hi;omega
 have hm:i%z.size<z.size:=Nat.mod_lt _ hs;rw[getElem!_pos z _ hm];exact Array.getElem_mem_toList hm
theorem Qx{P:Program}(w:aG)(t e ty:dP)(z:aJ)(ht:P.underlying t=az (.slice e))(hv:∀w,(zeroValue e).run P w=.ok z w)(h1:∀u∈z.cells.toList,u.oneCell'=true)(g o m c:Nat)(hm:0<m)(cur:Array aJ)(hh:w.heap[g]?=az (.cells cur e (0,0)))(QW:o+z.cells.size*m<=cur.size):(EM #[t] ty #[ay (az ⟨g,o,aj⟩) m c]).run P w=.ok (.tuple #[]) (w.setRow g (cur.toList.take o++(mO z.cells m).toList++cur.toList.drop (o+z.cells.size*m)).toArray):=by have Cv:=run_storeCells_at P g o e (mO z.cells m).toList 0 cur w hh (by rw[mZ,Ci];simpa using QW) (by intro v hv';exact h1 v (Rh hv'));rw[mZ,Ci]at Cv;simp only[ma]at Cv;obtain⟨m,rfl⟩:∃q,m=q+1:=⟨m-1,by omega⟩;simp[EM,run_underlying ht,hv,Cv]
end
theorem Sk(l:List Nt)(i k:Nat)(hk:k<l.length):jJ i (l.take (k+1))=if((l.getD k EI).1/2==i)=true then jJ i (l.take k)else jJ i (l.take k)++[l.getD k EI]:=by
 unfold jJ;have e:l.getD k EI=l[k]:=by simp[bS,hk]
 rw[e,oh,cZ hk,Option.toList_some,ji];cases h:(l[k].1/2==i)with
 |true=>simp[h,bne]
 |false=>simp[h,bne]
def Zy(l:List Nt)(i:Nat)(w0:aG)(g cap:Nat)(m j:aJ)(wr:aG):Prop:=∃(k q:Nat) (D:List Nt),q<k/\k<=l.length/\m=ah ag q/\j=ah ag k/\jJ i (l.take k)=D.take q/\D.drop k=l.drop k/\OT w0 g cap l.length D wr
theorem ank(w:aG):(zeroValue 116).run aH w=.ok (.agg #[ah ag 0,ah ag 0,ah ag 0]) w:=by obtain⟨i0,hi0,wE,uY,wN⟩:=eQ Jg;simp[zeroValue,typeInfo,hi0,wE]
theorem Yg(l:List Nt)(q:Nat):(l.flatMap JG).take (q*3)=(l.take q).flatMap JG:=by
 induction l generalizing q with
 |nil=>simp
 |cons x l ih=>
  cases q with
  |zero=>simp
  |succ q=>rw[List.take_succ_cons,dY,dY,<-ih,show(q+1)*3=(JG x).length+q*3 by rw[zU];omega,List.take_length_add_append]
theorem OT.cut{w0 w:aG}{g cap n:Nat}{D:List Nt}(h:OT w0 g cap n D w){q:Nat}(hq:q<n):∃w',(∀ty,(EM #[114] ty #[ay (az ⟨g,q*3,aj⟩) (n-q) (cap-q)]).run aH w=.ok (.tuple #[]) w')/\OT w0 g cap q (D.take q) w':=by
 obtain⟨cur,hb,hn,hc,hs,ht⟩:=h.JF;have hl:=h.len;have fit:q*3+3*(n-q)<=cur.size:=by rw[hs];omega
 have run:=fun ty=>Qx w 114 116 ty (.agg #[ah ag 0,ah ag 0,ah ag 0]) underlying114 ank (by intro u hu;simp[Value.cells]at hu;rcases hu with rfl|rfl|rfl<;>rfl) g (q*3) (n-q) (cap-q) (by omega) cur hb fit;obtain⟨zs,hzs⟩:∃zs,(mO (Lx #[ah ag 0,ah ag 0,ah ag 0]).cells (n-q)).toList=zs:=⟨_,rfl⟩;have lz:zs.length=3*(n-q):=by rw[<-hzs,mZ,Ci];rfl
 rw[hzs]at run;obtain⟨C,hC⟩:∃C,(cur.toList.take (q*3)++zs++cur.toList.drop (q*3+(Lx #[ah ag 0,ah ag 0,ah ag 0]).cells.size*(n-q))).toArray=C:=⟨_,rfl⟩;rw[hC]at run;have e3:(Lx #[ah ag 0,ah ag 0,ah ag 0]).cells.size=3:=rfl;rw[e3]at hC;refine⟨w.setRow g C,run,⟨by rw[RU,iG];omega,.inr ⟨g,cap,C,rfl,bJ _,?_,by omega,hc,?_,?_⟩⟩,?_⟩
 ·exact setRow_heap w g cur C _ _ hb
 ·rw[<-hC];simp[lz];omega
 ·rw[<-hC];show List.take (q*3) (cur.toList.take (q*3)++zs++cur.toList.drop (q*3+3*(n-q)))=_;rw[jX,List.take_append_of_le_length (by simp;omega),Fj,Nat.min_self];have:=congrArg (List.take (q*3)) ht;rw[Fj,Nat.min_eq_left (by omega)]at this;rw[this,Yg]
 ·exact h.ch.trans (S':=(· =g)) ⟨rfl,rfl,rfl,by simp,fun k hk hn=>setRow_other w g k C hn⟩ fun _ _ q=>q
def aax(τv:aJ)(l:List Nt)(i:Nat)(w:aG)(e:iL)(w':aG):Prop:=∃v',e=ax v'/\JU w' v' (jJ i l)/\v'.ownBlock=τv.ownBlock/\Ch (fun k=>τv.ownBlock=az k) w w'
theorem aeF(l:List Nt)(i bi:Nat)(v:aJ)(w:aG)(hl:l.length<=1000000000)(hsm:∀x∈l,x.1<1000000)(h:JU w v l)(hb:dG w bi 3 #[ah ag (i:Int)]):di aH 59 #[v,.func (.func 60) #[] #[au (az ⟨bi,0,aj⟩)]] w (aax v l i w):=by
 have IX:=aeY l i bi v w hl hsm h (hb.cell 0);by_cases hall:∀j,j<l.length->((l.getD j EI).1/2==i)=false
 ·have IX2:aZ (di aH 101 #[v,.func (.func 60) #[] #[au (az ⟨bi,0,aj⟩)]] w fun e w'=>e=ax (ah ag (-1))/\aO w.heap.size w w'):=IX.mono fun e w' q=>by
   rcases q.2 with⟨q1,_⟩|⟨k,hk,_,q2,_⟩
   ·exact⟨q1,q.1⟩
   ·rw[hall k hk]at q2;cases q2
  have E:jJ i l=l:=by unfold jJ;rw[yX];intro x hx;obtain⟨j,hj,rfl⟩:=um hx;have:=hall j hj;simp only[dN,cZ hj,iy]at this;simp only[bne,this];rfl
  have jm:aZ (∀w',aO w.heap.size w w'->aax v l i w (ax v) w'):=fun w' hw=>⟨v,rfl,by rw[E];exact fT h (Ch.dw (S:=fun _=>False) hw) (fun _ _ q=>q),rfl,Ch.dw hw⟩;obtain⟨a,c,eV⟩:=dX h;subst eV;clear h hb IX E hall;generalize aax (ay a l.length c) l i w=NZ at *;go_enter func59,ntmps59;go_wp2_with (first|(go_at_call 101;(with_reducible refine IX2.o.mono ?_);rintro e w2 ⟨rfl,wR⟩;have B2:=aA wR;clear wR));exact jm.out _ B2.o
 ·obtain⟨k0,NU,hd0,amd⟩:∃k,k<l.length/\((l.getD k EI).1/2==i)=true/\∀j,j<k->((l.getD j EI).1/2==i)=false:=by
   simp only[EO]at hall;obtain⟨j,hj,hq⟩:=hall;have hq:((l.getD j EI).1/2==i)=true:=by simpa using hq
   induction j using Nat.strongRecOn with
   |ind j ih=>
    by_cases h':∀m,m<j->((l.getD m EI).1/2==i)=false
    ·exact⟨j,hj,hq,h'⟩
    ·simp only[EO]at h';obtain⟨m,hm,Iq⟩:=h';have Iq:((l.getD m EI).1/2==i)=true:=(by simpa using Iq);exact ih m hm (by omega) (by simpa using Iq) Iq
  have IX2:aZ (di aH 101 #[v,.func (.func 60) #[] #[au (az ⟨bi,0,aj⟩)]] w fun e w'=>e=ax (ah ag k0)/\aO w.heap.size w w'):=IX.mono fun e w' q=>by
   rcases q.2 with⟨_,q1⟩|⟨k,hk,q1,q2,q3⟩
   ·rw[q1 k0 NU]at hd0;cases hd0
   ·have:k=k0:=by
     rcases Nat.lt_trichotomy k k0 with r|r|r
     ·rw[amd k r]at q2;cases q2
     ·exact r
     ·rw[q3 k0 r]at hd0;cases hd0
    rw[this]at q1;exact⟨q1,q.1⟩
  obtain⟨g,cap,eV⟩:∃g cap,v=ay (az ⟨g,0,aj⟩) l.length cap:=by obtain⟨g,cap,e1,_⟩:=qf (d:=EI) zU h rfl NU;exact⟨g,cap,e1⟩
  subst eV;have O0:OT w g cap l.length l w:=⟨h,Ch.refl _ _⟩;have nJ:bi≠g:=by obtain⟨cur,hg,_⟩:=O0.JF;exact dG.sZ hb hg (by decide)
  have CAP:aZ (l.length<=cap):=by obtain⟨cur,hg,q,_⟩:=O0.JF;exact q
  have BI:aZ (∀D wr,OT w g cap l.length D wr->wr.cell? ⟨bi,0,aj⟩=az (ah ag (i:Int))):=fun D wr o=>(hb.ch o.ch nJ).cell 0;have CC:aZ (∀(x:Nt) D w1 w',x.1<1000000->OT w g cap l.length D w1->aO w1.heap.size w1 w'->di aH 60 #[.agg #[ah ag x.1,ah ag x.2.1,ah ag x.2.2],au (az ⟨bi,0,aj⟩)] w' fun e w''=>e=ax (.bool (x.1/2==i))/\aO w'.heap.size w' w''):=fun x D w1 w' hx o hw=>
   Vm x i bi w' hx ((hw.cell (p:=⟨bi,0,aj⟩) (aY _ _ (BI.o D w1 o))).trans (BI.o D w1 o))
  have jm:aZ (∀w',OT w g cap (jJ i l).length (jJ i l) w'->aax (ay (az ⟨g,0,aj⟩) l.length cap) l i w (ax (ay (az ⟨g,0,aj⟩) (jJ i l).length cap)) w'):=fun w' o=>
   ⟨_,rfl,o.own,rfl,o.ch.mono fun k _ e=>by rw[e];rfl⟩
  have ST:aZ (∀w',aO w.heap.size w w'->Zy l i w g cap (ah ag k0) (ah ag ((k0:Int)+1)) w'):=fun w' hw=>⟨k0+1,k0,l,by omega,NU,rfl,by congr 1,by
   rw[Sk l i k0 NU,if_pos hd0];unfold jJ;rw[yX];intro x hx;obtain⟨j,hj,rfl⟩:=um hx;rw[iG]at hj;have:=amd j (by omega);have hj2:j<l.length:=by omega
   simp only[dN,cZ hj2,iy]at this;rw[List.getElem_take];simp only[bne,this];rfl,rfl,O0.below hw⟩
  have k00:(0:Int)<=(k0:Int):=by omega
  have kne:((k0:Int)==-1)=false:=by simp
  have aHR:(k0:Int)+1<=1000000001:=by omega
  clear h hb IX hall hd0 amd O0;generalize aax (ay (az ⟨g,0,aj⟩) l.length cap) l i w=NZ at *;go_enter func59,ntmps59;go_wp2_with (first|(go_at_call 101;(with_reducible refine IX2.o.mono ?_);rintro e w2 ⟨rfl,wR⟩;have B2:=aA wR;clear wR));go_loopw [5,6,7] (fun m j _ wr=>Zy l i w g cap m j wr) (fun _ j _ _=>l.length-(aK j).toNat);case atStart=>exact ST.o _ B2.o
  case round=>
   obtain⟨k,q,D,hqk,hk,rfl,rfl,e1,e2,o⟩:=hrel;have O:=aA o;have DL:=o.len;by_cases nH:k<l.length
   ·have ekd:D.getD k EI=l.getD k EI:=by
     have h1:(D.drop k).getD 0 EI=(l.drop k).getD 0 EI:=(by rw[e2]);simpa[bS,List.getElem?_drop]using h1
    obtain⟨z0,_⟩:=o.Kg (i:=k) (j:=0) nH (by decide);obtain⟨z1,_⟩:=o.Kg (i:=k) (j:=1) nH (by decide);obtain⟨z2,_⟩:=o.Kg (i:=k) (j:=2) nH (by decide);rw[ekd]at z0 z1 z2;simp only[JG,ma,dO,fP]at z0 z1 z2;have sn:=Sk l i k nH;have hx1:=hsm (l.getD k EI) (by simp[bS,nH]);have DROP:D.drop (k+1)=l.drop (k+1):=by
     have h1:=congrArg (List.drop 1) e2
     rwa [List.drop_drop,List.drop_drop]at h1
    have YES:aZ (((l.getD k EI).1/2==i)=true->∀w',aO wr.heap.size wr w'->Zy l i w g cap (ah ag q) (ah ag ((k:Int)+1)) w'):=fun hq w' hw=>⟨k+1,q,D,by omega,by omega,rfl,by congr 1,by rw[sn,if_pos hq];exact e1,DROP,o.below hw⟩;have NO:aZ (((l.getD k EI).1/2==i)=false->∀w',aO wr.heap.size wr w'->∀v0 v1 v2,JG (l.getD k EI)=[v0,v1,v2]->Zy l i w g cap (ah ag ((q:Int)+1)) (ah ag ((k:Int)+1)) (((w'.setCell ⟨g,q*3,aj⟩ v0).setCell ⟨g,q*3+1,aj⟩ v1).setCell ⟨g,q*3+2,aj⟩ v2)):=fun hq w' hw v0 v1 v2 ev=>⟨k+1,q+1,D.set q (l.getD k EI),by omega,by omega,by congr 1,by congr 1,by rw[sn,hq,if_neg (by decide),e1,oh,List.take_set_of_le (by omega),lK,if_pos rfl,if_pos (by omega)];rfl,by rw[List.drop_set_of_lt (by omega)];exact DROP,(o.below hw).azm (by omega) _ v0 v1 v2 ev⟩;have HC:=aA (CC.o (l.getD k EI) D wr);have WR:=aA (fun w' (hw:aO wr.heap.size wr w')=>(o.below hw).Kg (i:=q) (j:=0) (by omega) (by decide));have WR1:=aA (fun w' (hw:aO wr.heap.size wr w')=>(o.below hw).Kg (i:=q) (j:=1) (by omega) (by decide));have WR2:=aA (fun w' (hw:aO wr.heap.size wr w')=>(o.below hw).Kg (i:=q) (j:=2) (by omega) (by decide));generalize l.getD k EI=d at *;obtain⟨xc,xv,xl⟩:=d;simp only at z0 z1 z2 HC YES NO hx1;have i0:(0:Int)<=(k:Int):=(by omega);have i2:(k:Int)<(l.length:Int):=(by omega);have j0:(0:Int)<=(q:Int):=(by omega);have j2:(q:Int)<(l.length:Int):=(by omega);clear e1 e2 ekd sn DROP o;go_wp2_with fail;obtain⟨wA,hwA⟩:∃wA:aG,wr.alloc (af #[ah ag xc,ah ag xv,ah ag xl] 116)=wA:=⟨_,rfl⟩;have BA:aZ (aO wr.heap.size wr wA):=(by rw[<-hwA];exact(aS _ _).alloc (aC _) _);have VA:aZ (dG wA wr.heap.size 116 #[ah ag xc,ah ag xv,ah ag xl]):=(by rw[<-hwA];exact dG.new wr _ _);rw[hwA];refine(HC.o wA hx1 O.o BA.o).mono ?_;rintro e w2 ⟨rfl,wR⟩;have B2:aZ (aO wr.heap.size wr w2):=BA.o.trans (wR.mono BA.o.size);have V2:=VA.o.below wR VA.o.lt;have y0:=V2.cell 0;have y1:=V2.cell 1;have y2:=V2.cell 2;obtain⟨u0,f0⟩:=WR.o w2 B2.o;obtain⟨u1,f1⟩:=WR1.o w2 B2.o;obtain⟨u2,f2⟩:=WR2.o w2 B2.o;simp only[ma,JG,dO,fP]at f0 u0 u1 u2;generalize D.getD q EI=dq at *;clear wR hwA z0 z1 z2 V2;cases hq:(xc/2==i)with
    |true=>have R:=aA (YES.o hq w2 B2.o);clear YES NO hq;go_wp2_with fail;exact⟨R.o,by simp[aK];omega⟩
    |false=>have R:=aA (NO.o hq w2 B2.o _ _ _ rfl);clear YES NO hq;go_wp2_with fail;exact⟨R.o,by simp[aK];omega⟩
   ·have hke:k=l.length:=by omega
    subst hke;rw[fB]at e1;have lo:(jJ i l).length=q:=by rw[e1,iG];omega
    obtain⟨w',hcl,o2⟩:=o.cut (q:=q) hqk;rw[<-e1]at o2;have F:=jm.out;rw[lo]at F;have FN:=aA (F w' o2);have cne:¬cap=q:=(by have:=CAP.o;omega);have q0:(0:Int)<=(q:Int):=(by omega);have q1:(q:Int)<=(l.length:Int):=(by omega);have q2:(q:Int)<=(cap:Int):=(by have:=CAP.o;omega);clear e1 e2 o o2 F lo;go_wp2_with fail;exact FN.o
end
end Go.Proofs.YtnjjkgjdhljfnaaGreat
