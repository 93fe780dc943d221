/- Part 7. -/
import Derived.Deep.DrawnRows
import Derived.Test.YtnjjkgjdhljfnaaGreatPk3
open Go.Proofs.Tryz
open Array renaming any_eq_true->AZ,ext'->tu,getElem?_eq_none->jF,getElem_mem->Ba,setIfInBounds_comm->Bu
open Bool renaming and_eq_true->dD,eq_iff_iff->kH,or_eq_true->jd
open Go renaming Addr->fE,Calls->di,Ending->iL,TypeId->dP,Value->aJ,World->aG,info_parts->eQ,maxLen->fJ,wp_at_succ->fK,wp_at_zero->fM
open Go.Callee renaming value->kU
open Go.Ending renaming returned->ax
open Go.IntKind renaming i64->ag
open Go.IntWalk renaming i64_in->fH
open Go.Lib renaming hid->aA
open Go.Lit renaming int->jo
open Go.Obj renaming cells->af
open Go.Op renaming call->sV
open Go.Oper renaming wp->jR
open Go.Operand renaming func->kW
open Go.Proofs.Tryz renaming prog->aH
open Go.Region renaming Mode->ru,binds->qo,free->Fs,noSelect->yN,noSelect_spec->Fu,ready->jq,wanted->eZ
open Go.RowKit renaming Below->aO,Hid->aZ,intOf->aK
open Go.RowKit.Below renaming refl->aS
open Go.Value renaming bool->kv,int->ah,ownBlock->eO,pointer->au,slice->ay
open Go.World renaming block_lt_of_cell?->aY,cell?_setCell_other->lh,new_ne->Di,news_of_block->uo,ownsRow_nil->dR,setCell->iJ
open Int renaming toNat_natCast->cO
open List renaming foldl_append->fV,getD->bS,getElem?_append->yf,getElem?_append_right->ku,getElem?_cons_succ->fP,getElem?_cons_zero->dO,getElem?_map->cK,getElem?_range->eu,getElem?_replicate->gD,getElem?_toArray->dJ,length_map->dW,map_append->fF,mem_cons->dM,mem_cons_of_mem->dx,mem_flatMap->gZ,mem_map->iU,mem_range->dK,mem_singleton->dh,nil_append->kK,not_mem_nil->dZ,range->aN,range_succ->dL,replicate->aQ,replicate_succ->oI,setIfInBounds_toArray->gI,set_append_right->ik,set_eq_of_length_le->nI
open Nat renaming le_refl->aC,lt_of_lt_of_le->bY,lt_or_ge->jG,mod_lt->nE,sub_self->JR,zero_add->rG,zero_le->bJ
open Option renaming none->aj,some->az
set_option maxRecDepth 100000
set_option maxHeartbeats 16000000
set_option linter.unusedVariables false
set_option linter.unusedSimpArgs false
namespace Go.Proofs.YtnjjkgjdhljfnaaGreat
open Go.RowKit Go.Maps
section
attribute [local go_sem ↓] fM fK
def gvC(x:Gv):Array aJ:=#[ah ag x.room,ah ag x.wU,ah ag x.yA]
def tkC(x:Tk):Array aJ:=#[ah ag x.wV,ah ag x.lim]
def GvP(h:Nat)(w:aG)(v:Int)(x':Gv)(e:iL)(w':aG):Prop:=e=ax (ah ag v)/\dG w' h 206 (gvC x')/\Ch (· =h) w w'
def TkP(h:Nat)(w:aG)(v:Int)(x':Tk)(e:iL)(w':aG):Prop:=e=ax (ah ag v)/\dG w' h 228 (tkC x')/\Ch (· =h) w w'
theorem FI(xr xc xf:Int)(w:aG)(h:0<=xr/\xr<=1000000)(h2:0<=xf/\xf<=1000000000000):di aH 121 #[.agg #[ah ag xr,ah ag xc,ah ag xf]] w fun e w'=>e=ax (ah ag (xr+xf))/\w.alloc (af #[ah ag xr,ah ag xc,ah ag xf] 206)=w':=by have q1:IntKind.i64.wrap (xr+xf)=xr+xf:=fH _ (by omega);clear h h2;go_enter func121,ntmps121;go_wp2_with fail;go_ret;exact⟨rfl,rfl⟩
def GM(x:Gv):Int:=if x.nP<=x.wU then 5 else 0
theorem Ps(x:Gv)(q N:Nat)(h:Nat)(w:aG)(hx:Xc x q N)(hN:N<=1000000000000)(hb:dG w h 206 (gvC x)):di aH 120 #[au (az ⟨h,0,aj⟩)] w (GvP h w (GM x) x.rR.1):=by
 obtain⟨xr,xc,xf⟩:=x;obtain⟨r0,r1,f0,f1,n1,full⟩:=hx;simp only at r0 r1 f0 f1 n1 full;have z0:0<=xc:=by omega
 have z1:xc<=1000000000000:=by omega
 have z2:xf<=1000000000000:=by omega
 clear f1 n1 full hN;have HB:=aA hb;have c0:w.cell? ⟨h,0,aj⟩=az (ah ag xr):=hb.cell 0;have c1:w.cell? ⟨h,0+1,aj⟩=az (ah ag xc):=hb.cell 1;have c2:w.cell? ⟨h,0+1+1,aj⟩=az (ah ag xf):=hb.cell 2;have fr:w.frozen? ⟨h,0+1,aj⟩=false:=hb.frozen 1;have lt:=hb.lt;have ne:¬h=w.heap.size:=by omega
 clear hb;have n0:=Di w ⟨h,0,aj⟩ c0;have n1':=Di w ⟨h,0+1,aj⟩ c1;have n2':=Di w ⟨h,0+1+1,aj⟩ c2;have e1:GM ⟨xr,xc,xf⟩=if xr+xf<=xc then 5 else 0:=rfl
 have e2:(⟨xr,xc,xf⟩:Gv).rR.1=if xr+xf<=xc then⟨xr,xc,xf⟩else⟨xr,xc+1,xf⟩:=by unfold Gv.rR Gv.nP;simp only;split<;>rfl
 have q1:IntKind.i64.wrap (xc+1)=xc+1:=fH _ (by omega);by_cases hf:xr+xf<=xc
 ·rw[if_pos hf]at e1 e2;rw[e1,e2];clear e1 e2;go_enter func120,ntmps120;go_wp2_with fail;go_region_held3 (fun w'=>w'.cell? ⟨h,0,aj⟩=az (ah ag xr)/\w'.cell? ⟨h,0+1,aj⟩=az (ah ag xc)/\w'.cell? ⟨h,0+1+1,aj⟩=az (ah ag xf)) (go_keep)
   (first|(go_at_call 121;refine(FI xr xc xf _ (by omega) (by omega)).mono ?_;rintro e w' ⟨rfl,rfl⟩))
  all_goals go_wp2_with fail
  all_goals go_ret
  all_goals exact⟨rfl,(HB.o.drew.alloc _),((Ch.refl _ w).drew.alloc _)⟩
 ·rw[if_neg hf]at e1 e2;rw[e1,e2];clear e1 e2;go_enter func120,ntmps120;go_wp2_with fail;go_region_held3 (fun w'=>w'.cell? ⟨h,0,aj⟩=az (ah ag xr)/\w'.cell? ⟨h,0+1,aj⟩=az (ah ag xc)/\w'.cell? ⟨h,0+1+1,aj⟩=az (ah ag xf)) (go_keep)
   (first|(go_at_call 121;refine(FI xr xc xf _ (by omega) (by omega)).mono ?_;rintro e w' ⟨rfl,rfl⟩))
  all_goals go_wp2_with fail
  all_goals go_ret
  all_goals exact⟨rfl,((HB.o.jy 1 _).alloc _).drew,(((Ch.refl (· =h) w).setCell (p:=⟨h,1,aj⟩) (.inl rfl) _).alloc _).drew⟩
theorem QV(x:Gv)(q N:Nat)(g h:Nat)(w:aG)(hx:Xc x q N)(hN:N<=1000000000000)(hg:EY w g h x):di aH 93 #[au (az ⟨g,0,aj⟩),ah ag 0] w (GvP h w (GM x) x.rR.1):=by
 have c0:w.cell? ⟨g,0,aj⟩=az (ay (az ⟨h,0,aj⟩) 1 1):=hg.p.cell 0;have HC:=aA (Ps x q N h w hx hN hg.c);clear hg hx;generalize GM x=v at HC|-;generalize x.rR.1=x' at HC|-;go_enter func93,ntmps93;go_wp2_with (first|(go_at_call 120;refine HC.o.mono ?_;rintro e w' ⟨rfl,b1,b2⟩;have B1:=aA b1;have B2:=aA b2;clear b1 b2)|go_in);all_goals go_ret
 all_goals exact⟨rfl,B1.o,B2.o⟩
theorem VI(x:Gv)(q N:Nat)(h:Nat)(w:aG)(hx:Xc x q N)(hN:N<=1000000000000)(hq:0<q)(hb:dG w h 206 (gvC x)):di aH 175 #[au (az ⟨h,0,aj⟩)] w (GvP h w 0 x.free):=by
 obtain⟨xr,xc,xf⟩:=x;obtain⟨r0,r1,f0,f1,n1,full⟩:=hx;simp only at r0 r1 f0 f1 n1 full;have e2:(⟨xr,xc,xf⟩:Gv).free=⟨xr,xc,xf+1⟩:=by unfold Gv.free;simp only;rw[if_neg (by omega)]
 rw[e2];clear e2;have z3:xf<xc:=by omega
 have z2:xf<=1000000000000:=by omega
 have q1:IntKind.i64.wrap (xf+1)=xf+1:=fH _ (by omega);clear f1 n1 full hN;have HB:=aA hb;have c1:w.cell? ⟨h,0+1,aj⟩=az (ah ag xc):=hb.cell 1;have c2:w.cell? ⟨h,0+1+1,aj⟩=az (ah ag xf):=hb.cell 2;have fr:w.frozen? ⟨h,0+1+1,aj⟩=false:=hb.frozen 2;clear hb;go_enter func175,ntmps175;go_wp2_with fail;go_quiet (fail);go_wp2_with fail;go_ret;exact⟨rfl,(HB.o.jy 2 _).drewN _,((Ch.refl (· =h) w).setCell (p:=⟨h,2,aj⟩) (.inl rfl) _).drewN _⟩
theorem Yn(x:Gv)(q N:Nat)(g h:Nat)(w:aG)(hx:Xc x q N)(hN:N<=1000000000000)(hq:0<q)(hg:EY w g h x):di aH 152 #[au (az ⟨g,0,aj⟩),ah ag 0] w (GvP h w 0 x.free):=by
 have c0:w.cell? ⟨g,0,aj⟩=az (ay (az ⟨h,0,aj⟩) 1 1):=hg.p.cell 0;have HC:=aA (VI x q N h w hx hN hq hg.c);clear hg hx;generalize x.free=x' at HC|-;go_enter func152,ntmps152;go_wp2_with (first|(go_at_call 175;refine HC.o.mono ?_;rintro e w' ⟨rfl,b1,b2⟩;have B1:=aA b1;have B2:=aA b2;clear b1 b2)|go_in);all_goals go_ret
 all_goals exact⟨rfl,B1.o,B2.o⟩
theorem Yo(x:Gv)(q N:Nat)(h v:Nat)(w:aG)(hx:Xc x q N)(hN:N<=1000000000000)(hb:dG w h 206 (gvC x))(u:aJ)(hv:dG w v 3 #[u]):di aH 157 #[au (az ⟨h,0,aj⟩),au (az ⟨v,0,aj⟩)] w fun e w'=>e=ax (ah ag 0)/\dG w' v 3 #[ah ag x.nP]/\Ch (· =v) w w':=by
 obtain⟨xr,xc,xf⟩:=x;obtain⟨r0,r1,f0,f1,n1,full⟩:=hx;simp only at r0 r1 f0 f1 n1 full;show di _ _ _ _ fun e w'=>e=ax (ah ag 0)/\dG w' v 3 #[ah ag (xr+xf)]/\Ch (· =v) w w';have z2:xf<=1000000000000:=by omega
 clear f1 n1 full hN;have HB:=aA hb;have HV:=aA hv;have c0:w.cell? ⟨h,0,aj⟩=az (ah ag xr):=hb.cell 0;have c1:w.cell? ⟨h,0+1,aj⟩=az (ah ag xc):=hb.cell 1;have c2:w.cell? ⟨h,0+1+1,aj⟩=az (ah ag xf):=hb.cell 2;have fr:w.frozen? ⟨v,0,aj⟩=false:=hv.frozen 0;have cv:w.cell? ⟨v,0,aj⟩=az u:=hv.cell 0;have lt:=hv.lt;have ne:¬v=w.heap.size:=by omega
 have nn:=Di w ⟨v,0,aj⟩ cv;clear hb hv;go_enter func157,ntmps157;go_wp2_with (first|(go_at_call 121;refine(FI xr xc xf _ (by omega) (by omega)).mono ?_;rintro e w' ⟨rfl,rfl⟩));go_ret;exact⟨rfl,((HV.o.jy 0 _).alloc _),((Ch.refl (· =v) w).setCell (p:=⟨v,0,aj⟩) (.inl rfl) _).alloc _⟩
theorem abL(x:Gv)(q N:Nat)(g h:Nat)(w:aG)(hx:Xc x q N)(hN:N<=1000000000000)(hg:EY w g h x):di aH 133 #[au (az ⟨g,0,aj⟩),ah ag 0] w fun e w'=>e=ax (ah ag x.nP)/\aO w.heap.size w w':=by
 obtain⟨w1,gK⟩:∃w1:aG,w.alloc (af #[ah ag 0] 3)=w1:=⟨_,rfl⟩;have BV:aZ (dG w1 w.heap.size 3 #[ah ag 0]):=by rw[<-gK];exact dG.new w _ _
 have BW:aZ (aO w.heap.size w w1):=by rw[<-gK];exact(aS _ _).alloc (aC _) _
 have gp:=hg.p.below BW.o hg.p.lt;have gc:=hg.c.below BW.o hg.c.lt;have c0:w1.cell? ⟨g,0,aj⟩=az (ay (az ⟨h,0,aj⟩) 1 1):=gp.cell 0;have HC:=aA (Yo x q N h w.heap.size w1 hx hN gc _ BV.o);have HW:=aA gK;clear gK hg hx gp gc;generalize x.nP=l at HC|-;go_enter func133,ntmps133;go_wp2_with (first|(go_at_call 157;refine HC.o.mono ?_;rintro e w' ⟨rfl,b1,b2⟩;have cl:=b1.cell 0;have B1:=aA b1;have B2:=aA b2;clear b1 b2)|(go_at_call 119;rw[HW.o];go_in));all_goals go_ret
 all_goals exact⟨rfl,BW.o.trans (B2.o.below (by exact BW.o.size) (by rintro k rfl;exact aC _))⟩
theorem Ur(x:Tk)(N:Nat)(l:Int)(h v:Nat)(w:aG)(hx:QP x N)(hN:N<=1000000000000)(hl:(jo .i64 l).wf=true)(hb:dG w h 228 (tkC x))(hv:dG w v 3 #[ah ag l]):di aH 123 #[au (az ⟨h,0,aj⟩),au (az ⟨v,0,aj⟩)] w fun e w'=>(∃c:Int,e=ax (ah ag c))/\dG w' h 228 (tkC (x.raise l))/\Ch (· =h) w w':=by
 obtain⟨xs,xl⟩:=x;obtain⟨s0,s1,l0,l1,le⟩:=hx;simp only at s0 s1 l0 l1 le;have HB:=aA hb;have c0:w.cell? ⟨h,0,aj⟩=az (ah ag xs):=hb.cell 0;have c1:w.cell? ⟨h,0+1,aj⟩=az (ah ag xl):=hb.cell 1;have fr:w.frozen? ⟨h,0+1,aj⟩=false:=hb.frozen 1;have cv:w.cell? ⟨v,0,aj⟩=az (ah ag l):=hv.cell 0;clear hb hv;by_cases h0:l<0
 ·have e:(⟨xs,xl⟩:Tk).raise l=⟨xs,xl⟩:=by unfold Tk.raise;rw[if_pos (.inl h0)]
  rw[e];clear e;go_enter func123,ntmps123;go_wp2_with fail;go_ret;exact⟨⟨_,rfl⟩,HB.o,Ch.refl _ _⟩
 ·by_cases h1:1099511627776<l
  ·have e:(⟨xs,xl⟩:Tk).raise l=⟨xs,xl⟩:=by unfold Tk.raise;rw[if_pos (.inr h1)]
   rw[e];clear e;go_enter func123,ntmps123;go_wp2_with fail;go_ret;exact⟨⟨_,rfl⟩,HB.o,Ch.refl _ _⟩
  ·have e:(⟨xs,xl⟩:Tk).raise l=⟨xs,max xl l⟩:=by unfold Tk.raise;rw[if_neg (by omega)]
   rw[e];clear e;have q0:0<=l:=by omega
   have q1:l<=1099511627776:=(by omega);by_cases hm:xl<l
   ·rw[Int.max_eq_right (by omega)];go_enter func123,ntmps123;go_wp2_with fail;go_region;all_goals go_wp2_with fail
    all_goals go_ret
    all_goals exact⟨⟨_,rfl⟩,(HB.o.jy 1 _).drew,((Ch.refl (· =h) w).setCell (p:=⟨h,1,aj⟩) (.inl rfl) _).drew⟩
   ·rw[Int.max_eq_left (by omega)];go_enter func123,ntmps123;go_wp2_with fail;go_region;all_goals go_wp2_with fail
    all_goals go_ret
    all_goals exact⟨⟨_,rfl⟩,(HB.o.jy 1 _).drew,((Ch.refl (· =h) w).setCell (p:=⟨h,1,aj⟩) (.inl rfl) _).drew⟩
theorem WE(x:Tk)(N:Nat)(l:Int)(g h:Nat)(w:aG)(hx:QP x N)(hN:N<=1000000000000)(hl:(jo .i64 l).wf=true)(hg:Lu w g h x):di aH 94 #[au (az ⟨g,0,aj⟩),ah ag 0,ah ag l] w fun e w'=>(∃c:Int,e=ax (ah ag c))/\dG w' h 228 (tkC (x.raise l))/\Ch (· =h) w w':=by
 obtain⟨w1,gK⟩:∃w1:aG,w.alloc (af #[ah ag l] 3)=w1:=⟨_,rfl⟩;have BV:aZ (dG w1 w.heap.size 3 #[ah ag l]):=by rw[<-gK];exact dG.new w _ _
 have BW:aZ (aO w.heap.size w w1):=by rw[<-gK];exact(aS _ _).alloc (aC _) _
 have gp:=hg.p.below BW.o hg.p.lt;have gc:=hg.c.below BW.o hg.c.lt;have c0:w1.cell? ⟨g,0,aj⟩=az (ay (az ⟨h,0,aj⟩) 1 1):=gp.cell 0;have HC:=aA (Ur x N l h w.heap.size w1 hx hN hl gc BV.o);have HW:=aA gK;clear gK hg hx gp gc;generalize x.raise l=x' at HC|-;go_enter func94,ntmps94;go_wp2_with (first|(go_at_call 123;refine HC.o.mono ?_;rintro e w' ⟨⟨c,rfl⟩,b1,b2⟩;have B1:=aA b1;have B2:=aA b2;clear b1 b2)|(go_at_call 122;rw[HW.o];go_in));all_goals go_ret
 all_goals exact⟨⟨_,rfl⟩,B1.o,(Ch.dw BW.o).trans B2.o (fun i _ q=>q)⟩
theorem WG(x:Tk)(N:Nat)(h:Nat)(w:aG)(hx:QP x N)(hN:N<=1000000000000)(tL:x.wV<x.lim)(hb:dG w h 228 (tkC x)):di aH 156 #[au (az ⟨h,0,aj⟩)] w (TkP h w 0 x.take):=by
 obtain⟨xs,xl⟩:=x;obtain⟨s0,s1,l0,l1,le⟩:=hx;simp only at s0 s1 l0 l1 le tL;have e:(⟨xs,xl⟩:Tk).take=⟨xs+1,xl⟩:=by unfold Tk.take;simp only;rw[if_neg (by omega)]
 rw[e];clear e;have q1:IntKind.i64.wrap (xs+1)=xs+1:=fH _ (by omega);have HB:=aA hb;have c0:w.cell? ⟨h,0,aj⟩=az (ah ag xs):=hb.cell 0;have c1:w.cell? ⟨h,0+1,aj⟩=az (ah ag xl):=hb.cell 1;have fr:w.frozen? ⟨h,0,aj⟩=false:=hb.frozen 0;clear hb;go_enter func156,ntmps156;go_wp2_with fail;go_quiet (fail);go_wp2_with fail;go_ret;exact⟨rfl,(HB.o.jy 0 _).drewN _,((Ch.refl (· =h) w).setCell (p:=⟨h,0,aj⟩) (.inl rfl) _).drewN _⟩
theorem Zi(x:Tk)(N:Nat)(g h:Nat)(w:aG)(hx:QP x N)(hN:N<=1000000000000)(tL:x.wV<x.lim)(hg:Lu w g h x):di aH 132 #[au (az ⟨g,0,aj⟩),ah ag 0] w (TkP h w 0 x.take):=by
 have c0:w.cell? ⟨g,0,aj⟩=az (ay (az ⟨h,0,aj⟩) 1 1):=hg.p.cell 0;have HC:=aA (WG x N h w hx hN tL hg.c);clear hg hx tL;generalize x.take=x' at HC|-;go_enter func132,ntmps132;go_wp2_with (first|(go_at_call 156;refine HC.o.mono ?_;rintro e w' ⟨rfl,b1,b2⟩;have B1:=aA b1;have B2:=aA b2;clear b1 b2)|go_in);all_goals go_ret
 all_goals exact⟨rfl,B1.o,B2.o⟩
theorem WC(x:Tk)(N:Nat)(h v:Nat)(w:aG)(hx:QP x N)(hN:N<=1000000000000)(hb:dG w h 228 (tkC x))(u:aJ)(hv:dG w v 3 #[u]):di aH 153 #[au (az ⟨h,0,aj⟩),au (az ⟨v,0,aj⟩)] w fun e w'=>e=ax (ah ag 0)/\dG w' v 3 #[ah ag x.left]/\Ch (· =v) w w':=by
 obtain⟨xs,xl⟩:=x;obtain⟨s0,s1,l0,l1,le⟩:=hx;simp only at s0 s1 l0 l1 le;show di _ _ _ _ fun e w'=>e=ax (ah ag 0)/\dG w' v 3 #[ah ag (xl-xs)]/\Ch (· =v) w w';have q1:IntKind.i64.wrap (xl-xs)=xl-xs:=fH _ (by omega);have HV:=aA hv;have c0:w.cell? ⟨h,0,aj⟩=az (ah ag xs):=hb.cell 0;have c1:w.cell? ⟨h,0+1,aj⟩=az (ah ag xl):=hb.cell 1;have fr:w.frozen? ⟨v,0,aj⟩=false:=hv.frozen 0;have cv:w.cell? ⟨v,0,aj⟩=az u:=hv.cell 0;clear hb hv;go_enter func153,ntmps153;go_wp2_with fail;go_region;all_goals go_wp2_with fail
 all_goals go_ret
 all_goals exact⟨rfl,(HV.o.jy 0 _).drew,((Ch.refl (· =v) w).setCell (p:=⟨v,0,aj⟩) (.inl rfl) _).drew⟩
theorem Zh(x:Tk)(N:Nat)(g h:Nat)(w:aG)(hx:QP x N)(hN:N<=1000000000000)(hg:Lu w g h x):di aH 129 #[au (az ⟨g,0,aj⟩),ah ag 0] w fun e w'=>e=ax (ah ag x.left)/\aO w.heap.size w w':=by
 obtain⟨w1,gK⟩:∃w1:aG,w.alloc (af #[ah ag 0] 3)=w1:=⟨_,rfl⟩;have BV:aZ (dG w1 w.heap.size 3 #[ah ag 0]):=by rw[<-gK];exact dG.new w _ _
 have BW:aZ (aO w.heap.size w w1):=by rw[<-gK];exact(aS _ _).alloc (aC _) _
 have gp:=hg.p.below BW.o hg.p.lt;have gc:=hg.c.below BW.o hg.c.lt;have c0:w1.cell? ⟨g,0,aj⟩=az (ay (az ⟨h,0,aj⟩) 1 1):=gp.cell 0;have HC:=aA (WC x N h w.heap.size w1 hx hN gc _ BV.o);have HW:=aA gK;clear gK hg hx gp gc;generalize x.left=l at HC|-;go_enter func129,ntmps129;go_wp2_with (first|(go_at_call 153;refine HC.o.mono ?_;rintro e w' ⟨rfl,b1,b2⟩;have cl:=b1.cell 0;have B1:=aA b1;have B2:=aA b2;clear b1 b2)|(go_at_call 122;rw[HW.o];go_in));all_goals go_ret
 all_goals exact⟨rfl,BW.o.trans (B2.o.below (by exact BW.o.size) (by rintro k rfl;exact aC _))⟩
def optV:Option Nat->aJ
 |none=>ah ag (-1)
 |some k=>ah ag k
def pX:Option Nat->Int
 |none=>-1
 |some k=>k
theorem FV(o:Option Nat):optV o=ah ag (pX o):=by cases o<;>rfl
theorem yR{s:Nat->Bool}{f:Nat->Nat}{n k:Nat}(hk:k<n)(h:s (f k)=true)(Px:∀j,j<k->s (f j)=false):((aN n).map f).find? s=az (f k):=by rw[List.find?_map,Option.map_eq_some_iff];refine⟨k,?_,rfl⟩;rw[List.find?_range_eq_some];exact⟨h,by simpa using hk,fun j hj=>by simp[Px j hj]⟩
theorem yQ{s:Nat->Bool}{f:Nat->Nat}{n:Nat}(Px:∀j,j<n->s (f j)=false):((aN n).map f).find? s=aj:=by rw[List.find?_eq_none];intro x hx;simp only[iU,dK]at hx;obtain⟨j,hj,rfl⟩:=hx;simp[Px j hj]
def Gi(n fr:Nat)(s:Nat->Bool)(w:aG)(e:iL)(w':aG):Prop:=e=ax (ah ag (pX (oC n fr s)))/\aO w.heap.size w w'
def adI(n fr:Nat)(s:Nat->Bool)(w:aG)(i:aJ)(wr:aG):Prop:=∃k:Nat,k<=n/\i=ah ag k/\(∀j,j<k->s ((fr+j)%n)=false)/\aO w.heap.size w wr
theorem Ye(n fr:Nat)(s:Nat->Bool)(bM bR bK:Nat)(w:aG)(hn:n<=8)(hf:fr<8)(HS:∀(x:Nat) (w':aG),x<n->aO w.heap.size w w'->di aH 177 #[ah ag x,au (az ⟨bM,0,aj⟩),au (az ⟨bR,0,aj⟩),au (az ⟨bK,0,aj⟩)] w' fun e w''=>e=ax (.bool (s x))/\aO w'.heap.size w' w''):di aH 176 #[ah ag n,ah ag fr,.func (.func 177) #[] #[au (az ⟨bM,0,aj⟩),au (az ⟨bR,0,aj⟩),au (az ⟨bK,0,aj⟩)]] w (Gi n fr s w):=by
 have HC:=aA HS;clear HS;go_enter func176,ntmps176;go_wp2_with fail;go_loopw [7,8,10] (fun _ _ i wr=>adI n fr s w i wr) (fun _ _ i _=>n-(aK i).toNat);case atStart=>exact⟨0,bJ _,rfl,by simp,aS _ _⟩
 case round=>
  obtain⟨k,hk,rfl,Px,gB⟩:=hrel;have Xd:=aA Px;have xW:=aA gB;clear Px gB;by_cases yH:k<n
  ·have HCK:aZ (di aH 177 #[ah ag ((fr+k)%n:Nat),au (az ⟨bM,0,aj⟩),au (az ⟨bR,0,aj⟩),au (az ⟨bK,0,aj⟩)] wr fun e w''=>e=ax (.bool (s ((fr+k)%n)))/\aO wr.heap.size wr w''):=HC.o _ _ (nE _ (by omega)) xW.out;have MD:aZ (((fr:Int)+(k:Int))%(n:Int)=(((fr+k)%n:Nat):Int)):=by rw[aZ];push_cast;rfl
   cases hs:s ((fr+k)%n)with
   |true=>rw[hs]at HCK;have HF:aZ (oC n fr s=az ((fr+k)%n)):=yR yH hs Xd.o;clear hs;generalize(fr+k)%n=y at HCK MD HF;go_wp2_with (first|(go_at_call 177;rw[MD.o];refine HCK.o.mono ?_;rintro e w' ⟨rfl,b⟩;have B:=aA b;clear b));go_ret;exact⟨by rw[HF.o];rfl,xW.out.trans (B.o.mono xW.out.size)⟩
   |false=>
    rw[hs]at HCK;have HN2:aZ (∀j,j<k+1->s ((fr+j)%n)=false):=fun j hj=>by
     by_cases e:j=k
     ·rw[e];exact hs
     ·exact Xd.o j (by omega)
    clear hs;generalize(fr+k)%n=y at HCK MD;go_wp2_with (first|(go_at_call 177;rw[MD.o];refine HCK.o.mono ?_;rintro e w' ⟨rfl,b⟩;have B:=aA b;clear b));exact⟨⟨k+1,by omega,by simp,HN2.o,xW.out.trans (B.o.mono xW.out.size)⟩,by simp[aK];omega⟩
  ·obtain rfl:k=n:=by omega
   have HF:aZ (oC k fr s=aj):=yQ Xd.o;go_wp2_with fail;go_ret;exact⟨by rw[HF.o];rfl,xW.out⟩
theorem Yf(n fr:Nat)(s:Nat->Bool)(bM bR:Nat)(w:aG)(hn:n<=8)(hf:fr<8)(HS:∀(x:Nat) (w':aG),x<n->aO w.heap.size w w'->di aH 178 #[ah ag x,au (az ⟨bM,0,aj⟩),au (az ⟨bR,0,aj⟩)] w' fun e w''=>e=ax (.bool (s x))/\aO w'.heap.size w' w''):di aH 176 #[ah ag n,ah ag fr,.func (.func 178) #[] #[au (az ⟨bM,0,aj⟩),au (az ⟨bR,0,aj⟩)]] w (Gi n fr s w):=by
 have HC:=aA HS;clear HS;go_enter func176,ntmps176;go_wp2_with fail;go_loopw [7,8,10] (fun _ _ i wr=>adI n fr s w i wr) (fun _ _ i _=>n-(aK i).toNat);case atStart=>exact⟨0,bJ _,rfl,by simp,aS _ _⟩
 case round=>
  obtain⟨k,hk,rfl,Px,gB⟩:=hrel;have Xd:=aA Px;have xW:=aA gB;clear Px gB;by_cases yH:k<n
  ·have HCK:aZ (di aH 178 #[ah ag ((fr+k)%n:Nat),au (az ⟨bM,0,aj⟩),au (az ⟨bR,0,aj⟩)] wr fun e w''=>e=ax (.bool (s ((fr+k)%n)))/\aO wr.heap.size wr w''):=HC.o _ _ (nE _ (by omega)) xW.out;have MD:aZ (((fr:Int)+(k:Int))%(n:Int)=(((fr+k)%n:Nat):Int)):=by rw[aZ];push_cast;rfl
   cases hs:s ((fr+k)%n)with
   |true=>rw[hs]at HCK;have HF:aZ (oC n fr s=az ((fr+k)%n)):=yR yH hs Xd.o;clear hs;generalize(fr+k)%n=y at HCK MD HF;go_wp2_with (first|(go_at_call 178;rw[MD.o];refine HCK.o.mono ?_;rintro e w' ⟨rfl,b⟩;have B:=aA b;clear b));go_ret;exact⟨by rw[HF.o];rfl,xW.out.trans (B.o.mono xW.out.size)⟩
   |false=>
    rw[hs]at HCK;have HN2:aZ (∀j,j<k+1->s ((fr+j)%n)=false):=fun j hj=>by
     by_cases e:j=k
     ·rw[e];exact hs
     ·exact Xd.o j (by omega)
    clear hs;generalize(fr+k)%n=y at HCK MD;go_wp2_with (first|(go_at_call 178;rw[MD.o];refine HCK.o.mono ?_;rintro e w' ⟨rfl,b⟩;have B:=aA b;clear b));exact⟨⟨k+1,by omega,by simp,HN2.o,xW.out.trans (B.o.mono xW.out.size)⟩,by simp[aK];omega⟩
  ·obtain rfl:k=n:=by omega
   have HF:aZ (oC k fr s=aj):=yQ Xd.o;go_wp2_with fail;go_ret;exact⟨by rw[HF.o];rfl,xW.out⟩
def Uw(k:Nat):aJ:=ah ag k
theorem xD{α:Type}(f:α->aJ)(d:α)(l:List α){i:Nat}(h:i<l.length):(l.map f).toArray[i]?=az (f (l.getD i d)):=by simp[bS,h]
theorem Ob{α:Type}(f:α->aJ)(l:List α)(i:Nat)(x:α):(l.map f).toArray.setIfInBounds i (f x)=((l.set i x).map f).toArray:=by simp[List.map_set]
structure Fv(w:aG)(R:Option fE)(n:Nat)(rq:Nat->Nat->Bool):Prop where
 n0:1<=n
 n1:n<=8
 rows:∃(b:Nat) (V:Nat->aJ) (cs:Array aJ),R=az ⟨b,0,aj⟩/\dG w b 52 cs/\∀i,i<n->cs[i]?=az (V i)/\
  ∃b2 c2 cs2,V i=ay (az ⟨b2,0,aj⟩) n c2/\dG w b2 4 cs2/\∀k,k<n->cs2[k]?=az (.bool (rq i k))
theorem Fv.ch{w w':aG}{S:Nat->Prop}{R:Option fE}{n:Nat}{rq:Nat->Nat->Bool}(h:Fv w R n rq)(hc:Ch S w w')(hS:∀k t cs,S k->dG w k t cs->t≠52/\t≠4):Fv w' R n rq:=by obtain⟨b,V,cs,e,hb,hr⟩:=h.rows;refine⟨h.n0,h.n1,b,V,cs,e,hb.ch hc fun q=>(hS _ _ _ q hb).1 rfl,fun i hi=>?_⟩;obtain⟨h1,b2,c2,cs2,h2,h3,h4⟩:=hr i hi;exact⟨h1,b2,c2,cs2,h2,h3.ch hc fun q=>(hS _ _ _ q h3).2 rfl,h4⟩
theorem Fv.below{w w':aG}{R:Option fE}{n:Nat}{rq:Nat->Nat->Bool}(h:Fv w R n rq)(hb:aO w.heap.size w w'):Fv w' R n rq:=h.ch (S:=fun _=>False) (Ch.dw hb) (fun k t cs q=>q.elim)
def yP(b:NC)(n:Nat):List Nat:=n::(b.qw++b.acc)
structure rF(w:aG)(bb bM bT n:Nat)(m:IQ):Prop where
 iY:dG w bb 201 ((yP m.iY n).map Uw).toArray
 mt:dG w bM 3 (m.mt.map optV).toArray
 tk:dG w bT 259 (m.taken.map kv).toArray
 lm:m.mt.length=n
 lt:m.taken.length=8
 ok:qZ m.iY n
theorem rF.ch{w w':aG}{S:Nat->Prop}{bb bM bT n:Nat}{m:IQ}(h:rF w bb bM bT n m)(hc:Ch S w w')(h1:¬S bb)(h2:¬S bM)(h3:¬S bT):rF w' bb bM bT n m:=
 ⟨h.iY.ch hc h1,h.mt.ch hc h2,h.tk.ch hc h3,h.lm,h.lt,h.ok⟩
theorem rF.drew{w:aG}{bb bM bT n:Nat}{m:IQ}(h:rF w bb bM bT n m):rF w.drew bb bM bT n m:=⟨h.iY,h.mt,h.tk,h.lm,h.lt,h.ok⟩
theorem rF.below{w w':aG}{bb bM bT n:Nat}{m:IQ}(h:rF w bb bM bT n m)(hb:aO w.heap.size w w'):rF w' bb bM bT n m:=h.ch (S:=fun _=>False) (Ch.dw hb) id id id
theorem qZ.len{b:NC}{n:Nat}(h:qZ b n):(yP b n).length=17:=by unfold yP;simp[h.gl,h.al]
theorem aeo{b:NC}{n k:Nat}(h:qZ b n)(hk:k<8):(yP b n).getD (1+k) 0=b.qw.getD k 0:=by unfold yP;rw[show 1+k=k+1 by omega];simp[bS,yf,h.gl,hk]
theorem ald{b:NC}{n k:Nat}(h:qZ b n)(hk:k<8):(yP b n).getD (9+k) 0=b.acc.getD k 0:=by
 unfold yP;rw[show 9+k=(8+k)+1 by omega];have e:¬8+k<8:=by omega
 simp[bS,yf,h.gl,e]
theorem aaR{b:NC}{n k x:Nat}(h:qZ b n)(hk:k<8):(yP b n).set (1+k) x=yP ⟨b.qw.set k x,b.acc⟩ n:=by unfold yP;rw[show 1+k=k+1 by omega];simp[List.set_append,h.gl,hk]
theorem aaQ{b:NC}{n k x:Nat}(h:qZ b n)(hk:k<8):(yP b n).set (9+k) x=yP ⟨b.qw,b.acc.set k x⟩ n:=by unfold yP;rw[show 9+k=(8+k)+1 by omega];simp[List.set_append,h.gl]
theorem qZ.amZ{b:NC}{n k x:Nat}(h:qZ b n)(hx:x<n):qZ ⟨b.qw.set k x,b.acc⟩ n:=
 ⟨by simp[h.gl],h.al,fun j=>by
  by_cases e:j=k
  ·subst e;by_cases hj:j<b.qw.length
   ·simp only;rw[iK _ _ _ hj];exact hx
   ·simp only;rw[nI (by omega)];exact h.g j
  ·simp only;rw[iC _ _ _ e];exact h.g j,h.a⟩
theorem qZ.afS{b:NC}{n k x:Nat}(h:qZ b n)(hx:x<n):qZ ⟨b.qw,b.acc.set k x⟩ n:=
 ⟨h.gl,by simp[h.al],h.g,fun j=>by
  by_cases e:j=k
  ·subst e;by_cases hj:j<b.acc.length
   ·simp only;rw[iK _ _ _ hj];exact hx
   ·simp only;rw[nI (by omega)];exact h.a j
  ·simp only;rw[iC _ _ _ e];exact h.a j⟩
theorem YS(n cp:Nat)(R:Option fE)(rq:Nat->Nat->Bool)(mt:List (Option Nat))(bM cM bm bR bK i k:Nat)(w:aG)(hR:Fv w R n rq)(hM:dG w bM 3 (mt.map optV).toArray)(hl:mt.length=n)(hi:i<n)(hk:k<n)(cm:w.cell? ⟨bm,0,aj⟩=az (ay (az ⟨bM,0,aj⟩) n cM))(cr:w.cell? ⟨bR,0,aj⟩=az (ay R n cp))(ck:w.cell? ⟨bK,0,aj⟩=az (ah ag k)):di aH 177 #[ah ag i,au (az ⟨bm,0,aj⟩),au (az ⟨bR,0,aj⟩),au (az ⟨bK,0,aj⟩)] w fun e w'=>e=ax (.bool ((mt.getD i aj).isNone&&rq i k))/\aO w.heap.size w w':=by
 obtain⟨b,V,cs,rfl,hb,hr⟩:=hR.rows;obtain⟨h1',b2,c2,cs2,h2,h3,h4⟩:=hr i hi;have c4:w.cell? ⟨b2,k,aj⟩=az (.bool (rq i k)):=by rw[h3.cell];exact h4 k hk
 have h1:w.cell? ⟨b,i,aj⟩=az (ay (az ⟨b2,0,aj⟩) n c2):=by rw[hb.cell,h1',h2]
 have XP:w.cell? ⟨bM,i,aj⟩=az (optV (mt.getD i aj)):=by rw[hM.cell];exact xD _ _ _ (by omega)
 have n8:=hR.n1;have i0:(0:Int)<=(i:Int):=by omega
 have i1:(i:Int)<(n:Int):=by omega
 have k0:(0:Int)<=(k:Int):=by omega
 have k1:(k:Int)<(n:Int):=by omega
 clear hr hR hM h4 h2 hb h3 hl h1';cases hm:mt.getD i aj with
 |none=>have e1:((aj:Option Nat).isNone&&rq i k)=rq i k:=rfl;rw[e1];rw[hm]at XP;have c5:w.cell? ⟨bM,i,aj⟩=az (ah ag (-1)):=XP;clear hm XP e1;generalize rq i k=q at *;go_enter func177,ntmps177;go_wp2_with fail;go_quiet (fail);go_wp2_with fail;go_ret;exact⟨rfl,below_drewN (aS _ _) _⟩
 |some x=>
  have e1:((az x:Option Nat).isNone&&rq i k)=false:=rfl;rw[e1];rw[hm]at XP;have c5:w.cell? ⟨bM,i,aj⟩=az (ah ag (x:Int)):=XP;have c6:decide ((x:Int)<0)=false:=by simp
  clear hm XP e1;go_enter func177,ntmps177;go_wp2_with fail;go_quiet (fail);go_wp2_with fail;go_ret;exact⟨rfl,below_drewN (aS _ _) _⟩
theorem YT(g:List (Option Nat))(bG bK i k n:Nat)(w:aG)(hn:n<=8)(hG:∀j,j<n->w.cell? ⟨bG,j,aj⟩=az (optV (g.getD j aj)))(hk:k<n)(ck:w.cell? ⟨bK,0,aj⟩=az (ah ag i)):di aH 178 #[ah ag k,au (az ⟨bG,0,aj⟩),au (az ⟨bK,0,aj⟩)] w fun e w'=>e=ax (.bool (g.getD k aj==az i))/\aO w.heap.size w w':=by
 have c:=hG k hk;rw[FV]at c;have E:aZ ((g.getD k aj==az i)=(pX (g.getD k aj)==(i:Int))):=by
  rw[aZ];cases g.getD k aj with
  |none=>rw[kH];simp[pX]
  |some x=>rw[kH];simp[pX];omega
 rw[E.o];generalize pX (g.getD k aj)=q at *;have k0:(0:Int)<=(k:Int):=by omega
 have k1:(k:Int)<(8:Int):=by omega
 clear hG E;go_enter func178,ntmps178;go_wp2_with fail;go_quiet (fail);go_wp2_with fail;go_ret;exact⟨rfl,below_drewN (aS _ _) _⟩
theorem rF.KV{w:aG}{bb bM bT n:Nat}{m:IQ}(h:rF w bb bM bT n m)(i k:Nat):rF (w.setCell ⟨bM,i,aj⟩ (ah ag k)) bb bM bT n ⟨m.mt.set i (az k),m.taken,m.iY⟩:=
 ⟨h.iY.Bi (h.iY.sZ h.mt (by decide)) _,by have:=h.mt.jy i (optV (az k));rw[Ob]at this;exact this,h.tk.Bi (h.tk.sZ h.mt (by decide)) _,by simp[h.lm],h.lt,h.ok⟩
theorem rF.acH{w:aG}{bb bM bT n:Nat}{m:IQ}(h:rF w bb bM bT n m)(k:Nat):rF (w.setCell ⟨bT,k,aj⟩ (.bool true)) bb bM bT n ⟨m.mt,m.taken.set k true,m.iY⟩:=
 ⟨h.iY.Bi (h.iY.sZ h.tk (by decide)) _,h.mt.Bi (h.mt.sZ h.tk (by decide)) _,by have:=h.tk.jy k (.bool true);rw[Ob]at this;exact this,h.lm,by simp[h.lt],h.ok⟩
theorem rF.amZ{w:aG}{bb bM bT n:Nat}{m:IQ}(h:rF w bb bM bT n m){k x:Nat}(hk:k<8)(hx:x<n):rF (w.setCell ⟨bb,0+1+k,aj⟩ (ah ag x)) bb bM bT n ⟨m.mt,m.taken,⟨m.iY.qw.set k x,m.iY.acc⟩⟩:=
 ⟨by have:=h.iY.jy (0+1+k) (Uw x);rw[Ob,show 0+1+k=1+k by omega,aaR h.ok hk]at this;rw[show 0+1+k=1+k by omega];exact this,h.mt.Bi (h.mt.sZ h.iY (by decide)) _,h.tk.Bi (h.tk.sZ h.iY (by decide)) _,h.lm,h.lt,h.ok.amZ hx⟩
theorem rF.afS{w:aG}{bb bM bT n:Nat}{m:IQ}(h:rF w bb bM bT n m){k x:Nat}(hk:k<8)(hx:x<n):rF (w.setCell ⟨bb,0+1+8+k,aj⟩ (ah ag x)) bb bM bT n ⟨m.mt,m.taken,⟨m.iY.qw,m.iY.acc.set k x⟩⟩:=
 ⟨by have:=h.iY.jy (0+1+8+k) (Uw x);rw[Ob,show 0+1+8+k=9+k by omega,aaQ h.ok hk]at this;rw[show 0+1+8+k=9+k by omega];exact this,h.mt.Bi (h.mt.sZ h.iY (by decide)) _,h.tk.Bi (h.tk.sZ h.iY (by decide)) _,h.lm,h.lt,h.ok.afS hx⟩
theorem rF.c0{w:aG}{bb bM bT n:Nat}{m:IQ}(h:rF w bb bM bT n m):w.cell? ⟨bb,0,aj⟩=az (ah ag n):=by rw[h.iY.cell];exact xD Uw 0 _ (by rw[h.ok.len];omega)
theorem rF.cg{w:aG}{bb bM bT n:Nat}{m:IQ}(h:rF w bb bM bT n m){k:Nat}(hk:k<8):w.cell? ⟨bb,0+1+k,aj⟩=az (ah ag (m.iY.qw.getD k 0:Nat)):=by rw[h.iY.cell];have:=xD Uw 0 (yP m.iY n) (i:=1+k) (by rw[h.ok.len];omega);rw[aeo h.ok hk]at this;rw[show 0+1+k=1+k by omega];exact this
theorem rF.ca{w:aG}{bb bM bT n:Nat}{m:IQ}(h:rF w bb bM bT n m){k:Nat}(hk:k<8):w.cell? ⟨bb,0+1+8+k,aj⟩=az (ah ag (m.iY.acc.getD k 0:Nat)):=by rw[h.iY.cell];have:=xD Uw 0 (yP m.iY n) (i:=9+k) (by rw[h.ok.len];omega);rw[ald h.ok hk]at this;rw[show 0+1+8+k=9+k by omega];exact this
def QU(l:List (Option Nat)):Array aJ:=(l.map optV++aQ (8-l.length) (ah .i64 0)).toArray
theorem ahG(l:List (Option Nat))(x:Option Nat)(h:l.length<8):(QU l).setIfInBounds l.length (optV x)=QU (l++[x]):=by unfold QU;rw[gI,ik _ _ (by simp)];rw[show 8-l.length=(8-(l++[x]).length)+1 by simp;omega,oI];simp
theorem aeN(l:List (Option Nat))(x y:Option Nat):(QU (l++[x])).setIfInBounds l.length (optV y)=QU (l++[y]):=by unfold QU;rw[gI,List.set_append_left _ _ (by simp)];simp
theorem aeL(l:List (Option Nat)){i:Nat}(h:i<l.length):(QU l)[i]?=az (optV (l.getD i aj)):=by unfold QU;simp[yf,h,bS]
theorem ahF:QU []=#[ah ag 0,ah ag 0,ah ag 0,ah ag 0,ah ag 0,ah ag 0,ah ag 0,ah ag 0]:=by simp[QU,aQ]
theorem aeM(l:List (Option Nat))(h:l.length<8):(QU l)[l.length]?=az (ah ag 0):=by unfold QU;rw[dJ,ku (by simp)];simp only[dW,JR,gD];rw[if_pos (by omega)]
theorem Jb(n:Nat)(rq:Nat->Nat->Bool)(m:IQ):(jO n rq m).length=n:=by simp[jO]
theorem abK{n k:Nat}(rq:Nat->Nat->Bool)(m:IQ)(hk:k<n):(jO n rq m).getD k aj=if m.taken.getD k false then aj else oC n (m.iY.qw.getD k 0) fun i=>(m.mt.getD i aj).isNone&&rq i k:=by unfold jO;rw[bS,cK,eu hk];rfl
theorem Vx{n f k:Nat}{s:Nat->Bool}(h:oC n f s=az k):k<n/\s k=true:=by unfold oC at h;have h1:=List.find?_some h;have h2:=List.mem_of_find?_eq_some h;simp only[iU,dK]at h2;obtain⟨j,hj,rfl⟩:=h2;exact⟨nE _ (by omega),h1⟩
def SR(bb bM bT k:Nat):Prop:=k=bb\/k=bM\/k=bT
def apE(n:Nat)(rq:Nat->Nat->Bool)(m:IQ)(w1:aG)(B:Nat)(i:aJ)(wr:aG):Prop:=
 ∃k:Nat,k<=n/\i=ah ag k/\dG wr B 156 (QU ((jO n rq m).take k))/\aO B w1 wr
def MW(n:Nat)(g:List (Option Nat))(Eb:Bool)(m:IQ)(i:Nat):IQ:=(aN i).foldl (accept1 n g Eb) m
theorem Xq(n:Nat)(g:List (Option Nat))(Eb:Bool)(m:IQ)(i:Nat):MW n g Eb m (i+1)=accept1 n g Eb (MW n g Eb m i) i:=by unfold MW;rw[dL,fV];rfl
def apF(n:Nat)(g:List (Option Nat))(Eb:Bool)(m:IQ)(bb bM bT:Nat)(wa:aG)(i:aJ)(wr:aG):Prop:=
 ∃k:Nat,k<=n/\i=ah ag k/\rF wr bb bM bT n (MW n g Eb m k)/\Ch (SR bb bM bT) wa wr
theorem XL(n cp cM:Nat)(R:Option fE)(rq:Nat->Nat->Bool)(m:IQ)(bb bM bT:Nat)(Eb:Bool)(w:aG)(hR:Fv w R n rq)(hM:rF w bb bM bT n m):di aH 155 #[au (az ⟨bb,0,aj⟩),ay R n cp,ay (az ⟨bM,0,aj⟩) n cM,au (az ⟨bT,0,aj⟩),.bool Eb] w fun e w'=>e=ax (.tuple #[])/\rF w' bb bM bT n (uZ n rq Eb m)/\Ch (SR bb bM bT) w w':=by
 obtain⟨w1,gK⟩:∃w1:aG,((w.alloc (af #[ay R n cp] 95)).alloc (af #[ay (az ⟨bM,0,aj⟩) n cM] 26)).alloc (af (QU []) 156)=w1:=⟨_,rfl⟩;have n0:=hR.n0;have n8:=hR.n1;have HR:=aA hR;have HM:=aA hM;have HW:=aA gK;clear gK hR hM;have B3:aZ (aO w.heap.size w w1):=by rw[<-HW.o];exact(((aS _ _).alloc (aC _) _).alloc (by simp) _).alloc (by simp;omega) _
 have K0:aZ (∀w',aO w.heap.size w w'->w'.cell? ⟨bb,0,aj⟩=az (ah ag n)/\rF w' bb bM bT n m/\Fv w' R n rq):=fun w' hb=>by have hm:=HM.o;have b1:=hm.iY.below hb hm.iY.lt;exact⟨by rw[b1.cell];exact xD Uw 0 _ (by rw[hm.ok.len];omega),⟨b1,hm.mt.below hb hm.mt.lt,hm.tk.below hb hm.tk.lt,hm.lm,hm.lt,hm.ok⟩,HR.o.below hb⟩
 have c0:=(K0.o w (aS _ _)).1;have lt:=HM.o.iY.lt;have a1:bb<w.heap.size+1:=by omega
 have a2:bb<w.heap.size+1+1:=by omega
 have s1:w1.heap.size=w.heap.size+3:=by rw[<-HW.o];simp
 have P1:aZ (w1.cell? ⟨w.heap.size,0,aj⟩=az (ay R n cp)/\w1.cell? ⟨w.heap.size+1,0,aj⟩=az (ay (az ⟨bM,0,aj⟩) n cM)/\dG w1 (w.heap.size+1+1) 156 (QU [])):=by rw[<-HW.o];refine⟨by simp[go_sem],by simp[go_sem],?_⟩;have:=dG.new ((w.alloc (af #[ay R n cp] 95)).alloc (af #[ay (az ⟨bM,0,aj⟩) n cM] 26)) 156 (QU []);simpa using this
 have S1:=aA s1;clear s1;go_enter func155,ntmps155;go_wp2_with fail;rw[<-ahF,HW.o];clear lt a1 a2 c0;obtain⟨bR,hbR⟩:∃x,w.heap.size=x:=⟨_,rfl⟩;obtain⟨bm,Yq⟩:∃x,w.heap.size+1=x:=⟨_,rfl⟩;obtain⟨bG,hbG⟩:∃x,w.heap.size+1+1=x:=⟨_,rfl⟩;rw[hbG,Yq,hbR]at P1;rw[hbG,Yq,hbR];have HbR:=aA hbR;have Hbm:=aA Yq;have HbG:=aA hbG;clear hbR Yq hbG;go_loopw [11,18] (fun _ i wr=>apE n rq m w1 bG i wr) (fun _ i _=>n-(aK i).toNat);case atStart=>exact⟨0,bJ _,rfl,P1.o.2.2,aS _ _⟩
 case round=>
  obtain⟨k,hk,rfl,hG,gB⟩:=hrel;have HG:=aA hG;have xW:=aA gB;clear hG gB;by_cases yH:k<n
  ·have gl:=Jb n rq m;have tl:((jO n rq m).take k).length=k:=by rw[List.length_take];omega
   have k0:(0:Int)<=(k:Int):=(by omega);have k8:(k:Int)<8:=(by omega);have cG:wr.cell? ⟨bG,k,aj⟩=az (ah ag 0):=(by rw[HG.o.cell];have:=aeM ((jO n rq m).take k) (by omega);rw[tl]at this;exact this);have fG:wr.frozen? ⟨bG,k,aj⟩=false:=HG.o.frozen k;have lG:=HG.o.lt;obtain⟨w7,hw7⟩:∃w7:aG,(wr.setCell ⟨bG,k,aj⟩ (ah ag (-1))).alloc (af #[ah ag k] 3)=w7:=⟨_,rfl⟩;have G7:aZ (dG w7 bG 156 (QU ((jO n rq m).take k++[aj]))):=(by rw[<-hw7];have:=HG.o.jy k (optV aj);have e:=ahG ((jO n rq m).take k) aj (by omega);rw[tl]at e;rw[e]at this;exact this.alloc _);have BG:aZ (aO bG w1 w7):=(by rw[<-hw7];have h1:=xW.out.size;have h2:=P1.o.2.2.lt;exact(xW.out.setCell (p:=⟨bG,k,aj⟩) (aC _) _).alloc (by simp[iJ];omega) _);have B7:aZ (aO w.heap.size w w7):=B3.o.trans (BG.o.mono (by have:=HbG.o;omega));have ck:w7.cell? ⟨wr.heap.size,0,aj⟩=az (ah ag k):=(by have:=(dG.new (wr.setCell ⟨bG,k,aj⟩ (ah ag (-1))) 3 #[ah ag k]).cell 0;rw[hw7]at this;simpa[iJ]using this);have z7:wr.heap.size<w7.heap.size:=(by rw[<-hw7];simp[iJ]);have cR:w7.cell? ⟨bR,0,aj⟩=az (ay R n cp):=(BG.o.cell (p:=⟨bR,0,aj⟩) (by show bR<bG;have:=HbR.o;have:=HbG.o;omega)).trans P1.o.1;have cm:w7.cell? ⟨bm,0,aj⟩=az (ay (az ⟨bM,0,aj⟩) n cM):=(BG.o.cell (p:=⟨bm,0,aj⟩) (by show bm<bG;have:=Hbm.o;have:=HbG.o;omega)).trans P1.o.2.1;obtain⟨c0,hM7,hR7⟩:=K0.o w7 B7.o;have ct:w7.cell? ⟨bT,k,aj⟩=az (.bool (m.taken.getD k false)):=(by rw[hM7.tk.cell];exact xD _ _ _ (by rw[hM7.lt];omega));have cg:w7.cell? ⟨bb,0+1+k,aj⟩=az (ah ag (m.iY.qw.getD k 0:Nat)):=(by rw[hM7.iY.cell];have:=xD Uw 0 (yP m.iY n) (i:=1+k) (by rw[hM7.ok.len];omega);rw[aeo hM7.ok (by omega)]at this;rw[show 0+1+k=1+k by omega];exact this);have M7:=aA hM7;have R7:=aA hR7;have gn:=hM7.ok.g k;have GA:=aA (abK rq m yH);have TS:=aA (jU aj (jO n rq m) k (by omega));have G0:aZ ((QU ((jO n rq m).take k++[aj]))[k]?=az (ah ag (-1))):=(by have:=aeL ((jO n rq m).take k++[aj]) (i:=k) (by simp;omega);rw[aZ,this];have e:((jO n rq m).take k++[aj]).getD k aj=aj:=(by rw[bS,ku (by omega),tl];simp);rw[e];rfl);have TL:=aA tl;have LG:=aA lG;have nb:bb≠bG:=hM7.iY.sZ G7.o (by decide);clear gl tl hM7 hR7;cases ht:m.taken.getD k false with
   |true=>
    rw[ht]at ct;have E:aZ ((jO n rq m).take (k+1)=(jO n rq m).take k++[aj]):=by have:=TS.o;rw[GA.o,ht]at this;exact this
    clear ht GA TS;go_wp2_with fail;clear hw7 cG fG lG;go_quiet (fail);go_wp2_with fail;exact⟨⟨k+1,by omega,by simp,by rw[E.o];exact G7.o.drewN _,below_drewN BG.o _⟩,by simp[aK];omega⟩
   |false=>
    rw[ht]at ct;have E:aZ ((jO n rq m).take (k+1)=(jO n rq m).take k++[oC n (m.iY.qw.getD k 0) fun i=>(m.mt.getD i aj).isNone&&rq i k]):=by have:=TS.o;rw[GA.o,ht]at this;exact this
    clear ht GA TS;go_wp2_with fail;clear hw7 cG fG lG;go_quiet (fail);have HF:aZ (∀w',aO w7.heap.size w7 w'->di aH 176 #[ah ag n,ah ag (m.iY.qw.getD k 0:Nat),.func (.func 177) #[] #[au (az ⟨bm,0,aj⟩),au (az ⟨bR,0,aj⟩),au (az ⟨wr.heap.size,0,aj⟩)]] w' (Gi n (m.iY.qw.getD k 0) (fun i=>(m.mt.getD i aj).isNone&&rq i k) w')):=
     fun w' hb=>Ye n _ _ bm bR wr.heap.size w' n8 (by omega) fun x w'' hx uy=>by have b2:aO w7.heap.size w7 w'':=hb.trans (uy.mono hb.size);obtain⟨_,hm8,hr8⟩:=K0.o w'' (B7.o.trans (b2.mono B7.o.size));exact YS n cp R rq m.mt bM cM bm bR wr.heap.size x k w'' hr8 hm8.mt hm8.lm hx yH ((b2.cell (p:=⟨bm,0,aj⟩) (aY _ _ cm)).trans cm) ((b2.cell (p:=⟨bR,0,aj⟩) (aY _ _ cR)).trans cR) ((b2.cell (p:=⟨wr.heap.size,0,aj⟩) z7).trans ck)
    have KP:aZ (∀w',aO w7.heap.size w7 w'->w'.cell? ⟨wr.heap.size,0,aj⟩=az (ah ag k)/\w'.cell? ⟨bb,0,aj⟩=az (ah ag n)/\w'.cell? ⟨bb,0+1+k,aj⟩=az (ah ag (m.iY.qw.getD k 0:Nat))):=
     fun w' hb=>⟨(hb.cell (p:=⟨wr.heap.size,0,aj⟩) z7).trans ck,(hb.cell (p:=⟨bb,0,aj⟩) (aY _ _ c0)).trans c0,(hb.cell (p:=⟨bb,0+1+k,aj⟩) (aY _ _ cg)).trans cg⟩
    have KS:aZ (∀w' v,aO w7.heap.size w7 w'->(w'.setCell ⟨bG,k,aj⟩ v).cell? ⟨wr.heap.size,0,aj⟩=az (ah ag k)/\(w'.setCell ⟨bG,k,aj⟩ v).cell? ⟨bb,0,aj⟩=az (ah ag n)/\(w'.setCell ⟨bG,k,aj⟩ v).cell? ⟨bb,0+1+k,aj⟩=az (ah ag (m.iY.qw.getD k 0:Nat))):=
     fun w' v hb=>by obtain⟨k1,k2,k3⟩:=KP.o w' hb;exact⟨(lh _ _ _ _ (by intro e;injection e with e;have:=LG.o;omega)).trans k1,(lh _ _ _ _ (by intro e;injection e with e;exact nb e.symm)).trans k2,(lh _ _ _ _ (by intro e;injection e with e;exact nb e.symm)).trans k3⟩
    obtain⟨gk,hgk⟩:∃gk,m.iY.qw.getD k 0=gk:=⟨_,rfl⟩;obtain⟨sf,hsf⟩:∃sf,(fun i=>(m.mt.getD i aj).isNone&&rq i k)=sf:=⟨_,rfl⟩;obtain⟨F0,WY⟩:∃F0,oC n gk sf=F0:=⟨_,rfl⟩;rw[hgk]at KP KS HF cg E;rw[hsf]at HF E;rw[WY]at E;unfold Gi at HF;rw[WY]at HF;clear hgk hsf WY gn;go_wp2_with fail;go_region_held3 (fun w'=>w'.cell? ⟨wr.heap.size,0,aj⟩=az (ah ag k)/\w'.cell? ⟨bb,0,aj⟩=az (ah ag n)/\w'.cell? ⟨bb,0+1+k,aj⟩=az (ah ag (gk:Int)))
     (first|exact KP.o _ ⟨rfl,rfl,rfl,aC _,fun _ _=>rfl⟩|exact KP.o _ BY.o|exact KS.o _ _ BY.o)
     (first
      |(go_at_call 176;refine(HF.o _ (by exact⟨rfl,rfl,rfl,aC _,fun _ _=>rfl⟩)).mono ?_;rintro e wy ⟨rfl,b⟩;have BY:aZ (aO w7.heap.size w7 wy):=(show aO w7.heap.size w7 wy from⟨b.os,b.tape,b.output,b.size,b.block⟩);have GY:=aA (G7.o.below BY.o G7.o.lt);have cY:=(GY.o.cell k).trans G0.o;have fY:=GY.o.frozen k;clear b))
    have BY2:aZ (aO bG w1 (wy.setCell ⟨bG,k,aj⟩ (ah ag (pX F0)))):=(BG.o.trans (BY.o.mono (Nat.le_of_lt G7.o.lt))).setCell (p:=⟨bG,k,aj⟩) (aC _) _;have GY2:aZ (dG (wy.setCell ⟨bG,k,aj⟩ (ah ag (pX F0))) bG 156 (QU ((jO n rq m).take k++[F0]))):=(by have:=GY.o.jy k (ah ag (pX F0));have e:=aeN ((jO n rq m).take k) aj F0;rw[FV,TL.o]at e;rw[e]at this;exact this);go_wp2_with fail;exact⟨⟨k+1,by omega,by simp,by rw[E.o];exact GY2.o,BY2.o⟩,by simp[aK];omega⟩
  ·obtain rfl:n=k:=by omega
   have HGa:aZ (dG wr bG 156 (QU (jO n rq m))):=(by have:=HG.o;rw[List.take_of_length_le (by rw[Jb];omega)]at this;exact this);have BW:aZ (aO w.heap.size w wr):=B3.o.trans (xW.out.mono (by have:=HbG.o;omega));have cm:aZ (wr.cell? ⟨bm,0,aj⟩=az (ay (az ⟨bM,0,aj⟩) n cM)):=(xW.out.cell (p:=⟨bm,0,aj⟩) (by show bm<bG;have:=Hbm.o;have:=HbG.o;omega)).trans P1.o.2.1;obtain⟨c0,hM0,_⟩:=K0.o wr BW.o;have M0:=aA hM0;have HBM:aZ (bm<wr.heap.size/\bG<wr.heap.size/\bb<w.heap.size/\bM<w.heap.size/\bT<w.heap.size/\w.heap.size<bm):=⟨aY _ _ cm.out,HGa.o.lt,HM.o.iY.lt,HM.o.mt.lt,HM.o.tk.lt,by have:=Hbm.o;omega⟩;clear hM0 K0 P1 HG xW HW S1 HR;have gl:=Jb n rq m;go_wp2_with fail;have ROUND:aZ (uZ n rq Eb m=MW n (jO n rq m) Eb m n):=rfl;generalize jO n rq m=g at *;clear c0;obtain⟨wo,rfl⟩:∃wo:aG,wo=wr:=⟨_,rfl⟩;go_loopw [12,13,48] (fun _ _ i wr=>apF n g Eb m bb bM bT wo i wr) (fun _ _ i _=>n-(aK i).toNat);case atStart=>exact⟨0,bJ _,rfl,M0.o,Ch.refl _ _⟩
   case round=>
    obtain⟨i,hi,rfl,hm,hc⟩:=hrel;have ACC:=aA (Xq n g Eb m i);have HC:=aA hc;by_cases Gr:i<n
    ·generalize MW n g Eb m i=mi at hm ACC;have i0:(0:Int)<=(i:Int):=by omega
     have i8:(i:Int)<8:=(by omega);have HMI:=aA hm;have gs:=hc.size;obtain⟨ai,hai⟩:∃ai,mi.iY.acc.getD i 0=ai:=⟨_,rfl⟩;have an:ai<n:=(by rw[<-hai];exact hm.ok.a i);obtain⟨F0,WY⟩:∃F0,oC n ai (fun k=>g.getD k aj==az i)=F0:=⟨_,rfl⟩;obtain⟨w5,Gs⟩:∃w5:aG,wr.alloc (af #[ah ag i] 3)=w5:=⟨_,rfl⟩;have B5:aZ (aO wr.heap.size wr w5):=(by rw[<-Gs];exact(aS _ _).alloc (aC _) _);have KI:aZ (∀w',aO w5.heap.size w5 w'->rF w' bb bM bT n mi/\w'.cell? ⟨wr.heap.size,0,aj⟩=az (ah ag i)/\w'.cell? ⟨bm,0,aj⟩=az (ay (az ⟨bM,0,aj⟩) n cM)/\dG w' bG 156 (QU g)):=fun w' hb=>by
      have b2:aO wr.heap.size wr w':=B5.o.trans (hb.mono B5.o.size);obtain⟨q1,q2,q3,q4,q5,q6⟩:=HBM.o;refine⟨HMI.o.below b2,?_,?_,?_⟩
      ·rw[hb.cell (p:=⟨wr.heap.size,0,aj⟩) (by rw[<-Gs];simp),<-Gs];simp
      ·rw[b2.cell (p:=⟨bm,0,aj⟩) (by show bm<_;omega),HC.o.cell (p:=⟨bm,0,aj⟩) q1 (by rintro(e|e|e)<;>simp only at e<;>omega)];exact cm.out
      ·exact(HGa.o.ch HC.o (by have:=Hbm.o;have:=HbG.o;rintro(e|e|e)<;>omega)).below b2 (by omega)
     have HF:aZ (∀w',aO w5.heap.size w5 w'->di aH 176 #[ah ag n,ah ag ai,.func (.func 178) #[] #[au (az ⟨bG,0,aj⟩),au (az ⟨wr.heap.size,0,aj⟩)]] w' (fun e w''=>e=ax (ah ag (pX F0))/\aO w'.heap.size w' w'')):=
      fun w' hb=>by rw[<-WY];exact Yf n _ _ bG wr.heap.size w' n8 (by omega) fun x w'' hx uy=>by obtain⟨_,u2,_,u4⟩:=KI.o w'' (hb.trans (uy.mono hb.size));exact YT g bG wr.heap.size i x n w'' n8 (fun j hj=>by rw[u4.cell];exact aeL g (by omega)) hx u2
     have KS:aZ (∀w',aO w5.heap.size w5 w'->w'.cell? ⟨bb,0,aj⟩=az (ah ag n)/\w'.cell? ⟨wr.heap.size,0,aj⟩=az (ah ag i)/\w'.cell? ⟨bb,0+1+8+i,aj⟩=az (ah ag ai)):=fun w' hb=>(by obtain⟨u1,u2,_,_⟩:=KI.o w' hb;refine⟨u1.c0,u2,?_⟩;have:=u1.ca (k:=i) (by omega);rw[hai]at this;exact this);clear hm hc;cases F0 with
     |none=>
      have E:aZ (MW n g Eb m (i+1)=mi):=(by rw[aZ,ACC.o,accept1,hai,WY]);clear WY hai;go_wp2_with fail;clear Gs;go_region_held3 (fun w'=>w'.cell? ⟨bb,0,aj⟩=az (ah ag n)/\w'.cell? ⟨wr.heap.size,0,aj⟩=az (ah ag i)/\w'.cell? ⟨bb,0+1+8+i,aj⟩=az (ah ag ai))
       (first|exact KS.o _ ⟨rfl,rfl,rfl,aC _,fun _ _=>rfl⟩|exact KS.o _ BY.o)
       (first
        |(go_at_call 176;refine(HF.o _ (by exact⟨rfl,rfl,rfl,aC _,fun _ _=>rfl⟩)).mono ?_;rintro e wy ⟨rfl,b⟩;have BY:aZ (aO w5.heap.size w5 wy):=(show aO w5.heap.size w5 wy from⟨b.os,b.tape,b.output,b.size,b.block⟩);clear b))
      go_wp2_with fail;exact⟨⟨i+1,by omega,by simp,by rw[E.o];exact(KI.o _ BY.o).1,HC.o.sH (B5.o.trans (BY.o.mono B5.o.size))⟩,by simp[aK];omega⟩
     |some k=>
      obtain⟨hkn2,_⟩:=Vx WY;rw[show pX (az k)=(k:Int)from rfl]at HF;have E:aZ (MW n g Eb m (i+1)=⟨mi.mt.set i (az k),mi.taken.set k true,if Eb then⟨mi.iY.qw.set k ((i+1)%n),mi.iY.acc.set i ((k+1)%n)⟩else mi.iY⟩):=(by rw[aZ,ACC.o,accept1,hai,WY]);clear WY hai;have k0:(0:Int)<=(k:Int):=(by omega);have k8:(k:Int)<8:=(by omega);have kn:(k:Int)<(n:Int):=(by omega);have in_:(i:Int)<(n:Int):=(by omega);have n1:¬bM=bT:=HMI.o.mt.sZ HMI.o.tk (by decide);have n2:¬bT=bM:=fun e=>n1 e.symm;have n3:¬bb=bT:=HMI.o.iY.sZ HMI.o.tk (by decide);have n4:¬bb=bM:=HMI.o.iY.sZ HMI.o.mt (by decide);have g2:IntKind.i64.wrap ((i:Int)+1)=(i:Int)+1:=fH _ (by omega);have g3:IntKind.i64.wrap ((k:Int)+1)=(k:Int)+1:=fH _ (by omega);cases Eb with
      |false=>
       go_wp2_with fail;clear Gs
       go_region_held3 (fun w'=>w'.cell? ⟨bb,0,aj⟩=az (ah ag n)/\w'.cell? ⟨wr.heap.size,0,aj⟩=az (ah ag i)/\w'.cell? ⟨bb,0+1+8+i,aj⟩=az (ah ag ai))
        (first|exact KS.o _ ⟨rfl,rfl,rfl,aC _,fun _ _=>rfl⟩|exact KS.o _ BY.o)
        (first
         |(go_at_call 176;refine(HF.o _ (by exact⟨rfl,rfl,rfl,aC _,fun _ _=>rfl⟩)).mono ?_;rintro e wy ⟨rfl,b⟩;have BY:aZ (aO w5.heap.size w5 wy):=(show aO w5.heap.size w5 wy from⟨b.os,b.tape,b.output,b.size,b.block⟩);clear b))
       have KY:=aA (KI.o _ BY.o);have y1:=KY.o.2.1;have y2:=KY.o.2.2.1;have y3:wy.cell? ⟨bM,i,aj⟩=az (ah ag (pX (mi.mt.getD i aj))):=(by rw[KY.o.1.mt.cell,xD optV aj mi.mt (by rw[KY.o.1.lm];omega),FV]);have y4:wy.cell? ⟨bT,k,aj⟩=az (.bool (mi.taken.getD k false)):=(by rw[KY.o.1.tk.cell];exact xD kv false mi.taken (by rw[KY.o.1.lt];omega));have y5:=KY.o.1.mt.frozen i;have y6:=KY.o.1.tk.frozen k;have CH:aZ (Ch (SR bb bM bT) wo wy):=HC.o.sH (B5.o.trans (BY.o.mono B5.o.size));clear HC;go_wp2_with fail;exact⟨⟨i+1,by omega,by simp,by rw[E.o];exact(KY.o.1.KV i k).acH k,(CH.o.setCell (p:=⟨bM,i,aj⟩) (.inl (.inr (.inl rfl))) _).setCell (p:=⟨bT,k,aj⟩) (.inl (.inr (.inr rfl))) _⟩,by simp[aK];omega⟩
      |true=>
       go_wp2_with fail;clear Gs
       go_region_held3 (fun w'=>w'.cell? ⟨bb,0,aj⟩=az (ah ag n)/\w'.cell? ⟨wr.heap.size,0,aj⟩=az (ah ag i)/\w'.cell? ⟨bb,0+1+8+i,aj⟩=az (ah ag ai))
        (first|exact KS.o _ ⟨rfl,rfl,rfl,aC _,fun _ _=>rfl⟩|exact KS.o _ BY.o)
        (first
         |(go_at_call 176;refine(HF.o _ (by exact⟨rfl,rfl,rfl,aC _,fun _ _=>rfl⟩)).mono ?_;rintro e wy ⟨rfl,b⟩;have BY:aZ (aO w5.heap.size w5 wy):=(show aO w5.heap.size w5 wy from⟨b.os,b.tape,b.output,b.size,b.block⟩);clear b))
       have KY:=aA (KI.o _ BY.o);have y1:=KY.o.2.1;have y2:=KY.o.2.2.1;have y3:wy.cell? ⟨bM,i,aj⟩=az (ah ag (pX (mi.mt.getD i aj))):=(by rw[KY.o.1.mt.cell,xD optV aj mi.mt (by rw[KY.o.1.lm];omega),FV]);have y4:wy.cell? ⟨bT,k,aj⟩=az (.bool (mi.taken.getD k false)):=(by rw[KY.o.1.tk.cell];exact xD kv false mi.taken (by rw[KY.o.1.lt];omega));have y5:=KY.o.1.mt.frozen i;have y6:=KY.o.1.tk.frozen k;have CH:aZ (Ch (SR bb bM bT) wo wy):=HC.o.sH (B5.o.trans (BY.o.mono B5.o.size));clear HC;obtain⟨w9,hw9⟩:∃w9:aG,(wy.setCell ⟨bM,i,aj⟩ (ah ag k)).setCell ⟨bT,k,aj⟩ (.bool true)=w9:=⟨_,rfl⟩;have M9:aZ (rF w9 bb bM bT n ⟨mi.mt.set i (az k),mi.taken.set k true,mi.iY⟩):=(by rw[<-hw9];exact(KY.o.1.KV i k).acH k);have C9:aZ (Ch (SR bb bM bT) wo w9):=(by rw[<-hw9];exact(CH.o.setCell (p:=⟨bM,i,aj⟩) (.inl (.inr (.inl rfl))) _).setCell (p:=⟨bT,k,aj⟩) (.inl (.inr (.inr rfl))) _);have x1:w9.cell? ⟨wr.heap.size,0,aj⟩=az (ah ag i):=by
        rw[<-hw9,lh,lh]
        ·exact y1
        ·intro e;injection e with e;have:=HMI.o.mt.lt;omega
        ·intro e;injection e with e;have:=HMI.o.tk.lt;omega
       go_wp2_with fail;clear hw9
       have x0:=M9.o.c0;have x2:=M9.o.cg (k:=k) (by omega);have x3:=M9.o.iY.frozen (0+1+k);clear y1 y2 y3 y4 y5 y6;have md1:aZ (((i:Int)+1)%(n:Int)=(((i+1)%n:Nat):Int)):=(by rw[aZ];push_cast;rfl);have md2:aZ (((k:Int)+1)%(n:Int)=(((k+1)%n:Nat):Int)):=(by rw[aZ];push_cast;rfl);go_region;rw[md1.out];have M10:aZ (rF (w9.setCell ⟨bb,0+1+k,aj⟩ (ah ag (((i+1)%n:Nat):Int))) bb bM bT n ⟨mi.mt.set i (az k),mi.taken.set k true,⟨mi.iY.qw.set k ((i+1)%n),mi.iY.acc⟩⟩):=M9.o.amZ (by omega) (nE _ (by omega));have C10:aZ (Ch (SR bb bM bT) wo (w9.setCell ⟨bb,0+1+k,aj⟩ (ah ag (((i+1)%n:Nat):Int)))):=C9.o.setCell (p:=⟨bb,0+1+k,aj⟩) (.inl (.inl rfl)) _;have x1':(w9.setCell ⟨bb,0+1+k,aj⟩ (ah ag (((i+1)%n:Nat):Int))).cell? ⟨wr.heap.size,0,aj⟩=az (ah ag i):=by
        rw[lh]
        ·exact x1
        ·intro e;injection e with e;have:=HMI.o.iY.lt;omega
       generalize(w9.setCell ⟨bb,0+1+k,aj⟩ (ah ag (((i+1)%n:Nat):Int)))=vz at *;have x0':=M10.o.c0;have x2':=M10.o.ca (k:=i) (by omega);have x3':=M10.o.iY.frozen (0+1+8+i);clear x0 x1 x2 x3;go_wp2_with fail;go_region;go_wp2_with fail;have M11:=M10.o.afS (k:=i) (x:=(k+1)%n) (by omega) (nE _ (by omega));have C11:=C10.o.setCell (p:=⟨bb,0+1+8+i,aj⟩) (.inl (.inl rfl)) (ah ag (((k+1)%n:Nat):Int));rw[show 0+1+8+i=9+i by omega,<-md2.out]at M11 C11;exact⟨⟨i+1,by omega,by simp,by rw[E.o];simp only[if_true];exact M11.drew.drew,C11.drew.drew⟩,by simp[aK];omega⟩
    ·obtain rfl:n=i:=by omega
     go_wp2_with fail
     go_end0
     exact⟨rfl,by rw[ROUND.o];exact hm,(Ch.dw BW.o).trans HC.o (fun _ _ q=>q)⟩
theorem dG.same{w:aG}{g:Nat}{t t':dP}{cs cs':Array aJ}(h:dG w g t cs)(h':dG w g t' cs'):t=t'/\cs=cs':=by unfold dG at h h';rw[h]at h';injection h' with h';injection h' with h1 h2;exact⟨h2,h1⟩
theorem Fv.ajK{w w':aG}{S:Nat->Prop}{R:Option fE}{n:Nat}{rq:Nat->Nat->Bool}(h:Fv w R n rq)(hc:Ch S w w')(hS:∀k,S k->∃t cs,dG w k t cs/\t≠52/\t≠4):Fv w' R n rq:=
 h.ch hc fun k t cs q hb=>by obtain⟨t',cs',h1,h2,h3⟩:=hS k q;obtain⟨rfl,_⟩:=hb.same h1;exact⟨h2,h3⟩
theorem Zb(n cp:Nat)(R:Option fE)(rq:Nat->Nat->Bool)(w:aG)(hR:Fv w R n rq):di aH 154 #[ay R n cp,ah ag n] w fun e w'=>e=ax (.bool true)/\w=w':=by
 obtain⟨b,V,cs,rfl,hb,hr⟩:=hR.rows;have n0:=hR.n0;have n8:=hR.n1;have HR:aZ (∀i,i<n->∃b2 c2,w.cell? ⟨b,i,aj⟩=az (ay (az ⟨b2,0,aj⟩) n c2)):=fun i hi=>by obtain⟨h1,b2,c2,cs2,h2,h3,h4⟩:=hr i hi;exact⟨b2,c2,by rw[hb.cell,h1,h2]⟩
 clear hr hR hb;go_enter func154,ntmps154;go_wp2_with fail
 go_loop [6,13] (fun _ i=>∃k:Nat,k<=n/\i=ah ag k) (fun _ i=>n-(aK i).toNat)
 case atStart=>exact⟨0,bJ _,rfl⟩
 case round=>
  obtain⟨k,hk,rfl⟩:=hrel;by_cases yH:k<n
  ·obtain⟨b2,c2,hc⟩:=HR.o k yH;go_wp2_with fail;exact⟨⟨k+1,by omega,by simp⟩,by simp[aK];omega⟩
  ·obtain rfl:n=k:=by omega
   go_wp2_with fail;go_ret
   exact⟨rfl,rfl⟩
theorem PK:(Tryz.prog.info? 3).map (fun i=>(i.zero,i.size,i.bytes))=az (az (ah ag 0),1,8):=by kernel_rfl
def m1C(n k:Nat):Array aJ:=(aQ k (ah .i64 (-1))++aQ (n-k) (ah .i64 0)).toArray
theorem ahX{n k:Nat}(h:k<n):(m1C n k).setIfInBounds k (ah ag (-1))=m1C n (k+1):=by unfold m1C;rw[gI,ik _ _ (by simp)];rw[show n-k=(n-(k+1))+1 by omega,oI,List.replicate_succ'];simp
theorem ams{n k:Nat}(h:k<n):(m1C n k)[k]?=az (ah ag 0):=by unfold m1C;rw[dJ,ku (by simp)];simp only[List.length_replicate,JR,gD];rw[if_pos (by omega)]
theorem aft(n:Nat):madeCells #[ah ag 0] n=m1C n 0:=by unfold m1C madeCells;apply tu;simp[Nat.mod_one,List.map_const']
theorem ahW(n:Nat):m1C n n=((aQ n (aj:Option Nat)).map optV).toArray:=by unfold m1C;simp[optV]
def Ej(n:Nat)(rq:Nat->Nat->Bool)(b:NC)(k:Nat):IQ:=(aN k).foldl (fun m r=>uZ n rq (r==0) m) ⟨aQ n aj,aQ 8 false,b⟩
theorem YE(n:Nat)(rq:Nat->Nat->Bool)(b:NC)(k:Nat):Ej n rq b (k+1)=uZ n rq (k==0) (Ej n rq b k):=by unfold Ej;rw[dL,fV];rfl
def Rj(n:Nat)(rq:Nat->Nat->Bool)(b:NC)(bb:Nat)(w:aG)(e:iL)(w':aG):Prop:=
 ∃bM bT,e=ax (.tuple #[ay (az ⟨bM,0,aj⟩) n n,ah ag 0])/\w.heap.size<=bM/\rF w' bb bM bT n (Ej n rq b n)/\Ch (· =bb) w w'
def apx(n:Nat)(w:aG)(B:Nat)(i:aJ)(wr:aG):Prop:=∃k:Nat,k<=n/\i=ah ag k/\dG wr B 3 (m1C n k)/\aO B w wr
def apy(n:Nat)(rq:Nat->Nat->Bool)(b:NC)(bb bM bT:Nat)(w:aG)(i:aJ)(wr:aG):Prop:=∃k:Nat,k<=n/\i=ah ag k/\rF wr bb bM bT n (Ej n rq b k)/\Ch (SR bb bM bT) w wr
theorem XI(n cp:Nat)(R:Option fE)(rq:Nat->Nat->Bool)(b:NC)(bb:Nat)(w:aG)(hR:Fv w R n rq)(hB:dG w bb 201 ((yP b n).map Uw).toArray)(qX:qZ b n):di aH 130 #[au (az ⟨bb,0,aj⟩),ay R n cp,ah ag n] w (Rj n rq b bb w):=by
 have n0:=hR.n0;have n8:=hR.n1;have c0:w.cell? ⟨bb,0,aj⟩=az (ah ag n):=by rw[hB.cell];exact xD Uw 0 _ (by rw[qX.len];omega)
 have HS:=aA (Zb n cp R rq w hR);have HR:=aA hR;have HB:=aA hB;clear hR hB;obtain⟨j0,xQ,zC,Aq,Av⟩:=eQ PK;obtain⟨w1,gK⟩:∃w1:aG,w.alloc (af (m1C n 0) 3)=w1:=⟨_,rfl⟩;go_enter func130,ntmps130;go_wp2_with (first
  |(go_at_call 154;refine HS.o.mono ?_;rintro e w' ⟨rfl,rfl⟩)
  |(at_make;refine kL _ rfl _ _ 26 rfl 3 j0 _ 1 underlying26 xQ zC Aq .i64 .i64 _ _ n rfl rfl ?m1 ?m2 (by rw[Av];omega) (by unfold fJ;omega) ?_))
 case m1=>rfl
 case m2=>rfl
 rw[aft,gK];have B1:aZ (dG w1 w.heap.size 3 (m1C n 0)):=by rw[<-gK];exact dG.new w _ _
 have W1:aZ (aO w.heap.size w w1):=by rw[<-gK];exact(aS _ _).alloc (aC _) _
 have LTB:=aA HB.o.lt;obtain⟨bM,hbM⟩:∃x,w.heap.size=x:=⟨_,rfl⟩;rw[hbM];rw[hbM]at B1;have HbM:=aA hbM;clear gK hbM c0 HS;go_loopw [9,36] (fun _ i wr=>apx n w1 bM i wr) (fun _ i _=>n-(aK i).toNat);case atStart=>exact⟨0,bJ _,rfl,B1.o,aS _ _⟩
 case round=>
  obtain⟨k,hk,rfl,hG,gB⟩:=hrel;have HG:=aA hG;have xW:=aA gB;by_cases yH:k<n
  ·have cG:wr.cell? ⟨bM,k,aj⟩=az (ah ag 0):=by rw[hG.cell];exact ams yH
   have fG:=hG.frozen k;clear hG gB;go_wp2_with fail;exact⟨⟨k+1,by omega,by simp,by rw[<-ahX yH];exact HG.o.jy k _,xW.out.setCell (p:=⟨bM,k,aj⟩) (aC _) _⟩,by simp[aK];omega⟩
  ·obtain rfl:n=k:=by omega
   obtain⟨w2,Lp⟩:∃w2:aG,wr.alloc (af ((aQ 8 false).map kv).toArray 259)=w2:=⟨_,rfl⟩;have BW:aZ (aO w.heap.size w wr):=W1.o.trans (xW.out.mono (by have:=HbM.o;omega));have M2:aZ (rF w2 bb bM wr.heap.size n (Ej n rq b 0)):=(by rw[<-Lp];refine⟨(HB.o.below BW.o LTB.o).alloc _,?_,dG.new _ _ _,by simp[Ej],by simp[Ej],qX⟩;have:=HG.o.alloc (af ((aQ 8 false).map kv).toArray 259);rw[ahW]at this;exact this);have C2:aZ (Ch (· =bb) w w2):=(by rw[<-Lp];exact(Ch.dw BW.o).alloc _);have R2:aZ (Fv w2 R n rq):=HR.o.ajK C2.o (fun k e=>by subst e;exact⟨201,_,HB.o,by decide,by decide⟩);have E0:aZ (wr.alloc (af #[.bool false,.bool false,.bool false,.bool false,.bool false,.bool false,.bool false,.bool false] 259)=w2):=(by rw[<-Lp];rfl);have W2:aZ (w.heap.size<=wr.heap.size):=BW.o.size;clear hG gB HG xW Lp;go_wp2_with fail;rw[E0.o];clear E0;generalize wr.heap.size=bT at *;have n8':(n:Int)<=8:=(by omega);obtain⟨wo,rfl⟩:∃wo:aG,wo=wr:=⟨_,rfl⟩;go_loopw [11,44] (fun _ i wr=>apy n rq b bb bM bT w2 i wr) (fun _ i _=>n-(aK i).toNat);case atStart=>exact⟨0,bJ _,rfl,M2.o,Ch.refl _ _⟩
   case round=>
    obtain⟨k,hk,rfl,hm,hc⟩:=hrel;have HC:=aA hc;by_cases yH:k<n
    ·have MS:=aA (YE n rq b k);generalize Ej n rq b k=mk at hm MS;have RK:Fv wr R n rq:=R2.o.ajK HC.o (fun k e=>by rcases e with e|e|e<;>subst e;exact⟨201,_,M2.o.iY,by decide,by decide⟩;exact⟨3,_,M2.o.mt,by decide,by decide⟩;exact⟨259,_,M2.o.tk,by decide,by decide⟩);obtain⟨bk,hbk⟩:∃bk,(k==0)=bk:=⟨_,rfl⟩;have ek:((k:Int)==0)=bk:=(by rw[<-hbk,kH];simp);rw[hbk]at MS;have HR2:aZ (di aH 155 #[au (az ⟨bb,0,aj⟩),ay R n cp,ay (az ⟨bM,0,aj⟩) n n,au (az ⟨bT,0,aj⟩),.bool bk] wr fun e w'=>e=ax (.tuple #[])/\rF w' bb bM bT n (uZ n rq bk mk)/\Ch (SR bb bM bT) wr w'):=XL n cp n R rq mk bb bM bT bk wr RK hm;clear RK hm hc hbk;go_wp2_with (first|(go_at_call 155;refine HR2.o.mono ?_;rintro e w' ⟨rfl,b1,b2⟩;have B1':=aA b1;have Zp:=aA b2;clear b1 b2));exact⟨⟨k+1,by omega,by simp,by rw[MS.o];exact B1'.o,HC.o.trans Zp.o (fun _ _ q=>q)⟩,by simp[aK];omega⟩
    ·obtain rfl:n=k:=by omega
     have jm:aZ (Rj n rq b bb w (ax (.tuple #[ay (az ⟨bM,0,aj⟩) n n,ah ag 0])) wr):=⟨bM,bT,rfl,Nat.le_of_eq HbM.o,hm,C2.o.trans HC.o (fun i hi q=>by
      have:=HbM.o;rcases q with q|q|q
      ·exact q
      ·omega
      ·have:=W2.o;omega)⟩
     go_wp2_with fail;go_ret2
     exact jm.out
theorem aew(n:Nat)(w:aG)(n0:1<=n)(n8:n<=8):di aH 84 #[ah ag n] w fun e w'=>e=ax (.tuple #[au (az ⟨w.heap.size,0,aj⟩),ah ag 0])/\w.alloc (af ((yP ⟨aQ 8 0,aQ 8 0⟩ n).map Uw).toArray 201)=w':=by
 have E:((yP ⟨aQ 8 0,aQ 8 0⟩ n).map Uw).toArray=#[ah ag n,ah ag 0,ah ag 0,ah ag 0,ah ag 0,ah ag 0,ah ag 0,ah ag 0,ah ag 0,ah ag 0,ah ag 0,ah ag 0,ah ag 0,ah ag 0,ah ag 0,ah ag 0,ah ag 0]:=by simp[yP,Uw,aQ]
 rw[E];clear E;go_enter func84,ntmps84;go_wp2_with fail;go_ret2;exact⟨rfl,rfl⟩
end
section
def pt(b:Nat):aJ:=au (az ⟨b,0,aj⟩)
structure yV where
 qr:Nat->Nat
 qv:Nat->Nat->aJ
 gr:Nat->aJ
 tr:Nat->aJ
 gb:Nat->Nat->Nat
 gc:Nat->Nat->Nat
 tb:Nat->Nat->Nat
 tc:Nat->Nat->Nat
 bb:Nat
def Wu(n:Nat)(f:Nat->aJ)(p:Nat):aJ:=if p<n then f p else ay aj 0 0
def bxV(X:Bx)(L:yV)(i:Nat):aJ:=
 if i=0 then ah ag X.bE else if i=1 then ah ag X.aX
 else if i<10 then Wu X.bE (fun p=>ay (az ⟨L.qr p,0,aj⟩) X.aX X.aX) (i-2)
 else if i<18 then Wu X.bE L.gr (i-10)
 else if i<26 then Wu X.bE L.tr (i-18)
 else if i<34 then ah ag ((X.ptr.getD (i-26) 0:Nat):Int)
 else if i=34 then pt L.bb else ah ag X.ov
def bxC(X:Bx)(L:yV):Array aJ:=((aN 36).map (bxV X L)).toArray
theorem sj(n:Nat)(f:Nat->aJ){i:Nat}(h:i<n):(((aN n).map f).toArray)[i]?=az (f i):=by rw[dJ,cK,eu h];rfl
theorem mM(n:Nat)(f g:Nat->aJ)(j:Nat)(v:aJ)(h:∀i,i<n->g i=if i=j then v else f i):(((aN n).map f).toArray).setIfInBounds j v=((aN n).map g).toArray:=by
 apply tu;rw[gI];apply List.ext_getElem?;intro i;rw[List.getElem?_set];simp only[dW,List.length_range,cK];by_cases hi:i<n
 ·rw[eu hi];simp only[Option.map_some];rw[h i hi];by_cases e:j=i
  ·subst e;simp[hi]
  ·rw[if_neg e,if_neg (fun q=>e q.symm)]
 ·rw[List.getElem?_eq_none (by simp;omega)];by_cases e:j=i
  ·subst e;simp[hi]
  ·simp[e]
def NV(f:Nat->Nat->aJ)(i j:Nat)(v:aJ):Nat->Nat->aJ:=fun a b=>if a=i/\b=j then v else f a b
theorem aiG(f:Nat->Nat->aJ)(i j:Nat)(v:aJ):NV f i j v i j=v:=if_pos ⟨rfl,rfl⟩
theorem aaq(f:Nat->Nat->aJ){i j a b:Nat}(v:aJ)(h:¬(a=i/\b=j)):NV f i j v a b=f a b:=if_neg h
def fr(Z:Own)(n:Nat):Own:=qz Z n (0,0,0,0)
theorem iD{Z:Own}{n k:Nat}(h:k<n):fr Z n k=Z k:=if_pos h
theorem mH{Z:Own}{n k:Nat}(h:n<=k):fr Z n k=(0,0,0,0):=if_neg (by omega)
theorem Nx.Sj{Z:Own}{o:Nat}{S:Nat->Prop}{w w':aG}(hc:Ch S w w')(hS:∀k,S k->(Z k).1=o):Nx Z o w (fr Z w.heap.size) w':=
 ⟨hc.mono fun k _ s=>hS k s,fun k hk=>iD hk,fun k h1 _=>.inr (by rw[mH h1];exact bJ _)⟩
theorem Nx.afz{Z:Own}{o:Nat}{S:Nat->Prop}{w w':aG}(hc:Ch S w w')(hS:∀k,k<w.heap.size->S k->(Z k).1=o):Nx Z o w (fr Z w.heap.size) w':=
 ⟨hc.mono fun k hk s=>hS k hk s,fun k hk=>iD hk,fun k h1 _=>.inr (by rw[mH h1];exact bJ _)⟩
theorem Nx.CX{Z dV:Own}{o:Nat}{w w':aG}(h:Nx Z o w dV w'){p:fE}(hp:w.heap.size<=p.block)(u:aJ):Nx Z o w dV (w'.setCell p u):=
 ⟨h.ch.setCell (.inr hp) u,h.ext,fun k h1 h2=>h.fresh k h1 (by simpa[iJ]using h2)⟩
theorem Nx.dw{Z:Own}{o:Nat}{w w':aG}(h:aO w.heap.size w w'):Nx Z o w (fr Z w.heap.size) w':=Nx.Sj (S:=fun _=>False) (Ch.dw h) (fun _ s=>s.elim)
def Dm(x:Fm×aJ):List aJ:=[ah ag x.1.id,ah ag x.1.iN,ah ag x.1.jl,ah ag x.1.cls,ah ag x.1.ep,x.2]
theorem xG(x:Fm×aJ):(Dm x).length=6:=rfl
def Nb(x:Fm)(v:aJ):aJ:=.agg #[ah ag x.id,ah ag x.iN,ah ag x.jl,ah ag x.cls,ah ag x.ep,v]
def Tq(Z:Own)(w:aG)(v:aJ)(l:List Fm):Prop:=
 ∃Q:List (Fm×aJ),Q.map (·.1)=l/\w.ownsRow 0 59 6 v Q.length (Q.flatMap Dm)/\∀x∈Q,iX Z w x.1.data x.2
theorem iX.jM{Z dV:Own}{S:Nat->Prop}{w w':aG}{x:List Int}{v:aJ}(h:iX Z w x v)(hc:Ch S w w')(he:∀k,k<w.heap.size->dV k=Z k)(hS:∀k,S k->(Z k).1≠1):iX dV w' x v:=by obtain⟨a,cap,e,h1,h2,h3⟩:=h;refine⟨a,cap,e,h1.ch0 hc fun h0 p hp q=>hS _ q (h2 h0 p hp).1,fun h0 p hp=>?_,h3⟩;have:=h2 h0 p hp;exact⟨by rw[he _ this.2];exact this.1,bY this.2 hc.size⟩
theorem Tq.jM{Z dV:Own}{S:Nat->Prop}{w w':aG}{l:List Fm}{v:aJ}(h:Tq Z w v l)(hc:Ch S w w')(he:∀k,k<w.heap.size->dV k=Z k)(hS:∀k,S k->(Z k).1≠1)(hv:∀g,v.ownBlock=az g->¬S g):Tq dV w' v l:=by obtain⟨Q,h1,h2,h3⟩:=h;exact⟨Q,h1,fT h2 hc hv,fun x hx=>(h3 x hx).jM hc he hS⟩
theorem Tq.lt{Z:Own}{w:aG}{l:List Fm}{v:aJ}(h:Tq Z w v l):∀g,v.ownBlock=az g->g<w.heap.size:=by obtain⟨Q,_,h2,_⟩:=h;exact fun g hg=>(h2.lt g hg).2
def Xj(w:aG)(t:dP)(v:aJ)(n:Nat)(f:Nat->Nat)(g:Nat):Prop:=
 ∃cap cs,v=ay (az ⟨g,0,aj⟩) n cap/\dG w g t cs/\∀c,c<n->cs[c]?=az (pt (f c))
theorem Xj.ch{S:Nat->Prop}{w w':aG}{t:dP}{v:aJ}{n:Nat}{f:Nat->Nat}{g:Nat}(h:Xj w t v n f g)(hc:Ch S w w')(hg:¬S g):Xj w' t v n f g:=by obtain⟨cap,cs,h1,h2,h3⟩:=h;exact⟨cap,cs,h1,h2.ch hc hg,h3⟩
theorem Xj.lt{w:aG}{t:dP}{v:aJ}{n:Nat}{f:Nat->Nat}{g:Nat}(h:Xj w t v n f g):g<w.heap.size:=by obtain⟨cap,cs,h1,h2,h3⟩:=h;exact h2.lt
structure pW(Z:Own)(o:Nat)(w:aG)(b:Nat)(X:Bx)(L:yV):Prop where
 root:dG w b 158 (bxC X L)/\Z b=(o,0,0,0)
 qr:∀p,p<X.bE->dG w (L.qr p) 110 (((aN X.aX).map (L.qv p)).toArray)/\Z (L.qr p)=(o,1,p,0)
 q:∀p c,p<X.bE->c<X.aX->Tq Z w (L.qv p c) (dz X.q p c)/\∀g,(L.qv p c).ownBlock=az g->Z g=(o,2,p,c)
 g:∀p,p<X.bE->∃g,Xj w 159 (L.gr p) X.aX (L.gb p) g/\Z g=(o,3,p,0)
 gg:∀p c,p<X.bE->c<X.aX->EY w (L.gb p c) (L.gc p c) (dz X.gv p c)/\Z (L.gb p c)=(o,4,p,c)/\Z (L.gc p c)=(o,5,p,c)
 t:∀p,p<X.bE->∃g,Xj w 162 (L.tr p) X.aX (L.tb p) g/\Z g=(o,6,p,0)
 tt:∀p c,p<X.bE->c<X.aX->Lu w (L.tb p c) (L.tc p c) (dz X.tk p c)/\Z (L.tb p c)=(o,7,p,c)/\Z (L.tc p c)=(o,8,p,c)
 iY:dG w L.bb 201 (((yP X.iY X.bE).map Uw).toArray)/\Z L.bb=(o,9,0,0)
section
variable{Z dV:Own}{o:Nat}{w w':aG}{b:Nat}{X:Bx}{L:yV}
theorem pW.jM{S:Nat->Prop}(h:pW Z o w b X L)(hc:Ch S w w')(he:∀k,k<w.heap.size->dV k=Z k)(hS:∀k,S k->(Z k).1≠1/\(Z k).1≠o):pW dV o w' b X L where
 root:=⟨h.root.1.ch hc fun s=>(hS _ s).2 (by rw[h.root.2]),by rw[he _ h.root.1.lt];exact h.root.2⟩
 qr:=fun p hp=>let a:=h.qr p hp;⟨a.1.ch hc fun s=>(hS _ s).2 (by rw[a.2]),by rw[he _ a.1.lt];exact a.2⟩
 q:=fun p c hp qx=>let a:=h.q p c hp qx;⟨a.1.jM hc he (fun k s=>(hS k s).1) (fun g hg s=>(hS _ s).2 (by rw[a.2 g hg])),fun g hg=>by rw[he _ (a.1.lt g hg)];exact a.2 g hg⟩
 g:=fun p hp=>by obtain⟨g,h1,h2⟩:=h.g p hp;exact⟨g,h1.ch hc fun s=>(hS _ s).2 (by rw[h2]),by rw[he _ h1.lt];exact h2⟩
 gg:=fun p c hp qx=>by obtain⟨h1,h2,h3⟩:=h.gg p c hp qx;exact⟨h1.ch hc (fun s=>(hS _ s).2 (by rw[h2])) (fun s=>(hS _ s).2 (by rw[h3])),by rw[he _ h1.p.lt];exact h2,by rw[he _ h1.c.lt];exact h3⟩
 t:=fun p hp=>by obtain⟨g,h1,h2⟩:=h.t p hp;exact⟨g,h1.ch hc fun s=>(hS _ s).2 (by rw[h2]),by rw[he _ h1.lt];exact h2⟩
 tt:=fun p c hp qx=>by obtain⟨h1,h2,h3⟩:=h.tt p c hp qx;exact⟨h1.ch hc (fun s=>(hS _ s).2 (by rw[h2])) (fun s=>(hS _ s).2 (by rw[h3])),by rw[he _ h1.p.lt];exact h2,by rw[he _ h1.c.lt];exact h3⟩
 iY:=⟨h.iY.1.ch hc fun s=>(hS _ s).2 (by rw[h.iY.2]),by rw[he _ h.iY.1.lt];exact h.iY.2⟩
theorem pW.nx{Gf:Own}{o2:Nat}(h:pW Z o w b X L)(k:Nx Z o2 w Gf w')(ho:o≠o2)(h2:2<=o2):pW Gf o w' b X L:=
 h.jM k.ch k.ext fun i hi=>⟨by omega,fun e=>ho (e.symm.trans hi)⟩
theorem pW.below(h:pW Z o w b X L)(k:aO w.heap.size w w'):pW Z o w' b X L:=h.jM (S:=fun _=>False) (Ch.dw k) (fun _ _=>rfl) (fun _ s=>s.elim)
theorem pW.drew(h:pW Z o w b X L):pW Z o w.drew b X L:=h.below ⟨rfl,rfl,rfl,aC _,fun _ _=>rfl⟩
theorem pW.Zj(h:pW Z o w b X L):pW (fr Z w.heap.size) o w b X L:=h.jM (S:=fun _=>False) (Ch.refl _ _) (fun k hk=>iD hk) (fun _ s=>s.elim)
theorem pW.afT(h:pW Z o w b X L){p c:Nat}(hp:p<X.bE)(hc:c<X.aX)(dim:Ay X.gv X.bE X.aX)(ho:2<=o){x:Gv}(k:Ch (· =L.gc p c) w w')(hb:dG w' (L.gc p c) 206 (gvC x)):pW Z o w' b {X with gv:=jA X.gv p c x} L:=by
 have T:=(h.gg p c hp hc).2.2;have hd:∀i,i=L.gc p c->(Z i).1≠1:=fun i e=>by rw[e,T];simp only;omega
 have ne:∀{i t},Z i=t->t≠(o,5,p,c)->¬(i=L.gc p c):=fun h1 h2 e=>h2 (by rw[<-h1,e,T]);exact{
  root:=⟨h.root.1.ch k (ne h.root.2 (by simp)),h.root.2⟩
  qr:=fun a ha=>let r:=h.qr a ha;⟨r.1.ch k (ne r.2 (by simp)),r.2⟩
  q:=fun a d ha Ap=>let r:=h.q a d ha Ap;⟨r.1.jM k (fun _ _=>rfl) hd (fun g hg=>ne (r.2 g hg) (by simp)),r.2⟩
  g:=fun a ha=>by obtain⟨g,h1,h2⟩:=h.g a ha;exact⟨g,h1.ch k (ne h2 (by simp)),h2⟩
  gg:=fun a d ha Ap=>by
   obtain⟨h1,h2,h3⟩:=h.gg a d ha Ap;refine⟨?_,h2,h3⟩;rw[iQ dim hp hc];by_cases e:a=p/\d=c
   ·rw[if_pos e];obtain⟨rfl,rfl⟩:=e;exact⟨h1.p.ch k (ne h2 (by simp)),hb⟩
   ·rw[if_neg e];exact h1.ch k (ne h2 (by simp)) (ne h3 (fun q=>e (by injection q with _ q;injection q with _ q;injection q with q1 q2;exact⟨q1,q2⟩)))
  t:=fun a ha=>by obtain⟨g,h1,h2⟩:=h.t a ha;exact⟨g,h1.ch k (ne h2 (by simp)),h2⟩
  tt:=fun a d ha Ap=>by obtain⟨h1,h2,h3⟩:=h.tt a d ha Ap;exact⟨h1.ch k (ne h2 (by simp)) (ne h3 (by simp)),h2,h3⟩
  iY:=⟨h.iY.1.ch k (ne h.iY.2 (by simp)),h.iY.2⟩}
theorem pW.aai(h:pW Z o w b X L){p c:Nat}(hp:p<X.bE)(hc:c<X.aX)(dim:Ay X.tk X.bE X.aX)(ho:2<=o){x:Tk}(k:Ch (· =L.tc p c) w w')(hb:dG w' (L.tc p c) 228 (tkC x)):pW Z o w' b {X with tk:=jA X.tk p c x} L:=by
 have T:=(h.tt p c hp hc).2.2;have hd:∀i,i=L.tc p c->(Z i).1≠1:=fun i e=>by rw[e,T];simp only;omega
 have ne:∀{i t},Z i=t->t≠(o,8,p,c)->¬(i=L.tc p c):=fun h1 h2 e=>h2 (by rw[<-h1,e,T]);exact{
  root:=⟨h.root.1.ch k (ne h.root.2 (by simp)),h.root.2⟩
  qr:=fun a ha=>let r:=h.qr a ha;⟨r.1.ch k (ne r.2 (by simp)),r.2⟩
  q:=fun a d ha Ap=>let r:=h.q a d ha Ap;⟨r.1.jM k (fun _ _=>rfl) hd (fun g hg=>ne (r.2 g hg) (by simp)),r.2⟩
  g:=fun a ha=>by obtain⟨g,h1,h2⟩:=h.g a ha;exact⟨g,h1.ch k (ne h2 (by simp)),h2⟩
  gg:=fun a d ha Ap=>by obtain⟨h1,h2,h3⟩:=h.gg a d ha Ap;exact⟨h1.ch k (ne h2 (by simp)) (ne h3 (by simp)),h2,h3⟩
  t:=fun a ha=>by obtain⟨g,h1,h2⟩:=h.t a ha;exact⟨g,h1.ch k (ne h2 (by simp)),h2⟩
  tt:=fun a d ha Ap=>by
   obtain⟨h1,h2,h3⟩:=h.tt a d ha Ap;refine⟨?_,h2,h3⟩;rw[iQ dim hp hc];by_cases e:a=p/\d=c
   ·rw[if_pos e];obtain⟨rfl,rfl⟩:=e;exact⟨h1.p.ch k (ne h2 (by simp)),hb⟩
   ·rw[if_neg e];exact h1.ch k (ne h2 (by simp)) (ne h3 (fun q=>e (by injection q with _ q;injection q with _ q;injection q with q1 q2;exact⟨q1,q2⟩)))
  iY:=⟨h.iY.1.ch k (ne h.iY.2 (by simp)),h.iY.2⟩}
theorem pW.asv(h:pW Z o w b X L){p c:Nat}(hp:p<X.bE)(hc:c<X.aX)(dim:Ay X.q X.bE X.aX)(ho:2<=o){S:Nat->Prop}{v:aJ}{l:List Fm}(k:Ch S w w')(he:∀i,i<w.heap.size->dV i=Z i)(hS:∀i,S i->Z i=(o,1,p,0)\/Z i=(o,2,p,c))(hr:dG w' (L.qr p) 110 (((aN X.aX).map (NV L.qv p c v p)).toArray))(hq:Tq dV w' v l)(hv:∀g,v.ownBlock=az g->dV g=(o,2,p,c)):pW dV o w' b {X with q:=jA X.q p c l} {L with qv:=NV L.qv p c v}:=by
 have hd:∀i,S i->(Z i).1≠1:=fun i e=>by rcases hS i e with q|q<;>rw[q]<;>simp only<;>omega
 have ne:∀{i t},Z i=t->t≠(o,1,p,0)->t≠(o,2,p,c)->¬S i:=fun h1 h2 h3 s=>by
  rcases hS _ s with q|q
  ·exact h2 (by rw[<-h1,q])
  ·exact h3 (by rw[<-h1,q])
 exact{
  root:=⟨h.root.1.ch k (ne h.root.2 (by simp) (by simp)),by rw[he _ h.root.1.lt];exact h.root.2⟩
  qr:=fun a ha=>by
   have r:=h.qr a ha;refine⟨?_,by rw[he _ r.1.lt];exact r.2⟩;by_cases e:a=p
   ·subst e;exact hr
   ·have e2:(NV L.qv p c v a)=L.qv a:=by funext d;exact aaq _ _ (fun q=>e q.1)
    simp only;rw[e2];exact r.1.ch k (ne r.2 (fun q=>e (by injection q with _ q;injection q with _ q;injection q)) (by simp))
  q:=fun a d ha Ap=>by
   have r:=h.q a d ha Ap;simp only;rw[iQ dim hp hc];by_cases e:a=p/\d=c
   ·rw[if_pos e];obtain⟨rfl,rfl⟩:=e;rw[aiG];exact⟨hq,hv⟩
   ·rw[if_neg e,aaq _ _ e];exact⟨r.1.jM k he hd (fun g hg=>ne (r.2 g hg) (by simp) (fun q=>e (by injection q with _ q;injection q with _ q;injection q with q1 q2;exact⟨q1,q2⟩))),fun g hg=>by rw[he _ (r.1.lt g hg)];exact r.2 g hg⟩
  g:=fun a ha=>by obtain⟨g,h1,h2⟩:=h.g a ha;exact⟨g,h1.ch k (ne h2 (by simp) (by simp)),by rw[he _ h1.lt];exact h2⟩
  gg:=fun a d ha Ap=>by obtain⟨h1,h2,h3⟩:=h.gg a d ha Ap;exact⟨h1.ch k (ne h2 (by simp) (by simp)) (ne h3 (by simp) (by simp)),by rw[he _ h1.p.lt];exact h2,by rw[he _ h1.c.lt];exact h3⟩
  t:=fun a ha=>by obtain⟨g,h1,h2⟩:=h.t a ha;exact⟨g,h1.ch k (ne h2 (by simp) (by simp)),by rw[he _ h1.lt];exact h2⟩
  tt:=fun a d ha Ap=>by obtain⟨h1,h2,h3⟩:=h.tt a d ha Ap;exact⟨h1.ch k (ne h2 (by simp) (by simp)) (ne h3 (by simp) (by simp)),by rw[he _ h1.p.lt];exact h2,by rw[he _ h1.c.lt];exact h3⟩
  iY:=⟨h.iY.1.ch k (ne h.iY.2 (by simp) (by simp)),by rw[he _ h.iY.1.lt];exact h.iY.2⟩}
theorem pW.aah(h:pW Z o w b X L)(ho:2<=o){ptr':List Nat}{ov':Nat}(k:Ch (· =b) w w')(hb:dG w' b 158 (bxC {X with ptr:=ptr',ov:=ov'} L)):pW Z o w' b {X with ptr:=ptr',ov:=ov'} L:=by
 have hd:∀i,i=b->(Z i).1≠1:=fun i e=>by rw[e,h.root.2];simp only;omega
 have ne:∀{i t},Z i=t->t≠(o,0,0,0)->¬(i=b):=fun h1 h2 e=>h2 (by rw[<-h1,e,h.root.2]);exact{
  root:=⟨hb,h.root.2⟩
  qr:=fun a ha=>let r:=h.qr a ha;⟨r.1.ch k (ne r.2 (by simp)),r.2⟩
  q:=fun a d ha Ap=>let r:=h.q a d ha Ap;⟨r.1.jM k (fun _ _=>rfl) hd (fun g hg=>ne (r.2 g hg) (by simp)),r.2⟩
  g:=fun a ha=>by obtain⟨g,h1,h2⟩:=h.g a ha;exact⟨g,h1.ch k (ne h2 (by simp)),h2⟩
  gg:=fun a d ha Ap=>by obtain⟨h1,h2,h3⟩:=h.gg a d ha Ap;exact⟨h1.ch k (ne h2 (by simp)) (ne h3 (by simp)),h2,h3⟩
  t:=fun a ha=>by obtain⟨g,h1,h2⟩:=h.t a ha;exact⟨g,h1.ch k (ne h2 (by simp)),h2⟩
  tt:=fun a d ha Ap=>by obtain⟨h1,h2,h3⟩:=h.tt a d ha Ap;exact⟨h1.ch k (ne h2 (by simp)) (ne h3 (by simp)),h2,h3⟩
  iY:=⟨h.iY.1.ch k (ne h.iY.2 (by simp)),h.iY.2⟩}
theorem pW.Ju(h:pW Z o w b X L)(ho:2<=o){B:NC}(k:Ch (· =L.bb) w w')(hb:dG w' L.bb 201 (((yP B X.bE).map Uw).toArray)):pW Z o w' b {X with iY:=B} L:=by
 have hd:∀i,i=L.bb->(Z i).1≠1:=fun i e=>by rw[e,h.iY.2];simp only;omega
 have ne:∀{i t},Z i=t->t≠(o,9,0,0)->¬(i=L.bb):=fun h1 h2 e=>h2 (by rw[<-h1,e,h.iY.2]);exact{
  root:=⟨h.root.1.ch k (ne h.root.2 (by simp)),h.root.2⟩
  qr:=fun a ha=>let r:=h.qr a ha;⟨r.1.ch k (ne r.2 (by simp)),r.2⟩
  q:=fun a d ha Ap=>let r:=h.q a d ha Ap;⟨r.1.jM k (fun _ _=>rfl) hd (fun g hg=>ne (r.2 g hg) (by simp)),r.2⟩
  g:=fun a ha=>by obtain⟨g,h1,h2⟩:=h.g a ha;exact⟨g,h1.ch k (ne h2 (by simp)),h2⟩
  gg:=fun a d ha Ap=>by obtain⟨h1,h2,h3⟩:=h.gg a d ha Ap;exact⟨h1.ch k (ne h2 (by simp)) (ne h3 (by simp)),h2,h3⟩
  t:=fun a ha=>by obtain⟨g,h1,h2⟩:=h.t a ha;exact⟨g,h1.ch k (ne h2 (by simp)),h2⟩
  tt:=fun a d ha Ap=>by obtain⟨h1,h2,h3⟩:=h.tt a d ha Ap;exact⟨h1.ch k (ne h2 (by simp)) (ne h3 (by simp)),h2,h3⟩
  iY:=⟨hb,h.iY.2⟩}
theorem Bh(x:Int):(Ry x).length=1:=rfl
theorem iX.Jl{base:Nat}{x:List Int}{v:aJ}(h:w.ownsRow base 5 1 v x.length (x.flatMap Ry))(hl:x.length<=64)(ht:∀g,v.ownBlock=az g->(Z g).1=1):iX Z w x v:=by obtain⟨a,cap,e,_,h2,_⟩:=ic (d:=(0:Int)) Bh (by decide) h;subst e;refine⟨a,cap,rfl,h2,fun _ p hp=>?_,hl⟩;subst hp;exact⟨ht _ rfl,(h.lt _ rfl).2⟩
theorem Jr{w':aG}{b1 b2:Nat}{t1 t2:dP}{m1 m2 n1 n2:Nat}{v1 v2:aJ}{l1 l2:List aJ}(h1:w'.ownsRow b1 t1 m1 v1 n1 l1)(h2:w'.ownsRow b2 t2 m2 v2 n2 l2)(nJ:t1≠t2):∀g,v1.ownBlock=az g->v2.ownBlock≠az g:=by
 intro g e1 e2;rcases h1.2 with⟨rfl,_⟩|⟨g1,c1,axp,rfl,_,hh1,_⟩
 ·simp[eO]at e1
 ·rcases h2.2 with⟨rfl,_⟩|⟨g2,c2,axq,rfl,_,hh2,_⟩
  ·simp[eO]at e2
  ·simp[eO]at e1 e2;subst e1;subst e2;exact dG.sZ (show dG w' _ t1 axp from hh1) (show dG w' _ t2 axq from hh2) nJ rfl
theorem pW.ase{w2 wc wd:aG}(h:pW Z o w2 b X L){p c:Nat}(hp:p<X.bE)(hc:c<X.aX)(dim:Ay X.q X.bE X.aX)(ho:2<=o){x:Fm}{v' v2:aJ}{o1:Obj}{Q:List (Fm×aJ)}(hQ1:Q.map (·.1)=dz X.q p c)(hQ3:∀y∈Q,iX Z w2 y.1.data y.2)(bc:aO w2.heap.size w2 wc)(ow:wc.ownsRow w2.heap.size 5 1 v' x.data.length (x.data.flatMap Ry))(hl:x.data.length<=64)(uB:wd.ownsRow 0 59 6 v2 (Q.length+1) (Q.flatMap Dm++Dm (x,v')))(gr:(wc.alloc o1).grownBy wd (L.qv p c).ownBlock)(loc:v2.ownBlock=(L.qv p c).ownBlock\/v2.ownBlock=az (wc.heap.size+1)):∃dV,pW dV o (wd.setCell ⟨L.qr p,c,aj⟩ v2) b {X with q:=jA X.q p c (dz X.q p c++[x])} {L with qv:=NV L.qv p c v2}/\Nx Z o w2 dV (wd.setCell ⟨L.qr p,c,aj⟩ v2):=by
 have hq:=h.q p c hp hc;have hr:=h.qr p hp;have ltq:=hq.1.lt;have sz:w2.heap.size<=wc.heap.size:=bc.size;have lt':∀g,v'.ownBlock=az g->w2.heap.size<=g/\g<wc.heap.size:=ow.lt;have ow2:wd.ownsRow w2.heap.size 5 1 v' x.data.length (x.data.flatMap Ry):=by
  refine(ow.alloc o1).kept gr ?_;cases e:v'.ownBlock with
  |none=>exact .inl rfl
  |some g=>refine .inr fun e2=>?_;have h1:=(lt' g e).1;have h2:=ltq g e2.symm;omega
 have ne2:=Jr ow2 uB (by decide);have hrq:∀g,(L.qv p c).ownBlock=az g->L.qr p≠g:=fun g hg e=>by have h1:=hr.2;have h2:=hq.2 g hg;rw[e,h2]at h1;simp at h1
 have S3:Ch (fun k=>k=L.qr p\/(L.qv p c).ownBlock=az k) w2 (wd.setCell ⟨L.qr p,c,aj⟩ v2):=
  (((Ch.dw bc).alloc o1).grown gr fun g hg=>.inl (.inr hg)).setCell (.inl (.inl rfl)) v2
 obtain⟨dV,Pz⟩:∃dV:Own,dV=fun k=>if v'.ownBlock=az k then(1,0,0,0)else if v2.ownBlock=az k then(o,2,p,c)else fr Z w2.heap.size k:=⟨_,rfl⟩
 have he:∀k,k<w2.heap.size->dV k=Z k:=fun k hk=>by
  rw[Pz];simp only;rw[if_neg (fun e=>by have:=(lt' k e).1;omega)];by_cases e:v2.ownBlock=az k
  ·rw[if_pos e];rcases loc with q|q
   ·rw[q]at e;exact(hq.2 k e).symm
   ·rw[q]at e;injection e with e;omega
  ·rw[if_neg e,iD hk]
 have aeu:dG wd (L.qr p) 110 (((aN X.aX).map (L.qv p)).toArray):=((hr.1.below bc hr.1.lt).alloc o1).grown gr fun e=>hrq _ e.symm rfl;refine⟨dV,h.asv hp hc dim ho S3 he ?_ ?_ ?_ ?_,⟨S3.mono fun k _ s=>?_,he,fun k h1 h2=>?_⟩⟩
 ·rintro i (e|e)
  ·exact .inl (by rw[e];exact hr.2)
  ·exact .inr (hq.2 i e)
 ·have:=aeu.jy c v2;rw[mM X.aX (L.qv p) (NV L.qv p c v2 p) c v2 (fun i _=>by
   unfold NV;by_cases e:i=c
   ·simp[e]
   ·simp[e])]at this
  exact this
 ·refine⟨Q++[(x,v')],by simp[hQ1],?_,fun y hy=>?_⟩
  ·have:=uB;rw[show Q.flatMap Dm++Dm (x,v')=(Q++[(x,v')]).flatMap Dm by simp,show Q.length+1=(Q++[(x,v')]).length by simp]at this;exact fT this ((Ch.refl (· =L.qr p) wd).setCell (p:=⟨L.qr p,c,aj⟩) (.inl rfl) v2) fun g hg e=>by
    subst e;rcases loc with q|q
    ·rw[q]at hg;exact hrq _ hg rfl
    ·rw[q]at hg;injection hg with hg;have:=hr.1.lt;omega
  ·rcases List.mem_append.1 hy with hy|hy
   ·exact(hQ3 y hy).jM S3 he fun k s=>by
     rcases s with s|s
     ·rw[s,hr.2];simp only;omega
     ·rw[hq.2 k s];simp only;omega
   ·simp only[dh]at hy;subst hy;refine iX.Jl (base:=w2.heap.size) (fT ow2 ((Ch.refl (· =L.qr p) wd).setCell (p:=⟨L.qr p,c,aj⟩) (.inl rfl) v2) fun g hg e=>?_) hl fun g hg=>?_
    ·have:=(lt' g hg).1;have:=hr.1.lt;omega
    ·rw[Pz];simp only;rw[if_pos hg]
 ·intro g hg;rw[Pz];simp only;rw[if_neg (fun e=>ne2 g e hg),if_pos hg]
 ·rcases s with s|s
  ·rw[s,hr.2]
  ·rw[hq.2 k s]
 ·rw[Pz];simp only;by_cases e1:v'.ownBlock=az k
  ·rw[if_pos e1];exact .inr (aC _)
  ·rw[if_neg e1];by_cases e2:v2.ownBlock=az k
   ·rw[if_pos e2];exact .inl rfl
   ·rw[if_neg e2,mH h1];exact .inr (bJ _)
end
end
section
attribute [local go_sem ↓] fM fK
section
variable{Z:Own}{o:Nat}{w:aG}{b:Nat}{X:Bx}{L:yV}
theorem pW.at_(h:pW Z o w b X L){i:Nat}(hi:i<36):w.cell? ⟨b,i,aj⟩=az (bxV X L i):=by rw[h.root.1.cell];exact sj 36 _ hi
theorem pW.c0(h:pW Z o w b X L):w.cell? ⟨b,0,aj⟩=az (ah ag X.bE):=h.at_ (i:=0) (by omega)
theorem pW.c1(h:pW Z o w b X L):w.cell? ⟨b,0+1,aj⟩=az (ah ag X.aX):=h.at_ (i:=1) (by omega)
theorem pW.cq(h:pW Z o w b X L){p:Nat}(hp:p<X.bE)(h8:X.bE<=8):w.cell? ⟨b,2+p,aj⟩=az (ay (az ⟨L.qr p,0,aj⟩) X.aX X.aX):=by rw[h.at_ (i:=2+p) (by omega)];unfold bxV Wu;rw[if_neg (by omega),if_neg (by omega),if_pos (by omega),show 2+p-2=p by omega,if_pos hp]
theorem pW.cg(h:pW Z o w b X L){p:Nat}(hp:p<X.bE)(h8:X.bE<=8):w.cell? ⟨b,10+p,aj⟩=az (L.gr p):=by rw[h.at_ (i:=10+p) (by omega)];unfold bxV Wu;rw[if_neg (by omega),if_neg (by omega),if_neg (by omega),if_pos (by omega),show 10+p-10=p by omega,if_pos hp]
theorem pW.ct(h:pW Z o w b X L){p:Nat}(hp:p<X.bE)(h8:X.bE<=8):w.cell? ⟨b,18+p,aj⟩=az (L.tr p):=by rw[h.at_ (i:=18+p) (by omega)];unfold bxV Wu;rw[if_neg (by omega),if_neg (by omega),if_neg (by omega),if_neg (by omega),if_pos (by omega),show 18+p-18=p by omega,if_pos hp]
theorem pW.cp(h:pW Z o w b X L){p:Nat}(hp:p<8):w.cell? ⟨b,26+p,aj⟩=az (ah ag (X.ptr.getD p 0:Nat)):=by rw[h.at_ (i:=26+p) (by omega)];unfold bxV Wu;rw[if_neg (by omega),if_neg (by omega),if_neg (by omega),if_neg (by omega),if_neg (by omega),if_pos (by omega),show 26+p-26=p by omega]
theorem pW.cb(h:pW Z o w b X L):w.cell? ⟨b,34,aj⟩=az (pt L.bb):=h.at_ (i:=34) (by omega)
theorem pW.cov(h:pW Z o w b X L):w.cell? ⟨b,35,aj⟩=az (ah ag X.ov):=h.at_ (i:=35) (by omega)
theorem pW.cqv(h:pW Z o w b X L){p c:Nat}(hp:p<X.bE)(hc:c<X.aX):w.cell? ⟨L.qr p,c,aj⟩=az (L.qv p c):=by rw[(h.qr p hp).1.cell];exact sj _ _ hc
end
theorem nK{w:aG}{base:Nat}{e:dP}{m n:Nat}{v:aJ}{xs:List aJ}(h:w.ownsRow base e m v n xs){p:fE}(u:aJ)(hg:∀g,v.ownBlock=az g->g≠p.block):(w.setCell p u).ownsRow base e m v n xs:=
 fT h ((Ch.refl (· =p.block) w).setCell (.inl rfl) u) hg
theorem Ka(p c:Nat)(Z:Own)(o:Nat)(w:aG)(b:Nat)(X:Bx)(L:yV)(h:pW Z o w b X L)(hp:p<X.bE)(hc:c<X.aX):di aH 91 #[pt b,ah ag p,ah ag c] w fun e w'=>e=ax (.bool true)/\w=w':=by have c0:=h.c0;have c1:=h.c1;clear h;unfold pt;go_enter func91,ntmps91;go_wp2_with fail;go_ret;exact⟨rfl,rfl⟩
theorem ZJ(l:List Int):∀u∈l.flatMap Ry,u.oneCell'=true:=by intro u hu;simp only[gZ,Ry,dh]at hu;obtain⟨x,_,rfl⟩:=hu;rfl
theorem afd:(Tryz.prog.info? 5).map (fun i=>(i.zero,i.size,i.bytes))=az (az (.int .u8 0),1,1):=by kernel_rfl
def aov(x:Fm)(w:aG)(e:iL)(w':aG):Prop:=∃v',e=ax (Nb x v')/\aO w.heap.size w w'/\w'.ownsRow w.heap.size 5 1 v' x.data.length (x.data.flatMap Ry)
theorem yt(x:Fm)(v:aJ)(Z:Own)(w:aG)(h:iX Z w x.data v):di aH 92 #[Nb x v] w (aov x w):=by
 obtain⟨a,cap,rfl,h1,h2,h3⟩:=h;obtain⟨xi,xf,xt,xc,xe,xd⟩:=x;simp only at h1 h2 h3|-;unfold Nb;simp only;obtain⟨w1,gK⟩:∃w1:aG,(w.alloc (af #[ah ag xi,ah ag xf,ah ag xt,ah ag xc,ah ag xe,ay a xd.length cap] 59)).alloc (af #[ah ag 0,ah ag 0,ah ag 0,ah ag 0,ah ag 0,ay aj 0 0] 59)=w1:=⟨_,rfl⟩;have BW:aZ (aO w.heap.size w w1):=by rw[<-gK];exact((aS _ _).alloc (aC _) _).alloc (by simp) _
 have S1:aZ (w1.heap.size=w.heap.size+2):=by rw[<-gK,aZ];simp
 have B1:aZ (dG w1 w.heap.size 59 #[ah ag xi,ah ag xf,ah ag xt,ah ag xc,ah ag xe,ay a xd.length cap]):=by rw[<-gK];exact(dG.new w _ _).alloc _
 have B2:aZ (dG w1 (w.heap.size+1) 59 #[ah ag 0,ah ag 0,ah ag 0,ah ag 0,ah ag 0,ay aj 0 0]):=by rw[<-gK];have:=dG.new (w.alloc (af #[ah ag xi,ah ag xf,ah ag xt,ah ag xc,ah ag xe,ay a xd.length cap] 59)) 59 #[ah ag 0,ah ag 0,ah ag 0,ah ag 0,ah ag 0,ay aj 0 0];rw[aZ];simpa using this
 have RA:=aA (uf Bh (h1.below (aC _) BW.o));have fo:=aA (ZJ xd);have HL:=aA h3;obtain⟨i0,hi0,wE,uY,wN⟩:=eQ afd;have k5:=B1.o.cell 5;have kf:=B1.o.frozen 5;simp only[dJ,fP,dO]at k5;clear h1 h2 h3;go_enter func92,ntmps92;go_wp2_with (at_builtin;go_loud (refine gY _ rfl (.const (ay aj 0 0)) (.tmp 4) 27 rfl w.heap.size 5 i0 _ 1 1 underlying27 hi0 wE uY wN rfl (by decide) _ 0 [] rfl (dR w1 w.heap.size 5 1) w1.heap.size _ xd.length cap (xd.flatMap Ry) rfl RA.o fo.out ?c3 ?c4 ?c5 ?_));case c3=>have:=HL.o;unfold fJ;omega
 case c4=>have:=HL.o;omega
 case c5=>exact BW.o.size
 intro v1 w2 nR yG AX;try simp only[rG,kK]at nR
 have B1':aZ (dG w2 w.heap.size 59 #[ah ag xi,ah ag xf,ah ag xt,ah ag xc,ah ag xe,ay a xd.length cap]):=B1.o.grown yG (by simp[eO]);have Zp:aZ (dG w2 (w.heap.size+1) 59 #[ah ag 0,ah ag 0,ah ag 0,ah ag 0,ah ag 0,ay aj 0 0]):=B2.o.grown yG (by simp[eO]);have JB:aZ (aO w.heap.size w w2):=BW.o.trans ⟨yG.os,yG.tape,yG.output,yG.size,fun k hk=>yG.block k (bY hk BW.o.size) (by simp[eO])⟩;obtain⟨a1,abj,rfl,hcap,_,oW⟩:=ic (d:=(0:Int)) Bh (by decide) nR;have OW:=aA nR;have NB:aZ (∀g,(ay a1 xd.length abj).ownBlock=az g->g≠w.heap.size/\g≠w.heap.size+1):=fun g hg=>by
  rcases AX with q|q
  ·rw[hg]at q;simp[eO]at q
  ·rw[hg]at q;injection q with q;have:=S1.o;omega
 clear nR yG hcap oW kf k5 AX;have k0:=B1'.o.cell 0;have k1:=B1'.o.cell 1;have k2:=B1'.o.cell 2;have k3:=B1'.o.cell 3;have k4:=B1'.o.cell 4;have k5:=B1'.o.cell 5;have kf:=B1'.o.frozen 5;have m0:=Zp.o.cell 0;have m1:=Zp.o.cell 1;have m2:=Zp.o.cell 2;have m3:=Zp.o.cell 3;have m4:=Zp.o.cell 4;have m5:=Zp.o.cell 5;have f0:=Zp.o.frozen 0;have f1:=Zp.o.frozen 1;have f2:=Zp.o.frozen 2;have f3:=Zp.o.frozen 3;have f4:=Zp.o.frozen 4;have f5:=Zp.o.frozen 5;simp only[dJ,fP,dO]at k0 k1 k2 k3 k4 k5 m0 m1 m2 m3 m4 m5;clear gK;go_wp2_with fail;refine bodyPost_ret (v:=.agg #[ah ag xi,ah ag xf,ah ag xt,ah ag xc,ah ag xe,ay a1 xd.length abj]) (by simp[results,Tryz.results92,go_sem,m0,m1,m2,m3,m4,m5]) rfl ⟨_,rfl,?_,?_⟩
 ·exact((((((JB.o.setCell (by simp) _).setCell (by simp) _).setCell (by simp) _).setCell (by simp) _).setCell (by simp) _).setCell (by simp) _).setCell (by simp) _
 ·refine nK (nK (nK (nK (nK (nK (nK OW.o _ ?_) _ ?_) _ ?_) _ ?_) _ ?_) _ ?_) _ ?_
  ·exact fun g hg=>(NB.o g hg).1
  all_goals exact fun g hg=>(NB.o g hg).2
theorem XH(p c N:Nat)(Z:Own)(o:Nat)(w:aG)(b:Nat)(X:Bx)(L:yV)(h:pW Z o w b X L)(hx:lW X N)(hN:N<=1000000000000)(hp:p<X.bE)(hc:c<X.aX):di aH 100 #[pt b,ah ag p,ah ag c] w fun e w'=>e=ax (ah ag (dz X.gv p c).nP)/\aO w.heap.size w w':=by
 have HH:=aA (Ka p c Z o w b X L h hp hc);obtain⟨hg,_,_⟩:=h.gg p c hp hc;have HG:=aA (abL _ _ N _ _ w (hx.g p c hp hc) hN hg);obtain⟨g,⟨cap,cs,e1,e2,e3⟩,_⟩:=h.g p hp;have cg:=h.cg hp hx.p1;rw[e1]at cg;have cc:w.cell? ⟨g,c,aj⟩=az (pt (L.gb p c)):=by rw[e2.cell];exact e3 c hc
 have p0:(0:Int)<=(p:Int):=by omega
 have p8:(p:Int)<8:=by have:=hx.p1;omega
 have c0:(0:Int)<=(c:Int):=by omega
 have c8:(c:Int)<(X.aX:Int):=by omega
 generalize(dz X.gv p c).nP=l at HG|-;clear h hx hg e1 e2 e3;unfold pt at *;go_enter func100,ntmps100;go_wp2_with (first
  |(go_at_call 91;refine HH.o.mono ?_;rintro e w' ⟨rfl,rfl⟩)
  |(go_at_call 133;refine HG.o.mono ?_;rintro e w' ⟨rfl,gB⟩;have BL:=aA gB;clear gB))
 go_ret;exact⟨rfl,BL.o⟩
def yI(Z:Own)(o:Nat)(w:aG)(b:Nat)(X':Bx)(L:yV)(w':aG):Prop:=∃dV L',pW dV o w' b X' L'/\Nx Z o w dV w'
theorem XK(p c N:Nat)(l:Int)(Z:Own)(o:Nat)(w:aG)(b:Nat)(X:Bx)(L:yV)(h:pW Z o w b X L)(ho:2<=o)(hx:lW X N)(hN:N<=1000000000000)(hp:p<X.bE)(hc:c<X.aX)(hl:(jo .i64 l).wf=true):di aH 54 #[pt b,ah ag p,ah ag c,ah ag l] w fun e w'=>(∃r:Int,e=ax (ah ag r))/\yI Z o w b (X.raise p c l) L w':=by
 have HH:=aA (Ka p c Z o w b X L h hp hc);obtain⟨hg,t1,t2⟩:=h.tt p c hp hc;have HG:=aA (WE _ N l _ _ w (hx.t p c hp hc) hN hl hg);have jm:aZ (∀w',dG w' (L.tc p c) 228 (tkC ((dz X.tk p c).raise l))->Ch (· =L.tc p c) w w'->yI Z o w b (X.raise p c l) L w'):=fun w' h1 h2=>
  ⟨_,_,h.Zj.aai hp hc hx.tk ho h2 h1,Nx.Sj h2 fun k e=>by rw[e,t2]⟩
 obtain⟨g,⟨cap,cs,e1,e2,e3⟩,_⟩:=h.t p hp;have cg:=h.ct hp hx.p1;rw[e1]at cg;have cc:w.cell? ⟨g,c,aj⟩=az (pt (L.tb p c)):=by rw[e2.cell];exact e3 c hc
 have p0:(0:Int)<=(p:Int):=by omega
 have p8:(p:Int)<8:=by have:=hx.p1;omega
 have c0:(0:Int)<=(c:Int):=by omega
 have c8:(c:Int)<(X.aX:Int):=by omega
 generalize(dz X.tk p c).raise l=x' at *;generalize X.raise p c l=X' at *;clear h hx hg e1 e2 e3 t1 t2;unfold pt at *;go_enter func54,ntmps54;go_wp2_with (first
  |(go_at_call 91;refine HH.o.mono ?_;rintro e w' ⟨rfl,rfl⟩)
  |(go_at_call 94;refine HG.o.mono ?_;rintro e w' ⟨⟨r,rfl⟩,b1,b2⟩;have BL:=aA (jm.out _ b1 b2);clear b1 b2))
 go_ret;exact⟨⟨_,rfl⟩,BL.o⟩
theorem aaT(Z:Own)(o:Nat)(w:aG)(b:Nat)(X:Bx)(L:yV)(h:pW Z o w b X L):di aH 64 #[pt b] w fun e w'=>e=ax (ah ag X.ov)/\w=w':=by have c0:=h.cov;clear h;unfold pt;go_enter func64,ntmps64;go_wp2_with fail;go_ret;exact⟨rfl,rfl⟩
end
section
section
variable{P:Program}{ops:Array Oper}{Q:Exit->Act->aG->Prop}{md:ru}{S:aG->Prop}{xm:Nat}
def bH(P:Program)(md:ru)(ops:Array Oper)(Q:Exit->Act->aG->Prop)(S:aG->Prop)(xm:Nat):Nat->Array Bool->Act->aG->Prop
 |0,done,a,w=>jq md ops done=[]/\Q .normal a w
 |n+1,done,a,w=>(jq md ops done=[]->Q .normal a w)/\∀j∈jq md ops done,wpOp P ops Q j (fun a' w'=>(j≠xm->S w')/\bH P md ops Q S xm n (done.setIfInBounds j true) a' w') a w
theorem bH.any:∀(n:Nat) (done:Array Bool) (a:Act) (w:aG),bH P md ops Q S xm n done a w->wpAny P md ops Q n done a w
 |0,_,_,_,h=>h
 |n+1,_,_,_,h=>⟨h.1,fun j hj=>wpOp_mono (fun a' w' k=>bH.any n _ a' w' k.2) (h.2 j hj)⟩
def waitsB(md:ru)(ops:Array Oper)(xm i:Nat):Bool:=match ops[xm]? with
 |some o=>o.after.any fun e=>qo md e&&e.on==i
 |none=>false
theorem Jk{i:Nat}{done:Array Bool}(h:waitsB md ops xm i=true)(hi:done.getD i false=false):xm∉jq md ops done:=fun hm=>by obtain⟨_,o,ho,hall⟩:=mem_ready.1 hm;unfold waitsB at h;rw[ho]at h;simp only[AZ,dD,beq_iff_eq]at h;obtain⟨k,hk,hb,he⟩:=h;have:=hall _ (Ba hk) hb;rw[he,hi]at this;cases this
def Closed(md:ru)(ops:Array Oper)(done:Array Bool):Prop:=∀(j:Nat) (o:Oper),ops[j]?=az o->done.getD j false=true->∀e∈o.after,qo md e=true->done.getD e.on false=true
def Kh(md:ru)(ops:Array Oper)(done:Array Bool):Bool:=(aN ops.size).all fun j=>!(done.getD j false)||(match ops[j]? with|some o=>o.after.all fun e=>!Region.binds md e||done.getD e.on false|none=>true)
theorem Closed.aza{done:Array Bool}(h:Kh md ops done=true):Closed md ops done:=fun j o ho hd e he hb=>by
 unfold Kh at h;rw[List.all_eq_true]at h;have hj:j<ops.size:=by
  rcases jG j ops.size with q|q
  ·exact q
  ·rw[jF q]at ho;cases ho
 have:=h j (dK.2 hj);rw[hd,ho]at this;simp only[Bool.not_true,Bool.false_or,Array.all_eq_true]at this;obtain⟨k,hk,rfl⟩:=Array.getElem_of_mem he;have h2:=this k hk;rw[hb]at h2;simpa using h2
def waitsT(md:ru)(ops:Array Oper):Nat->Nat->Nat->Bool
 |0,_,_=>false
 |n+1,l,i=>match ops[l]? with
  |some o=>o.after.any fun e=>qo md e&&(e.on==i||waitsT md ops n e.on i)
  |none=>false
theorem Nu{done:Array Bool}(hc:Closed md ops done):∀(n l i:Nat),waitsT md ops n l i=true->done.getD l false=true->done.getD i false=true
 |0,_,_,h,_=>by simp[waitsT]at h
 |n+1,l,i,h,hl=>by
  unfold waitsT at h;cases ho:ops[l]? with
  |none=>rw[ho]at h;cases h
  |some o=>
   rw[ho]at h;simp only[AZ,dD,jd,beq_iff_eq]at h;obtain⟨k,hk,hb,he⟩:=h;have h1:=hc l o ho hl _ (Ba hk) hb;rcases he with he|he
   ·rw[he]at h1;exact h1
   ·exact Nu hc n _ i he h1
theorem Ht{n i:Nat}{done:Array Bool}(hc:Closed md ops done)(h:waitsT md ops n xm i=true)(hi:done.getD i false=false):xm∉jq md ops done:=fun hm=>by
 obtain⟨_,o,ho,hall⟩:=mem_ready.1 hm;cases n with
 |zero=>simp[waitsT]at h
 |succ n=>
  unfold waitsT at h;rw[ho]at h;simp only[AZ,dD,jd,beq_iff_eq]at h;obtain⟨k,hk,hb,he⟩:=h;have h1:=hall _ (Ba hk) hb;rcases he with he|he
  ·rw[he,hi]at h1;cases h1
  ·have:=Nu hc n _ i he h1;rw[hi]at this;cases this
theorem Ko{done:Array Bool}{j k:Nat}(h:j≠k):(done.setIfInBounds j true).getD k false=done.getD k false:=by simp[Array.getElem?_setIfInBounds,h]
theorem Closed.set{done:Array Bool}(hc:Closed md ops done){j:Nat}(hj:j∈jq md ops done):Closed md ops (done.setIfInBounds j true):=fun k o ho hd e he hb=>by
 have uK:done.getD e.on false=true->(done.setIfInBounds j true).getD e.on false=true:=fun h=>by
  by_cases q:j=e.on
  ·subst q;rcases jG e.on done.size with h'|h'
   ·simp[h']
   ·simp[jF h']at h
  ·rw[Ko q];exact h
 by_cases q:j=k
 ·subst q;obtain⟨_,o',ho',hall⟩:=mem_ready.1 hj;rw[ho]at ho';injection ho' with ho';subst ho';exact uK (hall e he hb)
 ·rw[Ko q]at hd;exact uK (hc k o ho hd e he hb)
theorem bH.firstT{i t:Nat}{oi:Oper}{v:aJ}(hi:ops[i]?=az oi)(hsel:∀(j:Nat) (o:Oper) cs b,ops[j]?=az o->o.op≠.select cs b)(hQ:∀c a w,Q (.panic c) (a.put oi.dst v) w->Q (.panic c) a w)(hw:waitsT md ops t xm i=true):∀(n:Nat) (done:Array Bool) (a:Act) (w:aG),Closed md ops done->(∀j oj,ops[j]?=az oj->j≠i->done.getD j true=false->(∀e∈oj.after,qo md e=true->e.on≠i)->oi.apart ops oj=true)->i∈jq md ops done->YieldsIf P ops S oi v a->S w->i≠xm->bH P md ops Q S xm n (done.setIfInBounds i true) (a.put oi.dst v) w->bH P md ops Q S xm (n+1) done a w:=by
 intro n
 induction n with
 |zero=>
  intro done a w hcl _ hr hy hS nJ H;refine⟨fun h=>(by rw[h]at hr;cases hr),fun j hj=>?_⟩;by_cases hji:j=i
  ·subst hji;exact hy.wpOp hi hS ⟨fun _=>hS,H⟩
  ·have:=ready_mono hj hji;rw[H.1]at this;cases this
 |succ n ih=>
  intro done a w hcl Nf hr hy hS nJ H;refine⟨fun h=>(by rw[h]at hr;cases hr),fun j hj=>?_⟩;by_cases hji:j=i
  ·subst hji;exact hy.wpOp hi hS ⟨fun _=>hS,H⟩
  ·have hnd:done.getD i false=false:=by
    have h0:=(mem_ready.1 hr).1;rcases jG i done.size with h'|h'
    ·simp[h']at h0|-;exact h0
    ·simp[jF h']at h0|-
   have hjl:j≠xm:=fun e=>Ht hcl hw hnd (e▸hj);have h1:=H.2 j (ready_mono hj hji);obtain⟨hjun,oj,hoj,hall⟩:=mem_ready.1 hj;have Px:∀e∈oj.after,qo md e=true->e.on≠i:=fun e he hb heq=>(by have h2:=hall e he hb;rw[heq,hnd]at h2;cases h2);have h2:=wpOp_putIf hoj (Nf j oj hoj hji hjun Px) (fun cs b=>hsel i oi cs b hi) (fun cs b=>hsel j oj cs b hoj) hQ hy h1;have hfree':∀k ok,ops[k]?=az ok->k≠i->(done.setIfInBounds j true).getD k true=false->(∀e∈ok.after,qo md e=true->e.on≠i)->oi.apart ops ok=true:=fun k ok hk hki hun hn=>by
    refine Nf k ok hk hki ?_ hn;by_cases hjk:j=k
    ·subst hjk;exact hjun
    ·rw[getD_set_ne true hjk]at hun;exact hun
   refine wpOp_mono (fun a' w' h3=>⟨h3.2.1,ih (done.setIfInBounds j true) a' w' (hcl.set hj) hfree' (ready_mono hr (Ne.symm hji)) h3.1 (h3.2.1 hjl) nJ ?_⟩) h2;rw[Bu _ _ hji];exact h3.2.2
theorem bH.aki{i:Nat}{oi:Oper}{v:aJ}{n:Nat}{done:Array Bool}{a:Act}{w:aG}(hi:ops[i]?=az oi)(hs:yN ops=true)(hf:Fs md ops done i=true)(hr:(jq md ops done).contains i=true)(hw:(waitsT md ops 6 xm i&&i !=xm&&Kh md ops done)=true)(hQ:∀c a w,Q (.panic c) (a.put oi.dst v) w->Q (.panic c) a w)(hy:YieldsIf P ops S oi v a)(hS:S w)(h:bH P md ops Q S xm n (done.setIfInBounds i true) (a.put oi.dst v) w):bH P md ops Q S xm (n+1) done a w:=by simp only[dD,bne_iff_ne,ne_eq]at hw;exact bH.firstT hi (Fu hs) hQ hw.1.1 n done a w (Closed.aza hw.2) (Region.free_spec hi hf) (by simpa using hr) hy hS hw.1.2 h
theorem bI:(∀(a:Act) (d:Nat) (v:aJ),a.put (az d) v={a with tmps:=a.tmps.setIfInBounds d v})/\(∀(a:Act) (v:aJ),a.put aj v=a)/\(∀{α:Type} {xs:List α} {i:Nat} (h:i<xs.toArray.size),xs.toArray[i]=xs[i]'(by simpa using h))/\(∀{α:Type} {a:α} {bs:List α} {i:Nat} (h:i+1<(a::bs).length),(a::bs)[i+1]=bs[i]'(Nat.lt_of_succ_lt_succ h))/\(∀{α:Type} {a:α} {bs:List α} (h:0<(a::bs).length),(a::bs)[0]=a)/\(∀{α:Type} {bs:List α} {i:Nat} {a:α},bs.toArray.setIfInBounds i a=(bs.set i a).toArray)/\(∀{α:Type} {xs:List α} {x a:α},(x::xs).set 0 a=a::xs)/\(∀{α:Type} {xs:List α} {i:Nat} {x a:α},(x::xs).set (i+1) a=x::xs.set i a):=
 ⟨fun _ _ _=>rfl,fun _ _=>rfl,fun _=>List.getElem_toArray _,fun _=>rfl,fun _=>rfl,gI _ _ _,rfl,rfl⟩
theorem bH.tk(i:Nat){oi:Oper}{v:aJ}{n:Nat}{done:Array Bool}{a:Act}{w:aG}(hS:S w)(h:bH P md ops Q S xm n (done.setIfInBounds i true) (a.put oi.dst v) w)(hi:ops[i]?=az oi:=by rfl)(hc:(yN ops&&Fs md ops done i&&(jq md ops done).contains i&&(waitsT md ops 6 xm i&&i !=xm&&Kh md ops done))=true:=by kernel_rfl)(hw:eZ oi (yielded ops a.tmps)=true:=by rfl)(hy:∀w',S w'->(execOp a.eval oi).run P w'=.ok (.value v) w':=by(intro w' hSw;(repeat(have:=And.left hSw;replace hSw:=And.right hSw));go_simp;all_goals with_reducible rfl))(hQ:∀c a w,Q (.panic c) (a.put oi.dst v) w->Q (.panic c) a w:=by exact fun _ _ _ h=>h):bH P md ops Q S xm (n+1) done a w:=by simp only[dD]at hc;exact bH.aki hi hc.1.1.1 hc.1.1.2 hc.1.2 (by simp only[dD];exact hc.2) hQ (.inl ⟨hw,hy⟩) hS h
theorem bH.one{i:Nat}{oi:Oper}{n:Nat}{done:Array Bool}{a:Act}{w:aG}(hr:jq md ops done=[i])(hi:ops[i]?=az oi)(h:∀K':Act->aG->Prop,aZ (∀a' w',(i≠xm->S w')->((i≠xm->S w')->bH P md ops Q S xm n (done.setIfInBounds i true) a' w')->K' a' w')->if eZ oi (yielded ops a.tmps)=true then jR P oi a w K' Q else K' (a.put oi.dst undef) w):bH P md ops Q S xm (n+1) done a w:=
 ⟨fun e=>(by rw[e]at hr;cases hr),fun j hj=>by rw[hr]at hj;simp only[dh]at hj;subst hj;exact wpOp_step hi fun K' hK=>h K' fun a' w' hS hA=>hK a' w' ⟨hS,hA hS⟩⟩
theorem bH.done{listed:Array Bool}{a:Act}{w:aG}(hr:jq md ops listed=[])(h:Q .normal a w):∀n,bH P md ops Q S xm n listed a w
 |0=>⟨hr,h⟩
 |_+1=>⟨fun _=>h,by rw[hr];simp⟩
theorem fZ(xm:Nat)(S:aG->Prop){id:Nat}{a:Act}{w:aG}(hm:P.follows .mixedOrders=true)(hS:S w.drew)(h:S w.drew->bH P .any ops Q S xm ops.size (Array.replicate ops.size false) a w.drew):(Code.region id ops true).wp P Q a w:=
 wp_region_any hm (bH.any _ _ _ _ (h hS))
end
theorem abg{P:Program}{a:Act}{w:aG}{o:Oper}{x1 x2 x3:Operand}{f:FuncId}{ts:Array dP}{v1 v2 v3:aJ}(hE:∀args w,(callFunc f args).run P w=.ok (.enter f args) w)(ho:o.op=sV {callee:=kU (kW f),args:=#[x1,x2,x3],argTypes:=ts})(h1:a.eval x1=v1)(h2:a.eval x2=v2)(h3:a.eval x3=v3):(execOp a.eval o).run P w=.ok (.enter f #[v1,v2,v3]) w:=by subst h1;subst h2;subst h3;simp[execOp,ho,resolve,invoke,hE,go_sem]
theorem Am{P:Program}{ops:Array Oper}{o:Oper}{a:Act}{w:aG}{K:Act->aG->Prop}{Q:Exit->Act->aG->Prop}{E:Prop}(hg:o.guard=aj){x1 x2 x3:Operand}{f:FuncId}{ts:Array dP}{v1 v2 v3:aJ}(hE:∀args w,(callFunc f args).run P w=.ok (.enter f args) w)(ho:o.op=sV {callee:=kU (kW f),args:=#[x1,x2,x3],argTypes:=ts})(h1:a.eval x1=v1)(h2:a.eval x2=v2)(h3:a.eval x3=v3){Post:iL->aG->Prop}(hc:di P f #[v1,v2,v3] w Post)(hK:∀e w',Post e w'->∃r,e=ax r/\K (a.put o.dst r) w'):if eZ o (yielded ops a.tmps)=true then jR P o a w K Q else E:=by
 have hw:eZ o (yielded ops a.tmps)=true:=by simp[eZ,hg]
 rw[if_pos hw];unfold jR;rw[abg hE ho h1 h2 h3];exact hc.mono fun e w' h=>by obtain⟨r,rfl,hk⟩:=hK e w' h;exact hk
theorem abf{P:Program}{a:Act}{w:aG}{o:Oper}{x1 x2:Operand}{f:FuncId}{ts:Array dP}{v1 v2:aJ}(hE:∀args w,(callFunc f args).run P w=.ok (.enter f args) w)(ho:o.op=sV {callee:=kU (kW f),args:=#[x1,x2],argTypes:=ts})(h1:a.eval x1=v1)(h2:a.eval x2=v2):(execOp a.eval o).run P w=.ok (.enter f #[v1,v2]) w:=by subst h1;subst h2;simp[execOp,ho,resolve,invoke,hE,go_sem]
theorem Qy{P:Program}{ops:Array Oper}{o:Oper}{a:Act}{w:aG}{K:Act->aG->Prop}{Q:Exit->Act->aG->Prop}{E:Prop}(hg:o.guard=aj){x1 x2:Operand}{f:FuncId}{ts:Array dP}{v1 v2:aJ}(hE:∀args w,(callFunc f args).run P w=.ok (.enter f args) w)(ho:o.op=sV {callee:=kU (kW f),args:=#[x1,x2],argTypes:=ts})(h1:a.eval x1=v1)(h2:a.eval x2=v2){Post:iL->aG->Prop}(hc:di P f #[v1,v2] w Post)(hK:∀e w',Post e w'->∃r,e=ax r/\K (a.put o.dst r) w'):if eZ o (yielded ops a.tmps)=true then jR P o a w K Q else E:=by
 have hw:eZ o (yielded ops a.tmps)=true:=by simp[eZ,hg]
 rw[if_pos hw];unfold jR;rw[abf hE ho h1 h2];exact hc.mono fun e w' h=>by obtain⟨r,rfl,hk⟩:=hK e w' h;exact hk
end
section
attribute [local go_sem ↓] fM fK
theorem Cw:(Tryz.prog.info? 59).map (fun i=>(i.zero,i.size,i.bytes))=az (az (.agg #[ah ag 0,ah ag 0,ah ag 0,ah ag 0,ah ag 0,ay aj 0 0]),6,64):=by kernel_rfl
def SY(Z:Own)(o:Nat)(w:aG)(b:Nat)(r:Bx×Bool)(L:yV)(e:iL)(w':aG):Prop:=
 e=ax (ah ag (if r.2 then 0 else 5))/\yI Z o w b r.1 L w'
theorem Fx(p N:Nat)(x:Fm)(v:aJ)(Z:Own)(o:Nat)(w:aG)(b:Nat)(X:Bx)(L:yV)(h:pW Z o w b X L)(ho:2<=o)(hx:lW X N)(hN:N<1000000000000)(hp:p<X.bE)(hc0:0<=x.cls)(hc:x.cls.toNat<X.aX)(hv:iX Z w x.data v):di aH 50 #[pt b,ah ag p,Nb x v] w (SY Z o w b (X.gT p x) L):=by
 obtain⟨c,hcc⟩:∃c:Nat,x.cls=(c:Int):=⟨x.cls.toNat,by omega⟩;have QM:x.cls.toNat=c:=by omega
 rw[QM]at hc;obtain⟨xi,xf,xt,xc,xe,xd⟩:=x;simp only at hcc QM hc0 hv;subst hcc;have aeP:=hv;obtain⟨a,cap,rfl,d1,d2,d3⟩:=hv;obtain⟨w1,gK⟩:∃w1:aG,w.alloc (af #[ah ag xi,ah ag xf,ah ag xt,ah ag c,ah ag xe,ay a xd.length cap] 59)=w1:=⟨_,rfl⟩;have BW:aZ (aO w.heap.size w w1):=by rw[<-gK];exact(aS _ _).alloc (aC _) _
 have FB:aZ (dG w1 w.heap.size 59 #[ah ag xi,ah ag xf,ah ag xt,ah ag c,ah ag xe,ay a xd.length cap]):=by rw[<-gK];exact dG.new w _ _
 have H1:aZ (pW (fr Z w.heap.size) o w1 b X L):=h.Zj.below BW.o;have HH:=aA (Ka p c _ o w1 b X L H1.o hp hc);obtain⟨hg,t4,t5⟩:=H1.o.gg p c hp hc;have HG:=aA (QV _ _ N _ _ w1.drew (hx.g p c hp hc) (by omega) hg.drew);obtain⟨g,⟨aeJ,cs,e1,e2,e3⟩,tg⟩:=H1.o.g p hp;have cg:=H1.o.cg hp hx.p1;rw[e1]at cg;have cc:w1.cell? ⟨g,c,aj⟩=az (pt (L.gb p c)):=by rw[e2.cell];exact e3 c hc
 have p0:(0:Int)<=(p:Int):=by omega
 have p8:(p:Int)<8:=by have:=hx.p1;omega
 have c0:(0:Int)<=(c:Int):=by omega
 have c8:(c:Int)<(X.aX:Int):=by omega
 have f3:w1.cell? ⟨w.heap.size,3,aj⟩=az (ah ag c):=FB.o.cell 3;have KP:aZ (∀w',Ch (· =L.gc p c) w1 w'->w'.cell? ⟨b,10+p,aj⟩=az (ay (az ⟨g,0,aj⟩) X.aX aeJ)/\w'.cell? ⟨w.heap.size,3,aj⟩=az (ah ag c)/\w'.cell? ⟨g,c,aj⟩=az (pt (L.gb p c))):=fun w' qx=>by
  refine⟨?_,?_,?_⟩
  ·rw[qx.cell (p:=⟨b,10+p,aj⟩) H1.o.root.1.lt (fun q=>by have h1:=H1.o.root.2;simp only at q;rw[q,t5]at h1;simp at h1)];exact cg
  ·rw[qx.cell (p:=⟨w.heap.size,3,aj⟩) FB.o.lt (fun q=>dG.sZ FB.o hg.c (by decide) q)];exact f3
  ·rw[qx.cell (p:=⟨g,c,aj⟩) e2.lt (fun q=>by simp only at q;rw[q,t5]at tg;simp at tg)];exact cc
 have LTb:=aA h.root.1.lt;clear h hg e1 e2 e3 tg;have HXX:=aA hx;by_cases hf:(dz X.gv p c).nP<=(dz X.gv p c).wU
 ·have E1:GM (dz X.gv p c)=5:=if_pos hf;have E2:(dz X.gv p c).rR.1=dz X.gv p c:=by unfold Gv.rR;rw[if_pos hf]
  have E3:X.gT p ⟨xi,xf,xt,c,xe,xd⟩=({X with ov:=X.ov+1},false):=by unfold Bx.gT;simp only[cO];unfold Gv.rR;rw[if_pos hf];rfl
  rw[E1,E2]at HG;rw[E3];have q1:IntKind.i64.wrap ((X.ov:Int)+1)=(X.ov:Int)+1:=fH _ (by have:=hx.ov;omega);have jm:aZ (∀w2,dG w2 (L.gc p c) 206 (gvC (dz X.gv p c))->Ch (· =L.gc p c) w1 w2->w2.cell? ⟨b,35,aj⟩=az (ah ag X.ov)/\w2.frozen? ⟨b,35,aj⟩=false/\yI Z o w b {X with ov:=X.ov+1} L (w2.setCell ⟨b,35,aj⟩ (ah ag ((X.ov:Int)+1)))):=fun w2 h1 h2=>by
   have m2:=H1.o.afT hp hc HXX.o.gv ho h2 h1;rw[acF _ HXX.o.gv hp hc]at m2;have c1:Ch (· =b) w2 (w2.setCell ⟨b,35,aj⟩ (ah ag ((X.ov:Int)+1))):=(Ch.refl (· =b) w2).setCell (p:=⟨b,35,aj⟩) (.inl rfl) _;have m3:pW (fr Z w.heap.size) o (w2.setCell ⟨b,35,aj⟩ (ah ag ((X.ov:Int)+1))) b {X with ov:=X.ov+1} L:=m2.aah ho c1 (by
    have:=m2.root.1.jy 35 (ah ag ((X.ov:Int)+1));unfold bxC at this|-;rw[mM 36 (bxV X L) (bxV {X with ov:=X.ov+1} L) 35 (ah ag ((X.ov:Int)+1)) (fun i hi=>by
     unfold bxV;by_cases e:i=35
     ·subst e;simp
     ·simp only[e,if_false]
      repeat(split;rfl)
      omega)]at this
    exact this)
   refine⟨m2.cov,m2.root.1.frozen 35,_,_,m3,?_⟩;have c0:Ch (fun k=>k=b\/k=L.gc p c) w (w2.setCell ⟨b,35,aj⟩ (ah ag ((X.ov:Int)+1))):=((Ch.dw BW.o).trans h2 (fun _ _ e=>.inr e)).trans c1 (fun _ _ e=>.inl e);refine Nx.afz c0 fun k hk e=>?_;rcases e with e|e
   ·have:=H1.o.root.2;rw[iD LTb.o]at this;rw[e,this]
   ·rw[e,<-iD (Z:=Z) (n:=w.heap.size) (k:=L.gc p c) (by rw[<-e];exact hk),t5]
  have KQ:aZ (∀w',w'=w1\/w'=w1.drew->Ch (· =L.gc p c) w1 w'):=fun w' e=>by rcases e with rfl|rfl;exact Ch.refl _ _;exact(Ch.refl _ _).drew
  unfold pt at *;unfold Nb;clear hx hf FB H1 LTb HXX;generalize hAR:(SY Z o w b _ L)=NZ;have HAR:=aA hAR;clear hAR;go_enter func50,ntmps50;go_wp2_with (first
   |(go_at_call 91;refine HH.o.mono ?_;rintro e w' ⟨rfl,rfl⟩))
  clear gK;go_region_held3 (fun w'=>w'.cell? ⟨b,10+p,aj⟩=az (ay (az ⟨g,0,aj⟩) X.aX aeJ)/\w'.cell? ⟨w.heap.size,3,aj⟩=az (ah ag c)/\w'.cell? ⟨g,c,aj⟩=az (au (az ⟨L.gb p c,0,aj⟩)))
   (first|exact KP.o _ (Ch.refl _ _).drew|exact KP.o _ B2.o|exact KP.o _ B2.o.drew)
   (first
    |(go_at_call 93;refine HG.o.mono ?_;rintro e w2 ⟨rfl,b1,b2⟩;have B1:=aA b1;have B2:aZ (Ch (· =L.gc p c) w1 w2):=(show Ch (· =L.gc p c) w1 w2 from⟨b2.os,b2.tape,b2.output,b2.size,b2.block⟩);clear b1 b2))
  obtain⟨y1,y2,y3⟩:=jm.out w2 B1.o B2.o;have Y3:=aA y3;clear y3 jm;go_wp2_with fail;rw[<-HAR.o];exact⟨rfl,Y3.o⟩
 ·have E1:GM (dz X.gv p c)=0:=if_neg hf;obtain⟨gx,hgx⟩:∃gx,(dz X.gv p c).rR.1=gx:=⟨_,rfl⟩;have E3:X.gT p ⟨xi,xf,xt,c,xe,xd⟩=({X with gv:=jA X.gv p c gx,q:=jA X.q p c (dz X.q p c++[⟨xi,xf,xt,c,xe,xd⟩])},true):=by
   unfold Bx.gT;simp only[cO];rw[<-hgx];unfold Gv.rR;rw[if_neg hf];rfl
  rw[E1,hgx]at HG;rw[E3];have jm:aZ (∀w2,dG w2 (L.gc p c) 206 (gvC gx)->Ch (· =L.gc p c) w1 w2->pW (fr Z w.heap.size) o w2 b {X with gv:=jA X.gv p c gx} L):=fun w2 h1 h2=>H1.o.afT hp hc HXX.o.gv ho h2 h1;have NXF:aZ (∀w2 w3 dV,Ch (· =L.gc p c) w1 w2->Nx (fr Z w.heap.size) o w2 dV w3->Nx Z o w dV w3):=fun w2 w3 dV h2 h3=>by have n1:Nx Z o w (fr Z w.heap.size) w2:=Nx.afz ((Ch.dw BW.o).trans h2 (fun _ _ e=>e)) fun k hk e=>(by rw[e,<-iD (Z:=Z) (n:=w.heap.size) (k:=L.gc p c) (by rw[<-e];exact hk),t5]);exact n1.trans h3
  have FBC:aZ (∀w2,Ch (· =L.gc p c) w1 w2->dG w2 w.heap.size 59 #[ah ag xi,ah ag xf,ah ag xt,ah ag c,ah ag xe,ay a xd.length cap]/\iX (fr Z w.heap.size) w2 xd (ay a xd.length cap)):=fun w2 h2=>
   ⟨FB.o.ch h2 (fun q=>dG.sZ FB.o (H1.o.gg p c hp hc).1.c (by decide) q),(aeP.jM (Ch.dw (S:=fun _=>False) BW.o) (fun k hk=>iD hk) (fun _ s=>s.elim)).jM h2 (fun _ _=>rfl) (fun k e=>by rw[e,t5];simp only;omega)⟩
  have HP:=aA hp;have Xf:=aA hc;have H8:=aA hx.p1;have HQ:=aA hx.q;have QL:=aA (hx.Wp hp hc);have DL:=aA d3;clear hx hf FB H1 LTb HXX d1 d2 d3 aeP t4;generalize hAR:(SY Z o w b _ L)=NZ;have HAR:=aA hAR;clear hAR;unfold pt at *;unfold Nb;go_enter func50,ntmps50;go_wp2_with (first
   |(go_at_call 91;refine HH.o.mono ?_;rintro e w' ⟨rfl,rfl⟩))
  clear gK;go_region_held3 (fun w'=>w'.cell? ⟨b,10+p,aj⟩=az (ay (az ⟨g,0,aj⟩) X.aX aeJ)/\w'.cell? ⟨w.heap.size,3,aj⟩=az (ah ag c)/\w'.cell? ⟨g,c,aj⟩=az (au (az ⟨L.gb p c,0,aj⟩)))
   (first|exact KP.o _ (Ch.refl _ _).drew|exact KP.o _ B2.o|exact KP.o _ B2.o.drew)
   (first
    |(go_at_call 93;refine HG.o.mono ?_;rintro e w2 ⟨rfl,b1,b2⟩;have B1:=aA b1;have B2:aZ (Ch (· =L.gc p c) w1 w2):=(show Ch (· =L.gc p c) w1 w2 from⟨b2.os,b2.tape,b2.output,b2.size,b2.block⟩);clear b1 b2))
  have M2:=aA (jm.out w2 B1.o B2.o);obtain⟨fb2,aqv⟩:=FBC.o w2 B2.o;have FB2:=aA fb2;have DT2:=aA aqv;clear fb2 aqv jm FBC KP cg cc f3 HG HH;obtain⟨⟨Q,q1,q2,q3⟩,q4⟩:=M2.o.q p c HP.o Xf.o;have cq:=M2.o.cq (p:=p) HP.o H8.o;have cv:=M2.o.cqv HP.o Xf.o;obtain⟨qa,Js,qe,_,azi,_⟩:=ic (d:=((⟨0,0,0,0,0,[]⟩:Fm),ay aj 0 0)) xG (by decide) q2;rw[qe]at cv;have k0:=FB2.o.cell 0;have k1:=FB2.o.cell 1;have k2:=FB2.o.cell 2;have k3:=FB2.o.cell 3;have k4:=FB2.o.cell 4;have k5:=FB2.o.cell 5;simp only[dJ,fP,dO]at k0 k1 k2 k3 k4 k5;have KS:aZ (∀w',aO w2.heap.size w2 w'->w'.cell? ⟨b,2+p,aj⟩=az (ay (az ⟨L.qr p,0,aj⟩) X.aX X.aX)/\w'.cell? ⟨L.qr p,c,aj⟩=az (ay qa Q.length Js)/\w'.cell? ⟨w.heap.size,0,aj⟩=az (ah ag xi)/\w'.cell? ⟨w.heap.size,1,aj⟩=az (ah ag xf)/\w'.cell? ⟨w.heap.size,2,aj⟩=az (ah ag xt)/\w'.cell? ⟨w.heap.size,3,aj⟩=az (ah ag c)/\w'.cell? ⟨w.heap.size,4,aj⟩=az (ah ag xe)/\w'.cell? ⟨w.heap.size,5,aj⟩=az (ay a xd.length cap)):=fun w' hb=>
   ⟨(hb.cell (p:=⟨b,2+p,aj⟩) (aY _ _ cq)).trans cq,(hb.cell (p:=⟨L.qr p,c,aj⟩) (aY _ _ cv)).trans cv,(hb.cell (p:=⟨w.heap.size,0,aj⟩) FB2.o.lt).trans k0,(hb.cell (p:=⟨w.heap.size,1,aj⟩) FB2.o.lt).trans k1,(hb.cell (p:=⟨w.heap.size,2,aj⟩) FB2.o.lt).trans k2,(hb.cell (p:=⟨w.heap.size,3,aj⟩) FB2.o.lt).trans k3,(hb.cell (p:=⟨w.heap.size,4,aj⟩) FB2.o.lt).trans k4,(hb.cell (p:=⟨w.heap.size,5,aj⟩) FB2.o.lt).trans k5⟩
  clear cq cv k0 k1 k2 k3 k4 k5;go_wp2_with fail;refine fZ 23 (fun w'=>w'.cell? ⟨b,2+p,aj⟩=az (ay (az ⟨L.qr p,0,aj⟩) X.aX X.aX)/\w'.cell? ⟨L.qr p,c,aj⟩=az (ay qa Q.length Js)/\w'.cell? ⟨w.heap.size,0,aj⟩=az (ah ag xi)/\w'.cell? ⟨w.heap.size,1,aj⟩=az (ah ag xf)/\w'.cell? ⟨w.heap.size,2,aj⟩=az (ah ag xt)/\w'.cell? ⟨w.heap.size,3,aj⟩=az (ah ag c)/\w'.cell? ⟨w.heap.size,4,aj⟩=az (ah ag xe)/\w'.cell? ⟨w.heap.size,5,aj⟩=az (ay a xd.length cap)) (by kernel_rfl) (KS.o _ ⟨rfl,rfl,rfl,aC _,fun _ _=>rfl⟩) (fun aW=>?_);refine bH.tk 0 aW ?_;try simp only[bI]
  refine bH.tk 1 aW ?_;try simp only[bI]
  refine bH.tk 2 aW ?_;try simp only[bI]
  refine bH.tk 3 aW ?_;try simp only[bI]
  refine bH.tk 4 aW ?_;try simp only[bI]
  refine bH.tk 5 aW ?_;try simp only[bI]
  refine bH.tk 6 aW ?_;try simp only[bI]
  refine bH.tk 7 aW ?_;try simp only[bI]
  refine bH.tk 8 aW ?_;try simp only[bI]
  refine bH.tk 9 aW ?_;try simp only[bI]
  refine bH.tk 10 aW ?_;try simp only[bI]
  refine bH.tk 11 aW ?_;try simp only[bI]
  refine bH.tk 12 aW ?_;try simp only[bI]
  refine bH.tk 13 aW ?_;try simp only[bI]
  refine bH.tk 14 aW ?_;try simp only[bI]
  refine bH.tk 15 aW ?_;try simp only[bI]
  refine bH.tk 16 aW ?_;try simp only[bI]
  refine bH.tk 17 aW ?_;try simp only[bI]
  refine bH.tk 18 aW ?_;try simp only[bI]
  refine bH.one (i:=19) (by kernel_rfl) rfl (fun K hK=>?_);go_simp;refine(yt ⟨xi,xf,xt,c,xe,xd⟩ (ay a xd.length cap) (fr Z w.heap.size) _ (DT2.o.jM (S:=fun _=>False) (Ch.refl _ _).drew (fun _ _=>rfl) (fun _ s=>s.elim))).mono ?_;rintro e wc ⟨v',rfl,bc,ow⟩;have BC:aZ (aO w2.heap.size w2 wc):=⟨bc.os,bc.tape,bc.output,bc.size,bc.block⟩;have OW:aZ (wc.ownsRow w2.heap.size 5 1 v' xd.length (xd.flatMap Ry)):=ow;obtain⟨a',pJ,rfl,_⟩:=ic (d:=(0:Int)) Bh (by decide) ow;clear bc ow;refine hK.out _ _ (fun _=>KS.o _ BC.o) (fun bU=>?_);have aW:=bU (by decide);clear hK bU;try simp only[bI]
  try simp only[Nb]
  refine bH.one (i:=20) (by kernel_rfl) rfl (fun K hK=>?_);go_simp;have BA:aZ (aO w2.heap.size w2 (wc.alloc (af #[ah ag xi,ah ag xf,ah ag xt,ah ag c,ah ag xe,ay a' xd.length pJ] 59))):=BC.o.alloc (BC.o.size) _;refine hK.out _ _ (fun _=>KS.o _ BA.o) (fun bU=>?_);have aW:=bU (by decide);clear hK bU;try simp only[bI]
  have OQ:aZ ((wc.alloc (af #[ah ag xi,ah ag xf,ah ag xt,ah ag c,ah ag xe,ay a' xd.length pJ] 59)).ownsRow 0 59 6 (ay qa Q.length Js) Q.length (Q.flatMap Dm)):=by have h1:=q2;rw[qe]at h1;exact(fT h1 (Ch.dw (S:=fun _=>False) BC.o) (fun _ _ s=>s.elim)).alloc _
  obtain⟨i0,hi0,wE,uY,wN⟩:=eQ Cw;have RN:aZ (Reads (wc.alloc (af #[ah ag xi,ah ag xf,ah ag xt,ah ag c,ah ag xe,ay a' xd.length pJ] 59)) (wc.heap.size+1) 6 (az ⟨wc.heap.size,0,aj⟩) 1 [ah ag xi,ah ag xf,ah ag xt,ah ag c,ah ag xe,ay a' xd.length pJ]):=
   ⟨rfl,fun _=>⟨_,rfl,by simp,fun q u hu=>uo (cs:=#[ah ag xi,ah ag xf,ah ag xt,ah ag c,ah ag xe,ay a' xd.length pJ]) (t:=59) (fr:=(0,0)) (heap_alloc_new wc _) q u hu⟩⟩
  refine bH.one (i:=21) (by kernel_rfl) rfl (fun K hK=>?_);refine gy _ (by rfl) (.tmp 53) (.tmp 56) 110 (by rfl) 0 59 i0 _ 6 64 underlying110 hi0 wE uY wN rfl (by decide) _ _ _ (by rfl) OQ.o _ (az ⟨wc.heap.size,0,aj⟩) 1 1 [ah ag xi,ah ag xf,ah ag xt,ah ag c,ah ag xe,ay a' xd.length pJ] (by rfl) RN.o ?_ ?_ ?_ ?_ ?_
  ·intro u hu;simp only[dM,dZ,or_false]at hu;rcases hu with rfl|rfl|rfl|rfl|rfl|rfl<;>rfl
  ·have:=QL.o;have h2:Q.length=(dz X.q p c).length:=by rw[<-q1];simp
   unfold fJ;omega
  ·have:=QL.o;have h2:Q.length=(dz X.q p c).length:=by rw[<-q1];simp
   omega
  ·exact bJ _
  intro v2 wd uB Ho Qa;have O2:=aA uB;have G2:=aA Ho;obtain⟨a2,cap2,rfl,_⟩:=ic (d:=((⟨0,0,0,0,0,[]⟩:Fm),ay aj 0 0)) (xs:=Q++[(⟨xi,xf,xt,c,xe,xd⟩,ay a' xd.length pJ)]) xG (by decide) (by have:=uB;rw[show Q.flatMap Dm++[ah ag xi,ah ag xf,ah ag xt,ah ag c,ah ag xe,ay a' xd.length pJ]=(Q++[((⟨xi,xf,xt,c,xe,xd⟩:Fm),ay a' xd.length pJ)]).flatMap Dm by simp[Dm]]at this;exact this);have NBQ:aZ (∀k,(ay qa Q.length Js).ownBlock=az k->fr Z w.heap.size k=(o,2,p,c)/\k<w2.heap.size):=fun k hk=>by rw[<-qe]at hk;exact⟨q4 k hk,(q2.lt k hk).2⟩
  have FAR:aZ (∀g t,g<w2.heap.size->fr Z w.heap.size g=t->t≠(o,2,p,c)->∀i,wd.cell? ⟨g,i,aj⟩=(wc.alloc (af #[ah ag xi,ah ag xf,ah ag xt,ah ag c,ah ag xe,ay a' xd.length pJ] 59)).cell? ⟨g,i,aj⟩):=fun g t hg e1 e2 i=>
   World.cell?_of_block (G2.o.block g (bY hg BA.o.size) fun e=>e2 (by rw[<-e1];exact(NBQ.o g e.symm).1))
  have QRT:=aA (M2.o.qr p HP.o);have KD:aZ (wd.cell? ⟨b,2+p,aj⟩=az (ay (az ⟨L.qr p,0,aj⟩) X.aX X.aX)/\wd.cell? ⟨L.qr p,c,aj⟩=az (ay qa Q.length Js)/\wd.cell? ⟨w.heap.size,0,aj⟩=az (ah ag xi)/\wd.cell? ⟨w.heap.size,1,aj⟩=az (ah ag xf)/\wd.cell? ⟨w.heap.size,2,aj⟩=az (ah ag xt)/\wd.cell? ⟨w.heap.size,3,aj⟩=az (ah ag c)/\wd.cell? ⟨w.heap.size,4,aj⟩=az (ah ag xe)/\wd.cell? ⟨w.heap.size,5,aj⟩=az (ay a xd.length cap)):=by obtain⟨x0,x1,x2,x3,x4,x5,x6,x7⟩:=KS.o _ BA.o;have t0:=M2.o.root.2;have nf:∀i,wd.cell? ⟨w.heap.size,i,aj⟩=_:=FAR.o w.heap.size _ FB2.o.lt (mH (aC _)) (by simp);exact⟨(FAR.o b _ M2.o.root.1.lt t0 (by simp) _).trans x0,(FAR.o _ _ QRT.o.1.lt QRT.o.2 (by simp) _).trans x1,(nf 0).trans x2,(nf 1).trans x3,(nf 2).trans x4,(nf 3).trans x5,(nf 4).trans x6,(nf 5).trans x7⟩
  have cv:=KD.o.2.1;have cf:wd.frozen? ⟨L.qr p,c,aj⟩=false:=by have b1:=(QRT.o.1.below BA.o QRT.o.1.lt).grown G2.o fun e=>(by have h1:=(NBQ.o _ e.symm).1;rw[QRT.o.2]at h1;simp at h1);exact b1.frozen c
  clear uB Ho;refine hK.out _ _ (fun _=>KD.o) (fun bU=>?_);have aW:=bU (by decide);clear hK bU;try simp only[bI]
  refine bH.tk 22 aW ?_;try simp only[bI]
  refine bH.one (i:=23) (by kernel_rfl) rfl (fun K hK=>?_);go_simp;refine hK.out _ _ (fun h=>absurd rfl h) (fun _=>?_);clear hK;refine bH.done (by kernel_rfl) ?_ _;try simp only[bI]
  have aoA:=aA (M2.o.ase (x:=⟨xi,xf,xt,c,xe,xd⟩) HP.o Xf.o HQ.o ho q1 q3 BC.o OW.o DL.o O2.o (by rw[qe];exact G2.o) (by rw[qe];simpa using Qa));clear cv cf Qa q1 q2 q3 q4 azi qe;go_wp2_with fail;rw[<-HAR.o];obtain⟨dV,m3,n3⟩:=aoA.out;exact⟨rfl,dV,_,m3,NXF.o _ _ _ B2.o n3⟩
section
variable{Z:Own}{o b:Nat}{X:Bx}{L:yV}
theorem pW.azh{w2 wd:aG}(h:pW Z o w2 b X L){p c:Nat}(hp:p<X.bE)(hc:c<X.aX)(dim:Ay X.q X.bE X.aX)(ho:2<=o){v2:aJ}{Q:List (Fm×aJ)}(hQ3:∀y∈Q,iX Z w2 y.1.data y.2)(bd:aO w2.heap.size w2 wd)(uB:wd.ownsRow 0 59 6 v2 Q.length (Q.flatMap Dm))(loc:∀g,v2.ownBlock=az g->w2.heap.size<=g):∃dV,pW dV o (wd.setCell ⟨L.qr p,c,aj⟩ v2) b {X with q:=jA X.q p c (Q.map (·.1))} {L with qv:=NV L.qv p c v2}/\Nx Z o w2 dV (wd.setCell ⟨L.qr p,c,aj⟩ v2):=by
 have hr:=h.qr p hp;have S3:Ch (fun k=>k=L.qr p) w2 (wd.setCell ⟨L.qr p,c,aj⟩ v2):=(Ch.dw (S:=fun k=>k=L.qr p) bd).setCell (p:=⟨L.qr p,c,aj⟩) (.inl rfl) v2;obtain⟨dV,Pz⟩:∃dV:Own,dV=fun k=>if v2.ownBlock=az k then(o,2,p,c)else fr Z w2.heap.size k:=⟨_,rfl⟩
 have he:∀k,k<w2.heap.size->dV k=Z k:=fun k hk=>by rw[Pz];simp only;rw[if_neg (fun e=>by have:=loc k e;omega),iD hk]
 have aeu:dG wd (L.qr p) 110 (((aN X.aX).map (L.qv p)).toArray):=hr.1.below bd hr.1.lt;refine⟨dV,h.asv hp hc dim ho S3 he (fun i e=>.inl (by rw[e];exact hr.2)) ?_ ?_ ?_,⟨S3.mono fun k _ s=>by rw[s,hr.2],he,fun k h1 h2=>?_⟩⟩
 ·have:=aeu.jy c v2;rw[mM X.aX (L.qv p) (NV L.qv p c v2 p) c v2 (fun i _=>by
   unfold NV;by_cases e:i=c
   ·simp[e]
   ·simp[e])]at this
  exact this
 ·refine⟨Q,rfl,nK uB v2 fun g hg e=>?_,fun y hy=>(hQ3 y hy).jM S3 he fun k s=>by rw[s,hr.2];simp only;omega⟩;have:=loc g hg;have:=hr.1.lt;simp only at e;omega
 ·intro g hg;rw[Pz];simp only;rw[if_pos hg]
 ·rw[Pz];simp only;by_cases e2:v2.ownBlock=az k
  ·rw[if_pos e2];exact .inl rfl
  ·rw[if_neg e2,mH h1];exact .inr (bJ _)
end
def Zw(Z:Own)(o:Nat)(w:aG)(b:Nat)(X':Bx)(L:yV)(f:Fm)(e:iL)(w':aG):Prop:=
 ∃v,e=ax (Nb f v)/\iX Z w f.data v/\yI Z o w b X' L w'
theorem Vb(p c N:Nat)(f:Fm)(Z:Own)(o:Nat)(w:aG)(b:Nat)(X:Bx)(L:yV)(h:pW Z o w b X L)(ho:2<=o)(hx:lW X N)(hN:N<=1000000000000)(hp:p<X.bE)(hc:c<X.aX){rest:List Fm}(hf:dz X.q p c=f::rest):di aH 127 #[pt b,ah ag p,ah ag c] w (Zw Z o w b (X.pop p c) L f):=by
 obtain⟨⟨Q0,q1,q2,q3⟩,q4⟩:=h.q p c hp hc;rw[hf]at q1;obtain⟨⟨⟨fi,ff,ft,fc,fe,fd⟩,fv⟩,Q,rfl⟩:∃y Q,Q0=y::Q:=by cases Q0 with
  |nil=>cases q1
  |cons y Q=>exact⟨y,Q,rfl⟩
 simp only[List.map_cons,List.cons.injEq]at q1;obtain⟨rfl,q1⟩:=q1;have ahB:=q3 _ List.mem_cons_self;simp only at ahB;obtain⟨da,dc,rfl,dd1,dd2,dd3⟩:=id ahB;obtain⟨g,Js,qe,hge⟩:∃g Js,L.qv p c=ay (az ⟨g,0,aj⟩) (Q.length+1) Js/\Q.length+1<=Js:=by
  rcases q2.2 with⟨_,e⟩|⟨g,cap,cur,e,_,_,h2,_⟩
  ·simp at e
  ·exact⟨g,cap,by rw[e];rfl,by simpa using h2⟩
 rw[qe]at q2;have hgl:g<w.heap.size:=(q2.lt g rfl).2;obtain⟨w1,gK⟩:∃w1:aG,(w.alloc (af #[ah ag 0,ah ag 0,ah ag 0,ah ag 0,ah ag 0,ay aj 0 0] 59)).alloc (af #[ah ag fi,ah ag ff,ah ag ft,ah ag fc,ah ag fe,ay da fd.length dc] 59)=w1:=⟨_,rfl⟩;have BW:aZ (aO w.heap.size w w1):=by rw[<-gK];exact((aS _ _).alloc (aC _) _).alloc (by simp) _
 have S1:aZ (w1.heap.size=w.heap.size+2):=by rw[<-gK,aZ];simp
 have Bv:=aA gK;have cq:=h.cq hp hx.p1;have cv:=h.cqv hp hc;rw[qe]at cv;have fcl:=q2.cells (g:=g) rfl;have ad:∀k,(⟨g,0,aj⟩:fE).add k=⟨g,k,aj⟩:=fun k=>by unfold Addr.add;split<;>simp_all
 have y0:=fcl 0 _ rfl;have y1:=fcl 1 _ rfl;have y2:=fcl 2 _ rfl;have y3:=fcl 3 _ rfl;have y4:=fcl 4 _ rfl;have y5:=fcl 5 _ rfl;simp only[ad]at y0 y1 y2 y3 y4 y5;have l1:b<w.heap.size:=h.root.1.lt;have l2:L.qr p<w.heap.size:=(h.qr p hp).1.lt;have p0:(0:Int)<=(p:Int):=by omega
 have p8:(p:Int)<8:=by have:=hx.p1;omega
 have c0:(0:Int)<=(c:Int):=by omega
 have c8:(c:Int)<(X.aX:Int):=by omega
 have QL:aZ (Q.length<=64/\(dz X.q p c).tail=Q.map (·.1)/\0<(dz X.q p c).length):=by have ql:=hx.Wp hp hc;rw[hf,<-q1]at ql;rw[aZ,hf,<-q1];simp at ql|-;omega
 have HH:=aA h;have HX:=aA hx;have Q1:=aA q1;have Q2:=aA q2;have Q3:=aA q3;have Q4:=aA q4;have QE:=aA qe;have FD:=aA ahB;have GE:=aA hge;generalize hPR:Zw Z o w b (X.pop p c) L _=NZ;have HPR:=aA hPR;clear h hx hf q1 q2 q3 q4 qe ahB dd1 dd2 dd3 hge hPR fcl ad gK;unfold pt;have l3:b<w.heap.size+1:=by omega
 have l4:L.qr p<w.heap.size+1:=by omega
 have l5:g<w.heap.size+1:=by omega
 go_enter func127,ntmps127;go_wp2_with fail
 rw[Bv.o];have cq1:=(BW.o.cell (p:=⟨b,2+p,aj⟩) l1).trans cq;have cv1:=(BW.o.cell (p:=⟨L.qr p,c,aj⟩) l2).trans cv;have b1:(1:Int)<=(Q.length:Int)+1:=by omega
 have b2:((Q.length+1:Nat):Int)<=(Js:Int):=by have:=GE.o;omega
 clear cq cv y0 y1 y2 y3 y4 y5 l3 l4 l5;have KS:aZ (∀w',aO w1.heap.size w1 w'->w'.cell? ⟨b,2+p,aj⟩=az (ay (az ⟨L.qr p,0,aj⟩) X.aX X.aX)):=fun w' hb=>(hb.cell (p:=⟨b,2+p,aj⟩) (aY _ _ cq1)).trans cq1;refine fZ 11 (fun w'=>w'.cell? ⟨b,2+p,aj⟩=az (ay (az ⟨L.qr p,0,aj⟩) X.aX X.aX)) (by kernel_rfl) (KS.o _ ⟨rfl,rfl,rfl,aC _,fun _ _=>rfl⟩) (fun aW=>?_);refine bH.tk 0 aW ?_;try simp only[bI]
 refine bH.tk 1 aW ?_;try simp only[bI]
 refine bH.tk 2 aW ?_;try simp only[bI]
 refine bH.tk 3 aW ?_;try simp only[bI]
 refine bH.tk 4 aW ?_;try simp only[bI]
 refine bH.tk 5 aW ?_;try simp only[bI]
 refine bH.tk 6 aW ?_;try simp only[bI]
 refine bH.tk 7 aW ?_;try simp only[bI]
 refine bH.tk 8 aW ?_;try simp only[bI]
 have TL:aZ (Reads w1 w1.heap.size 6 (if Js=1 then az ⟨g,0,aj⟩else az ⟨g,6,aj⟩) Q.length (Q.flatMap Dm)):=by have r:=((Reads.Jl Q2.o).below BW.o).more (B':=w1.heap.size) BW.o.size;have r2:=r.cut (k:=1) (cap:=Js) (by omega) GE.o;have e:(az (⟨g,0,aj⟩:fE)).map (·.add (1*6))=az ⟨g,6,aj⟩:=rfl;rw[e]at r2;exact r2
 generalize(if Js=1 then az (⟨g,0,aj⟩:fE)else az ⟨g,6,aj⟩)=TA at *;obtain⟨i0,hi0,wE,uY,wN⟩:=eQ Cw;refine bH.one (i:=9) (by kernel_rfl) rfl (fun K hK=>?_);refine gy _ (by rfl) (.const (ay aj 0 0)) (.tmp 29) 110 (by rfl) w1.heap.size 59 i0 _ 6 64 underlying110 hi0 wE uY wN rfl (by decide) _ 0 [] (by rfl) (dR _ w1.heap.size 59 6) _ TA Q.length (Js-1) (Q.flatMap Dm) (by rfl) (TL.o.drew) ?_ ?_ ?_ ?_ ?_
 ·intro u hu;simp only[gZ,Dm,dM,dZ,or_false]at hu;obtain⟨y,hy,hu⟩:=hu;obtain⟨a',c',e',_⟩:=Q3.o y (dx _ hy);rcases hu with rfl|rfl|rfl|rfl|rfl|rfl;all_goals first|rfl|(rw[e'];rfl)
 ·have:=QL.o.1;unfold fJ;omega
 ·have:=QL.o.1;omega
 ·exact aC _
 intro v2 wd uB Ho Qa;try simp only[rG,kK]at uB
 have O2:=aA uB;have BD:aZ (aO w1.heap.size w1 wd):=⟨Ho.os,Ho.tape,Ho.output,Ho.size,fun k hk=>Ho.block k hk (by simp[eO])⟩;obtain⟨a2,cap2,rfl,_,_,uy⟩:=ic (d:=((⟨0,0,0,0,0,[]⟩:Fm),ay aj 0 0)) xG (by decide) uB;have cv:wd.cell? ⟨L.qr p,c,aj⟩=_:=(BD.o.cell (p:=⟨L.qr p,c,aj⟩) (aY _ _ cv1)).trans cv1;have cf:wd.frozen? ⟨L.qr p,c,aj⟩=false:=(((HH.o.qr p hp).1.below BW.o l2).below BD.o (by have:=BW.o.size;omega)).frozen c;clear uB Ho Qa;refine hK.out _ _ (fun _=>KS.o _ BD.o) (fun bU=>?_);have aW:=bU (by decide);clear hK bU;try simp only[bI]
 refine bH.tk 10 aW ?_;try simp only[bI]
 refine bH.one (i:=11) (by kernel_rfl) rfl (fun K hK=>?_);go_simp;refine hK.out _ _ (fun h=>absurd rfl h) (fun _=>?_);clear hK;refine bH.done (by kernel_rfl) ?_ _;try simp only[bI]
 clear KS;obtain⟨w3,zZ⟩:∃w3:aG,wd.setCell ⟨L.qr p,c,aj⟩ (ay a2 Q.length cap2)=w3:=⟨_,rfl⟩;obtain⟨xV,m3,n3⟩:=(HH.o.Zj.below BW.o).azh hp hc HX.o.q ho (Q:=Q) (fun y hy=>(Q3.o y (dx _ hy)).jM (S:=fun _=>False) (Ch.dw BW.o) (fun k hk=>iD hk) (fun _ s=>s.elim)) BD.o (wI O2.o (bJ _)) (fun k hk=>(O2.o.lt k hk).1);rw[zZ]at m3 n3;have BX1:aZ (dG w3 w.heap.size 59 #[ah ag 0,ah ag 0,ah ag 0,ah ag 0,ah ag 0,ay aj 0 0]):=by
  rw[<-zZ];have h1:dG w1 w.heap.size 59 #[ah ag 0,ah ag 0,ah ag 0,ah ag 0,ah ag 0,ay aj 0 0]:=by rw[<-Bv.o];exact(dG.new w _ _).alloc _
  exact(h1.below BD.o h1.lt).Bi (by simp only;omega) _
 have WT:aZ (dG w3 (w.heap.size+1) 59 #[ah ag fi,ah ag ff,ah ag ft,ah ag fc,ah ag fe,ay da fd.length dc]):=by
  rw[<-zZ];have h1:dG w1 (w.heap.size+1) 59 #[ah ag fi,ah ag ff,ah ag ft,ah ag fc,ah ag fe,ay da fd.length dc]:=by rw[<-Bv.o];have:=dG.new (w.alloc (af #[ah ag 0,ah ag 0,ah ag 0,ah ag 0,ah ag 0,ay aj 0 0] 59)) 59 #[ah ag fi,ah ag ff,ah ag ft,ah ag fc,ah ag fe,ay da fd.length dc];simpa using this
  exact(h1.below BD.o h1.lt).Bi (by simp only;omega) _
 rw[zZ];have M3:=aA m3.Zj;have N3:=aA n3;obtain⟨gg3,t4,t5⟩:=m3.gg p c hp hc;have T5:=aA t5;have GC3:aZ (dG w3 (L.gc p c) 206 (gvC (dz X.gv p c))):=gg3.c;have HG:=aA (Yn _ _ N _ _ w3 (HX.o.g p c hp hc) hN QL.o.2.2 gg3);obtain⟨g1,⟨aeJ,cs1,e1,e2,e3⟩,tg⟩:=m3.g p hp;have cg:=m3.cg hp HX.o.p1;have e1':L.gr p=ay (az ⟨g1,0,aj⟩) X.aX aeJ:=e1;rw[show({L with qv:=NV L.qv p c (ay a2 Q.length cap2)}:yV).gr p=L.gr p from rfl,e1']at cg;have cc:w3.cell? ⟨g1,c,aj⟩=az (pt (L.gb p c)):=by rw[e2.cell];exact e3 c hc
 unfold pt at cc;clear m3 n3 gg3 t4 t5 e1 e2 e3 e1' tg uy zZ cf cv cq1 cv1 b2 b1 O2 TL;have HGF:aZ (di aH 152 #[au (az ⟨L.gb p c,0,aj⟩),ah ag 0] w3 (GvP (L.gc p c) w3 0 (dz X.gv p c).free)):=HG.o;clear HG;generalize hfr:(dz X.gv p c).free=gfr at HGF;have HFR:=aA hfr;clear hfr;go_wp2_with (first
  |(go_at_call 152;refine HGF.o.mono ?_;rintro e w4 ⟨rfl,b1,b2⟩;have B1:=aA b1;have B2:=aA b2;clear b1 b2;have BY1:=aA (BX1.o.ch B2.o (fun e=>dG.sZ BX1.o GC3.o (by decide) e));have BY2:=aA (WT.o.ch B2.o (fun e=>dG.sZ WT.o GC3.o (by decide) e));have k0:=BY2.o.cell 0;have k1:=BY2.o.cell 1;have k2:=BY2.o.cell 2;have k3:=BY2.o.cell 3;have k4:=BY2.o.cell 4;have k5:=BY2.o.cell 5;have m0:=BY1.o.cell 0;have m1:=BY1.o.cell 1;have m2:=BY1.o.cell 2;have m3:=BY1.o.cell 3;have m4:=BY1.o.cell 4;have m5:=BY1.o.cell 5;have f0:=BY1.o.frozen 0;have f1:=BY1.o.frozen 1;have f2:=BY1.o.frozen 2;have f3:=BY1.o.frozen 3;have f4:=BY1.o.frozen 4;have f5:=BY1.o.frozen 5;simp only[dJ,fP,dO]at k0 k1 k2 k3 k4 k5 m0 m1 m2 m3 m4 m5))
 have M4:=aA (M3.o.afT (x:=gfr) hp hc HX.o.gv ho B2.o B1.o);have N4:aZ (Nx Z o w (fr xV w3.heap.size) w4):=((Nx.dw BW.o).trans N3.o).trans (Nx.Sj B2.o fun k e=>by rw[e];exact congrArg (·.1) T5.o);have TB:aZ ((fr xV w3.heap.size) w.heap.size=(0,0,0,0)):=by rw[aZ,iD BX1.o.lt,N3.o.ext _ (by have:=S1.o;omega),mH (aC _)]
 have EX:aZ (X.pop p c={X with q:=jA X.q p c (Q.map (·.1)),gv:=jA X.gv p c gfr}):=by rw[aZ,<-HFR.o,<-QL.o.2.1];rfl
 refine bodyPost_ret (v:=.agg #[ah ag fi,ah ag ff,ah ag ft,ah ag fc,ah ag fe,ay da fd.length dc]) (by simp[results,Tryz.results127,go_sem,m0,m1,m2,m3,m4,m5]) rfl ?_;rw[<-HPR.o,EX.o];refine⟨_,rfl,FD.o,_,_,M4.o.jM (S:=fun k=>k=w.heap.size) ((((((((Ch.refl (fun k=>k=w.heap.size) _).setCell (p:=⟨w.heap.size,0,aj⟩) (.inl rfl) _).setCell (p:=⟨w.heap.size,1,aj⟩) (.inl rfl) _).setCell (p:=⟨w.heap.size,2,aj⟩) (.inl rfl) _).setCell (p:=⟨w.heap.size,3,aj⟩) (.inl rfl) _).setCell (p:=⟨w.heap.size,4,aj⟩) (.inl rfl) _).setCell (p:=⟨w.heap.size,5,aj⟩) (.inl rfl) _)) (fun _ _=>rfl) (fun k e=>by rw[e,TB.o];simp only;omega),
  (((((N4.o.CX (p:=⟨w.heap.size,0,aj⟩) (aC _) _).CX (p:=⟨w.heap.size,1,aj⟩) (aC _) _).CX (p:=⟨w.heap.size,2,aj⟩) (aC _) _).CX (p:=⟨w.heap.size,3,aj⟩) (aC _) _).CX (p:=⟨w.heap.size,4,aj⟩) (aC _) _).CX (p:=⟨w.heap.size,5,aj⟩) (aC _) _⟩
def Ux:Fm×aJ:=(⟨0,0,0,0,0,[]⟩,ay aj 0 0)
theorem VD{w:aG}{A:Option fE}{len:Nat}{Q:List (Fm×aJ)}(h:gH 6 Dm Ux w A len Q)(k:Nat)(hk:k<len):∃b off,A=az ⟨b,off,aj⟩/\b<w.heap.size/\Q.getD k Ux∈Q/\w.cell? ⟨b,off+k*6,aj⟩=az (ah ag (Q.getD k Ux).1.id)/\w.cell? ⟨b,off+k*6+1,aj⟩=az (ah ag (Q.getD k Ux).1.iN)/\w.cell? ⟨b,off+k*6+2,aj⟩=az (ah ag (Q.getD k Ux).1.jl)/\w.cell? ⟨b,off+k*6+3,aj⟩=az (ah ag (Q.getD k Ux).1.cls)/\w.cell? ⟨b,off+k*6+4,aj⟩=az (ah ag (Q.getD k Ux).1.ep)/\w.cell? ⟨b,off+k*6+5,aj⟩=az (Q.getD k Ux).2:=by
 obtain⟨b,off,ha,hb,hc⟩:=h.2 (by omega);have hl:k<Q.length:=by rw[h.1];exact hk
 exact⟨b,off,ha,hb,by simp[bS,hl],hc k 0 hk (by omega),hc k 1 hk (by omega),hc k 2 hk (by omega),hc k 3 hk (by omega),hc k 4 hk (by omega),hc k 5 hk (by omega)⟩
theorem Tq.asl{Z:Own}{w:aG}{v:aJ}{l:List Fm}(h:Tq Z w v l):∃a cap Q,v=ay a Q.length cap/\Q.map (·.1)=l/\gH 6 Dm Ux w a Q.length Q/\∀x∈Q,iX Z w x.1.data x.2:=by obtain⟨Q,q1,q2,q3⟩:=h;obtain⟨a,cap,e,_,r,_⟩:=ic (d:=Ux) xG (by decide) q2;exact⟨a,cap,Q,e,q1,r,q3⟩
theorem iE(w:aG)(t:dP)(cs:List aJ){n size:Nat}(h:cs.length=n*size):Reads (w.alloc (.cells cs.toArray t)) (w.heap.size+1) size (az ⟨w.heap.size,0,aj⟩) n cs:=
 ⟨h,fun _=>⟨_,rfl,by simp,fun q u hu=>uo (cs:=cs.toArray) (t:=t) (fr:=(0,0)) (heap_alloc_new w _) q u (by simpa using hu)⟩⟩
def adC(l:List Fm)(w:aG)(e:iL)(w':aG):Prop:=
 ∃(v:aJ) (Q:List (Fm×aJ)),e=ax v/\Q.map (·.1)=l/\w'.ownsRow w.heap.size 59 6 v Q.length (Q.flatMap Dm)/\aO w.heap.size w w'
def aji(Q:List (Fm×aJ))(w:aG)(v i:aJ)(wr:aG):Prop:=
 ∃(k:Nat) (R:List (Fm×aJ)),k<=Q.length/\i=ah ag k/\R.map (·.1)=(Q.take k).map (·.1)/\R.length=k/\wr.ownsRow w.heap.size 59 6 v k (R.flatMap Dm)/\aO w.heap.size w wr
theorem XJ(p c N:Nat)(Z:Own)(o:Nat)(w:aG)(b:Nat)(X:Bx)(L:yV)(h:pW Z o w b X L)(hx:lW X N)(hp:p<X.bE)(hc:c<X.aX):di aH 49 #[pt b,ah ag p,ah ag c] w (adC (dz X.q p c) w):=by
 have HH:=aA (Ka p c _ o w b X L h hp hc);obtain⟨a,cap,Q,qe,q1,qr,q3⟩:=(h.q p c hp hc).1.asl;have ql:=hx.Wp hp hc;rw[<-q1,dW]at ql;have cq:=h.cq hp hx.p1;have cv:=h.cqv hp hc;rw[qe]at cv;rw[<-q1];have p0:(0:Int)<=(p:Int):=by omega
 have p8:(p:Int)<8:=by have:=hx.p1;omega
 have c0:(0:Int)<=(c:Int):=by omega
 have c8:(c:Int)<(X.aX:Int):=by omega
 have QR:=aA qr;have Q3:=aA q3;obtain⟨i0,hi0,wE,uY,wN⟩:=eQ Cw;clear h hx qe q1 q3 qr;unfold pt at *;go_enter func49,ntmps49;go_wp2_with (first
  |(go_at_call 91;refine HH.o.mono ?_;rintro e w' ⟨rfl,rfl⟩))
 clear HH cq cv;go_loopw [7,9,29] (fun v _ i wr=>aji Q w v i wr) (fun _ _ i _=>Q.length-(aK i).toNat);case atStart=>exact⟨0,[],bJ _,rfl,rfl,rfl,dR _ _ _ _,aS _ _⟩
 case round=>
  obtain⟨k,R,hk,rfl,hR,hRl,zu,gB⟩:=hrel;subst hRl;have HR:=aA hR;have xW:=aA gB;have OWN:=aA zu;by_cases yH:R.length<Q.length
  ·obtain⟨b1,o1,ha,hb1,hm,e0,e1,e2,e3,e4,e5⟩:=VD (QR.o.below (aC _) gB) R.length yH;have QK:=(Q3.o _ hm).jM (S:=fun _=>False) (Ch.dw gB) (fun _ _=>rfl) (fun _ s=>s.elim);have TS:=aA (jU Ux Q R.length yH);generalize Q.getD R.length Ux=x at *;obtain⟨⟨xi,xf,xt,xc,xe,xd⟩,xv⟩:=x;simp only at e0 e1 e2 e3 e4 e5 QK;obtain⟨da,dc,rfl,dd⟩:=id QK;obtain⟨w5,Gs⟩:∃w5:aG,wr.alloc (af #[ah ag xi,ah ag xf,ah ag xt,ah ag xc,ah ag xe,ay da xd.length dc] 59)=w5:=⟨_,rfl⟩;have B5:aZ (aO wr.heap.size wr w5):=(by rw[<-Gs];exact(aS _ _).alloc (aC _) _);have FB:aZ (dG w5 wr.heap.size 59 #[ah ag xi,ah ag xf,ah ag xt,ah ag xc,ah ag xe,ay da xd.length dc]):=(by rw[<-Gs];exact dG.new wr _ _);have DT:=aA (QK.jM (S:=fun _=>False) (Ch.dw B5.o) (fun _ _=>rfl) (fun _ s=>s.elim));have k0:=FB.o.cell 0;have k1:=FB.o.cell 1;have k2:=FB.o.cell 2;have k3:=FB.o.cell 3;have k4:=FB.o.cell 4;have k5:=FB.o.cell 5;simp only[dJ,fP,dO]at k0 k1 k2 k3 k4 k5;obtain⟨va,vc,rfl,_⟩:=ic (d:=Ux) xG (by decide) zu;have akN:aZ (w5.ownsRow w.heap.size 59 6 (ay va R.length vc) R.length (R.flatMap Dm)):=(by rw[<-Gs];exact zu.alloc _);subst ha;clear hm hR gB zu dd QK;go_wp2_with (first
    |(go_at_call 92;refine(yt ⟨xi,xf,xt,xc,xe,xd⟩ (ay da xd.length dc) Z _ DT.o).mono ?_;rintro e wc ⟨v',rfl,bc,ow⟩;have BC:=aA bc;have OW:=aA ow;obtain⟨a',pJ,rfl,_⟩:=ic (d:=(0:Int)) Bh (by decide) ow;clear bc ow;simp only[Nb];have api:aZ ((wc.alloc (af #[ah ag xi,ah ag xf,ah ag xt,ah ag xc,ah ag xe,ay a' xd.length pJ] 59)).ownsRow w.heap.size 59 6 (ay va R.length vc) R.length (R.flatMap Dm)):=((fT (akN.out) (Ch.dw (S:=fun _=>False) BC.o) (fun _ _ s=>s.elim)).alloc _))
    |(at_builtin;refine gY _ rfl (.tmp 33) (.tmp 36) 110 rfl w.heap.size 59 i0 _ 6 64 underlying110 hi0 wE uY wN rfl (by decide) _ _ _ rfl api.out _ (az ⟨wc.heap.size,0,aj⟩) 1 1 [ah ag xi,ah ag xf,ah ag xt,ah ag xc,ah ag xe,ay a' xd.length pJ] rfl (iE wc _ _ (n:=1) (size:=6) rfl) ?c3 ?c4 ?c5 ?c6 ?_))
   case c3=>exact⟨rfl,rfl,rfl,rfl,rfl,rfl⟩
   case c4=>unfold fJ;omega
   case c5=>omega
   case c6=>have h1:=xW.out.size;have h2:=B5.o.size;have h3:=BC.o.size;simp;omega
   intro v2 wd uB Ho _;have RF:aZ (aji Q w v2 (ah ag ((R.length+1:Nat):Int)) wd):=by
    refine⟨R.length+1,R++[((⟨xi,xf,xt,xc,xe,xd⟩:Fm),ay a' xd.length pJ)],by omega,rfl,?_,by simp,?_,?_⟩
    ·rw[TS.o,fF,fF,HR.o];rfl
    ·rw[List.flatMap_append];exact uB
    ·have h1:=xW.out.size;have b1:aO w.heap.size w wc:=(xW.out.trans (B5.o.mono h1)).trans (BC.o.mono (by have:=B5.o.size;omega));exact(b1.alloc b1.size _).grown Ho (by have:=b1.size;simp;omega) (fun g hg=>(api.out.lt g hg).1)
   clear uB Ho;go_wp2_with fail;exact⟨by simpa using RF.o,by simp[aK];omega⟩
  ·have hl:R.length=Q.length:=by omega
   rw[hl,List.take_length]at hR;have jm:aZ (adC (Q.map (·.1)) w (ax _) wr):=⟨_,R,rfl,hR,zu,gB⟩;clear hR zu gB hl;go_wp2_with fail;go_ret;exact jm.out
end
section
section
variable{P:Program}{ops:Array Oper}{Q:Exit->Act->aG->Prop}{md:ru}{S:aG->Prop}{xm:Nat}
theorem bH.two{i j:Nat}{oi oj:Oper}{n:Nat}{done:Array Bool}{a:Act}{w:aG}(hr:jq md ops done=[i,j])(hi:ops[i]?=az oi)(hj:ops[j]?=az oj)(h:∀K':Act->aG->Prop,aZ (∀a' w',(i≠xm->S w')->((i≠xm->S w')->bH P md ops Q S xm n (done.setIfInBounds i true) a' w')->K' a' w')->if eZ oi (yielded ops a.tmps)=true then jR P oi a w K' Q else K' (a.put oi.dst undef) w)(k:∀K':Act->aG->Prop,aZ (∀a' w',(j≠xm->S w')->((j≠xm->S w')->bH P md ops Q S xm n (done.setIfInBounds j true) a' w')->K' a' w')->if eZ oj (yielded ops a.tmps)=true then jR P oj a w K' Q else K' (a.put oj.dst undef) w):bH P md ops Q S xm (n+1) done a w:=
 ⟨fun e=>(by rw[e]at hr;cases hr),fun x hx=>by
  rw[hr]at hx;simp only[dM,dZ,or_false]at hx;rcases hx with hx|hx
  ·subst hx;exact wpOp_step hi fun K' hK=>h K' fun a' w' hS hA=>hK a' w' ⟨hS,hA hS⟩
  ·subst hx;exact wpOp_step hj fun K' hK=>k K' fun a' w' hS hA=>hK a' w' ⟨hS,hA hS⟩⟩
end
theorem abe{P:Program}{a:Act}{w:aG}{o:Oper}{x:Operand}{f:FuncId}{ts:Array dP}{v:aJ}(hE:∀args w,(callFunc f args).run P w=.ok (.enter f args) w)(ho:o.op=sV {callee:=kU (kW f),args:=#[x],argTypes:=ts})(hx:a.eval x=v):(execOp a.eval o).run P w=.ok (.enter f #[v]) w:=by simp[execOp,ho,resolve,invoke,hE,go_sem];simpa[go_sem]using hx
theorem xM{P:Program}{ops:Array Oper}{o:Oper}{a:Act}{w:aG}{K:Act->aG->Prop}{Q:Exit->Act->aG->Prop}{E:Prop}(hg:o.guard=aj){x:Operand}{f:FuncId}{ts:Array dP}{v:aJ}(hE:∀args w,(callFunc f args).run P w=.ok (.enter f args) w)(ho:o.op=sV {callee:=kU (kW f),args:=#[x],argTypes:=ts})(hx:a.eval x=v){Post:iL->aG->Prop}(hc:di P f #[v] w Post)(hK:∀e w',Post e w'->∃r,e=ax r/\K (a.put o.dst r) w'):if eZ o (yielded ops a.tmps)=true then jR P o a w K Q else E:=by
 have hw:eZ o (yielded ops a.tmps)=true:=by simp[eZ,hg]
 rw[if_pos hw];unfold jR;rw[abe hE ho hx];exact hc.mono fun e w' h=>by obtain⟨r,rfl,hk⟩:=hK e w' h;exact hk
end
end Go.Proofs.YtnjjkgjdhljfnaaGreat
