/- Part 7. -/
import Derived.Deep.DrawnRows
import Derived.Test.YtnjjkgjdhljfnaaGreatPk3
open Go.Proofs.Tryz
open Array renaming any_eq_true->Aq,ext'->sW,getElem?_eq_none->jv,getElem_mem->Av,setIfInBounds_comm->Bb
open Bool renaming and_eq_true->cZ,eq_iff_iff->jE,or_eq_true->iq
open Go renaming Addr->fA,Calls->bZ,Ending->iM,TypeId->dL,Value->aI,World->aG,info_parts->dX,maxLen->fB,wp_at_succ->fH,wp_at_zero->fJ
open Go.Callee renaming value->kv
open Go.Ending renaming returned->ax
open Go.IntKind renaming i64->ag
open Go.IntWalk renaming i64_in->fE
open Go.Lib renaming hid->aA
open Go.Lit renaming int->iT
open Go.Obj renaming cells->af
open Go.Op renaming call->sP
open Go.Oper renaming wp->jK
open Go.Operand renaming func->kz
open Go.Proofs.Tryz renaming prog->aH
open Go.Region renaming Mode->qV,binds->qb,free->EU,noSelect->yz,noSelect_spec->EY,ready->jc,wanted->eH
open Go.RowKit renaming Below->aN,Hid->aY,intOf->aJ
open Go.RowKit.Below renaming refl->aQ
open Go.Value renaming bool->iN,int->ah,ownBlock->dV,pointer->au,slice->ay
open Go.World renaming block_lt_of_cell?->aZ,cell?_setCell_other->kL,new_ne->CO,news_of_block->uo,ownsRow_nil->dM,setCell->iK
open Int renaming toNat_natCast->cK
open List renaming foldl_append->fZ,getD->bJ,getElem?_append->xQ,getElem?_append_right->jX,getElem?_cons_succ->fC,getElem?_cons_zero->dD,getElem?_map->cO,getElem?_range->dW,getElem?_replicate->gz,getElem?_toArray->di,length_map->dE,map_append->eY,mem_cons->dG,mem_cons_of_mem->dU,mem_flatMap->iF,mem_map->gH,mem_range->dJ,mem_singleton->dz,nil_append->kg,not_mem_nil->dP,range->aO,range_succ->dB,replicate->aS,replicate_succ->oG,setIfInBounds_toArray->gG,set_append_right->ic,set_eq_of_length_le->nK
open Nat renaming le_refl->aC,lt_of_lt_of_le->bW,lt_or_ge->jB,mod_lt->nE,sub_self->JL,zero_add->ry,zero_le->bS
open Option renaming none->aj,some->az
set_option maxRecDepth 100000
set_option maxHeartbeats 16000000
set_option linter.unusedVariables false
set_option linter.unusedSimpArgs false
namespace Go.Proofs.YtnjjkgjdhljfnaaGreat
open Go.RowKit Go.Maps
section
attribute [local go_sem ↓] fJ fH
def gvC(x:Gv):Array aI:=#[ah ag x.room,ah ag x.NK,ah ag x.Kb]
def tkC(x:Tk):Array aI:=#[ah ag x.NQ,ah ag x.lim]
def GvP(h:Nat)(w:aG)(v:Int)(x':Gv)(e:iM)(w':aG):Prop:=e=ax (ah ag v)/\dh w' h 206 (gvC x')/\Ch (· =h) w w'
def TkP(h:Nat)(w:aG)(v:Int)(x':Tk)(e:iM)(w':aG):Prop:=e=ax (ah ag v)/\dh w' h 228 (tkC x')/\Ch (· =h) w w'
theorem Fh(xr xc xf:Int)(w:aG)(h:0<=xr/\xr<=1000000)(h2:0<=xf/\xf<=1000000000000):bZ aH 121 #[.agg #[ah ag xr,ah ag xc,ah ag xf]] w fun e w'=>e=ax (ah ag (xr+xf))/\w.alloc (af #[ah ag xr,ah ag xc,ah ag xf] 206)=w':=by have q1:IntKind.i64.wrap (xr+xf)=xr+xf:=fE _ (by omega);clear h h2;go_enter func121,ntmps121;go_wp2_with fail;go_ret;exact⟨rfl,rfl⟩
def Gr(x:Gv):Int:=if x.uH<=x.NK then 5 else 0
theorem Po(x:Gv)(q N:Nat)(h:Nat)(w:aG)(hx:Xg x q N)(hN:N<=1000000000000)(hb:dh w h 206 (gvC x)):bZ aH 120 #[au (az ⟨h,0,aj⟩)] w (GvP h w (Gr x) x.uR.1):=by
 obtain⟨xr,xc,xf⟩:=x;obtain⟨r0,r1,f0,f1,n1,full⟩:=hx;simp only at r0 r1 f0 f1 n1 full;have z0:0<=xc:=by omega
 have z1:xc<=1000000000000:=by omega
 have z2:xf<=1000000000000:=by omega
 clear f1 n1 full hN;have HB:=aA hb;have c0:w.cell? ⟨h,0,aj⟩=az (ah ag xr):=hb.cell 0;have c1:w.cell? ⟨h,0+1,aj⟩=az (ah ag xc):=hb.cell 1;have c2:w.cell? ⟨h,0+1+1,aj⟩=az (ah ag xf):=hb.cell 2;have fr:w.frozen? ⟨h,0+1,aj⟩=false:=hb.frozen 1;have lt:=hb.lt;have ne:¬h=w.heap.size:=by omega
 clear hb;have n0:=CO w ⟨h,0,aj⟩ c0;have n1':=CO w ⟨h,0+1,aj⟩ c1;have n2':=CO w ⟨h,0+1+1,aj⟩ c2;have e1:Gr ⟨xr,xc,xf⟩=if xr+xf<=xc then 5 else 0:=rfl
 have e2:(⟨xr,xc,xf⟩:Gv).uR.1=if xr+xf<=xc then⟨xr,xc,xf⟩else⟨xr,xc+1,xf⟩:=by unfold Gv.uR Gv.uH;simp only;split<;>rfl
 have q1:IntKind.i64.wrap (xc+1)=xc+1:=fE _ (by omega);by_cases hf:xr+xf<=xc
 ·rw[if_pos hf]at e1 e2;rw[e1,e2];clear e1 e2;go_enter func120,ntmps120;go_wp2_with fail;go_region_held3 (fun w'=>w'.cell? ⟨h,0,aj⟩=az (ah ag xr)/\w'.cell? ⟨h,0+1,aj⟩=az (ah ag xc)/\w'.cell? ⟨h,0+1+1,aj⟩=az (ah ag xf)) (go_keep)
   (first|(go_at_call 121;refine(Fh xr xc xf _ (by omega) (by omega)).mono ?_;rintro e w' ⟨rfl,rfl⟩))
  all_goals go_wp2_with fail
  all_goals go_ret
  all_goals exact⟨rfl,(HB.o.drew.alloc _),((Ch.refl _ w).drew.alloc _)⟩
 ·rw[if_neg hf]at e1 e2;rw[e1,e2];clear e1 e2;go_enter func120,ntmps120;go_wp2_with fail;go_region_held3 (fun w'=>w'.cell? ⟨h,0,aj⟩=az (ah ag xr)/\w'.cell? ⟨h,0+1,aj⟩=az (ah ag xc)/\w'.cell? ⟨h,0+1+1,aj⟩=az (ah ag xf)) (go_keep)
   (first|(go_at_call 121;refine(Fh xr xc xf _ (by omega) (by omega)).mono ?_;rintro e w' ⟨rfl,rfl⟩))
  all_goals go_wp2_with fail
  all_goals go_ret
  all_goals exact⟨rfl,((HB.o.jd 1 _).alloc _).drew,(((Ch.refl (· =h) w).setCell (p:=⟨h,1,aj⟩) (.inl rfl) _).alloc _).drew⟩
theorem QQ(x:Gv)(q N:Nat)(g h:Nat)(w:aG)(hx:Xg x q N)(hN:N<=1000000000000)(hg:Ey w g h x):bZ aH 93 #[au (az ⟨g,0,aj⟩),ah ag 0] w (GvP h w (Gr x) x.uR.1):=by
 have c0:w.cell? ⟨g,0,aj⟩=az (ay (az ⟨h,0,aj⟩) 1 1):=hg.p.cell 0;have HC:=aA (Po x q N h w hx hN hg.c);clear hg hx;generalize Gr x=v at HC|-;generalize x.uR.1=x' at HC|-;go_enter func93,ntmps93;go_wp2_with (first|(go_at_call 120;refine HC.o.mono ?_;rintro e w' ⟨rfl,b1,b2⟩;have B1:=aA b1;have B2:=aA b2;clear b1 b2)|go_in);all_goals go_ret
 all_goals exact⟨rfl,B1.o,B2.o⟩
theorem VI(x:Gv)(q N:Nat)(h:Nat)(w:aG)(hx:Xg x q N)(hN:N<=1000000000000)(hq:0<q)(hb:dh w h 206 (gvC x)):bZ aH 175 #[au (az ⟨h,0,aj⟩)] w (GvP h w 0 x.free):=by
 obtain⟨xr,xc,xf⟩:=x;obtain⟨r0,r1,f0,f1,n1,full⟩:=hx;simp only at r0 r1 f0 f1 n1 full;have e2:(⟨xr,xc,xf⟩:Gv).free=⟨xr,xc,xf+1⟩:=by unfold Gv.free;simp only;rw[if_neg (by omega)]
 rw[e2];clear e2;have z3:xf<xc:=by omega
 have z2:xf<=1000000000000:=by omega
 have q1:IntKind.i64.wrap (xf+1)=xf+1:=fE _ (by omega);clear f1 n1 full hN;have HB:=aA hb;have c1:w.cell? ⟨h,0+1,aj⟩=az (ah ag xc):=hb.cell 1;have c2:w.cell? ⟨h,0+1+1,aj⟩=az (ah ag xf):=hb.cell 2;have fr:w.frozen? ⟨h,0+1+1,aj⟩=false:=hb.frozen 2;clear hb;go_enter func175,ntmps175;go_wp2_with fail;go_quiet (fail);go_wp2_with fail;go_ret;exact⟨rfl,(HB.o.jd 2 _).drewN _,((Ch.refl (· =h) w).setCell (p:=⟨h,2,aj⟩) (.inl rfl) _).drewN _⟩
theorem Yp(x:Gv)(q N:Nat)(g h:Nat)(w:aG)(hx:Xg x q N)(hN:N<=1000000000000)(hq:0<q)(hg:Ey w g h x):bZ aH 152 #[au (az ⟨g,0,aj⟩),ah ag 0] w (GvP h w 0 x.free):=by
 have c0:w.cell? ⟨g,0,aj⟩=az (ay (az ⟨h,0,aj⟩) 1 1):=hg.p.cell 0;have HC:=aA (VI x q N h w hx hN hq hg.c);clear hg hx;generalize x.free=x' at HC|-;go_enter func152,ntmps152;go_wp2_with (first|(go_at_call 175;refine HC.o.mono ?_;rintro e w' ⟨rfl,b1,b2⟩;have B1:=aA b1;have B2:=aA b2;clear b1 b2)|go_in);all_goals go_ret
 all_goals exact⟨rfl,B1.o,B2.o⟩
theorem Yq(x:Gv)(q N:Nat)(h v:Nat)(w:aG)(hx:Xg x q N)(hN:N<=1000000000000)(hb:dh w h 206 (gvC x))(u:aI)(hv:dh w v 3 #[u]):bZ aH 157 #[au (az ⟨h,0,aj⟩),au (az ⟨v,0,aj⟩)] w fun e w'=>e=ax (ah ag 0)/\dh w' v 3 #[ah ag x.uH]/\Ch (· =v) w w':=by
 obtain⟨xr,xc,xf⟩:=x;obtain⟨r0,r1,f0,f1,n1,full⟩:=hx;simp only at r0 r1 f0 f1 n1 full;show bZ _ _ _ _ fun e w'=>e=ax (ah ag 0)/\dh w' v 3 #[ah ag (xr+xf)]/\Ch (· =v) w w';have z2:xf<=1000000000000:=by omega
 clear f1 n1 full hN;have HB:=aA hb;have HV:=aA hv;have c0:w.cell? ⟨h,0,aj⟩=az (ah ag xr):=hb.cell 0;have c1:w.cell? ⟨h,0+1,aj⟩=az (ah ag xc):=hb.cell 1;have c2:w.cell? ⟨h,0+1+1,aj⟩=az (ah ag xf):=hb.cell 2;have fr:w.frozen? ⟨v,0,aj⟩=false:=hv.frozen 0;have cv:w.cell? ⟨v,0,aj⟩=az u:=hv.cell 0;have lt:=hv.lt;have ne:¬v=w.heap.size:=by omega
 have nn:=CO w ⟨v,0,aj⟩ cv;clear hb hv;go_enter func157,ntmps157;go_wp2_with (first|(go_at_call 121;refine(Fh xr xc xf _ (by omega) (by omega)).mono ?_;rintro e w' ⟨rfl,rfl⟩));go_ret;exact⟨rfl,((HV.o.jd 0 _).alloc _),((Ch.refl (· =v) w).setCell (p:=⟨v,0,aj⟩) (.inl rfl) _).alloc _⟩
theorem abH(x:Gv)(q N:Nat)(g h:Nat)(w:aG)(hx:Xg x q N)(hN:N<=1000000000000)(hg:Ey w g h x):bZ aH 133 #[au (az ⟨g,0,aj⟩),ah ag 0] w fun e w'=>e=ax (ah ag x.uH)/\aN w.heap.size w w':=by
 obtain⟨w1,gK⟩:∃w1:aG,w.alloc (af #[ah ag 0] 3)=w1:=⟨_,rfl⟩;have BV:aY (dh w1 w.heap.size 3 #[ah ag 0]):=by rw[<-gK];exact dh.new w _ _
 have BW:aY (aN w.heap.size w w1):=by rw[<-gK];exact(aQ _ _).alloc (aC _) _
 have gp:=hg.p.below BW.o hg.p.lt;have gc:=hg.c.below BW.o hg.c.lt;have c0:w1.cell? ⟨g,0,aj⟩=az (ay (az ⟨h,0,aj⟩) 1 1):=gp.cell 0;have HC:=aA (Yq x q N h w.heap.size w1 hx hN gc _ BV.o);have HW:=aA gK;clear gK hg hx gp gc;generalize x.uH=l at HC|-;go_enter func133,ntmps133;go_wp2_with (first|(go_at_call 157;refine HC.o.mono ?_;rintro e w' ⟨rfl,b1,b2⟩;have cl:=b1.cell 0;have B1:=aA b1;have B2:=aA b2;clear b1 b2)|(go_at_call 119;rw[HW.o];go_in));all_goals go_ret
 all_goals exact⟨rfl,BW.o.trans (B2.o.below (by exact BW.o.size) (by rintro k rfl;exact aC _))⟩
theorem Uj(x:Tk)(N:Nat)(l:Int)(h v:Nat)(w:aG)(hx:QH x N)(hN:N<=1000000000000)(hl:(iT .i64 l).wf=true)(hb:dh w h 228 (tkC x))(hv:dh w v 3 #[ah ag l]):bZ aH 123 #[au (az ⟨h,0,aj⟩),au (az ⟨v,0,aj⟩)] w fun e w'=>(∃c:Int,e=ax (ah ag c))/\dh w' h 228 (tkC (x.raise l))/\Ch (· =h) w w':=by
 obtain⟨xs,xl⟩:=x;obtain⟨s0,s1,l0,l1,le⟩:=hx;simp only at s0 s1 l0 l1 le;have HB:=aA hb;have c0:w.cell? ⟨h,0,aj⟩=az (ah ag xs):=hb.cell 0;have c1:w.cell? ⟨h,0+1,aj⟩=az (ah ag xl):=hb.cell 1;have fr:w.frozen? ⟨h,0+1,aj⟩=false:=hb.frozen 1;have cv:w.cell? ⟨v,0,aj⟩=az (ah ag l):=hv.cell 0;clear hb hv;by_cases h0:l<0
 ·have e:(⟨xs,xl⟩:Tk).raise l=⟨xs,xl⟩:=by unfold Tk.raise;rw[if_pos (.inl h0)]
  rw[e];clear e;go_enter func123,ntmps123;go_wp2_with fail;go_ret;exact⟨⟨_,rfl⟩,HB.o,Ch.refl _ _⟩
 ·by_cases h1:1099511627776<l
  ·have e:(⟨xs,xl⟩:Tk).raise l=⟨xs,xl⟩:=by unfold Tk.raise;rw[if_pos (.inr h1)]
   rw[e];clear e;go_enter func123,ntmps123;go_wp2_with fail;go_ret;exact⟨⟨_,rfl⟩,HB.o,Ch.refl _ _⟩
  ·have e:(⟨xs,xl⟩:Tk).raise l=⟨xs,max xl l⟩:=by unfold Tk.raise;rw[if_neg (by omega)]
   rw[e];clear e;have q0:0<=l:=by omega
   have q1:l<=1099511627776:=(by omega);by_cases hm:xl<l
   ·rw[Int.max_eq_right (by omega)];go_enter func123,ntmps123;go_wp2_with fail;go_region;all_goals go_wp2_with fail
    all_goals go_ret
    all_goals exact⟨⟨_,rfl⟩,(HB.o.jd 1 _).drew,((Ch.refl (· =h) w).setCell (p:=⟨h,1,aj⟩) (.inl rfl) _).drew⟩
   ·rw[Int.max_eq_left (by omega)];go_enter func123,ntmps123;go_wp2_with fail;go_region;all_goals go_wp2_with fail
    all_goals go_ret
    all_goals exact⟨⟨_,rfl⟩,(HB.o.jd 1 _).drew,((Ch.refl (· =h) w).setCell (p:=⟨h,1,aj⟩) (.inl rfl) _).drew⟩
theorem WH(x:Tk)(N:Nat)(l:Int)(g h:Nat)(w:aG)(hx:QH x N)(hN:N<=1000000000000)(hl:(iT .i64 l).wf=true)(hg:Lm w g h x):bZ aH 94 #[au (az ⟨g,0,aj⟩),ah ag 0,ah ag l] w fun e w'=>(∃c:Int,e=ax (ah ag c))/\dh w' h 228 (tkC (x.raise l))/\Ch (· =h) w w':=by
 obtain⟨w1,gK⟩:∃w1:aG,w.alloc (af #[ah ag l] 3)=w1:=⟨_,rfl⟩;have BV:aY (dh w1 w.heap.size 3 #[ah ag l]):=by rw[<-gK];exact dh.new w _ _
 have BW:aY (aN w.heap.size w w1):=by rw[<-gK];exact(aQ _ _).alloc (aC _) _
 have gp:=hg.p.below BW.o hg.p.lt;have gc:=hg.c.below BW.o hg.c.lt;have c0:w1.cell? ⟨g,0,aj⟩=az (ay (az ⟨h,0,aj⟩) 1 1):=gp.cell 0;have HC:=aA (Uj x N l h w.heap.size w1 hx hN hl gc BV.o);have HW:=aA gK;clear gK hg hx gp gc;generalize x.raise l=x' at HC|-;go_enter func94,ntmps94;go_wp2_with (first|(go_at_call 123;refine HC.o.mono ?_;rintro e w' ⟨⟨c,rfl⟩,b1,b2⟩;have B1:=aA b1;have B2:=aA b2;clear b1 b2)|(go_at_call 122;rw[HW.o];go_in));all_goals go_ret
 all_goals exact⟨⟨_,rfl⟩,B1.o,(Ch.bY BW.o).trans B2.o (fun i _ q=>q)⟩
theorem WI(x:Tk)(N:Nat)(h:Nat)(w:aG)(hx:QH x N)(hN:N<=1000000000000)(tK:x.NQ<x.lim)(hb:dh w h 228 (tkC x)):bZ aH 156 #[au (az ⟨h,0,aj⟩)] w (TkP h w 0 x.take):=by
 obtain⟨xs,xl⟩:=x;obtain⟨s0,s1,l0,l1,le⟩:=hx;simp only at s0 s1 l0 l1 le tK;have e:(⟨xs,xl⟩:Tk).take=⟨xs+1,xl⟩:=by unfold Tk.take;simp only;rw[if_neg (by omega)]
 rw[e];clear e;have q1:IntKind.i64.wrap (xs+1)=xs+1:=fE _ (by omega);have HB:=aA hb;have c0:w.cell? ⟨h,0,aj⟩=az (ah ag xs):=hb.cell 0;have c1:w.cell? ⟨h,0+1,aj⟩=az (ah ag xl):=hb.cell 1;have fr:w.frozen? ⟨h,0,aj⟩=false:=hb.frozen 0;clear hb;go_enter func156,ntmps156;go_wp2_with fail;go_quiet (fail);go_wp2_with fail;go_ret;exact⟨rfl,(HB.o.jd 0 _).drewN _,((Ch.refl (· =h) w).setCell (p:=⟨h,0,aj⟩) (.inl rfl) _).drewN _⟩
theorem Zi(x:Tk)(N:Nat)(g h:Nat)(w:aG)(hx:QH x N)(hN:N<=1000000000000)(tK:x.NQ<x.lim)(hg:Lm w g h x):bZ aH 132 #[au (az ⟨g,0,aj⟩),ah ag 0] w (TkP h w 0 x.take):=by
 have c0:w.cell? ⟨g,0,aj⟩=az (ay (az ⟨h,0,aj⟩) 1 1):=hg.p.cell 0;have HC:=aA (WI x N h w hx hN tK hg.c);clear hg hx tK;generalize x.take=x' at HC|-;go_enter func132,ntmps132;go_wp2_with (first|(go_at_call 156;refine HC.o.mono ?_;rintro e w' ⟨rfl,b1,b2⟩;have B1:=aA b1;have B2:=aA b2;clear b1 b2)|go_in);all_goals go_ret
 all_goals exact⟨rfl,B1.o,B2.o⟩
theorem WG(x:Tk)(N:Nat)(h v:Nat)(w:aG)(hx:QH x N)(hN:N<=1000000000000)(hb:dh w h 228 (tkC x))(u:aI)(hv:dh w v 3 #[u]):bZ aH 153 #[au (az ⟨h,0,aj⟩),au (az ⟨v,0,aj⟩)] w fun e w'=>e=ax (ah ag 0)/\dh w' v 3 #[ah ag x.left]/\Ch (· =v) w w':=by
 obtain⟨xs,xl⟩:=x;obtain⟨s0,s1,l0,l1,le⟩:=hx;simp only at s0 s1 l0 l1 le;show bZ _ _ _ _ fun e w'=>e=ax (ah ag 0)/\dh w' v 3 #[ah ag (xl-xs)]/\Ch (· =v) w w';have q1:IntKind.i64.wrap (xl-xs)=xl-xs:=fE _ (by omega);have HV:=aA hv;have c0:w.cell? ⟨h,0,aj⟩=az (ah ag xs):=hb.cell 0;have c1:w.cell? ⟨h,0+1,aj⟩=az (ah ag xl):=hb.cell 1;have fr:w.frozen? ⟨v,0,aj⟩=false:=hv.frozen 0;have cv:w.cell? ⟨v,0,aj⟩=az u:=hv.cell 0;clear hb hv;go_enter func153,ntmps153;go_wp2_with fail;go_region;all_goals go_wp2_with fail
 all_goals go_ret
 all_goals exact⟨rfl,(HV.o.jd 0 _).drew,((Ch.refl (· =v) w).setCell (p:=⟨v,0,aj⟩) (.inl rfl) _).drew⟩
theorem Zh(x:Tk)(N:Nat)(g h:Nat)(w:aG)(hx:QH x N)(hN:N<=1000000000000)(hg:Lm w g h x):bZ aH 129 #[au (az ⟨g,0,aj⟩),ah ag 0] w fun e w'=>e=ax (ah ag x.left)/\aN w.heap.size w w':=by
 obtain⟨w1,gK⟩:∃w1:aG,w.alloc (af #[ah ag 0] 3)=w1:=⟨_,rfl⟩;have BV:aY (dh w1 w.heap.size 3 #[ah ag 0]):=by rw[<-gK];exact dh.new w _ _
 have BW:aY (aN w.heap.size w w1):=by rw[<-gK];exact(aQ _ _).alloc (aC _) _
 have gp:=hg.p.below BW.o hg.p.lt;have gc:=hg.c.below BW.o hg.c.lt;have c0:w1.cell? ⟨g,0,aj⟩=az (ay (az ⟨h,0,aj⟩) 1 1):=gp.cell 0;have HC:=aA (WG x N h w.heap.size w1 hx hN gc _ BV.o);have HW:=aA gK;clear gK hg hx gp gc;generalize x.left=l at HC|-;go_enter func129,ntmps129;go_wp2_with (first|(go_at_call 153;refine HC.o.mono ?_;rintro e w' ⟨rfl,b1,b2⟩;have cl:=b1.cell 0;have B1:=aA b1;have B2:=aA b2;clear b1 b2)|(go_at_call 122;rw[HW.o];go_in));all_goals go_ret
 all_goals exact⟨rfl,BW.o.trans (B2.o.below (by exact BW.o.size) (by rintro k rfl;exact aC _))⟩
def optV:Option Nat->aI
 |none=>ah ag (-1)
 |some k=>ah ag k
def pQ:Option Nat->Int
 |none=>-1
 |some k=>k
theorem Fv(o:Option Nat):optV o=ah ag (pQ o):=by cases o<;>rfl
theorem yC{s:Nat->Bool}{f:Nat->Nat}{n k:Nat}(hk:k<n)(h:s (f k)=true)(Pt:∀j,j<k->s (f j)=false):((aO n).map f).find? s=az (f k):=by rw[List.find?_map,Option.map_eq_some_iff];refine⟨k,?_,rfl⟩;rw[List.find?_range_eq_some];exact⟨h,by simpa using hk,fun j hj=>by simp[Pt j hj]⟩
theorem yB{s:Nat->Bool}{f:Nat->Nat}{n:Nat}(Pt:∀j,j<n->s (f j)=false):((aO n).map f).find? s=aj:=by rw[List.find?_eq_none];intro x hx;simp only[gH,dJ]at hx;obtain⟨j,hj,rfl⟩:=hx;simp[Pt j hj]
def FQ(n fr:Nat)(s:Nat->Bool)(w:aG)(e:iM)(w':aG):Prop:=e=ax (ah ag (pQ (oz n fr s)))/\aN w.heap.size w w'
def adG(n fr:Nat)(s:Nat->Bool)(w:aG)(i:aI)(wr:aG):Prop:=∃k:Nat,k<=n/\i=ah ag k/\(∀j,j<k->s ((fr+j)%n)=false)/\aN w.heap.size w wr
theorem Yg(n fr:Nat)(s:Nat->Bool)(bM bR bK:Nat)(w:aG)(hn:n<=8)(hf:fr<8)(HS:∀(x:Nat) (w':aG),x<n->aN w.heap.size w w'->bZ aH 177 #[ah ag x,au (az ⟨bM,0,aj⟩),au (az ⟨bR,0,aj⟩),au (az ⟨bK,0,aj⟩)] w' fun e w''=>e=ax (.bool (s x))/\aN w'.heap.size w' w''):bZ aH 176 #[ah ag n,ah ag fr,.func (.func 177) #[] #[au (az ⟨bM,0,aj⟩),au (az ⟨bR,0,aj⟩),au (az ⟨bK,0,aj⟩)]] w (FQ n fr s w):=by
 have HC:=aA HS;clear HS;go_enter func176,ntmps176;go_wp2_with fail;go_loopw [7,8,10] (fun _ _ i wr=>adG n fr s w i wr) (fun _ _ i _=>n-(aJ i).toNat);case atStart=>exact⟨0,bS _,rfl,by simp,aQ _ _⟩
 case round=>
  obtain⟨k,hk,rfl,Pt,gm⟩:=hrel;have Xh:=aA Pt;have xM:=aA gm;clear Pt gm;by_cases yY:k<n
  ·have HCK:aY (bZ aH 177 #[ah ag ((fr+k)%n:Nat),au (az ⟨bM,0,aj⟩),au (az ⟨bR,0,aj⟩),au (az ⟨bK,0,aj⟩)] wr fun e w''=>e=ax (.bool (s ((fr+k)%n)))/\aN wr.heap.size wr w''):=HC.o _ _ (nE _ (by omega)) xM.out;have MD:aY (((fr:Int)+(k:Int))%(n:Int)=(((fr+k)%n:Nat):Int)):=by rw[aY];push_cast;rfl
   cases hs:s ((fr+k)%n)with
   |true=>rw[hs]at HCK;have HF:aY (oz n fr s=az ((fr+k)%n)):=yC yY hs Xh.o;clear hs;generalize(fr+k)%n=y at HCK MD HF;go_wp2_with (first|(go_at_call 177;rw[MD.o];refine HCK.o.mono ?_;rintro e w' ⟨rfl,b⟩;have B:=aA b;clear b));go_ret;exact⟨by rw[HF.o];rfl,xM.out.trans (B.o.mono xM.out.size)⟩
   |false=>
    rw[hs]at HCK;have HN2:aY (∀j,j<k+1->s ((fr+j)%n)=false):=fun j hj=>by
     by_cases e:j=k
     ·rw[e];exact hs
     ·exact Xh.o j (by omega)
    clear hs;generalize(fr+k)%n=y at HCK MD;go_wp2_with (first|(go_at_call 177;rw[MD.o];refine HCK.o.mono ?_;rintro e w' ⟨rfl,b⟩;have B:=aA b;clear b));exact⟨⟨k+1,by omega,by simp,HN2.o,xM.out.trans (B.o.mono xM.out.size)⟩,by simp[aJ];omega⟩
  ·obtain rfl:k=n:=by omega
   have HF:aY (oz k fr s=aj):=yB Xh.o;go_wp2_with fail;go_ret;exact⟨by rw[HF.o];rfl,xM.out⟩
theorem Yh(n fr:Nat)(s:Nat->Bool)(bM bR:Nat)(w:aG)(hn:n<=8)(hf:fr<8)(HS:∀(x:Nat) (w':aG),x<n->aN w.heap.size w w'->bZ aH 178 #[ah ag x,au (az ⟨bM,0,aj⟩),au (az ⟨bR,0,aj⟩)] w' fun e w''=>e=ax (.bool (s x))/\aN w'.heap.size w' w''):bZ aH 176 #[ah ag n,ah ag fr,.func (.func 178) #[] #[au (az ⟨bM,0,aj⟩),au (az ⟨bR,0,aj⟩)]] w (FQ n fr s w):=by
 have HC:=aA HS;clear HS;go_enter func176,ntmps176;go_wp2_with fail;go_loopw [7,8,10] (fun _ _ i wr=>adG n fr s w i wr) (fun _ _ i _=>n-(aJ i).toNat);case atStart=>exact⟨0,bS _,rfl,by simp,aQ _ _⟩
 case round=>
  obtain⟨k,hk,rfl,Pt,gm⟩:=hrel;have Xh:=aA Pt;have xM:=aA gm;clear Pt gm;by_cases yY:k<n
  ·have HCK:aY (bZ aH 178 #[ah ag ((fr+k)%n:Nat),au (az ⟨bM,0,aj⟩),au (az ⟨bR,0,aj⟩)] wr fun e w''=>e=ax (.bool (s ((fr+k)%n)))/\aN wr.heap.size wr w''):=HC.o _ _ (nE _ (by omega)) xM.out;have MD:aY (((fr:Int)+(k:Int))%(n:Int)=(((fr+k)%n:Nat):Int)):=by rw[aY];push_cast;rfl
   cases hs:s ((fr+k)%n)with
   |true=>rw[hs]at HCK;have HF:aY (oz n fr s=az ((fr+k)%n)):=yC yY hs Xh.o;clear hs;generalize(fr+k)%n=y at HCK MD HF;go_wp2_with (first|(go_at_call 178;rw[MD.o];refine HCK.o.mono ?_;rintro e w' ⟨rfl,b⟩;have B:=aA b;clear b));go_ret;exact⟨by rw[HF.o];rfl,xM.out.trans (B.o.mono xM.out.size)⟩
   |false=>
    rw[hs]at HCK;have HN2:aY (∀j,j<k+1->s ((fr+j)%n)=false):=fun j hj=>by
     by_cases e:j=k
     ·rw[e];exact hs
     ·exact Xh.o j (by omega)
    clear hs;generalize(fr+k)%n=y at HCK MD;go_wp2_with (first|(go_at_call 178;rw[MD.o];refine HCK.o.mono ?_;rintro e w' ⟨rfl,b⟩;have B:=aA b;clear b));exact⟨⟨k+1,by omega,by simp,HN2.o,xM.out.trans (B.o.mono xM.out.size)⟩,by simp[aJ];omega⟩
  ·obtain rfl:k=n:=by omega
   have HF:aY (oz k fr s=aj):=yB Xh.o;go_wp2_with fail;go_ret;exact⟨by rw[HF.o];rfl,xM.out⟩
def Ur(k:Nat):aI:=ah ag k
theorem xm{α:Type}(f:α->aI)(d:α)(l:List α){i:Nat}(h:i<l.length):(l.map f).toArray[i]?=az (f (l.getD i d)):=by simp[bJ,h]
theorem NZ{α:Type}(f:α->aI)(l:List α)(i:Nat)(x:α):(l.map f).toArray.setIfInBounds i (f x)=((l.set i x).map f).toArray:=by simp[List.map_set]
structure EZ(w:aG)(R:Option fA)(n:Nat)(rq:Nat->Nat->Bool):Prop where
 n0:1<=n
 n1:n<=8
 rows:∃(b:Nat) (V:Nat->aI) (cs:Array aI),R=az ⟨b,0,aj⟩/\dh w b 52 cs/\∀i,i<n->cs[i]?=az (V i)/\
  ∃b2 c2 cs2,V i=ay (az ⟨b2,0,aj⟩) n c2/\dh w b2 4 cs2/\∀k,k<n->cs2[k]?=az (.bool (rq i k))
theorem EZ.ch{w w':aG}{S:Nat->Prop}{R:Option fA}{n:Nat}{rq:Nat->Nat->Bool}(h:EZ w R n rq)(hc:Ch S w w')(hS:∀k t cs,S k->dh w k t cs->t≠52/\t≠4):EZ w' R n rq:=by obtain⟨b,V,cs,e,hb,hr⟩:=h.rows;refine⟨h.n0,h.n1,b,V,cs,e,hb.ch hc fun q=>(hS _ _ _ q hb).1 rfl,fun i hi=>?_⟩;obtain⟨h1,b2,c2,cs2,h2,h3,h4⟩:=hr i hi;exact⟨h1,b2,c2,cs2,h2,h3.ch hc fun q=>(hS _ _ _ q h3).2 rfl,h4⟩
theorem EZ.below{w w':aG}{R:Option fA}{n:Nat}{rq:Nat->Nat->Bool}(h:EZ w R n rq)(hb:aN w.heap.size w w'):EZ w' R n rq:=h.ch (S:=fun _=>False) (Ch.bY hb) (fun k t cs q=>q.elim)
def yA(b:Nw)(n:Nat):List Nat:=n::(b.qf++b.acc)
structure ru(w:aG)(bb bM bT n:Nat)(m:Iu):Prop where
 iU:dh w bb 201 ((yA m.iU n).map Ur).toArray
 mt:dh w bM 3 (m.mt.map optV).toArray
 tk:dh w bT 259 (m.taken.map iN).toArray
 lm:m.mt.length=n
 lt:m.taken.length=8
 ok:qR m.iU n
theorem ru.ch{w w':aG}{S:Nat->Prop}{bb bM bT n:Nat}{m:Iu}(h:ru w bb bM bT n m)(hc:Ch S w w')(h1:¬S bb)(h2:¬S bM)(h3:¬S bT):ru w' bb bM bT n m:=
 ⟨h.iU.ch hc h1,h.mt.ch hc h2,h.tk.ch hc h3,h.lm,h.lt,h.ok⟩
theorem ru.drew{w:aG}{bb bM bT n:Nat}{m:Iu}(h:ru w bb bM bT n m):ru w.drew bb bM bT n m:=⟨h.iU,h.mt,h.tk,h.lm,h.lt,h.ok⟩
theorem ru.below{w w':aG}{bb bM bT n:Nat}{m:Iu}(h:ru w bb bM bT n m)(hb:aN w.heap.size w w'):ru w' bb bM bT n m:=h.ch (S:=fun _=>False) (Ch.bY hb) id id id
theorem qR.len{b:Nw}{n:Nat}(h:qR b n):(yA b n).length=17:=by unfold yA;simp[h.gl,h.al]
theorem aeo{b:Nw}{n k:Nat}(h:qR b n)(hk:k<8):(yA b n).getD (1+k) 0=b.qf.getD k 0:=by unfold yA;rw[show 1+k=k+1 by omega];simp[bJ,xQ,h.gl,hk]
theorem ale{b:Nw}{n k:Nat}(h:qR b n)(hk:k<8):(yA b n).getD (9+k) 0=b.acc.getD k 0:=by
 unfold yA;rw[show 9+k=(8+k)+1 by omega];have e:¬8+k<8:=by omega
 simp[bJ,xQ,h.gl,e]
theorem aaP{b:Nw}{n k x:Nat}(h:qR b n)(hk:k<8):(yA b n).set (1+k) x=yA ⟨b.qf.set k x,b.acc⟩ n:=by unfold yA;rw[show 1+k=k+1 by omega];simp[List.set_append,h.gl,hk]
theorem aaO{b:Nw}{n k x:Nat}(h:qR b n)(hk:k<8):(yA b n).set (9+k) x=yA ⟨b.qf,b.acc.set k x⟩ n:=by unfold yA;rw[show 9+k=(8+k)+1 by omega];simp[List.set_append,h.gl]
theorem qR.amY{b:Nw}{n k x:Nat}(h:qR b n)(hx:x<n):qR ⟨b.qf.set k x,b.acc⟩ n:=
 ⟨by simp[h.gl],h.al,fun j=>by
  by_cases e:j=k
  ·subst e;by_cases hj:j<b.qf.length
   ·simp only;rw[iO _ _ _ hj];exact hx
   ·simp only;rw[nK (by omega)];exact h.g j
  ·simp only;rw[iG _ _ _ e];exact h.g j,h.a⟩
theorem qR.afR{b:Nw}{n k x:Nat}(h:qR b n)(hx:x<n):qR ⟨b.qf,b.acc.set k x⟩ n:=
 ⟨h.gl,by simp[h.al],h.g,fun j=>by
  by_cases e:j=k
  ·subst e;by_cases hj:j<b.acc.length
   ·simp only;rw[iO _ _ _ hj];exact hx
   ·simp only;rw[nK (by omega)];exact h.a j
  ·simp only;rw[iG _ _ _ e];exact h.a j⟩
theorem YT(n cp:Nat)(R:Option fA)(rq:Nat->Nat->Bool)(mt:List (Option Nat))(bM cM bm bR bK i k:Nat)(w:aG)(hR:EZ w R n rq)(hM:dh w bM 3 (mt.map optV).toArray)(hl:mt.length=n)(hi:i<n)(hk:k<n)(cm:w.cell? ⟨bm,0,aj⟩=az (ay (az ⟨bM,0,aj⟩) n cM))(cr:w.cell? ⟨bR,0,aj⟩=az (ay R n cp))(ck:w.cell? ⟨bK,0,aj⟩=az (ah ag k)):bZ aH 177 #[ah ag i,au (az ⟨bm,0,aj⟩),au (az ⟨bR,0,aj⟩),au (az ⟨bK,0,aj⟩)] w fun e w'=>e=ax (.bool ((mt.getD i aj).isNone&&rq i k))/\aN w.heap.size w w':=by
 obtain⟨b,V,cs,rfl,hb,hr⟩:=hR.rows;obtain⟨h1',b2,c2,cs2,h2,h3,h4⟩:=hr i hi;have c4:w.cell? ⟨b2,k,aj⟩=az (.bool (rq i k)):=by rw[h3.cell];exact h4 k hk
 have h1:w.cell? ⟨b,i,aj⟩=az (ay (az ⟨b2,0,aj⟩) n c2):=by rw[hb.cell,h1',h2]
 have XR:w.cell? ⟨bM,i,aj⟩=az (optV (mt.getD i aj)):=by rw[hM.cell];exact xm _ _ _ (by omega)
 have n8:=hR.n1;have i0:(0:Int)<=(i:Int):=by omega
 have i1:(i:Int)<(n:Int):=by omega
 have k0:(0:Int)<=(k:Int):=by omega
 have k1:(k:Int)<(n:Int):=by omega
 clear hr hR hM h4 h2 hb h3 hl h1';cases hm:mt.getD i aj with
 |none=>have e1:((aj:Option Nat).isNone&&rq i k)=rq i k:=rfl;rw[e1];rw[hm]at XR;have c5:w.cell? ⟨bM,i,aj⟩=az (ah ag (-1)):=XR;clear hm XR e1;generalize rq i k=q at *;go_enter func177,ntmps177;go_wp2_with fail;go_quiet (fail);go_wp2_with fail;go_ret;exact⟨rfl,below_drewN (aQ _ _) _⟩
 |some x=>
  have e1:((az x:Option Nat).isNone&&rq i k)=false:=rfl;rw[e1];rw[hm]at XR;have c5:w.cell? ⟨bM,i,aj⟩=az (ah ag (x:Int)):=XR;have c6:decide ((x:Int)<0)=false:=by simp
  clear hm XR e1;go_enter func177,ntmps177;go_wp2_with fail;go_quiet (fail);go_wp2_with fail;go_ret;exact⟨rfl,below_drewN (aQ _ _) _⟩
theorem YU(g:List (Option Nat))(bG bK i k n:Nat)(w:aG)(hn:n<=8)(hG:∀j,j<n->w.cell? ⟨bG,j,aj⟩=az (optV (g.getD j aj)))(hk:k<n)(ck:w.cell? ⟨bK,0,aj⟩=az (ah ag i)):bZ aH 178 #[ah ag k,au (az ⟨bG,0,aj⟩),au (az ⟨bK,0,aj⟩)] w fun e w'=>e=ax (.bool (g.getD k aj==az i))/\aN w.heap.size w w':=by
 have c:=hG k hk;rw[Fv]at c;have E:aY ((g.getD k aj==az i)=(pQ (g.getD k aj)==(i:Int))):=by
  rw[aY];cases g.getD k aj with
  |none=>rw[jE];simp[pQ]
  |some x=>rw[jE];simp[pQ];omega
 rw[E.o];generalize pQ (g.getD k aj)=q at *;have k0:(0:Int)<=(k:Int):=by omega
 have k1:(k:Int)<(8:Int):=by omega
 clear hG E;go_enter func178,ntmps178;go_wp2_with fail;go_quiet (fail);go_wp2_with fail;go_ret;exact⟨rfl,below_drewN (aQ _ _) _⟩
theorem ru.Kz{w:aG}{bb bM bT n:Nat}{m:Iu}(h:ru w bb bM bT n m)(i k:Nat):ru (w.setCell ⟨bM,i,aj⟩ (ah ag k)) bb bM bT n ⟨m.mt.set i (az k),m.taken,m.iU⟩:=
 ⟨h.iU.AU (h.iU.sU h.mt (by decide)) _,by have:=h.mt.jd i (optV (az k));rw[NZ]at this;exact this,h.tk.AU (h.tk.sU h.mt (by decide)) _,by simp[h.lm],h.lt,h.ok⟩
theorem ru.acG{w:aG}{bb bM bT n:Nat}{m:Iu}(h:ru w bb bM bT n m)(k:Nat):ru (w.setCell ⟨bT,k,aj⟩ (.bool true)) bb bM bT n ⟨m.mt,m.taken.set k true,m.iU⟩:=
 ⟨h.iU.AU (h.iU.sU h.tk (by decide)) _,h.mt.AU (h.mt.sU h.tk (by decide)) _,by have:=h.tk.jd k (.bool true);rw[NZ]at this;exact this,h.lm,by simp[h.lt],h.ok⟩
theorem ru.amY{w:aG}{bb bM bT n:Nat}{m:Iu}(h:ru w bb bM bT n m){k x:Nat}(hk:k<8)(hx:x<n):ru (w.setCell ⟨bb,0+1+k,aj⟩ (ah ag x)) bb bM bT n ⟨m.mt,m.taken,⟨m.iU.qf.set k x,m.iU.acc⟩⟩:=
 ⟨by have:=h.iU.jd (0+1+k) (Ur x);rw[NZ,show 0+1+k=1+k by omega,aaP h.ok hk]at this;rw[show 0+1+k=1+k by omega];exact this,h.mt.AU (h.mt.sU h.iU (by decide)) _,h.tk.AU (h.tk.sU h.iU (by decide)) _,h.lm,h.lt,h.ok.amY hx⟩
theorem ru.afR{w:aG}{bb bM bT n:Nat}{m:Iu}(h:ru w bb bM bT n m){k x:Nat}(hk:k<8)(hx:x<n):ru (w.setCell ⟨bb,0+1+8+k,aj⟩ (ah ag x)) bb bM bT n ⟨m.mt,m.taken,⟨m.iU.qf,m.iU.acc.set k x⟩⟩:=
 ⟨by have:=h.iU.jd (0+1+8+k) (Ur x);rw[NZ,show 0+1+8+k=9+k by omega,aaO h.ok hk]at this;rw[show 0+1+8+k=9+k by omega];exact this,h.mt.AU (h.mt.sU h.iU (by decide)) _,h.tk.AU (h.tk.sU h.iU (by decide)) _,h.lm,h.lt,h.ok.afR hx⟩
theorem ru.c0{w:aG}{bb bM bT n:Nat}{m:Iu}(h:ru w bb bM bT n m):w.cell? ⟨bb,0,aj⟩=az (ah ag n):=by rw[h.iU.cell];exact xm Ur 0 _ (by rw[h.ok.len];omega)
theorem ru.cg{w:aG}{bb bM bT n:Nat}{m:Iu}(h:ru w bb bM bT n m){k:Nat}(hk:k<8):w.cell? ⟨bb,0+1+k,aj⟩=az (ah ag (m.iU.qf.getD k 0:Nat)):=by rw[h.iU.cell];have:=xm Ur 0 (yA m.iU n) (i:=1+k) (by rw[h.ok.len];omega);rw[aeo h.ok hk]at this;rw[show 0+1+k=1+k by omega];exact this
theorem ru.ca{w:aG}{bb bM bT n:Nat}{m:Iu}(h:ru w bb bM bT n m){k:Nat}(hk:k<8):w.cell? ⟨bb,0+1+8+k,aj⟩=az (ah ag (m.iU.acc.getD k 0:Nat)):=by rw[h.iU.cell];have:=xm Ur 0 (yA m.iU n) (i:=9+k) (by rw[h.ok.len];omega);rw[ale h.ok hk]at this;rw[show 0+1+8+k=9+k by omega];exact this
def QP(l:List (Option Nat)):Array aI:=(l.map optV++aS (8-l.length) (ah .i64 0)).toArray
theorem ahC(l:List (Option Nat))(x:Option Nat)(h:l.length<8):(QP l).setIfInBounds l.length (optV x)=QP (l++[x]):=by unfold QP;rw[gG,ic _ _ (by simp)];rw[show 8-l.length=(8-(l++[x]).length)+1 by simp;omega,oG];simp
theorem aeO(l:List (Option Nat))(x y:Option Nat):(QP (l++[x])).setIfInBounds l.length (optV y)=QP (l++[y]):=by unfold QP;rw[gG,List.set_append_left _ _ (by simp)];simp
theorem aeM(l:List (Option Nat)){i:Nat}(h:i<l.length):(QP l)[i]?=az (optV (l.getD i aj)):=by unfold QP;simp[xQ,h,bJ]
theorem ahB:QP []=#[ah ag 0,ah ag 0,ah ag 0,ah ag 0,ah ag 0,ah ag 0,ah ag 0,ah ag 0]:=by simp[QP,aS]
theorem aeN(l:List (Option Nat))(h:l.length<8):(QP l)[l.length]?=az (ah ag 0):=by unfold QP;rw[di,jX (by simp)];simp only[dE,JL,gz];rw[if_pos (by omega)]
theorem IK(n:Nat)(rq:Nat->Nat->Bool)(m:Iu):(jI n rq m).length=n:=by simp[jI]
theorem abG{n k:Nat}(rq:Nat->Nat->Bool)(m:Iu)(hk:k<n):(jI n rq m).getD k aj=if m.taken.getD k false then aj else oz n (m.iU.qf.getD k 0) fun i=>(m.mt.getD i aj).isNone&&rq i k:=by unfold jI;rw[bJ,cO,dW hk];rfl
theorem Vx{n f k:Nat}{s:Nat->Bool}(h:oz n f s=az k):k<n/\s k=true:=by unfold oz at h;have h1:=List.find?_some h;have h2:=List.mem_of_find?_eq_some h;simp only[gH,dJ]at h2;obtain⟨j,hj,rfl⟩:=h2;exact⟨nE _ (by omega),h1⟩
def SR(bb bM bT k:Nat):Prop:=k=bb\/k=bM\/k=bT
def apK(n:Nat)(rq:Nat->Nat->Bool)(m:Iu)(w1:aG)(B:Nat)(i:aI)(wr:aG):Prop:=
 ∃k:Nat,k<=n/\i=ah ag k/\dh wr B 156 (QP ((jI n rq m).take k))/\aN B w1 wr
def MM(n:Nat)(g:List (Option Nat))(Ep:Bool)(m:Iu)(i:Nat):Iu:=(aO i).foldl (accept1 n g Ep) m
theorem Xu(n:Nat)(g:List (Option Nat))(Ep:Bool)(m:Iu)(i:Nat):MM n g Ep m (i+1)=accept1 n g Ep (MM n g Ep m i) i:=by unfold MM;rw[dB,fZ];rfl
def apL(n:Nat)(g:List (Option Nat))(Ep:Bool)(m:Iu)(bb bM bT:Nat)(wa:aG)(i:aI)(wr:aG):Prop:=
 ∃k:Nat,k<=n/\i=ah ag k/\ru wr bb bM bT n (MM n g Ep m k)/\Ch (SR bb bM bT) wa wr
theorem XP(n cp cM:Nat)(R:Option fA)(rq:Nat->Nat->Bool)(m:Iu)(bb bM bT:Nat)(Ep:Bool)(w:aG)(hR:EZ w R n rq)(hM:ru w bb bM bT n m):bZ aH 155 #[au (az ⟨bb,0,aj⟩),ay R n cp,ay (az ⟨bM,0,aj⟩) n cM,au (az ⟨bT,0,aj⟩),.bool Ep] w fun e w'=>e=ax (.tuple #[])/\ru w' bb bM bT n (uY n rq Ep m)/\Ch (SR bb bM bT) w w':=by
 obtain⟨w1,gK⟩:∃w1:aG,((w.alloc (af #[ay R n cp] 95)).alloc (af #[ay (az ⟨bM,0,aj⟩) n cM] 26)).alloc (af (QP []) 156)=w1:=⟨_,rfl⟩;have n0:=hR.n0;have n8:=hR.n1;have HR:=aA hR;have HM:=aA hM;have HW:=aA gK;clear gK hR hM;have B3:aY (aN w.heap.size w w1):=by rw[<-HW.o];exact(((aQ _ _).alloc (aC _) _).alloc (by simp) _).alloc (by simp;omega) _
 have K0:aY (∀w',aN w.heap.size w w'->w'.cell? ⟨bb,0,aj⟩=az (ah ag n)/\ru w' bb bM bT n m/\EZ w' R n rq):=fun w' hb=>by have hm:=HM.o;have b1:=hm.iU.below hb hm.iU.lt;exact⟨by rw[b1.cell];exact xm Ur 0 _ (by rw[hm.ok.len];omega),⟨b1,hm.mt.below hb hm.mt.lt,hm.tk.below hb hm.tk.lt,hm.lm,hm.lt,hm.ok⟩,HR.o.below hb⟩
 have c0:=(K0.o w (aQ _ _)).1;have lt:=HM.o.iU.lt;have a1:bb<w.heap.size+1:=by omega
 have a2:bb<w.heap.size+1+1:=by omega
 have s1:w1.heap.size=w.heap.size+3:=by rw[<-HW.o];simp
 have P1:aY (w1.cell? ⟨w.heap.size,0,aj⟩=az (ay R n cp)/\w1.cell? ⟨w.heap.size+1,0,aj⟩=az (ay (az ⟨bM,0,aj⟩) n cM)/\dh w1 (w.heap.size+1+1) 156 (QP [])):=by rw[<-HW.o];refine⟨by simp[go_sem],by simp[go_sem],?_⟩;have:=dh.new ((w.alloc (af #[ay R n cp] 95)).alloc (af #[ay (az ⟨bM,0,aj⟩) n cM] 26)) 156 (QP []);simpa using this
 have S1:=aA s1;clear s1;go_enter func155,ntmps155;go_wp2_with fail;rw[<-ahB,HW.o];clear lt a1 a2 c0;obtain⟨bR,hbR⟩:∃x,w.heap.size=x:=⟨_,rfl⟩;obtain⟨bm,Yt⟩:∃x,w.heap.size+1=x:=⟨_,rfl⟩;obtain⟨bG,hbG⟩:∃x,w.heap.size+1+1=x:=⟨_,rfl⟩;rw[hbG,Yt,hbR]at P1;rw[hbG,Yt,hbR];have HbR:=aA hbR;have Hbm:=aA Yt;have HbG:=aA hbG;clear hbR Yt hbG;go_loopw [11,18] (fun _ i wr=>apK n rq m w1 bG i wr) (fun _ i _=>n-(aJ i).toNat);case atStart=>exact⟨0,bS _,rfl,P1.o.2.2,aQ _ _⟩
 case round=>
  obtain⟨k,hk,rfl,hG,gm⟩:=hrel;have HG:=aA hG;have xM:=aA gm;clear hG gm;by_cases yY:k<n
  ·have gl:=IK n rq m;have tl:((jI n rq m).take k).length=k:=by rw[List.length_take];omega
   have k0:(0:Int)<=(k:Int):=(by omega);have k8:(k:Int)<8:=(by omega);have cG:wr.cell? ⟨bG,k,aj⟩=az (ah ag 0):=(by rw[HG.o.cell];have:=aeN ((jI n rq m).take k) (by omega);rw[tl]at this;exact this);have fG:wr.frozen? ⟨bG,k,aj⟩=false:=HG.o.frozen k;have lG:=HG.o.lt;obtain⟨w7,hw7⟩:∃w7:aG,(wr.setCell ⟨bG,k,aj⟩ (ah ag (-1))).alloc (af #[ah ag k] 3)=w7:=⟨_,rfl⟩;have G7:aY (dh w7 bG 156 (QP ((jI n rq m).take k++[aj]))):=(by rw[<-hw7];have:=HG.o.jd k (optV aj);have e:=ahC ((jI n rq m).take k) aj (by omega);rw[tl]at e;rw[e]at this;exact this.alloc _);have BG:aY (aN bG w1 w7):=(by rw[<-hw7];have h1:=xM.out.size;have h2:=P1.o.2.2.lt;exact(xM.out.setCell (p:=⟨bG,k,aj⟩) (aC _) _).alloc (by simp[iK];omega) _);have B7:aY (aN w.heap.size w w7):=B3.o.trans (BG.o.mono (by have:=HbG.o;omega));have ck:w7.cell? ⟨wr.heap.size,0,aj⟩=az (ah ag k):=(by have:=(dh.new (wr.setCell ⟨bG,k,aj⟩ (ah ag (-1))) 3 #[ah ag k]).cell 0;rw[hw7]at this;simpa[iK]using this);have z7:wr.heap.size<w7.heap.size:=(by rw[<-hw7];simp[iK]);have cR:w7.cell? ⟨bR,0,aj⟩=az (ay R n cp):=(BG.o.cell (p:=⟨bR,0,aj⟩) (by show bR<bG;have:=HbR.o;have:=HbG.o;omega)).trans P1.o.1;have cm:w7.cell? ⟨bm,0,aj⟩=az (ay (az ⟨bM,0,aj⟩) n cM):=(BG.o.cell (p:=⟨bm,0,aj⟩) (by show bm<bG;have:=Hbm.o;have:=HbG.o;omega)).trans P1.o.2.1;obtain⟨c0,hM7,hR7⟩:=K0.o w7 B7.o;have ct:w7.cell? ⟨bT,k,aj⟩=az (.bool (m.taken.getD k false)):=(by rw[hM7.tk.cell];exact xm _ _ _ (by rw[hM7.lt];omega));have cg:w7.cell? ⟨bb,0+1+k,aj⟩=az (ah ag (m.iU.qf.getD k 0:Nat)):=(by rw[hM7.iU.cell];have:=xm Ur 0 (yA m.iU n) (i:=1+k) (by rw[hM7.ok.len];omega);rw[aeo hM7.ok (by omega)]at this;rw[show 0+1+k=1+k by omega];exact this);have M7:=aA hM7;have R7:=aA hR7;have gn:=hM7.ok.g k;have GA:=aA (abG rq m yY);have TS:=aA (ji aj (jI n rq m) k (by omega));have G0:aY ((QP ((jI n rq m).take k++[aj]))[k]?=az (ah ag (-1))):=(by have:=aeM ((jI n rq m).take k++[aj]) (i:=k) (by simp;omega);rw[aY,this];have e:((jI n rq m).take k++[aj]).getD k aj=aj:=(by rw[bJ,jX (by omega),tl];simp);rw[e];rfl);have TL:=aA tl;have LG:=aA lG;have nb:bb≠bG:=hM7.iU.sU G7.o (by decide);clear gl tl hM7 hR7;cases ht:m.taken.getD k false with
   |true=>
    rw[ht]at ct;have E:aY ((jI n rq m).take (k+1)=(jI n rq m).take k++[aj]):=by have:=TS.o;rw[GA.o,ht]at this;exact this
    clear ht GA TS;go_wp2_with fail;clear hw7 cG fG lG;go_quiet (fail);go_wp2_with fail;exact⟨⟨k+1,by omega,by simp,by rw[E.o];exact G7.o.drewN _,below_drewN BG.o _⟩,by simp[aJ];omega⟩
   |false=>
    rw[ht]at ct;have E:aY ((jI n rq m).take (k+1)=(jI n rq m).take k++[oz n (m.iU.qf.getD k 0) fun i=>(m.mt.getD i aj).isNone&&rq i k]):=by have:=TS.o;rw[GA.o,ht]at this;exact this
    clear ht GA TS;go_wp2_with fail;clear hw7 cG fG lG;go_quiet (fail);have HF:aY (∀w',aN w7.heap.size w7 w'->bZ aH 176 #[ah ag n,ah ag (m.iU.qf.getD k 0:Nat),.func (.func 177) #[] #[au (az ⟨bm,0,aj⟩),au (az ⟨bR,0,aj⟩),au (az ⟨wr.heap.size,0,aj⟩)]] w' (FQ n (m.iU.qf.getD k 0) (fun i=>(m.mt.getD i aj).isNone&&rq i k) w')):=
     fun w' hb=>Yg n _ _ bm bR wr.heap.size w' n8 (by omega) fun x w'' hx uu=>by have b2:aN w7.heap.size w7 w'':=hb.trans (uu.mono hb.size);obtain⟨_,hm8,hr8⟩:=K0.o w'' (B7.o.trans (b2.mono B7.o.size));exact YT n cp R rq m.mt bM cM bm bR wr.heap.size x k w'' hr8 hm8.mt hm8.lm hx yY ((b2.cell (p:=⟨bm,0,aj⟩) (aZ _ _ cm)).trans cm) ((b2.cell (p:=⟨bR,0,aj⟩) (aZ _ _ cR)).trans cR) ((b2.cell (p:=⟨wr.heap.size,0,aj⟩) z7).trans ck)
    have KP:aY (∀w',aN w7.heap.size w7 w'->w'.cell? ⟨wr.heap.size,0,aj⟩=az (ah ag k)/\w'.cell? ⟨bb,0,aj⟩=az (ah ag n)/\w'.cell? ⟨bb,0+1+k,aj⟩=az (ah ag (m.iU.qf.getD k 0:Nat))):=
     fun w' hb=>⟨(hb.cell (p:=⟨wr.heap.size,0,aj⟩) z7).trans ck,(hb.cell (p:=⟨bb,0,aj⟩) (aZ _ _ c0)).trans c0,(hb.cell (p:=⟨bb,0+1+k,aj⟩) (aZ _ _ cg)).trans cg⟩
    have KS:aY (∀w' v,aN w7.heap.size w7 w'->(w'.setCell ⟨bG,k,aj⟩ v).cell? ⟨wr.heap.size,0,aj⟩=az (ah ag k)/\(w'.setCell ⟨bG,k,aj⟩ v).cell? ⟨bb,0,aj⟩=az (ah ag n)/\(w'.setCell ⟨bG,k,aj⟩ v).cell? ⟨bb,0+1+k,aj⟩=az (ah ag (m.iU.qf.getD k 0:Nat))):=
     fun w' v hb=>by obtain⟨k1,k2,k3⟩:=KP.o w' hb;exact⟨(kL _ _ _ _ (by intro e;injection e with e;have:=LG.o;omega)).trans k1,(kL _ _ _ _ (by intro e;injection e with e;exact nb e.symm)).trans k2,(kL _ _ _ _ (by intro e;injection e with e;exact nb e.symm)).trans k3⟩
    obtain⟨gk,hgk⟩:∃gk,m.iU.qf.getD k 0=gk:=⟨_,rfl⟩;obtain⟨sf,hsf⟩:∃sf,(fun i=>(m.mt.getD i aj).isNone&&rq i k)=sf:=⟨_,rfl⟩;obtain⟨F0,Xb⟩:∃F0,oz n gk sf=F0:=⟨_,rfl⟩;rw[hgk]at KP KS HF cg E;rw[hsf]at HF E;rw[Xb]at E;unfold FQ at HF;rw[Xb]at HF;clear hgk hsf Xb gn;go_wp2_with fail;go_region_held3 (fun w'=>w'.cell? ⟨wr.heap.size,0,aj⟩=az (ah ag k)/\w'.cell? ⟨bb,0,aj⟩=az (ah ag n)/\w'.cell? ⟨bb,0+1+k,aj⟩=az (ah ag (gk:Int)))
     (first|exact KP.o _ ⟨rfl,rfl,rfl,aC _,fun _ _=>rfl⟩|exact KP.o _ BY.o|exact KS.o _ _ BY.o)
     (first
      |(go_at_call 176;refine(HF.o _ (by exact⟨rfl,rfl,rfl,aC _,fun _ _=>rfl⟩)).mono ?_;rintro e wy ⟨rfl,b⟩;have BY:aY (aN w7.heap.size w7 wy):=(show aN w7.heap.size w7 wy from⟨b.os,b.tape,b.output,b.size,b.block⟩);have GY:=aA (G7.o.below BY.o G7.o.lt);have cY:=(GY.o.cell k).trans G0.o;have fY:=GY.o.frozen k;clear b))
    have BY2:aY (aN bG w1 (wy.setCell ⟨bG,k,aj⟩ (ah ag (pQ F0)))):=(BG.o.trans (BY.o.mono (Nat.le_of_lt G7.o.lt))).setCell (p:=⟨bG,k,aj⟩) (aC _) _;have GY2:aY (dh (wy.setCell ⟨bG,k,aj⟩ (ah ag (pQ F0))) bG 156 (QP ((jI n rq m).take k++[F0]))):=(by have:=GY.o.jd k (ah ag (pQ F0));have e:=aeO ((jI n rq m).take k) aj F0;rw[Fv,TL.o]at e;rw[e]at this;exact this);go_wp2_with fail;exact⟨⟨k+1,by omega,by simp,by rw[E.o];exact GY2.o,BY2.o⟩,by simp[aJ];omega⟩
  ·obtain rfl:n=k:=by omega
   have HGa:aY (dh wr bG 156 (QP (jI n rq m))):=(by have:=HG.o;rw[List.take_of_length_le (by rw[IK];omega)]at this;exact this);have BW:aY (aN w.heap.size w wr):=B3.o.trans (xM.out.mono (by have:=HbG.o;omega));have cm:aY (wr.cell? ⟨bm,0,aj⟩=az (ay (az ⟨bM,0,aj⟩) n cM)):=(xM.out.cell (p:=⟨bm,0,aj⟩) (by show bm<bG;have:=Hbm.o;have:=HbG.o;omega)).trans P1.o.2.1;obtain⟨c0,hM0,_⟩:=K0.o wr BW.o;have M0:=aA hM0;have HBM:aY (bm<wr.heap.size/\bG<wr.heap.size/\bb<w.heap.size/\bM<w.heap.size/\bT<w.heap.size/\w.heap.size<bm):=⟨aZ _ _ cm.out,HGa.o.lt,HM.o.iU.lt,HM.o.mt.lt,HM.o.tk.lt,by have:=Hbm.o;omega⟩;clear hM0 K0 P1 HG xM HW S1 HR;have gl:=IK n rq m;go_wp2_with fail;have ROUND:aY (uY n rq Ep m=MM n (jI n rq m) Ep m n):=rfl;generalize jI n rq m=g at *;clear c0;obtain⟨wo,rfl⟩:∃wo:aG,wo=wr:=⟨_,rfl⟩;go_loopw [12,13,48] (fun _ _ i wr=>apL n g Ep m bb bM bT wo i wr) (fun _ _ i _=>n-(aJ i).toNat);case atStart=>exact⟨0,bS _,rfl,M0.o,Ch.refl _ _⟩
   case round=>
    obtain⟨i,hi,rfl,hm,hc⟩:=hrel;have ACC:=aA (Xu n g Ep m i);have HC:=aA hc;by_cases Gb:i<n
    ·generalize MM n g Ep m i=mi at hm ACC;have i0:(0:Int)<=(i:Int):=by omega
     have i8:(i:Int)<8:=(by omega);have HMI:=aA hm;have gs:=hc.size;obtain⟨ai,hai⟩:∃ai,mi.iU.acc.getD i 0=ai:=⟨_,rfl⟩;have an:ai<n:=(by rw[<-hai];exact hm.ok.a i);obtain⟨F0,Xb⟩:∃F0,oz n ai (fun k=>g.getD k aj==az i)=F0:=⟨_,rfl⟩;obtain⟨w5,Gc⟩:∃w5:aG,wr.alloc (af #[ah ag i] 3)=w5:=⟨_,rfl⟩;have B5:aY (aN wr.heap.size wr w5):=(by rw[<-Gc];exact(aQ _ _).alloc (aC _) _);have KI:aY (∀w',aN w5.heap.size w5 w'->ru w' bb bM bT n mi/\w'.cell? ⟨wr.heap.size,0,aj⟩=az (ah ag i)/\w'.cell? ⟨bm,0,aj⟩=az (ay (az ⟨bM,0,aj⟩) n cM)/\dh w' bG 156 (QP g)):=fun w' hb=>by
      have b2:aN wr.heap.size wr w':=B5.o.trans (hb.mono B5.o.size);obtain⟨q1,q2,q3,q4,q5,q6⟩:=HBM.o;refine⟨HMI.o.below b2,?_,?_,?_⟩
      ·rw[hb.cell (p:=⟨wr.heap.size,0,aj⟩) (by rw[<-Gc];simp),<-Gc];simp
      ·rw[b2.cell (p:=⟨bm,0,aj⟩) (by show bm<_;omega),HC.o.cell (p:=⟨bm,0,aj⟩) q1 (by rintro(e|e|e)<;>simp only at e<;>omega)];exact cm.out
      ·exact(HGa.o.ch HC.o (by have:=Hbm.o;have:=HbG.o;rintro(e|e|e)<;>omega)).below b2 (by omega)
     have HF:aY (∀w',aN w5.heap.size w5 w'->bZ aH 176 #[ah ag n,ah ag ai,.func (.func 178) #[] #[au (az ⟨bG,0,aj⟩),au (az ⟨wr.heap.size,0,aj⟩)]] w' (fun e w''=>e=ax (ah ag (pQ F0))/\aN w'.heap.size w' w'')):=
      fun w' hb=>by rw[<-Xb];exact Yh n _ _ bG wr.heap.size w' n8 (by omega) fun x w'' hx uu=>by obtain⟨_,u2,_,u4⟩:=KI.o w'' (hb.trans (uu.mono hb.size));exact YU g bG wr.heap.size i x n w'' n8 (fun j hj=>by rw[u4.cell];exact aeM g (by omega)) hx u2
     have KS:aY (∀w',aN w5.heap.size w5 w'->w'.cell? ⟨bb,0,aj⟩=az (ah ag n)/\w'.cell? ⟨wr.heap.size,0,aj⟩=az (ah ag i)/\w'.cell? ⟨bb,0+1+8+i,aj⟩=az (ah ag ai)):=fun w' hb=>(by obtain⟨u1,u2,_,_⟩:=KI.o w' hb;refine⟨u1.c0,u2,?_⟩;have:=u1.ca (k:=i) (by omega);rw[hai]at this;exact this);clear hm hc;cases F0 with
     |none=>
      have E:aY (MM n g Ep m (i+1)=mi):=(by rw[aY,ACC.o,accept1,hai,Xb]);clear Xb hai;go_wp2_with fail;clear Gc;go_region_held3 (fun w'=>w'.cell? ⟨bb,0,aj⟩=az (ah ag n)/\w'.cell? ⟨wr.heap.size,0,aj⟩=az (ah ag i)/\w'.cell? ⟨bb,0+1+8+i,aj⟩=az (ah ag ai))
       (first|exact KS.o _ ⟨rfl,rfl,rfl,aC _,fun _ _=>rfl⟩|exact KS.o _ BY.o)
       (first
        |(go_at_call 176;refine(HF.o _ (by exact⟨rfl,rfl,rfl,aC _,fun _ _=>rfl⟩)).mono ?_;rintro e wy ⟨rfl,b⟩;have BY:aY (aN w5.heap.size w5 wy):=(show aN w5.heap.size w5 wy from⟨b.os,b.tape,b.output,b.size,b.block⟩);clear b))
      go_wp2_with fail;exact⟨⟨i+1,by omega,by simp,by rw[E.o];exact(KI.o _ BY.o).1,HC.o.rW (B5.o.trans (BY.o.mono B5.o.size))⟩,by simp[aJ];omega⟩
     |some k=>
      obtain⟨hkn2,_⟩:=Vx Xb;rw[show pQ (az k)=(k:Int)from rfl]at HF;have E:aY (MM n g Ep m (i+1)=⟨mi.mt.set i (az k),mi.taken.set k true,if Ep then⟨mi.iU.qf.set k ((i+1)%n),mi.iU.acc.set i ((k+1)%n)⟩else mi.iU⟩):=(by rw[aY,ACC.o,accept1,hai,Xb]);clear Xb hai;have k0:(0:Int)<=(k:Int):=(by omega);have k8:(k:Int)<8:=(by omega);have kn:(k:Int)<(n:Int):=(by omega);have in_:(i:Int)<(n:Int):=(by omega);have n1:¬bM=bT:=HMI.o.mt.sU HMI.o.tk (by decide);have n2:¬bT=bM:=fun e=>n1 e.symm;have n3:¬bb=bT:=HMI.o.iU.sU HMI.o.tk (by decide);have n4:¬bb=bM:=HMI.o.iU.sU HMI.o.mt (by decide);have g2:IntKind.i64.wrap ((i:Int)+1)=(i:Int)+1:=fE _ (by omega);have g3:IntKind.i64.wrap ((k:Int)+1)=(k:Int)+1:=fE _ (by omega);cases Ep with
      |false=>
       go_wp2_with fail;clear Gc
       go_region_held3 (fun w'=>w'.cell? ⟨bb,0,aj⟩=az (ah ag n)/\w'.cell? ⟨wr.heap.size,0,aj⟩=az (ah ag i)/\w'.cell? ⟨bb,0+1+8+i,aj⟩=az (ah ag ai))
        (first|exact KS.o _ ⟨rfl,rfl,rfl,aC _,fun _ _=>rfl⟩|exact KS.o _ BY.o)
        (first
         |(go_at_call 176;refine(HF.o _ (by exact⟨rfl,rfl,rfl,aC _,fun _ _=>rfl⟩)).mono ?_;rintro e wy ⟨rfl,b⟩;have BY:aY (aN w5.heap.size w5 wy):=(show aN w5.heap.size w5 wy from⟨b.os,b.tape,b.output,b.size,b.block⟩);clear b))
       have KY:=aA (KI.o _ BY.o);have y1:=KY.o.2.1;have y2:=KY.o.2.2.1;have y3:wy.cell? ⟨bM,i,aj⟩=az (ah ag (pQ (mi.mt.getD i aj))):=(by rw[KY.o.1.mt.cell,xm optV aj mi.mt (by rw[KY.o.1.lm];omega),Fv]);have y4:wy.cell? ⟨bT,k,aj⟩=az (.bool (mi.taken.getD k false)):=(by rw[KY.o.1.tk.cell];exact xm iN false mi.taken (by rw[KY.o.1.lt];omega));have y5:=KY.o.1.mt.frozen i;have y6:=KY.o.1.tk.frozen k;have CH:aY (Ch (SR bb bM bT) wo wy):=HC.o.rW (B5.o.trans (BY.o.mono B5.o.size));clear HC;go_wp2_with fail;exact⟨⟨i+1,by omega,by simp,by rw[E.o];exact(KY.o.1.Kz i k).acG k,(CH.o.setCell (p:=⟨bM,i,aj⟩) (.inl (.inr (.inl rfl))) _).setCell (p:=⟨bT,k,aj⟩) (.inl (.inr (.inr rfl))) _⟩,by simp[aJ];omega⟩
      |true=>
       go_wp2_with fail;clear Gc
       go_region_held3 (fun w'=>w'.cell? ⟨bb,0,aj⟩=az (ah ag n)/\w'.cell? ⟨wr.heap.size,0,aj⟩=az (ah ag i)/\w'.cell? ⟨bb,0+1+8+i,aj⟩=az (ah ag ai))
        (first|exact KS.o _ ⟨rfl,rfl,rfl,aC _,fun _ _=>rfl⟩|exact KS.o _ BY.o)
        (first
         |(go_at_call 176;refine(HF.o _ (by exact⟨rfl,rfl,rfl,aC _,fun _ _=>rfl⟩)).mono ?_;rintro e wy ⟨rfl,b⟩;have BY:aY (aN w5.heap.size w5 wy):=(show aN w5.heap.size w5 wy from⟨b.os,b.tape,b.output,b.size,b.block⟩);clear b))
       have KY:=aA (KI.o _ BY.o);have y1:=KY.o.2.1;have y2:=KY.o.2.2.1;have y3:wy.cell? ⟨bM,i,aj⟩=az (ah ag (pQ (mi.mt.getD i aj))):=(by rw[KY.o.1.mt.cell,xm optV aj mi.mt (by rw[KY.o.1.lm];omega),Fv]);have y4:wy.cell? ⟨bT,k,aj⟩=az (.bool (mi.taken.getD k false)):=(by rw[KY.o.1.tk.cell];exact xm iN false mi.taken (by rw[KY.o.1.lt];omega));have y5:=KY.o.1.mt.frozen i;have y6:=KY.o.1.tk.frozen k;have CH:aY (Ch (SR bb bM bT) wo wy):=HC.o.rW (B5.o.trans (BY.o.mono B5.o.size));clear HC;obtain⟨w9,hw9⟩:∃w9:aG,(wy.setCell ⟨bM,i,aj⟩ (ah ag k)).setCell ⟨bT,k,aj⟩ (.bool true)=w9:=⟨_,rfl⟩;have M9:aY (ru w9 bb bM bT n ⟨mi.mt.set i (az k),mi.taken.set k true,mi.iU⟩):=(by rw[<-hw9];exact(KY.o.1.Kz i k).acG k);have C9:aY (Ch (SR bb bM bT) wo w9):=(by rw[<-hw9];exact(CH.o.setCell (p:=⟨bM,i,aj⟩) (.inl (.inr (.inl rfl))) _).setCell (p:=⟨bT,k,aj⟩) (.inl (.inr (.inr rfl))) _);have x1:w9.cell? ⟨wr.heap.size,0,aj⟩=az (ah ag i):=by
        rw[<-hw9,kL,kL]
        ·exact y1
        ·intro e;injection e with e;have:=HMI.o.mt.lt;omega
        ·intro e;injection e with e;have:=HMI.o.tk.lt;omega
       go_wp2_with fail;clear hw9
       have x0:=M9.o.c0;have x2:=M9.o.cg (k:=k) (by omega);have x3:=M9.o.iU.frozen (0+1+k);clear y1 y2 y3 y4 y5 y6;have md1:aY (((i:Int)+1)%(n:Int)=(((i+1)%n:Nat):Int)):=(by rw[aY];push_cast;rfl);have md2:aY (((k:Int)+1)%(n:Int)=(((k+1)%n:Nat):Int)):=(by rw[aY];push_cast;rfl);go_region;rw[md1.out];have M10:aY (ru (w9.setCell ⟨bb,0+1+k,aj⟩ (ah ag (((i+1)%n:Nat):Int))) bb bM bT n ⟨mi.mt.set i (az k),mi.taken.set k true,⟨mi.iU.qf.set k ((i+1)%n),mi.iU.acc⟩⟩):=M9.o.amY (by omega) (nE _ (by omega));have C10:aY (Ch (SR bb bM bT) wo (w9.setCell ⟨bb,0+1+k,aj⟩ (ah ag (((i+1)%n:Nat):Int)))):=C9.o.setCell (p:=⟨bb,0+1+k,aj⟩) (.inl (.inl rfl)) _;have x1':(w9.setCell ⟨bb,0+1+k,aj⟩ (ah ag (((i+1)%n:Nat):Int))).cell? ⟨wr.heap.size,0,aj⟩=az (ah ag i):=by
        rw[kL]
        ·exact x1
        ·intro e;injection e with e;have:=HMI.o.iU.lt;omega
       generalize(w9.setCell ⟨bb,0+1+k,aj⟩ (ah ag (((i+1)%n:Nat):Int)))=ve at *;have x0':=M10.o.c0;have x2':=M10.o.ca (k:=i) (by omega);have x3':=M10.o.iU.frozen (0+1+8+i);clear x0 x1 x2 x3;go_wp2_with fail;go_region;go_wp2_with fail;have M11:=M10.o.afR (k:=i) (x:=(k+1)%n) (by omega) (nE _ (by omega));have C11:=C10.o.setCell (p:=⟨bb,0+1+8+i,aj⟩) (.inl (.inl rfl)) (ah ag (((k+1)%n:Nat):Int));rw[show 0+1+8+i=9+i by omega,<-md2.out]at M11 C11;exact⟨⟨i+1,by omega,by simp,by rw[E.o];simp only[if_true];exact M11.drew.drew,C11.drew.drew⟩,by simp[aJ];omega⟩
    ·obtain rfl:n=i:=by omega
     go_wp2_with fail
     go_end0
     exact⟨rfl,by rw[ROUND.o];exact hm,(Ch.bY BW.o).trans HC.o (fun _ _ q=>q)⟩
theorem dh.same{w:aG}{g:Nat}{t t':dL}{cs cs':Array aI}(h:dh w g t cs)(h':dh w g t' cs'):t=t'/\cs=cs':=by unfold dh at h h';rw[h]at h';injection h' with h';injection h' with h1 h2;exact⟨h2,h1⟩
theorem EZ.ajH{w w':aG}{S:Nat->Prop}{R:Option fA}{n:Nat}{rq:Nat->Nat->Bool}(h:EZ w R n rq)(hc:Ch S w w')(hS:∀k,S k->∃t cs,dh w k t cs/\t≠52/\t≠4):EZ w' R n rq:=
 h.ch hc fun k t cs q hb=>by obtain⟨t',cs',h1,h2,h3⟩:=hS k q;obtain⟨rfl,_⟩:=hb.same h1;exact⟨h2,h3⟩
theorem Zc(n cp:Nat)(R:Option fA)(rq:Nat->Nat->Bool)(w:aG)(hR:EZ w R n rq):bZ aH 154 #[ay R n cp,ah ag n] w fun e w'=>e=ax (.bool true)/\w=w':=by
 obtain⟨b,V,cs,rfl,hb,hr⟩:=hR.rows;have n0:=hR.n0;have n8:=hR.n1;have HR:aY (∀i,i<n->∃b2 c2,w.cell? ⟨b,i,aj⟩=az (ay (az ⟨b2,0,aj⟩) n c2)):=fun i hi=>by obtain⟨h1,b2,c2,cs2,h2,h3,h4⟩:=hr i hi;exact⟨b2,c2,by rw[hb.cell,h1,h2]⟩
 clear hr hR hb;go_enter func154,ntmps154;go_wp2_with fail
 go_loop [6,13] (fun _ i=>∃k:Nat,k<=n/\i=ah ag k) (fun _ i=>n-(aJ i).toNat)
 case atStart=>exact⟨0,bS _,rfl⟩
 case round=>
  obtain⟨k,hk,rfl⟩:=hrel;by_cases yY:k<n
  ·obtain⟨b2,c2,hc⟩:=HR.o k yY;go_wp2_with fail;exact⟨⟨k+1,by omega,by simp⟩,by simp[aJ];omega⟩
  ·obtain rfl:n=k:=by omega
   go_wp2_with fail;go_ret
   exact⟨rfl,rfl⟩
theorem Py:(Tryz.prog.info? 3).map (fun i=>(i.zero,i.size,i.bytes))=az (az (ah ag 0),1,8):=by kernel_rfl
def m1C(n k:Nat):Array aI:=(aS k (ah .i64 (-1))++aS (n-k) (ah .i64 0)).toArray
theorem ahU{n k:Nat}(h:k<n):(m1C n k).setIfInBounds k (ah ag (-1))=m1C n (k+1):=by unfold m1C;rw[gG,ic _ _ (by simp)];rw[show n-k=(n-(k+1))+1 by omega,oG,List.replicate_succ'];simp
theorem amq{n k:Nat}(h:k<n):(m1C n k)[k]?=az (ah ag 0):=by unfold m1C;rw[di,jX (by simp)];simp only[List.length_replicate,JL,gz];rw[if_pos (by omega)]
theorem afs(n:Nat):madeCells #[ah ag 0] n=m1C n 0:=by unfold m1C madeCells;apply sW;simp[Nat.mod_one,List.map_const']
theorem ahT(n:Nat):m1C n n=((aS n (aj:Option Nat)).map optV).toArray:=by unfold m1C;simp[optV]
def DY(n:Nat)(rq:Nat->Nat->Bool)(b:Nw)(k:Nat):Iu:=(aO k).foldl (fun m r=>uY n rq (r==0) m) ⟨aS n aj,aS 8 false,b⟩
theorem YG(n:Nat)(rq:Nat->Nat->Bool)(b:Nw)(k:Nat):DY n rq b (k+1)=uY n rq (k==0) (DY n rq b k):=by unfold DY;rw[dB,fZ];rfl
def Re(n:Nat)(rq:Nat->Nat->Bool)(b:Nw)(bb:Nat)(w:aG)(e:iM)(w':aG):Prop:=
 ∃bM bT,e=ax (.tuple #[ay (az ⟨bM,0,aj⟩) n n,ah ag 0])/\w.heap.size<=bM/\ru w' bb bM bT n (DY n rq b n)/\Ch (· =bb) w w'
def apE(n:Nat)(w:aG)(B:Nat)(i:aI)(wr:aG):Prop:=∃k:Nat,k<=n/\i=ah ag k/\dh wr B 3 (m1C n k)/\aN B w wr
def apF(n:Nat)(rq:Nat->Nat->Bool)(b:Nw)(bb bM bT:Nat)(w:aG)(i:aI)(wr:aG):Prop:=∃k:Nat,k<=n/\i=ah ag k/\ru wr bb bM bT n (DY n rq b k)/\Ch (SR bb bM bT) w wr
theorem XL(n cp:Nat)(R:Option fA)(rq:Nat->Nat->Bool)(b:Nw)(bb:Nat)(w:aG)(hR:EZ w R n rq)(hB:dh w bb 201 ((yA b n).map Ur).toArray)(rR:qR b n):bZ aH 130 #[au (az ⟨bb,0,aj⟩),ay R n cp,ah ag n] w (Re n rq b bb w):=by
 have n0:=hR.n0;have n8:=hR.n1;have c0:w.cell? ⟨bb,0,aj⟩=az (ah ag n):=by rw[hB.cell];exact xm Ur 0 _ (by rw[rR.len];omega)
 have HS:=aA (Zc n cp R rq w hR);have HR:=aA hR;have HB:=aA hB;clear hR hB;obtain⟨j0,xI,zb,Ad,Ae⟩:=dX Py;obtain⟨w1,gK⟩:∃w1:aG,w.alloc (af (m1C n 0) 3)=w1:=⟨_,rfl⟩;go_enter func130,ntmps130;go_wp2_with (first
  |(go_at_call 154;refine HS.o.mono ?_;rintro e w' ⟨rfl,rfl⟩)
  |(at_make;refine ko _ rfl _ _ 26 rfl 3 j0 _ 1 underlying26 xI zb Ad .i64 .i64 _ _ n rfl rfl ?m1 ?m2 (by rw[Ae];omega) (by unfold fB;omega) ?_))
 case m1=>rfl
 case m2=>rfl
 rw[afs,gK];have B1:aY (dh w1 w.heap.size 3 (m1C n 0)):=by rw[<-gK];exact dh.new w _ _
 have W1:aY (aN w.heap.size w w1):=by rw[<-gK];exact(aQ _ _).alloc (aC _) _
 have LTB:=aA HB.o.lt;obtain⟨bM,hbM⟩:∃x,w.heap.size=x:=⟨_,rfl⟩;rw[hbM];rw[hbM]at B1;have HbM:=aA hbM;clear gK hbM c0 HS;go_loopw [9,36] (fun _ i wr=>apE n w1 bM i wr) (fun _ i _=>n-(aJ i).toNat);case atStart=>exact⟨0,bS _,rfl,B1.o,aQ _ _⟩
 case round=>
  obtain⟨k,hk,rfl,hG,gm⟩:=hrel;have HG:=aA hG;have xM:=aA gm;by_cases yY:k<n
  ·have cG:wr.cell? ⟨bM,k,aj⟩=az (ah ag 0):=by rw[hG.cell];exact amq yY
   have fG:=hG.frozen k;clear hG gm;go_wp2_with fail;exact⟨⟨k+1,by omega,by simp,by rw[<-ahU yY];exact HG.o.jd k _,xM.out.setCell (p:=⟨bM,k,aj⟩) (aC _) _⟩,by simp[aJ];omega⟩
  ·obtain rfl:n=k:=by omega
   obtain⟨w2,Ld⟩:∃w2:aG,wr.alloc (af ((aS 8 false).map iN).toArray 259)=w2:=⟨_,rfl⟩;have BW:aY (aN w.heap.size w wr):=W1.o.trans (xM.out.mono (by have:=HbM.o;omega));have M2:aY (ru w2 bb bM wr.heap.size n (DY n rq b 0)):=(by rw[<-Ld];refine⟨(HB.o.below BW.o LTB.o).alloc _,?_,dh.new _ _ _,by simp[DY],by simp[DY],rR⟩;have:=HG.o.alloc (af ((aS 8 false).map iN).toArray 259);rw[ahT]at this;exact this);have C2:aY (Ch (· =bb) w w2):=(by rw[<-Ld];exact(Ch.bY BW.o).alloc _);have R2:aY (EZ w2 R n rq):=HR.o.ajH C2.o (fun k e=>by subst e;exact⟨201,_,HB.o,by decide,by decide⟩);have E0:aY (wr.alloc (af #[.bool false,.bool false,.bool false,.bool false,.bool false,.bool false,.bool false,.bool false] 259)=w2):=(by rw[<-Ld];rfl);have W2:aY (w.heap.size<=wr.heap.size):=BW.o.size;clear hG gm HG xM Ld;go_wp2_with fail;rw[E0.o];clear E0;generalize wr.heap.size=bT at *;have n8':(n:Int)<=8:=(by omega);obtain⟨wo,rfl⟩:∃wo:aG,wo=wr:=⟨_,rfl⟩;go_loopw [11,44] (fun _ i wr=>apF n rq b bb bM bT w2 i wr) (fun _ i _=>n-(aJ i).toNat);case atStart=>exact⟨0,bS _,rfl,M2.o,Ch.refl _ _⟩
   case round=>
    obtain⟨k,hk,rfl,hm,hc⟩:=hrel;have HC:=aA hc;by_cases yY:k<n
    ·have MS:=aA (YG n rq b k);generalize DY n rq b k=mk at hm MS;have RK:EZ wr R n rq:=R2.o.ajH HC.o (fun k e=>by rcases e with e|e|e<;>subst e;exact⟨201,_,M2.o.iU,by decide,by decide⟩;exact⟨3,_,M2.o.mt,by decide,by decide⟩;exact⟨259,_,M2.o.tk,by decide,by decide⟩);obtain⟨bk,hbk⟩:∃bk,(k==0)=bk:=⟨_,rfl⟩;have ek:((k:Int)==0)=bk:=(by rw[<-hbk,jE];simp);rw[hbk]at MS;have HR2:aY (bZ aH 155 #[au (az ⟨bb,0,aj⟩),ay R n cp,ay (az ⟨bM,0,aj⟩) n n,au (az ⟨bT,0,aj⟩),.bool bk] wr fun e w'=>e=ax (.tuple #[])/\ru w' bb bM bT n (uY n rq bk mk)/\Ch (SR bb bM bT) wr w'):=XP n cp n R rq mk bb bM bT bk wr RK hm;clear RK hm hc hbk;go_wp2_with (first|(go_at_call 155;refine HR2.o.mono ?_;rintro e w' ⟨rfl,b1,b2⟩;have B1':=aA b1;have Zp:=aA b2;clear b1 b2));exact⟨⟨k+1,by omega,by simp,by rw[MS.o];exact B1'.o,HC.o.trans Zp.o (fun _ _ q=>q)⟩,by simp[aJ];omega⟩
    ·obtain rfl:n=k:=by omega
     have iZ:aY (Re n rq b bb w (ax (.tuple #[ay (az ⟨bM,0,aj⟩) n n,ah ag 0])) wr):=⟨bM,bT,rfl,Nat.le_of_eq HbM.o,hm,C2.o.trans HC.o (fun i hi q=>by
      have:=HbM.o;rcases q with q|q|q
      ·exact q
      ·omega
      ·have:=W2.o;omega)⟩
     go_wp2_with fail;go_ret2
     exact iZ.out
theorem aew(n:Nat)(w:aG)(n0:1<=n)(n8:n<=8):bZ aH 84 #[ah ag n] w fun e w'=>e=ax (.tuple #[au (az ⟨w.heap.size,0,aj⟩),ah ag 0])/\w.alloc (af ((yA ⟨aS 8 0,aS 8 0⟩ n).map Ur).toArray 201)=w':=by
 have E:((yA ⟨aS 8 0,aS 8 0⟩ n).map Ur).toArray=#[ah ag n,ah ag 0,ah ag 0,ah ag 0,ah ag 0,ah ag 0,ah ag 0,ah ag 0,ah ag 0,ah ag 0,ah ag 0,ah ag 0,ah ag 0,ah ag 0,ah ag 0,ah ag 0,ah ag 0]:=by simp[yA,Ur,aS]
 rw[E];clear E;go_enter func84,ntmps84;go_wp2_with fail;go_ret2;exact⟨rfl,rfl⟩
end
section
def pt(b:Nat):aI:=au (az ⟨b,0,aj⟩)
structure yM where
 qr:Nat->Nat
 qv:Nat->Nat->aI
 gr:Nat->aI
 tr:Nat->aI
 gb:Nat->Nat->Nat
 gc:Nat->Nat->Nat
 tb:Nat->Nat->Nat
 tc:Nat->Nat->Nat
 bb:Nat
def Ww(n:Nat)(f:Nat->aI)(p:Nat):aI:=if p<n then f p else ay aj 0 0
def bxV(X:Bx)(L:yM)(i:Nat):aI:=
 if i=0 then ah ag X.bE else if i=1 then ah ag X.aX
 else if i<10 then Ww X.bE (fun p=>ay (az ⟨L.qr p,0,aj⟩) X.aX X.aX) (i-2)
 else if i<18 then Ww X.bE L.gr (i-10)
 else if i<26 then Ww X.bE L.tr (i-18)
 else if i<34 then ah ag ((X.ptr.getD (i-26) 0:Nat):Int)
 else if i=34 then pt L.bb else ah ag X.ov
def bxC(X:Bx)(L:yM):Array aI:=((aO 36).map (bxV X L)).toArray
theorem rU(n:Nat)(f:Nat->aI){i:Nat}(h:i<n):(((aO n).map f).toArray)[i]?=az (f i):=by rw[di,cO,dW h];rfl
theorem mH(n:Nat)(f g:Nat->aI)(j:Nat)(v:aI)(h:∀i,i<n->g i=if i=j then v else f i):(((aO n).map f).toArray).setIfInBounds j v=((aO n).map g).toArray:=by
 apply sW;rw[gG];apply List.ext_getElem?;intro i;rw[List.getElem?_set];simp only[dE,List.length_range,cO];by_cases hi:i<n
 ·rw[dW hi];simp only[Option.map_some];rw[h i hi];by_cases e:j=i
  ·subst e;simp[hi]
  ·rw[if_neg e,if_neg (fun q=>e q.symm)]
 ·rw[List.getElem?_eq_none (by simp;omega)];by_cases e:j=i
  ·subst e;simp[hi]
  ·simp[e]
def NT(f:Nat->Nat->aI)(i j:Nat)(v:aI):Nat->Nat->aI:=fun a b=>if a=i/\b=j then v else f a b
theorem aiC(f:Nat->Nat->aI)(i j:Nat)(v:aI):NT f i j v i j=v:=if_pos ⟨rfl,rfl⟩
theorem aan(f:Nat->Nat->aI){i j a b:Nat}(v:aI)(h:¬(a=i/\b=j)):NT f i j v a b=f a b:=if_neg h
def fr(Z:Own)(n:Nat):Own:=qm Z n (0,0,0,0)
theorem gL{Z:Own}{n k:Nat}(h:k<n):fr Z n k=Z k:=if_pos h
theorem lL{Z:Own}{n k:Nat}(h:n<=k):fr Z n k=(0,0,0,0):=if_neg (by omega)
theorem Nx.RV{Z:Own}{o:Nat}{S:Nat->Prop}{w w':aG}(hc:Ch S w w')(hS:∀k,S k->(Z k).1=o):Nx Z o w (fr Z w.heap.size) w':=
 ⟨hc.mono fun k _ s=>hS k s,fun k hk=>gL hk,fun k h1 _=>.inr (by rw[lL h1];exact bS _)⟩
theorem Nx.afz{Z:Own}{o:Nat}{S:Nat->Prop}{w w':aG}(hc:Ch S w w')(hS:∀k,k<w.heap.size->S k->(Z k).1=o):Nx Z o w (fr Z w.heap.size) w':=
 ⟨hc.mono fun k hk s=>hS k hk s,fun k hk=>gL hk,fun k h1 _=>.inr (by rw[lL h1];exact bS _)⟩
theorem Nx.Cs{Z dN:Own}{o:Nat}{w w':aG}(h:Nx Z o w dN w'){p:fA}(hp:w.heap.size<=p.block)(u:aI):Nx Z o w dN (w'.setCell p u):=
 ⟨h.ch.setCell (.inr hp) u,h.ext,fun k h1 h2=>h.fresh k h1 (by simpa[iK]using h2)⟩
theorem Nx.bY{Z:Own}{o:Nat}{w w':aG}(h:aN w.heap.size w w'):Nx Z o w (fr Z w.heap.size) w':=Nx.RV (S:=fun _=>False) (Ch.bY h) (fun _ s=>s.elim)
def Cx(x:Fm×aI):List aI:=[ah ag x.1.id,ah ag x.1.jR,ah ag x.1.kU,ah ag x.1.cls,ah ag x.1.ep,x.2]
theorem xw(x:Fm×aI):(Cx x).length=6:=rfl
def MU(x:Fm)(v:aI):aI:=.agg #[ah ag x.id,ah ag x.jR,ah ag x.kU,ah ag x.cls,ah ag x.ep,v]
def Td(Z:Own)(w:aG)(v:aI)(l:List Fm):Prop:=
 ∃Q:List (Fm×aI),Q.map (·.1)=l/\w.ownsRow 0 59 6 v Q.length (Q.flatMap Cx)/\∀x∈Q,iQ Z w x.1.data x.2
theorem iQ.jD{Z dN:Own}{S:Nat->Prop}{w w':aG}{x:List Int}{v:aI}(h:iQ Z w x v)(hc:Ch S w w')(he:∀k,k<w.heap.size->dN k=Z k)(hS:∀k,S k->(Z k).1≠1):iQ dN w' x v:=by obtain⟨a,cap,e,h1,h2,h3⟩:=h;refine⟨a,cap,e,h1.ch0 hc fun h0 p hp q=>hS _ q (h2 h0 p hp).1,fun h0 p hp=>?_,h3⟩;have:=h2 h0 p hp;exact⟨by rw[he _ this.2];exact this.1,bW this.2 hc.size⟩
theorem Td.jD{Z dN:Own}{S:Nat->Prop}{w w':aG}{l:List Fm}{v:aI}(h:Td Z w v l)(hc:Ch S w w')(he:∀k,k<w.heap.size->dN k=Z k)(hS:∀k,S k->(Z k).1≠1)(hv:∀g,v.ownBlock=az g->¬S g):Td dN w' v l:=by obtain⟨Q,h1,h2,h3⟩:=h;exact⟨Q,h1,fO h2 hc hv,fun x hx=>(h3 x hx).jD hc he hS⟩
theorem Td.lt{Z:Own}{w:aG}{l:List Fm}{v:aI}(h:Td Z w v l):∀g,v.ownBlock=az g->g<w.heap.size:=by obtain⟨Q,_,h2,_⟩:=h;exact fun g hg=>(h2.lt g hg).2
def Xm(w:aG)(t:dL)(v:aI)(n:Nat)(f:Nat->Nat)(g:Nat):Prop:=
 ∃cap cs,v=ay (az ⟨g,0,aj⟩) n cap/\dh w g t cs/\∀c,c<n->cs[c]?=az (pt (f c))
theorem Xm.ch{S:Nat->Prop}{w w':aG}{t:dL}{v:aI}{n:Nat}{f:Nat->Nat}{g:Nat}(h:Xm w t v n f g)(hc:Ch S w w')(hg:¬S g):Xm w' t v n f g:=by obtain⟨cap,cs,h1,h2,h3⟩:=h;exact⟨cap,cs,h1,h2.ch hc hg,h3⟩
theorem Xm.lt{w:aG}{t:dL}{v:aI}{n:Nat}{f:Nat->Nat}{g:Nat}(h:Xm w t v n f g):g<w.heap.size:=by obtain⟨cap,cs,h1,h2,h3⟩:=h;exact h2.lt
structure pO(Z:Own)(o:Nat)(w:aG)(b:Nat)(X:Bx)(L:yM):Prop where
 root:dh w b 158 (bxC X L)/\Z b=(o,0,0,0)
 qr:∀p,p<X.bE->dh w (L.qr p) 110 (((aO X.aX).map (L.qv p)).toArray)/\Z (L.qr p)=(o,1,p,0)
 q:∀p c,p<X.bE->c<X.aX->Td Z w (L.qv p c) (dR X.q p c)/\∀g,(L.qv p c).ownBlock=az g->Z g=(o,2,p,c)
 g:∀p,p<X.bE->∃g,Xm w 159 (L.gr p) X.aX (L.gb p) g/\Z g=(o,3,p,0)
 gg:∀p c,p<X.bE->c<X.aX->Ey w (L.gb p c) (L.gc p c) (dR X.gv p c)/\Z (L.gb p c)=(o,4,p,c)/\Z (L.gc p c)=(o,5,p,c)
 t:∀p,p<X.bE->∃g,Xm w 162 (L.tr p) X.aX (L.tb p) g/\Z g=(o,6,p,0)
 tt:∀p c,p<X.bE->c<X.aX->Lm w (L.tb p c) (L.tc p c) (dR X.tk p c)/\Z (L.tb p c)=(o,7,p,c)/\Z (L.tc p c)=(o,8,p,c)
 iU:dh w L.bb 201 (((yA X.iU X.bE).map Ur).toArray)/\Z L.bb=(o,9,0,0)
section
variable{Z dN:Own}{o:Nat}{w w':aG}{b:Nat}{X:Bx}{L:yM}
theorem pO.jD{S:Nat->Prop}(h:pO Z o w b X L)(hc:Ch S w w')(he:∀k,k<w.heap.size->dN k=Z k)(hS:∀k,S k->(Z k).1≠1/\(Z k).1≠o):pO dN o w' b X L where
 root:=⟨h.root.1.ch hc fun s=>(hS _ s).2 (by rw[h.root.2]),by rw[he _ h.root.1.lt];exact h.root.2⟩
 qr:=fun p hp=>let a:=h.qr p hp;⟨a.1.ch hc fun s=>(hS _ s).2 (by rw[a.2]),by rw[he _ a.1.lt];exact a.2⟩
 q:=fun p c hp qg=>let a:=h.q p c hp qg;⟨a.1.jD hc he (fun k s=>(hS k s).1) (fun g hg s=>(hS _ s).2 (by rw[a.2 g hg])),fun g hg=>by rw[he _ (a.1.lt g hg)];exact a.2 g hg⟩
 g:=fun p hp=>by obtain⟨g,h1,h2⟩:=h.g p hp;exact⟨g,h1.ch hc fun s=>(hS _ s).2 (by rw[h2]),by rw[he _ h1.lt];exact h2⟩
 gg:=fun p c hp qg=>by obtain⟨h1,h2,h3⟩:=h.gg p c hp qg;exact⟨h1.ch hc (fun s=>(hS _ s).2 (by rw[h2])) (fun s=>(hS _ s).2 (by rw[h3])),by rw[he _ h1.p.lt];exact h2,by rw[he _ h1.c.lt];exact h3⟩
 t:=fun p hp=>by obtain⟨g,h1,h2⟩:=h.t p hp;exact⟨g,h1.ch hc fun s=>(hS _ s).2 (by rw[h2]),by rw[he _ h1.lt];exact h2⟩
 tt:=fun p c hp qg=>by obtain⟨h1,h2,h3⟩:=h.tt p c hp qg;exact⟨h1.ch hc (fun s=>(hS _ s).2 (by rw[h2])) (fun s=>(hS _ s).2 (by rw[h3])),by rw[he _ h1.p.lt];exact h2,by rw[he _ h1.c.lt];exact h3⟩
 iU:=⟨h.iU.1.ch hc fun s=>(hS _ s).2 (by rw[h.iU.2]),by rw[he _ h.iU.1.lt];exact h.iU.2⟩
theorem pO.nx{FJ:Own}{o2:Nat}(h:pO Z o w b X L)(k:Nx Z o2 w FJ w')(ho:o≠o2)(h2:2<=o2):pO FJ o w' b X L:=
 h.jD k.ch k.ext fun i hi=>⟨by omega,fun e=>ho (e.symm.trans hi)⟩
theorem pO.below(h:pO Z o w b X L)(k:aN w.heap.size w w'):pO Z o w' b X L:=h.jD (S:=fun _=>False) (Ch.bY k) (fun _ _=>rfl) (fun _ s=>s.elim)
theorem pO.drew(h:pO Z o w b X L):pO Z o w.drew b X L:=h.below ⟨rfl,rfl,rfl,aC _,fun _ _=>rfl⟩
theorem pO.Zj(h:pO Z o w b X L):pO (fr Z w.heap.size) o w b X L:=h.jD (S:=fun _=>False) (Ch.refl _ _) (fun k hk=>gL hk) (fun _ s=>s.elim)
theorem pO.afS(h:pO Z o w b X L){p c:Nat}(hp:p<X.bE)(hc:c<X.aX)(dim:Bc X.gv X.bE X.aX)(ho:2<=o){x:Gv}(k:Ch (· =L.gc p c) w w')(hb:dh w' (L.gc p c) 206 (gvC x)):pO Z o w' b {X with gv:=mW X.gv p c x} L:=by
 have T:=(h.gg p c hp hc).2.2;have hd:∀i,i=L.gc p c->(Z i).1≠1:=fun i e=>by rw[e,T];simp only;omega
 have ne:∀{i t},Z i=t->t≠(o,5,p,c)->¬(i=L.gc p c):=fun h1 h2 e=>h2 (by rw[<-h1,e,T]);exact{
  root:=⟨h.root.1.ch k (ne h.root.2 (by simp)),h.root.2⟩
  qr:=fun a ha=>let r:=h.qr a ha;⟨r.1.ch k (ne r.2 (by simp)),r.2⟩
  q:=fun a d ha Ab=>let r:=h.q a d ha Ab;⟨r.1.jD k (fun _ _=>rfl) hd (fun g hg=>ne (r.2 g hg) (by simp)),r.2⟩
  g:=fun a ha=>by obtain⟨g,h1,h2⟩:=h.g a ha;exact⟨g,h1.ch k (ne h2 (by simp)),h2⟩
  gg:=fun a d ha Ab=>by
   obtain⟨h1,h2,h3⟩:=h.gg a d ha Ab;refine⟨?_,h2,h3⟩;rw[nG dim hp hc];by_cases e:a=p/\d=c
   ·rw[if_pos e];obtain⟨rfl,rfl⟩:=e;exact⟨h1.p.ch k (ne h2 (by simp)),hb⟩
   ·rw[if_neg e];exact h1.ch k (ne h2 (by simp)) (ne h3 (fun q=>e (by injection q with _ q;injection q with _ q;injection q with q1 q2;exact⟨q1,q2⟩)))
  t:=fun a ha=>by obtain⟨g,h1,h2⟩:=h.t a ha;exact⟨g,h1.ch k (ne h2 (by simp)),h2⟩
  tt:=fun a d ha Ab=>by obtain⟨h1,h2,h3⟩:=h.tt a d ha Ab;exact⟨h1.ch k (ne h2 (by simp)) (ne h3 (by simp)),h2,h3⟩
  iU:=⟨h.iU.1.ch k (ne h.iU.2 (by simp)),h.iU.2⟩}
theorem pO.aaf(h:pO Z o w b X L){p c:Nat}(hp:p<X.bE)(hc:c<X.aX)(dim:Bc X.tk X.bE X.aX)(ho:2<=o){x:Tk}(k:Ch (· =L.tc p c) w w')(hb:dh w' (L.tc p c) 228 (tkC x)):pO Z o w' b {X with tk:=mW X.tk p c x} L:=by
 have T:=(h.tt p c hp hc).2.2;have hd:∀i,i=L.tc p c->(Z i).1≠1:=fun i e=>by rw[e,T];simp only;omega
 have ne:∀{i t},Z i=t->t≠(o,8,p,c)->¬(i=L.tc p c):=fun h1 h2 e=>h2 (by rw[<-h1,e,T]);exact{
  root:=⟨h.root.1.ch k (ne h.root.2 (by simp)),h.root.2⟩
  qr:=fun a ha=>let r:=h.qr a ha;⟨r.1.ch k (ne r.2 (by simp)),r.2⟩
  q:=fun a d ha Ab=>let r:=h.q a d ha Ab;⟨r.1.jD k (fun _ _=>rfl) hd (fun g hg=>ne (r.2 g hg) (by simp)),r.2⟩
  g:=fun a ha=>by obtain⟨g,h1,h2⟩:=h.g a ha;exact⟨g,h1.ch k (ne h2 (by simp)),h2⟩
  gg:=fun a d ha Ab=>by obtain⟨h1,h2,h3⟩:=h.gg a d ha Ab;exact⟨h1.ch k (ne h2 (by simp)) (ne h3 (by simp)),h2,h3⟩
  t:=fun a ha=>by obtain⟨g,h1,h2⟩:=h.t a ha;exact⟨g,h1.ch k (ne h2 (by simp)),h2⟩
  tt:=fun a d ha Ab=>by
   obtain⟨h1,h2,h3⟩:=h.tt a d ha Ab;refine⟨?_,h2,h3⟩;rw[nG dim hp hc];by_cases e:a=p/\d=c
   ·rw[if_pos e];obtain⟨rfl,rfl⟩:=e;exact⟨h1.p.ch k (ne h2 (by simp)),hb⟩
   ·rw[if_neg e];exact h1.ch k (ne h2 (by simp)) (ne h3 (fun q=>e (by injection q with _ q;injection q with _ q;injection q with q1 q2;exact⟨q1,q2⟩)))
  iU:=⟨h.iU.1.ch k (ne h.iU.2 (by simp)),h.iU.2⟩}
theorem pO.asz(h:pO Z o w b X L){p c:Nat}(hp:p<X.bE)(hc:c<X.aX)(dim:Bc X.q X.bE X.aX)(ho:2<=o){S:Nat->Prop}{v:aI}{l:List Fm}(k:Ch S w w')(he:∀i,i<w.heap.size->dN i=Z i)(hS:∀i,S i->Z i=(o,1,p,0)\/Z i=(o,2,p,c))(hr:dh w' (L.qr p) 110 (((aO X.aX).map (NT L.qv p c v p)).toArray))(hq:Td dN w' v l)(hv:∀g,v.ownBlock=az g->dN g=(o,2,p,c)):pO dN o w' b {X with q:=mW X.q p c l} {L with qv:=NT L.qv p c v}:=by
 have hd:∀i,S i->(Z i).1≠1:=fun i e=>by rcases hS i e with q|q<;>rw[q]<;>simp only<;>omega
 have ne:∀{i t},Z i=t->t≠(o,1,p,0)->t≠(o,2,p,c)->¬S i:=fun h1 h2 h3 s=>by
  rcases hS _ s with q|q
  ·exact h2 (by rw[<-h1,q])
  ·exact h3 (by rw[<-h1,q])
 exact{
  root:=⟨h.root.1.ch k (ne h.root.2 (by simp) (by simp)),by rw[he _ h.root.1.lt];exact h.root.2⟩
  qr:=fun a ha=>by
   have r:=h.qr a ha;refine⟨?_,by rw[he _ r.1.lt];exact r.2⟩;by_cases e:a=p
   ·subst e;exact hr
   ·have e2:(NT L.qv p c v a)=L.qv a:=by funext d;exact aan _ _ (fun q=>e q.1)
    simp only;rw[e2];exact r.1.ch k (ne r.2 (fun q=>e (by injection q with _ q;injection q with _ q;injection q)) (by simp))
  q:=fun a d ha Ab=>by
   have r:=h.q a d ha Ab;simp only;rw[nG dim hp hc];by_cases e:a=p/\d=c
   ·rw[if_pos e];obtain⟨rfl,rfl⟩:=e;rw[aiC];exact⟨hq,hv⟩
   ·rw[if_neg e,aan _ _ e];exact⟨r.1.jD k he hd (fun g hg=>ne (r.2 g hg) (by simp) (fun q=>e (by injection q with _ q;injection q with _ q;injection q with q1 q2;exact⟨q1,q2⟩))),fun g hg=>by rw[he _ (r.1.lt g hg)];exact r.2 g hg⟩
  g:=fun a ha=>by obtain⟨g,h1,h2⟩:=h.g a ha;exact⟨g,h1.ch k (ne h2 (by simp) (by simp)),by rw[he _ h1.lt];exact h2⟩
  gg:=fun a d ha Ab=>by obtain⟨h1,h2,h3⟩:=h.gg a d ha Ab;exact⟨h1.ch k (ne h2 (by simp) (by simp)) (ne h3 (by simp) (by simp)),by rw[he _ h1.p.lt];exact h2,by rw[he _ h1.c.lt];exact h3⟩
  t:=fun a ha=>by obtain⟨g,h1,h2⟩:=h.t a ha;exact⟨g,h1.ch k (ne h2 (by simp) (by simp)),by rw[he _ h1.lt];exact h2⟩
  tt:=fun a d ha Ab=>by obtain⟨h1,h2,h3⟩:=h.tt a d ha Ab;exact⟨h1.ch k (ne h2 (by simp) (by simp)) (ne h3 (by simp) (by simp)),by rw[he _ h1.p.lt];exact h2,by rw[he _ h1.c.lt];exact h3⟩
  iU:=⟨h.iU.1.ch k (ne h.iU.2 (by simp) (by simp)),by rw[he _ h.iU.1.lt];exact h.iU.2⟩}
theorem pO.aae(h:pO Z o w b X L)(ho:2<=o){ptr':List Nat}{ov':Nat}(k:Ch (· =b) w w')(hb:dh w' b 158 (bxC {X with ptr:=ptr',ov:=ov'} L)):pO Z o w' b {X with ptr:=ptr',ov:=ov'} L:=by
 have hd:∀i,i=b->(Z i).1≠1:=fun i e=>by rw[e,h.root.2];simp only;omega
 have ne:∀{i t},Z i=t->t≠(o,0,0,0)->¬(i=b):=fun h1 h2 e=>h2 (by rw[<-h1,e,h.root.2]);exact{
  root:=⟨hb,h.root.2⟩
  qr:=fun a ha=>let r:=h.qr a ha;⟨r.1.ch k (ne r.2 (by simp)),r.2⟩
  q:=fun a d ha Ab=>let r:=h.q a d ha Ab;⟨r.1.jD k (fun _ _=>rfl) hd (fun g hg=>ne (r.2 g hg) (by simp)),r.2⟩
  g:=fun a ha=>by obtain⟨g,h1,h2⟩:=h.g a ha;exact⟨g,h1.ch k (ne h2 (by simp)),h2⟩
  gg:=fun a d ha Ab=>by obtain⟨h1,h2,h3⟩:=h.gg a d ha Ab;exact⟨h1.ch k (ne h2 (by simp)) (ne h3 (by simp)),h2,h3⟩
  t:=fun a ha=>by obtain⟨g,h1,h2⟩:=h.t a ha;exact⟨g,h1.ch k (ne h2 (by simp)),h2⟩
  tt:=fun a d ha Ab=>by obtain⟨h1,h2,h3⟩:=h.tt a d ha Ab;exact⟨h1.ch k (ne h2 (by simp)) (ne h3 (by simp)),h2,h3⟩
  iU:=⟨h.iU.1.ch k (ne h.iU.2 (by simp)),h.iU.2⟩}
theorem pO.Mr(h:pO Z o w b X L)(ho:2<=o){B:Nw}(k:Ch (· =L.bb) w w')(hb:dh w' L.bb 201 (((yA B X.bE).map Ur).toArray)):pO Z o w' b {X with iU:=B} L:=by
 have hd:∀i,i=L.bb->(Z i).1≠1:=fun i e=>by rw[e,h.iU.2];simp only;omega
 have ne:∀{i t},Z i=t->t≠(o,9,0,0)->¬(i=L.bb):=fun h1 h2 e=>h2 (by rw[<-h1,e,h.iU.2]);exact{
  root:=⟨h.root.1.ch k (ne h.root.2 (by simp)),h.root.2⟩
  qr:=fun a ha=>let r:=h.qr a ha;⟨r.1.ch k (ne r.2 (by simp)),r.2⟩
  q:=fun a d ha Ab=>let r:=h.q a d ha Ab;⟨r.1.jD k (fun _ _=>rfl) hd (fun g hg=>ne (r.2 g hg) (by simp)),r.2⟩
  g:=fun a ha=>by obtain⟨g,h1,h2⟩:=h.g a ha;exact⟨g,h1.ch k (ne h2 (by simp)),h2⟩
  gg:=fun a d ha Ab=>by obtain⟨h1,h2,h3⟩:=h.gg a d ha Ab;exact⟨h1.ch k (ne h2 (by simp)) (ne h3 (by simp)),h2,h3⟩
  t:=fun a ha=>by obtain⟨g,h1,h2⟩:=h.t a ha;exact⟨g,h1.ch k (ne h2 (by simp)),h2⟩
  tt:=fun a d ha Ab=>by obtain⟨h1,h2,h3⟩:=h.tt a d ha Ab;exact⟨h1.ch k (ne h2 (by simp)) (ne h3 (by simp)),h2,h3⟩
  iU:=⟨hb,h.iU.2⟩}
theorem AO(x:Int):(Rq x).length=1:=rfl
theorem iQ.Jf{base:Nat}{x:List Int}{v:aI}(h:w.ownsRow base 5 1 v x.length (x.flatMap Rq))(hl:x.length<=64)(ht:∀g,v.ownBlock=az g->(Z g).1=1):iQ Z w x v:=by obtain⟨a,cap,e,_,h2,_⟩:=gZ (d:=(0:Int)) AO (by decide) h;subst e;refine⟨a,cap,rfl,h2,fun _ p hp=>?_,hl⟩;subst hp;exact⟨ht _ rfl,(h.lt _ rfl).2⟩
theorem Jl{w':aG}{b1 b2:Nat}{t1 t2:dL}{m1 m2 n1 n2:Nat}{v1 v2:aI}{l1 l2:List aI}(h1:w'.ownsRow b1 t1 m1 v1 n1 l1)(h2:w'.ownsRow b2 t2 m2 v2 n2 l2)(nQ:t1≠t2):∀g,v1.ownBlock=az g->v2.ownBlock≠az g:=by
 intro g e1 e2;rcases h1.2 with⟨rfl,_⟩|⟨g1,c1,axC,rfl,_,hh1,_⟩
 ·simp[dV]at e1
 ·rcases h2.2 with⟨rfl,_⟩|⟨g2,c2,axD,rfl,_,hh2,_⟩
  ·simp[dV]at e2
  ·simp[dV]at e1 e2;subst e1;subst e2;exact dh.sU (show dh w' _ t1 axC from hh1) (show dh w' _ t2 axD from hh2) nQ rfl
theorem pO.asi{w2 wc wd:aG}(h:pO Z o w2 b X L){p c:Nat}(hp:p<X.bE)(hc:c<X.aX)(dim:Bc X.q X.bE X.aX)(ho:2<=o){x:Fm}{v' v2:aI}{o1:Obj}{Q:List (Fm×aI)}(hQ1:Q.map (·.1)=dR X.q p c)(hQ3:∀y∈Q,iQ Z w2 y.1.data y.2)(bc:aN w2.heap.size w2 wc)(ow:wc.ownsRow w2.heap.size 5 1 v' x.data.length (x.data.flatMap Rq))(hl:x.data.length<=64)(uz:wd.ownsRow 0 59 6 v2 (Q.length+1) (Q.flatMap Cx++Cx (x,v')))(gr:(wc.alloc o1).grownBy wd (L.qv p c).ownBlock)(loc:v2.ownBlock=(L.qv p c).ownBlock\/v2.ownBlock=az (wc.heap.size+1)):∃dN,pO dN o (wd.setCell ⟨L.qr p,c,aj⟩ v2) b {X with q:=mW X.q p c (dR X.q p c++[x])} {L with qv:=NT L.qv p c v2}/\Nx Z o w2 dN (wd.setCell ⟨L.qr p,c,aj⟩ v2):=by
 have hq:=h.q p c hp hc;have hr:=h.qr p hp;have ltq:=hq.1.lt;have sz:w2.heap.size<=wc.heap.size:=bc.size;have lt':∀g,v'.ownBlock=az g->w2.heap.size<=g/\g<wc.heap.size:=ow.lt;have ow2:wd.ownsRow w2.heap.size 5 1 v' x.data.length (x.data.flatMap Rq):=by
  refine(ow.alloc o1).kept gr ?_;cases e:v'.ownBlock with
  |none=>exact .inl rfl
  |some g=>refine .inr fun e2=>?_;have h1:=(lt' g e).1;have h2:=ltq g e2.symm;omega
 have ne2:=Jl ow2 uz (by decide);have hrq:∀g,(L.qv p c).ownBlock=az g->L.qr p≠g:=fun g hg e=>by have h1:=hr.2;have h2:=hq.2 g hg;rw[e,h2]at h1;simp at h1
 have S3:Ch (fun k=>k=L.qr p\/(L.qv p c).ownBlock=az k) w2 (wd.setCell ⟨L.qr p,c,aj⟩ v2):=
  (((Ch.bY bc).alloc o1).grown gr fun g hg=>.inl (.inr hg)).setCell (.inl (.inl rfl)) v2
 obtain⟨dN,Pw⟩:∃dN:Own,dN=fun k=>if v'.ownBlock=az k then(1,0,0,0)else if v2.ownBlock=az k then(o,2,p,c)else fr Z w2.heap.size k:=⟨_,rfl⟩
 have he:∀k,k<w2.heap.size->dN k=Z k:=fun k hk=>by
  rw[Pw];simp only;rw[if_neg (fun e=>by have:=(lt' k e).1;omega)];by_cases e:v2.ownBlock=az k
  ·rw[if_pos e];rcases loc with q|q
   ·rw[q]at e;exact(hq.2 k e).symm
   ·rw[q]at e;injection e with e;omega
  ·rw[if_neg e,gL hk]
 have aeu:dh wd (L.qr p) 110 (((aO X.aX).map (L.qv p)).toArray):=((hr.1.below bc hr.1.lt).alloc o1).grown gr fun e=>hrq _ e.symm rfl;refine⟨dN,h.asz hp hc dim ho S3 he ?_ ?_ ?_ ?_,⟨S3.mono fun k _ s=>?_,he,fun k h1 h2=>?_⟩⟩
 ·rintro i (e|e)
  ·exact .inl (by rw[e];exact hr.2)
  ·exact .inr (hq.2 i e)
 ·have:=aeu.jd c v2;rw[mH X.aX (L.qv p) (NT L.qv p c v2 p) c v2 (fun i _=>by
   unfold NT;by_cases e:i=c
   ·simp[e]
   ·simp[e])]at this
  exact this
 ·refine⟨Q++[(x,v')],by simp[hQ1],?_,fun y hy=>?_⟩
  ·have:=uz;rw[show Q.flatMap Cx++Cx (x,v')=(Q++[(x,v')]).flatMap Cx by simp,show Q.length+1=(Q++[(x,v')]).length by simp]at this;exact fO this ((Ch.refl (· =L.qr p) wd).setCell (p:=⟨L.qr p,c,aj⟩) (.inl rfl) v2) fun g hg e=>by
    subst e;rcases loc with q|q
    ·rw[q]at hg;exact hrq _ hg rfl
    ·rw[q]at hg;injection hg with hg;have:=hr.1.lt;omega
  ·rcases List.mem_append.1 hy with hy|hy
   ·exact(hQ3 y hy).jD S3 he fun k s=>by
     rcases s with s|s
     ·rw[s,hr.2];simp only;omega
     ·rw[hq.2 k s];simp only;omega
   ·simp only[dz]at hy;subst hy;refine iQ.Jf (base:=w2.heap.size) (fO ow2 ((Ch.refl (· =L.qr p) wd).setCell (p:=⟨L.qr p,c,aj⟩) (.inl rfl) v2) fun g hg e=>?_) hl fun g hg=>?_
    ·have:=(lt' g hg).1;have:=hr.1.lt;omega
    ·rw[Pw];simp only;rw[if_pos hg]
 ·intro g hg;rw[Pw];simp only;rw[if_neg (fun e=>ne2 g e hg),if_pos hg]
 ·rcases s with s|s
  ·rw[s,hr.2]
  ·rw[hq.2 k s]
 ·rw[Pw];simp only;by_cases e1:v'.ownBlock=az k
  ·rw[if_pos e1];exact .inr (aC _)
  ·rw[if_neg e1];by_cases e2:v2.ownBlock=az k
   ·rw[if_pos e2];exact .inl rfl
   ·rw[if_neg e2,lL h1];exact .inr (bS _)
end
end
section
attribute [local go_sem ↓] fJ fH
section
variable{Z:Own}{o:Nat}{w:aG}{b:Nat}{X:Bx}{L:yM}
theorem pO.at_(h:pO Z o w b X L){i:Nat}(hi:i<36):w.cell? ⟨b,i,aj⟩=az (bxV X L i):=by rw[h.root.1.cell];exact rU 36 _ hi
theorem pO.c0(h:pO Z o w b X L):w.cell? ⟨b,0,aj⟩=az (ah ag X.bE):=h.at_ (i:=0) (by omega)
theorem pO.c1(h:pO Z o w b X L):w.cell? ⟨b,0+1,aj⟩=az (ah ag X.aX):=h.at_ (i:=1) (by omega)
theorem pO.cq(h:pO Z o w b X L){p:Nat}(hp:p<X.bE)(h8:X.bE<=8):w.cell? ⟨b,2+p,aj⟩=az (ay (az ⟨L.qr p,0,aj⟩) X.aX X.aX):=by rw[h.at_ (i:=2+p) (by omega)];unfold bxV Ww;rw[if_neg (by omega),if_neg (by omega),if_pos (by omega),show 2+p-2=p by omega,if_pos hp]
theorem pO.cg(h:pO Z o w b X L){p:Nat}(hp:p<X.bE)(h8:X.bE<=8):w.cell? ⟨b,10+p,aj⟩=az (L.gr p):=by rw[h.at_ (i:=10+p) (by omega)];unfold bxV Ww;rw[if_neg (by omega),if_neg (by omega),if_neg (by omega),if_pos (by omega),show 10+p-10=p by omega,if_pos hp]
theorem pO.ct(h:pO Z o w b X L){p:Nat}(hp:p<X.bE)(h8:X.bE<=8):w.cell? ⟨b,18+p,aj⟩=az (L.tr p):=by rw[h.at_ (i:=18+p) (by omega)];unfold bxV Ww;rw[if_neg (by omega),if_neg (by omega),if_neg (by omega),if_neg (by omega),if_pos (by omega),show 18+p-18=p by omega,if_pos hp]
theorem pO.cp(h:pO Z o w b X L){p:Nat}(hp:p<8):w.cell? ⟨b,26+p,aj⟩=az (ah ag (X.ptr.getD p 0:Nat)):=by rw[h.at_ (i:=26+p) (by omega)];unfold bxV Ww;rw[if_neg (by omega),if_neg (by omega),if_neg (by omega),if_neg (by omega),if_neg (by omega),if_pos (by omega),show 26+p-26=p by omega]
theorem pO.cb(h:pO Z o w b X L):w.cell? ⟨b,34,aj⟩=az (pt L.bb):=h.at_ (i:=34) (by omega)
theorem pO.cov(h:pO Z o w b X L):w.cell? ⟨b,35,aj⟩=az (ah ag X.ov):=h.at_ (i:=35) (by omega)
theorem pO.cqv(h:pO Z o w b X L){p c:Nat}(hp:p<X.bE)(hc:c<X.aX):w.cell? ⟨L.qr p,c,aj⟩=az (L.qv p c):=by rw[(h.qr p hp).1.cell];exact rU _ _ hc
end
theorem nO{w:aG}{base:Nat}{e:dL}{m n:Nat}{v:aI}{xs:List aI}(h:w.ownsRow base e m v n xs){p:fA}(u:aI)(hg:∀g,v.ownBlock=az g->g≠p.block):(w.setCell p u).ownsRow base e m v n xs:=
 fO h ((Ch.refl (· =p.block) w).setCell (.inl rfl) u) hg
theorem JS(p c:Nat)(Z:Own)(o:Nat)(w:aG)(b:Nat)(X:Bx)(L:yM)(h:pO Z o w b X L)(hp:p<X.bE)(hc:c<X.aX):bZ aH 91 #[pt b,ah ag p,ah ag c] w fun e w'=>e=ax (.bool true)/\w=w':=by have c0:=h.c0;have c1:=h.c1;clear h;unfold pt;go_enter func91,ntmps91;go_wp2_with fail;go_ret;exact⟨rfl,rfl⟩
theorem ZI(l:List Int):∀u∈l.flatMap Rq,u.oneCell'=true:=by intro u hu;simp only[iF,Rq,dz]at hu;obtain⟨x,_,rfl⟩:=hu;rfl
theorem afd:(Tryz.prog.info? 5).map (fun i=>(i.zero,i.size,i.bytes))=az (az (.int .u8 0),1,1):=by kernel_rfl
def aoA(x:Fm)(w:aG)(e:iM)(w':aG):Prop:=∃v',e=ax (MU x v')/\aN w.heap.size w w'/\w'.ownsRow w.heap.size 5 1 v' x.data.length (x.data.flatMap Rq)
theorem xY(x:Fm)(v:aI)(Z:Own)(w:aG)(h:iQ Z w x.data v):bZ aH 92 #[MU x v] w (aoA x w):=by
 obtain⟨a,cap,rfl,h1,h2,h3⟩:=h;obtain⟨xi,xf,xt,xc,xe,xd⟩:=x;simp only at h1 h2 h3|-;unfold MU;simp only;obtain⟨w1,gK⟩:∃w1:aG,(w.alloc (af #[ah ag xi,ah ag xf,ah ag xt,ah ag xc,ah ag xe,ay a xd.length cap] 59)).alloc (af #[ah ag 0,ah ag 0,ah ag 0,ah ag 0,ah ag 0,ay aj 0 0] 59)=w1:=⟨_,rfl⟩;have BW:aY (aN w.heap.size w w1):=by rw[<-gK];exact((aQ _ _).alloc (aC _) _).alloc (by simp) _
 have S1:aY (w1.heap.size=w.heap.size+2):=by rw[<-gK,aY];simp
 have B1:aY (dh w1 w.heap.size 59 #[ah ag xi,ah ag xf,ah ag xt,ah ag xc,ah ag xe,ay a xd.length cap]):=by rw[<-gK];exact(dh.new w _ _).alloc _
 have B2:aY (dh w1 (w.heap.size+1) 59 #[ah ag 0,ah ag 0,ah ag 0,ah ag 0,ah ag 0,ay aj 0 0]):=by rw[<-gK];have:=dh.new (w.alloc (af #[ah ag xi,ah ag xf,ah ag xt,ah ag xc,ah ag xe,ay a xd.length cap] 59)) 59 #[ah ag 0,ah ag 0,ah ag 0,ah ag 0,ah ag 0,ay aj 0 0];rw[aY];simpa using this
 have RA:=aA (tY AO (h1.below (aC _) BW.o));have fo:=aA (ZI xd);have HL:=aA h3;obtain⟨i0,hi0,wC,uX,wK⟩:=dX afd;have k5:=B1.o.cell 5;have kf:=B1.o.frozen 5;simp only[di,fC,dD]at k5;clear h1 h2 h3;go_enter func92,ntmps92;go_wp2_with (at_builtin;go_loud (refine gW _ rfl (.const (ay aj 0 0)) (.tmp 4) 27 rfl w.heap.size 5 i0 _ 1 1 underlying27 hi0 wC uX wK rfl (by decide) _ 0 [] rfl (dM w1 w.heap.size 5 1) w1.heap.size _ xd.length cap (xd.flatMap Rq) rfl RA.o fo.out ?c3 ?c4 ?c5 ?_));case c3=>have:=HL.o;unfold fB;omega
 case c4=>have:=HL.o;omega
 case c5=>exact BW.o.size
 intro v1 w2 nV yo Ao;try simp only[ry,kg]at nV
 have B1':aY (dh w2 w.heap.size 59 #[ah ag xi,ah ag xf,ah ag xt,ah ag xc,ah ag xe,ay a xd.length cap]):=B1.o.grown yo (by simp[dV]);have Zp:aY (dh w2 (w.heap.size+1) 59 #[ah ag 0,ah ag 0,ah ag 0,ah ag 0,ah ag 0,ay aj 0 0]):=B2.o.grown yo (by simp[dV]);have Jv:aY (aN w.heap.size w w2):=BW.o.trans ⟨yo.os,yo.tape,yo.output,yo.size,fun k hk=>yo.block k (bW hk BW.o.size) (by simp[dV])⟩;obtain⟨a1,abf,rfl,hcap,_,oV⟩:=gZ (d:=(0:Int)) AO (by decide) nV;have OW:=aA nV;have NB:aY (∀g,(ay a1 xd.length abf).ownBlock=az g->g≠w.heap.size/\g≠w.heap.size+1):=fun g hg=>by
  rcases Ao with q|q
  ·rw[hg]at q;simp[dV]at q
  ·rw[hg]at q;injection q with q;have:=S1.o;omega
 clear nV yo hcap oV kf k5 Ao;have k0:=B1'.o.cell 0;have k1:=B1'.o.cell 1;have k2:=B1'.o.cell 2;have k3:=B1'.o.cell 3;have k4:=B1'.o.cell 4;have k5:=B1'.o.cell 5;have kf:=B1'.o.frozen 5;have m0:=Zp.o.cell 0;have m1:=Zp.o.cell 1;have m2:=Zp.o.cell 2;have m3:=Zp.o.cell 3;have m4:=Zp.o.cell 4;have m5:=Zp.o.cell 5;have f0:=Zp.o.frozen 0;have f1:=Zp.o.frozen 1;have f2:=Zp.o.frozen 2;have f3:=Zp.o.frozen 3;have f4:=Zp.o.frozen 4;have f5:=Zp.o.frozen 5;simp only[di,fC,dD]at k0 k1 k2 k3 k4 k5 m0 m1 m2 m3 m4 m5;clear gK;go_wp2_with fail;refine bodyPost_ret (v:=.agg #[ah ag xi,ah ag xf,ah ag xt,ah ag xc,ah ag xe,ay a1 xd.length abf]) (by simp[results,Tryz.results92,go_sem,m0,m1,m2,m3,m4,m5]) rfl ⟨_,rfl,?_,?_⟩
 ·exact((((((Jv.o.setCell (by simp) _).setCell (by simp) _).setCell (by simp) _).setCell (by simp) _).setCell (by simp) _).setCell (by simp) _).setCell (by simp) _
 ·refine nO (nO (nO (nO (nO (nO (nO OW.o _ ?_) _ ?_) _ ?_) _ ?_) _ ?_) _ ?_) _ ?_
  ·exact fun g hg=>(NB.o g hg).1
  all_goals exact fun g hg=>(NB.o g hg).2
theorem XK(p c N:Nat)(Z:Own)(o:Nat)(w:aG)(b:Nat)(X:Bx)(L:yM)(h:pO Z o w b X L)(hx:lW X N)(hN:N<=1000000000000)(hp:p<X.bE)(hc:c<X.aX):bZ aH 100 #[pt b,ah ag p,ah ag c] w fun e w'=>e=ax (ah ag (dR X.gv p c).uH)/\aN w.heap.size w w':=by
 have HH:=aA (JS p c Z o w b X L h hp hc);obtain⟨hg,_,_⟩:=h.gg p c hp hc;have HG:=aA (abH _ _ N _ _ w (hx.g p c hp hc) hN hg);obtain⟨g,⟨cap,cs,e1,e2,e3⟩,_⟩:=h.g p hp;have cg:=h.cg hp hx.p1;rw[e1]at cg;have cc:w.cell? ⟨g,c,aj⟩=az (pt (L.gb p c)):=by rw[e2.cell];exact e3 c hc
 have p0:(0:Int)<=(p:Int):=by omega
 have p8:(p:Int)<8:=by have:=hx.p1;omega
 have c0:(0:Int)<=(c:Int):=by omega
 have c8:(c:Int)<(X.aX:Int):=by omega
 generalize(dR X.gv p c).uH=l at HG|-;clear h hx hg e1 e2 e3;unfold pt at *;go_enter func100,ntmps100;go_wp2_with (first
  |(go_at_call 91;refine HH.o.mono ?_;rintro e w' ⟨rfl,rfl⟩)
  |(go_at_call 133;refine HG.o.mono ?_;rintro e w' ⟨rfl,gm⟩;have BL:=aA gm;clear gm))
 go_ret;exact⟨rfl,BL.o⟩
def yt(Z:Own)(o:Nat)(w:aG)(b:Nat)(X':Bx)(L:yM)(w':aG):Prop:=∃dN L',pO dN o w' b X' L'/\Nx Z o w dN w'
theorem XO(p c N:Nat)(l:Int)(Z:Own)(o:Nat)(w:aG)(b:Nat)(X:Bx)(L:yM)(h:pO Z o w b X L)(ho:2<=o)(hx:lW X N)(hN:N<=1000000000000)(hp:p<X.bE)(hc:c<X.aX)(hl:(iT .i64 l).wf=true):bZ aH 54 #[pt b,ah ag p,ah ag c,ah ag l] w fun e w'=>(∃r:Int,e=ax (ah ag r))/\yt Z o w b (X.raise p c l) L w':=by
 have HH:=aA (JS p c Z o w b X L h hp hc);obtain⟨hg,t1,t2⟩:=h.tt p c hp hc;have HG:=aA (WH _ N l _ _ w (hx.t p c hp hc) hN hl hg);have iZ:aY (∀w',dh w' (L.tc p c) 228 (tkC ((dR X.tk p c).raise l))->Ch (· =L.tc p c) w w'->yt Z o w b (X.raise p c l) L w'):=fun w' h1 h2=>
  ⟨_,_,h.Zj.aaf hp hc hx.tk ho h2 h1,Nx.RV h2 fun k e=>by rw[e,t2]⟩
 obtain⟨g,⟨cap,cs,e1,e2,e3⟩,_⟩:=h.t p hp;have cg:=h.ct hp hx.p1;rw[e1]at cg;have cc:w.cell? ⟨g,c,aj⟩=az (pt (L.tb p c)):=by rw[e2.cell];exact e3 c hc
 have p0:(0:Int)<=(p:Int):=by omega
 have p8:(p:Int)<8:=by have:=hx.p1;omega
 have c0:(0:Int)<=(c:Int):=by omega
 have c8:(c:Int)<(X.aX:Int):=by omega
 generalize(dR X.tk p c).raise l=x' at *;generalize X.raise p c l=X' at *;clear h hx hg e1 e2 e3 t1 t2;unfold pt at *;go_enter func54,ntmps54;go_wp2_with (first
  |(go_at_call 91;refine HH.o.mono ?_;rintro e w' ⟨rfl,rfl⟩)
  |(go_at_call 94;refine HG.o.mono ?_;rintro e w' ⟨⟨r,rfl⟩,b1,b2⟩;have BL:=aA (iZ.out _ b1 b2);clear b1 b2))
 go_ret;exact⟨⟨_,rfl⟩,BL.o⟩
end
section
section
variable{P:Program}{ops:Array Oper}{Q:Exit->Act->aG->Prop}{md:qV}{S:aG->Prop}{wW:Nat}
def bH(P:Program)(md:qV)(ops:Array Oper)(Q:Exit->Act->aG->Prop)(S:aG->Prop)(wW:Nat):Nat->Array Bool->Act->aG->Prop
 |0,done,a,w=>jc md ops done=[]/\Q .normal a w
 |n+1,done,a,w=>(jc md ops done=[]->Q .normal a w)/\∀j∈jc md ops done,wpOp P ops Q j (fun a' w'=>(j≠wW->S w')/\bH P md ops Q S wW n (done.setIfInBounds j true) a' w') a w
theorem bH.any:∀(n:Nat) (done:Array Bool) (a:Act) (w:aG),bH P md ops Q S wW n done a w->wpAny P md ops Q n done a w
 |0,_,_,_,h=>h
 |n+1,_,_,_,h=>⟨h.1,fun j hj=>wpOp_mono (fun a' w' k=>bH.any n _ a' w' k.2) (h.2 j hj)⟩
def waitsB(md:qV)(ops:Array Oper)(wW i:Nat):Bool:=match ops[wW]? with
 |some o=>o.after.any fun e=>qb md e&&e.on==i
 |none=>false
theorem Je{i:Nat}{done:Array Bool}(h:waitsB md ops wW i=true)(hi:done.getD i false=false):wW∉jc md ops done:=fun hm=>by obtain⟨_,o,ho,hall⟩:=mem_ready.1 hm;unfold waitsB at h;rw[ho]at h;simp only[Aq,cZ,beq_iff_eq]at h;obtain⟨k,hk,hb,he⟩:=h;have:=hall _ (Av hk) hb;rw[he,hi]at this;cases this
theorem bH.first{i:Nat}{oi:Oper}{v:aI}(hi:ops[i]?=az oi)(hsel:∀(j:Nat) (o:Oper) cs b,ops[j]?=az o->o.op≠.select cs b)(hQ:∀c a w,Q (.panic c) (a.put oi.dst v) w->Q (.panic c) a w)(hw:waitsB md ops wW i=true):∀(n:Nat) (done:Array Bool) (a:Act) (w:aG),(∀j oj,ops[j]?=az oj->j≠i->done.getD j true=false->(∀e∈oj.after,qb md e=true->e.on≠i)->oi.apart ops oj=true)->i∈jc md ops done->YieldsIf P ops S oi v a->S w->i≠wW->bH P md ops Q S wW n (done.setIfInBounds i true) (a.put oi.dst v) w->bH P md ops Q S wW (n+1) done a w:=by
 intro n
 induction n with
 |zero=>
  intro done a w _ hr hy hS nQ H;refine⟨fun h=>(by rw[h]at hr;cases hr),fun j hj=>?_⟩;by_cases hji:j=i
  ·subst hji;exact hy.wpOp hi hS ⟨fun _=>hS,H⟩
  ·have:=ready_mono hj hji;rw[H.1]at this;cases this
 |succ n ih=>
  intro done a w MX hr hy hS nQ H;refine⟨fun h=>(by rw[h]at hr;cases hr),fun j hj=>?_⟩;by_cases hji:j=i
  ·subst hji;exact hy.wpOp hi hS ⟨fun _=>hS,H⟩
  ·have hnd:done.getD i false=false:=by
    have h0:=(mem_ready.1 hr).1;rcases jB i done.size with h'|h'
    ·simp[h']at h0|-;exact h0
    ·simp[jv h']at h0|-
   have hjl:j≠wW:=fun e=>Je hw hnd (e▸hj);have h1:=H.2 j (ready_mono hj hji);obtain⟨hjun,oj,hoj,hall⟩:=mem_ready.1 hj;have Pt:∀e∈oj.after,qb md e=true->e.on≠i:=fun e he hb heq=>(by have h2:=hall e he hb;rw[heq,hnd]at h2;cases h2);have h2:=wpOp_putIf hoj (MX j oj hoj hji hjun Pt) (fun cs b=>hsel i oi cs b hi) (fun cs b=>hsel j oj cs b hoj) hQ hy h1;have hfree':∀k ok,ops[k]?=az ok->k≠i->(done.setIfInBounds j true).getD k true=false->(∀e∈ok.after,qb md e=true->e.on≠i)->oi.apart ops ok=true:=fun k ok hk hki hun hn=>by
    refine MX k ok hk hki ?_ hn;by_cases hjk:j=k
    ·subst hjk;exact hjun
    ·rw[getD_set_ne true hjk]at hun;exact hun
   refine wpOp_mono (fun a' w' h3=>⟨h3.2.1,ih (done.setIfInBounds j true) a' w' hfree' (ready_mono hr (Ne.symm hji)) h3.1 (h3.2.1 hjl) nQ ?_⟩) h2;rw[Bb _ _ hji];exact h3.2.2
theorem bH.take{i:Nat}{oi:Oper}{v:aI}{n:Nat}{done:Array Bool}{a:Act}{w:aG}(hi:ops[i]?=az oi)(hs:yz ops=true)(hf:EU md ops done i=true)(hr:(jc md ops done).contains i=true)(hw:(waitsB md ops wW i&&i !=wW)=true)(hQ:∀c a w,Q (.panic c) (a.put oi.dst v) w->Q (.panic c) a w)(hy:YieldsIf P ops S oi v a)(hS:S w)(h:bH P md ops Q S wW n (done.setIfInBounds i true) (a.put oi.dst v) w):bH P md ops Q S wW (n+1) done a w:=by simp only[cZ,bne_iff_ne,ne_eq]at hw;exact bH.first hi (EY hs) hQ hw.1 n done a w (Region.free_spec hi hf) (by simpa using hr) hy hS hw.2 h
def Closed(md:qV)(ops:Array Oper)(done:Array Bool):Prop:=∀(j:Nat) (o:Oper),ops[j]?=az o->done.getD j false=true->∀e∈o.after,qb md e=true->done.getD e.on false=true
def JX(md:qV)(ops:Array Oper)(done:Array Bool):Bool:=(aO ops.size).all fun j=>!(done.getD j false)||(match ops[j]? with|some o=>o.after.all fun e=>!Region.binds md e||done.getD e.on false|none=>true)
theorem Closed.azp{done:Array Bool}(h:JX md ops done=true):Closed md ops done:=fun j o ho hd e he hb=>by
 unfold JX at h;rw[List.all_eq_true]at h;have hj:j<ops.size:=by
  rcases jB j ops.size with q|q
  ·exact q
  ·rw[jv q]at ho;cases ho
 have:=h j (dJ.2 hj);rw[hd,ho]at this;simp only[Bool.not_true,Bool.false_or,Array.all_eq_true]at this;obtain⟨k,hk,rfl⟩:=Array.getElem_of_mem he;have h2:=this k hk;rw[hb]at h2;simpa using h2
def waitsT(md:qV)(ops:Array Oper):Nat->Nat->Nat->Bool
 |0,_,_=>false
 |n+1,l,i=>match ops[l]? with
  |some o=>o.after.any fun e=>qb md e&&(e.on==i||waitsT md ops n e.on i)
  |none=>false
theorem Nq{done:Array Bool}(hc:Closed md ops done):∀(n l i:Nat),waitsT md ops n l i=true->done.getD l false=true->done.getD i false=true
 |0,_,_,h,_=>by simp[waitsT]at h
 |n+1,l,i,h,hl=>by
  unfold waitsT at h;cases ho:ops[l]? with
  |none=>rw[ho]at h;cases h
  |some o=>
   rw[ho]at h;simp only[Aq,cZ,iq,beq_iff_eq]at h;obtain⟨k,hk,hb,he⟩:=h;have h1:=hc l o ho hl _ (Av hk) hb;rcases he with he|he
   ·rw[he]at h1;exact h1
   ·exact Nq hc n _ i he h1
theorem GZ{n i:Nat}{done:Array Bool}(hc:Closed md ops done)(h:waitsT md ops n wW i=true)(hi:done.getD i false=false):wW∉jc md ops done:=fun hm=>by
 obtain⟨_,o,ho,hall⟩:=mem_ready.1 hm;cases n with
 |zero=>simp[waitsT]at h
 |succ n=>
  unfold waitsT at h;rw[ho]at h;simp only[Aq,cZ,iq,beq_iff_eq]at h;obtain⟨k,hk,hb,he⟩:=h;have h1:=hall _ (Av hk) hb;rcases he with he|he
  ·rw[he,hi]at h1;cases h1
  ·have:=Nq hc n _ i he h1;rw[hi]at this;cases this
theorem Kg{done:Array Bool}{j k:Nat}(h:j≠k):(done.setIfInBounds j true).getD k false=done.getD k false:=by simp[Array.getElem?_setIfInBounds,h]
theorem Closed.set{done:Array Bool}(hc:Closed md ops done){j:Nat}(hj:j∈jc md ops done):Closed md ops (done.setIfInBounds j true):=fun k o ho hd e he hb=>by
 have uG:done.getD e.on false=true->(done.setIfInBounds j true).getD e.on false=true:=fun h=>by
  by_cases q:j=e.on
  ·subst q;rcases jB e.on done.size with h'|h'
   ·simp[h']
   ·simp[jv h']at h
  ·rw[Kg q];exact h
 by_cases q:j=k
 ·subst q;obtain⟨_,o',ho',hall⟩:=mem_ready.1 hj;rw[ho]at ho';injection ho' with ho';subst ho';exact uG (hall e he hb)
 ·rw[Kg q]at hd;exact uG (hc k o ho hd e he hb)
theorem bH.firstT{i t:Nat}{oi:Oper}{v:aI}(hi:ops[i]?=az oi)(hsel:∀(j:Nat) (o:Oper) cs b,ops[j]?=az o->o.op≠.select cs b)(hQ:∀c a w,Q (.panic c) (a.put oi.dst v) w->Q (.panic c) a w)(hw:waitsT md ops t wW i=true):∀(n:Nat) (done:Array Bool) (a:Act) (w:aG),Closed md ops done->(∀j oj,ops[j]?=az oj->j≠i->done.getD j true=false->(∀e∈oj.after,qb md e=true->e.on≠i)->oi.apart ops oj=true)->i∈jc md ops done->YieldsIf P ops S oi v a->S w->i≠wW->bH P md ops Q S wW n (done.setIfInBounds i true) (a.put oi.dst v) w->bH P md ops Q S wW (n+1) done a w:=by
 intro n
 induction n with
 |zero=>
  intro done a w hcl _ hr hy hS nQ H;refine⟨fun h=>(by rw[h]at hr;cases hr),fun j hj=>?_⟩;by_cases hji:j=i
  ·subst hji;exact hy.wpOp hi hS ⟨fun _=>hS,H⟩
  ·have:=ready_mono hj hji;rw[H.1]at this;cases this
 |succ n ih=>
  intro done a w hcl MX hr hy hS nQ H;refine⟨fun h=>(by rw[h]at hr;cases hr),fun j hj=>?_⟩;by_cases hji:j=i
  ·subst hji;exact hy.wpOp hi hS ⟨fun _=>hS,H⟩
  ·have hnd:done.getD i false=false:=by
    have h0:=(mem_ready.1 hr).1;rcases jB i done.size with h'|h'
    ·simp[h']at h0|-;exact h0
    ·simp[jv h']at h0|-
   have hjl:j≠wW:=fun e=>GZ hcl hw hnd (e▸hj);have h1:=H.2 j (ready_mono hj hji);obtain⟨hjun,oj,hoj,hall⟩:=mem_ready.1 hj;have Pt:∀e∈oj.after,qb md e=true->e.on≠i:=fun e he hb heq=>(by have h2:=hall e he hb;rw[heq,hnd]at h2;cases h2);have h2:=wpOp_putIf hoj (MX j oj hoj hji hjun Pt) (fun cs b=>hsel i oi cs b hi) (fun cs b=>hsel j oj cs b hoj) hQ hy h1;have hfree':∀k ok,ops[k]?=az ok->k≠i->(done.setIfInBounds j true).getD k true=false->(∀e∈ok.after,qb md e=true->e.on≠i)->oi.apart ops ok=true:=fun k ok hk hki hun hn=>by
    refine MX k ok hk hki ?_ hn;by_cases hjk:j=k
    ·subst hjk;exact hjun
    ·rw[getD_set_ne true hjk]at hun;exact hun
   refine wpOp_mono (fun a' w' h3=>⟨h3.2.1,ih (done.setIfInBounds j true) a' w' (hcl.set hj) hfree' (ready_mono hr (Ne.symm hji)) h3.1 (h3.2.1 hjl) nQ ?_⟩) h2;rw[Bb _ _ hji];exact h3.2.2
theorem bH.akf{i:Nat}{oi:Oper}{v:aI}{n:Nat}{done:Array Bool}{a:Act}{w:aG}(hi:ops[i]?=az oi)(hs:yz ops=true)(hf:EU md ops done i=true)(hr:(jc md ops done).contains i=true)(hw:(waitsT md ops 6 wW i&&i !=wW&&JX md ops done)=true)(hQ:∀c a w,Q (.panic c) (a.put oi.dst v) w->Q (.panic c) a w)(hy:YieldsIf P ops S oi v a)(hS:S w)(h:bH P md ops Q S wW n (done.setIfInBounds i true) (a.put oi.dst v) w):bH P md ops Q S wW (n+1) done a w:=by simp only[cZ,bne_iff_ne,ne_eq]at hw;exact bH.firstT hi (EY hs) hQ hw.1.1 n done a w (Closed.azp hw.2) (Region.free_spec hi hf) (by simpa using hr) hy hS hw.1.2 h
theorem bI:(∀(a:Act) (d:Nat) (v:aI),a.put (az d) v={a with tmps:=a.tmps.setIfInBounds d v})/\(∀(a:Act) (v:aI),a.put aj v=a)/\(∀{α:Type} {xs:List α} {i:Nat} (h:i<xs.toArray.size),xs.toArray[i]=xs[i]'(by simpa using h))/\(∀{α:Type} {a:α} {bs:List α} {i:Nat} (h:i+1<(a::bs).length),(a::bs)[i+1]=bs[i]'(Nat.lt_of_succ_lt_succ h))/\(∀{α:Type} {a:α} {bs:List α} (h:0<(a::bs).length),(a::bs)[0]=a)/\(∀{α:Type} {bs:List α} {i:Nat} {a:α},bs.toArray.setIfInBounds i a=(bs.set i a).toArray)/\(∀{α:Type} {xs:List α} {x a:α},(x::xs).set 0 a=a::xs)/\(∀{α:Type} {xs:List α} {i:Nat} {x a:α},(x::xs).set (i+1) a=x::xs.set i a):=
 ⟨fun _ _ _=>rfl,fun _ _=>rfl,fun _=>List.getElem_toArray _,fun _=>rfl,fun _=>rfl,gG _ _ _,rfl,rfl⟩
theorem bH.tk(i:Nat){oi:Oper}{v:aI}{n:Nat}{done:Array Bool}{a:Act}{w:aG}(hS:S w)(h:bH P md ops Q S wW n (done.setIfInBounds i true) (a.put oi.dst v) w)(hi:ops[i]?=az oi:=by rfl)(hc:(yz ops&&EU md ops done i&&(jc md ops done).contains i&&(waitsT md ops 6 wW i&&i !=wW&&JX md ops done))=true:=by kernel_rfl)(hw:eH oi (yielded ops a.tmps)=true:=by rfl)(hy:∀w',S w'->(execOp a.eval oi).run P w'=.ok (.value v) w':=by(intro w' hSw;(repeat(have:=And.left hSw;replace hSw:=And.right hSw));go_simp;all_goals with_reducible rfl))(hQ:∀c a w,Q (.panic c) (a.put oi.dst v) w->Q (.panic c) a w:=by exact fun _ _ _ h=>h):bH P md ops Q S wW (n+1) done a w:=by simp only[cZ]at hc;exact bH.akf hi hc.1.1.1 hc.1.1.2 hc.1.2 (by simp only[cZ];exact hc.2) hQ (.inl ⟨hw,hy⟩) hS h
theorem bH.one{i:Nat}{oi:Oper}{n:Nat}{done:Array Bool}{a:Act}{w:aG}(hr:jc md ops done=[i])(hi:ops[i]?=az oi)(h:∀K':Act->aG->Prop,aY (∀a' w',(i≠wW->S w')->((i≠wW->S w')->bH P md ops Q S wW n (done.setIfInBounds i true) a' w')->K' a' w')->if eH oi (yielded ops a.tmps)=true then jK P oi a w K' Q else K' (a.put oi.dst undef) w):bH P md ops Q S wW (n+1) done a w:=
 ⟨fun e=>(by rw[e]at hr;cases hr),fun j hj=>by rw[hr]at hj;simp only[dz]at hj;subst hj;exact wpOp_step hi fun K' hK=>h K' fun a' w' hS hA=>hK a' w' ⟨hS,hA hS⟩⟩
theorem bH.done{listed:Array Bool}{a:Act}{w:aG}(hr:jc md ops listed=[])(h:Q .normal a w):∀n,bH P md ops Q S wW n listed a w
 |0=>⟨hr,h⟩
 |_+1=>⟨fun _=>h,by rw[hr];simp⟩
theorem fQ(wW:Nat)(S:aG->Prop){id:Nat}{a:Act}{w:aG}(hm:P.follows .mixedOrders=true)(hS:S w.drew)(h:S w.drew->bH P .any ops Q S wW ops.size (Array.replicate ops.size false) a w.drew):(Code.region id ops true).wp P Q a w:=
 wp_region_any hm (bH.any _ _ _ _ (h hS))
end
theorem abd{P:Program}{a:Act}{w:aG}{o:Oper}{x1 x2 x3:Operand}{f:FuncId}{ts:Array dL}{v1 v2 v3:aI}(hE:∀args w,(callFunc f args).run P w=.ok (.enter f args) w)(ho:o.op=sP {callee:=kv (kz f),args:=#[x1,x2,x3],argTypes:=ts})(h1:a.eval x1=v1)(h2:a.eval x2=v2)(h3:a.eval x3=v3):(execOp a.eval o).run P w=.ok (.enter f #[v1,v2,v3]) w:=by subst h1;subst h2;subst h3;simp[execOp,ho,resolve,invoke,hE,go_sem]
theorem zZ{P:Program}{ops:Array Oper}{o:Oper}{a:Act}{w:aG}{K:Act->aG->Prop}{Q:Exit->Act->aG->Prop}{E:Prop}(hg:o.guard=aj){x1 x2 x3:Operand}{f:FuncId}{ts:Array dL}{v1 v2 v3:aI}(hE:∀args w,(callFunc f args).run P w=.ok (.enter f args) w)(ho:o.op=sP {callee:=kv (kz f),args:=#[x1,x2,x3],argTypes:=ts})(h1:a.eval x1=v1)(h2:a.eval x2=v2)(h3:a.eval x3=v3){Post:iM->aG->Prop}(hc:bZ P f #[v1,v2,v3] w Post)(hK:∀e w',Post e w'->∃r,e=ax r/\K (a.put o.dst r) w'):if eH o (yielded ops a.tmps)=true then jK P o a w K Q else E:=by
 have hw:eH o (yielded ops a.tmps)=true:=by simp[eH,hg]
 rw[if_pos hw];unfold jK;rw[abd hE ho h1 h2 h3];exact hc.mono fun e w' h=>by obtain⟨r,rfl,hk⟩:=hK e w' h;exact hk
theorem abb{P:Program}{a:Act}{w:aG}{o:Oper}{x1 x2:Operand}{f:FuncId}{ts:Array dL}{v1 v2:aI}(hE:∀args w,(callFunc f args).run P w=.ok (.enter f args) w)(ho:o.op=sP {callee:=kv (kz f),args:=#[x1,x2],argTypes:=ts})(h1:a.eval x1=v1)(h2:a.eval x2=v2):(execOp a.eval o).run P w=.ok (.enter f #[v1,v2]) w:=by subst h1;subst h2;simp[execOp,ho,resolve,invoke,hE,go_sem]
theorem Qs{P:Program}{ops:Array Oper}{o:Oper}{a:Act}{w:aG}{K:Act->aG->Prop}{Q:Exit->Act->aG->Prop}{E:Prop}(hg:o.guard=aj){x1 x2:Operand}{f:FuncId}{ts:Array dL}{v1 v2:aI}(hE:∀args w,(callFunc f args).run P w=.ok (.enter f args) w)(ho:o.op=sP {callee:=kv (kz f),args:=#[x1,x2],argTypes:=ts})(h1:a.eval x1=v1)(h2:a.eval x2=v2){Post:iM->aG->Prop}(hc:bZ P f #[v1,v2] w Post)(hK:∀e w',Post e w'->∃r,e=ax r/\K (a.put o.dst r) w'):if eH o (yielded ops a.tmps)=true then jK P o a w K Q else E:=by
 have hw:eH o (yielded ops a.tmps)=true:=by simp[eH,hg]
 rw[if_pos hw];unfold jK;rw[abb hE ho h1 h2];exact hc.mono fun e w' h=>by obtain⟨r,rfl,hk⟩:=hK e w' h;exact hk
end
section
attribute [local go_sem ↓] fJ fH
theorem Ck:(Tryz.prog.info? 59).map (fun i=>(i.zero,i.size,i.bytes))=az (az (.agg #[ah ag 0,ah ag 0,ah ag 0,ah ag 0,ah ag 0,ay aj 0 0]),6,64):=by kernel_rfl
def Sy(Z:Own)(o:Nat)(w:aG)(b:Nat)(r:Bx×Bool)(L:yM)(e:iM)(w':aG):Prop:=
 e=ax (ah ag (if r.2 then 0 else 5))/\yt Z o w b r.1 L w'
theorem Fa(p N:Nat)(x:Fm)(v:aI)(Z:Own)(o:Nat)(w:aG)(b:Nat)(X:Bx)(L:yM)(h:pO Z o w b X L)(ho:2<=o)(hx:lW X N)(hN:N<1000000000000)(hp:p<X.bE)(hc0:0<=x.cls)(hc:x.cls.toNat<X.aX)(hv:iQ Z w x.data v):bZ aH 50 #[pt b,ah ag p,MU x v] w (Sy Z o w b (X.iR p x) L):=by
 obtain⟨c,hcc⟩:∃c:Nat,x.cls=(c:Int):=⟨x.cls.toNat,by omega⟩;have QA:x.cls.toNat=c:=by omega
 rw[QA]at hc;obtain⟨xi,xf,xt,xc,xe,xd⟩:=x;simp only at hcc QA hc0 hv;subst hcc;have aeQ:=hv;obtain⟨a,cap,rfl,d1,d2,d3⟩:=hv;obtain⟨w1,gK⟩:∃w1:aG,w.alloc (af #[ah ag xi,ah ag xf,ah ag xt,ah ag c,ah ag xe,ay a xd.length cap] 59)=w1:=⟨_,rfl⟩;have BW:aY (aN w.heap.size w w1):=by rw[<-gK];exact(aQ _ _).alloc (aC _) _
 have FB:aY (dh w1 w.heap.size 59 #[ah ag xi,ah ag xf,ah ag xt,ah ag c,ah ag xe,ay a xd.length cap]):=by rw[<-gK];exact dh.new w _ _
 have H1:aY (pO (fr Z w.heap.size) o w1 b X L):=h.Zj.below BW.o;have HH:=aA (JS p c _ o w1 b X L H1.o hp hc);obtain⟨hg,t4,t5⟩:=H1.o.gg p c hp hc;have HG:=aA (QQ _ _ N _ _ w1.drew (hx.g p c hp hc) (by omega) hg.drew);obtain⟨g,⟨aeK,cs,e1,e2,e3⟩,tg⟩:=H1.o.g p hp;have cg:=H1.o.cg hp hx.p1;rw[e1]at cg;have cc:w1.cell? ⟨g,c,aj⟩=az (pt (L.gb p c)):=by rw[e2.cell];exact e3 c hc
 have p0:(0:Int)<=(p:Int):=by omega
 have p8:(p:Int)<8:=by have:=hx.p1;omega
 have c0:(0:Int)<=(c:Int):=by omega
 have c8:(c:Int)<(X.aX:Int):=by omega
 have f3:w1.cell? ⟨w.heap.size,3,aj⟩=az (ah ag c):=FB.o.cell 3;have KP:aY (∀w',Ch (· =L.gc p c) w1 w'->w'.cell? ⟨b,10+p,aj⟩=az (ay (az ⟨g,0,aj⟩) X.aX aeK)/\w'.cell? ⟨w.heap.size,3,aj⟩=az (ah ag c)/\w'.cell? ⟨g,c,aj⟩=az (pt (L.gb p c))):=fun w' qg=>by
  refine⟨?_,?_,?_⟩
  ·rw[qg.cell (p:=⟨b,10+p,aj⟩) H1.o.root.1.lt (fun q=>by have h1:=H1.o.root.2;simp only at q;rw[q,t5]at h1;simp at h1)];exact cg
  ·rw[qg.cell (p:=⟨w.heap.size,3,aj⟩) FB.o.lt (fun q=>dh.sU FB.o hg.c (by decide) q)];exact f3
  ·rw[qg.cell (p:=⟨g,c,aj⟩) e2.lt (fun q=>by simp only at q;rw[q,t5]at tg;simp at tg)];exact cc
 have LTb:=aA h.root.1.lt;clear h hg e1 e2 e3 tg;have HXX:=aA hx;by_cases hf:(dR X.gv p c).uH<=(dR X.gv p c).NK
 ·have E1:Gr (dR X.gv p c)=5:=if_pos hf;have E2:(dR X.gv p c).uR.1=dR X.gv p c:=by unfold Gv.uR;rw[if_pos hf]
  have E3:X.iR p ⟨xi,xf,xt,c,xe,xd⟩=({X with ov:=X.ov+1},false):=by unfold Bx.iR;simp only[cK];unfold Gv.uR;rw[if_pos hf];rfl
  rw[E1,E2]at HG;rw[E3];have q1:IntKind.i64.wrap ((X.ov:Int)+1)=(X.ov:Int)+1:=fE _ (by have:=hx.ov;omega);have iZ:aY (∀w2,dh w2 (L.gc p c) 206 (gvC (dR X.gv p c))->Ch (· =L.gc p c) w1 w2->w2.cell? ⟨b,35,aj⟩=az (ah ag X.ov)/\w2.frozen? ⟨b,35,aj⟩=false/\yt Z o w b {X with ov:=X.ov+1} L (w2.setCell ⟨b,35,aj⟩ (ah ag ((X.ov:Int)+1)))):=fun w2 h1 h2=>by
   have m2:=H1.o.afS hp hc HXX.o.gv ho h2 h1;rw[acE _ HXX.o.gv hp hc]at m2;have c1:Ch (· =b) w2 (w2.setCell ⟨b,35,aj⟩ (ah ag ((X.ov:Int)+1))):=(Ch.refl (· =b) w2).setCell (p:=⟨b,35,aj⟩) (.inl rfl) _;have m3:pO (fr Z w.heap.size) o (w2.setCell ⟨b,35,aj⟩ (ah ag ((X.ov:Int)+1))) b {X with ov:=X.ov+1} L:=m2.aae ho c1 (by
    have:=m2.root.1.jd 35 (ah ag ((X.ov:Int)+1));unfold bxC at this|-;rw[mH 36 (bxV X L) (bxV {X with ov:=X.ov+1} L) 35 (ah ag ((X.ov:Int)+1)) (fun i hi=>by
     unfold bxV;by_cases e:i=35
     ·subst e;simp
     ·simp only[e,if_false]
      repeat(split;rfl)
      omega)]at this
    exact this)
   refine⟨m2.cov,m2.root.1.frozen 35,_,_,m3,?_⟩;have c0:Ch (fun k=>k=b\/k=L.gc p c) w (w2.setCell ⟨b,35,aj⟩ (ah ag ((X.ov:Int)+1))):=((Ch.bY BW.o).trans h2 (fun _ _ e=>.inr e)).trans c1 (fun _ _ e=>.inl e);refine Nx.afz c0 fun k hk e=>?_;rcases e with e|e
   ·have:=H1.o.root.2;rw[gL LTb.o]at this;rw[e,this]
   ·rw[e,<-gL (Z:=Z) (n:=w.heap.size) (k:=L.gc p c) (by rw[<-e];exact hk),t5]
  have KQ:aY (∀w',w'=w1\/w'=w1.drew->Ch (· =L.gc p c) w1 w'):=fun w' e=>by rcases e with rfl|rfl;exact Ch.refl _ _;exact(Ch.refl _ _).drew
  unfold pt at *;unfold MU;clear hx hf FB H1 LTb HXX;generalize hAR:(Sy Z o w b _ L)=NW;have HAR:=aA hAR;clear hAR;go_enter func50,ntmps50;go_wp2_with (first
   |(go_at_call 91;refine HH.o.mono ?_;rintro e w' ⟨rfl,rfl⟩))
  clear gK;go_region_held3 (fun w'=>w'.cell? ⟨b,10+p,aj⟩=az (ay (az ⟨g,0,aj⟩) X.aX aeK)/\w'.cell? ⟨w.heap.size,3,aj⟩=az (ah ag c)/\w'.cell? ⟨g,c,aj⟩=az (au (az ⟨L.gb p c,0,aj⟩)))
   (first|exact KP.o _ (Ch.refl _ _).drew|exact KP.o _ B2.o|exact KP.o _ B2.o.drew)
   (first
    |(go_at_call 93;refine HG.o.mono ?_;rintro e w2 ⟨rfl,b1,b2⟩;have B1:=aA b1;have B2:aY (Ch (· =L.gc p c) w1 w2):=(show Ch (· =L.gc p c) w1 w2 from⟨b2.os,b2.tape,b2.output,b2.size,b2.block⟩);clear b1 b2))
  obtain⟨y1,y2,y3⟩:=iZ.out w2 B1.o B2.o;have Y3:=aA y3;clear y3 iZ;go_wp2_with fail;rw[<-HAR.o];exact⟨rfl,Y3.o⟩
 ·have E1:Gr (dR X.gv p c)=0:=if_neg hf;obtain⟨gx,hgx⟩:∃gx,(dR X.gv p c).uR.1=gx:=⟨_,rfl⟩;have E3:X.iR p ⟨xi,xf,xt,c,xe,xd⟩=({X with gv:=mW X.gv p c gx,q:=mW X.q p c (dR X.q p c++[⟨xi,xf,xt,c,xe,xd⟩])},true):=by
   unfold Bx.iR;simp only[cK];rw[<-hgx];unfold Gv.uR;rw[if_neg hf];rfl
  rw[E1,hgx]at HG;rw[E3];have iZ:aY (∀w2,dh w2 (L.gc p c) 206 (gvC gx)->Ch (· =L.gc p c) w1 w2->pO (fr Z w.heap.size) o w2 b {X with gv:=mW X.gv p c gx} L):=fun w2 h1 h2=>H1.o.afS hp hc HXX.o.gv ho h2 h1;have NXF:aY (∀w2 w3 dN,Ch (· =L.gc p c) w1 w2->Nx (fr Z w.heap.size) o w2 dN w3->Nx Z o w dN w3):=fun w2 w3 dN h2 h3=>by have n1:Nx Z o w (fr Z w.heap.size) w2:=Nx.afz ((Ch.bY BW.o).trans h2 (fun _ _ e=>e)) fun k hk e=>(by rw[e,<-gL (Z:=Z) (n:=w.heap.size) (k:=L.gc p c) (by rw[<-e];exact hk),t5]);exact n1.trans h3
  have FBC:aY (∀w2,Ch (· =L.gc p c) w1 w2->dh w2 w.heap.size 59 #[ah ag xi,ah ag xf,ah ag xt,ah ag c,ah ag xe,ay a xd.length cap]/\iQ (fr Z w.heap.size) w2 xd (ay a xd.length cap)):=fun w2 h2=>
   ⟨FB.o.ch h2 (fun q=>dh.sU FB.o (H1.o.gg p c hp hc).1.c (by decide) q),(aeQ.jD (Ch.bY (S:=fun _=>False) BW.o) (fun k hk=>gL hk) (fun _ s=>s.elim)).jD h2 (fun _ _=>rfl) (fun k e=>by rw[e,t5];simp only;omega)⟩
  have HP:=aA hp;have Xj:=aA hc;have H8:=aA hx.p1;have HQ:=aA hx.q;have QL:=aA (hx.Ws hp hc);have DL:=aA d3;clear hx hf FB H1 LTb HXX d1 d2 d3 aeQ t4;generalize hAR:(Sy Z o w b _ L)=NW;have HAR:=aA hAR;clear hAR;unfold pt at *;unfold MU;go_enter func50,ntmps50;go_wp2_with (first
   |(go_at_call 91;refine HH.o.mono ?_;rintro e w' ⟨rfl,rfl⟩))
  clear gK;go_region_held3 (fun w'=>w'.cell? ⟨b,10+p,aj⟩=az (ay (az ⟨g,0,aj⟩) X.aX aeK)/\w'.cell? ⟨w.heap.size,3,aj⟩=az (ah ag c)/\w'.cell? ⟨g,c,aj⟩=az (au (az ⟨L.gb p c,0,aj⟩)))
   (first|exact KP.o _ (Ch.refl _ _).drew|exact KP.o _ B2.o|exact KP.o _ B2.o.drew)
   (first
    |(go_at_call 93;refine HG.o.mono ?_;rintro e w2 ⟨rfl,b1,b2⟩;have B1:=aA b1;have B2:aY (Ch (· =L.gc p c) w1 w2):=(show Ch (· =L.gc p c) w1 w2 from⟨b2.os,b2.tape,b2.output,b2.size,b2.block⟩);clear b1 b2))
  have M2:=aA (iZ.out w2 B1.o B2.o);obtain⟨fb2,aqD⟩:=FBC.o w2 B2.o;have FB2:=aA fb2;have DT2:=aA aqD;clear fb2 aqD iZ FBC KP cg cc f3 HG HH;obtain⟨⟨Q,q1,q2,q3⟩,q4⟩:=M2.o.q p c HP.o Xj.o;have cq:=M2.o.cq (p:=p) HP.o H8.o;have cv:=M2.o.cqv HP.o Xj.o;obtain⟨qa,Jo,qe,_,azx,_⟩:=gZ (d:=((⟨0,0,0,0,0,[]⟩:Fm),ay aj 0 0)) xw (by decide) q2;rw[qe]at cv;have k0:=FB2.o.cell 0;have k1:=FB2.o.cell 1;have k2:=FB2.o.cell 2;have k3:=FB2.o.cell 3;have k4:=FB2.o.cell 4;have k5:=FB2.o.cell 5;simp only[di,fC,dD]at k0 k1 k2 k3 k4 k5;have KS:aY (∀w',aN w2.heap.size w2 w'->w'.cell? ⟨b,2+p,aj⟩=az (ay (az ⟨L.qr p,0,aj⟩) X.aX X.aX)/\w'.cell? ⟨L.qr p,c,aj⟩=az (ay qa Q.length Jo)/\w'.cell? ⟨w.heap.size,0,aj⟩=az (ah ag xi)/\w'.cell? ⟨w.heap.size,1,aj⟩=az (ah ag xf)/\w'.cell? ⟨w.heap.size,2,aj⟩=az (ah ag xt)/\w'.cell? ⟨w.heap.size,3,aj⟩=az (ah ag c)/\w'.cell? ⟨w.heap.size,4,aj⟩=az (ah ag xe)/\w'.cell? ⟨w.heap.size,5,aj⟩=az (ay a xd.length cap)):=fun w' hb=>
   ⟨(hb.cell (p:=⟨b,2+p,aj⟩) (aZ _ _ cq)).trans cq,(hb.cell (p:=⟨L.qr p,c,aj⟩) (aZ _ _ cv)).trans cv,(hb.cell (p:=⟨w.heap.size,0,aj⟩) FB2.o.lt).trans k0,(hb.cell (p:=⟨w.heap.size,1,aj⟩) FB2.o.lt).trans k1,(hb.cell (p:=⟨w.heap.size,2,aj⟩) FB2.o.lt).trans k2,(hb.cell (p:=⟨w.heap.size,3,aj⟩) FB2.o.lt).trans k3,(hb.cell (p:=⟨w.heap.size,4,aj⟩) FB2.o.lt).trans k4,(hb.cell (p:=⟨w.heap.size,5,aj⟩) FB2.o.lt).trans k5⟩
  clear cq cv k0 k1 k2 k3 k4 k5;go_wp2_with fail;refine fQ 23 (fun w'=>w'.cell? ⟨b,2+p,aj⟩=az (ay (az ⟨L.qr p,0,aj⟩) X.aX X.aX)/\w'.cell? ⟨L.qr p,c,aj⟩=az (ay qa Q.length Jo)/\w'.cell? ⟨w.heap.size,0,aj⟩=az (ah ag xi)/\w'.cell? ⟨w.heap.size,1,aj⟩=az (ah ag xf)/\w'.cell? ⟨w.heap.size,2,aj⟩=az (ah ag xt)/\w'.cell? ⟨w.heap.size,3,aj⟩=az (ah ag c)/\w'.cell? ⟨w.heap.size,4,aj⟩=az (ah ag xe)/\w'.cell? ⟨w.heap.size,5,aj⟩=az (ay a xd.length cap)) (by kernel_rfl) (KS.o _ ⟨rfl,rfl,rfl,aC _,fun _ _=>rfl⟩) (fun aW=>?_);refine bH.tk 0 aW ?_;try simp only[bI]
  refine bH.tk 1 aW ?_;try simp only[bI]
  refine bH.tk 2 aW ?_;try simp only[bI]
  refine bH.tk 3 aW ?_;try simp only[bI]
  refine bH.tk 4 aW ?_;try simp only[bI]
  refine bH.tk 5 aW ?_;try simp only[bI]
  refine bH.tk 6 aW ?_;try simp only[bI]
  refine bH.tk 7 aW ?_;try simp only[bI]
  refine bH.tk 8 aW ?_;try simp only[bI]
  refine bH.tk 9 aW ?_;try simp only[bI]
  refine bH.tk 10 aW ?_;try simp only[bI]
  refine bH.tk 11 aW ?_;try simp only[bI]
  refine bH.tk 12 aW ?_;try simp only[bI]
  refine bH.tk 13 aW ?_;try simp only[bI]
  refine bH.tk 14 aW ?_;try simp only[bI]
  refine bH.tk 15 aW ?_;try simp only[bI]
  refine bH.tk 16 aW ?_;try simp only[bI]
  refine bH.tk 17 aW ?_;try simp only[bI]
  refine bH.tk 18 aW ?_;try simp only[bI]
  refine bH.one (i:=19) (by kernel_rfl) rfl (fun K hK=>?_);go_simp;refine(xY ⟨xi,xf,xt,c,xe,xd⟩ (ay a xd.length cap) (fr Z w.heap.size) _ (DT2.o.jD (S:=fun _=>False) (Ch.refl _ _).drew (fun _ _=>rfl) (fun _ s=>s.elim))).mono ?_;rintro e wc ⟨v',rfl,bc,ow⟩;have BC:aY (aN w2.heap.size w2 wc):=⟨bc.os,bc.tape,bc.output,bc.size,bc.block⟩;have OW:aY (wc.ownsRow w2.heap.size 5 1 v' xd.length (xd.flatMap Rq)):=ow;obtain⟨a',pG,rfl,_⟩:=gZ (d:=(0:Int)) AO (by decide) ow;clear bc ow;refine hK.out _ _ (fun _=>KS.o _ BC.o) (fun bU=>?_);have aW:=bU (by decide);clear hK bU;try simp only[bI]
  try simp only[MU]
  refine bH.one (i:=20) (by kernel_rfl) rfl (fun K hK=>?_);go_simp;have BA:aY (aN w2.heap.size w2 (wc.alloc (af #[ah ag xi,ah ag xf,ah ag xt,ah ag c,ah ag xe,ay a' xd.length pG] 59))):=BC.o.alloc (BC.o.size) _;refine hK.out _ _ (fun _=>KS.o _ BA.o) (fun bU=>?_);have aW:=bU (by decide);clear hK bU;try simp only[bI]
  have OQ:aY ((wc.alloc (af #[ah ag xi,ah ag xf,ah ag xt,ah ag c,ah ag xe,ay a' xd.length pG] 59)).ownsRow 0 59 6 (ay qa Q.length Jo) Q.length (Q.flatMap Cx)):=by have h1:=q2;rw[qe]at h1;exact(fO h1 (Ch.bY (S:=fun _=>False) BC.o) (fun _ _ s=>s.elim)).alloc _
  obtain⟨i0,hi0,wC,uX,wK⟩:=dX Ck;have RN:aY (Reads (wc.alloc (af #[ah ag xi,ah ag xf,ah ag xt,ah ag c,ah ag xe,ay a' xd.length pG] 59)) (wc.heap.size+1) 6 (az ⟨wc.heap.size,0,aj⟩) 1 [ah ag xi,ah ag xf,ah ag xt,ah ag c,ah ag xe,ay a' xd.length pG]):=
   ⟨rfl,fun _=>⟨_,rfl,by simp,fun q u hu=>uo (cs:=#[ah ag xi,ah ag xf,ah ag xt,ah ag c,ah ag xe,ay a' xd.length pG]) (t:=59) (fr:=(0,0)) (heap_alloc_new wc _) q u hu⟩⟩
  refine bH.one (i:=21) (by kernel_rfl) rfl (fun K hK=>?_);refine fV _ (by rfl) (.tmp 53) (.tmp 56) 110 (by rfl) 0 59 i0 _ 6 64 underlying110 hi0 wC uX wK rfl (by decide) _ _ _ (by rfl) OQ.o _ (az ⟨wc.heap.size,0,aj⟩) 1 1 [ah ag xi,ah ag xf,ah ag xt,ah ag c,ah ag xe,ay a' xd.length pG] (by rfl) RN.o ?_ ?_ ?_ ?_ ?_
  ·intro u hu;simp only[dG,dP,or_false]at hu;rcases hu with rfl|rfl|rfl|rfl|rfl|rfl<;>rfl
  ·have:=QL.o;have h2:Q.length=(dR X.q p c).length:=by rw[<-q1];simp
   unfold fB;omega
  ·have:=QL.o;have h2:Q.length=(dR X.q p c).length:=by rw[<-q1];simp
   omega
  ·exact bS _
  intro v2 wd uz GM PX;have O2:=aA uz;have G2:=aA GM;obtain⟨a2,cap2,rfl,_⟩:=gZ (d:=((⟨0,0,0,0,0,[]⟩:Fm),ay aj 0 0)) (xs:=Q++[(⟨xi,xf,xt,c,xe,xd⟩,ay a' xd.length pG)]) xw (by decide) (by have:=uz;rw[show Q.flatMap Cx++[ah ag xi,ah ag xf,ah ag xt,ah ag c,ah ag xe,ay a' xd.length pG]=(Q++[((⟨xi,xf,xt,c,xe,xd⟩:Fm),ay a' xd.length pG)]).flatMap Cx by simp[Cx]]at this;exact this);have NBQ:aY (∀k,(ay qa Q.length Jo).ownBlock=az k->fr Z w.heap.size k=(o,2,p,c)/\k<w2.heap.size):=fun k hk=>by rw[<-qe]at hk;exact⟨q4 k hk,(q2.lt k hk).2⟩
  have FAR:aY (∀g t,g<w2.heap.size->fr Z w.heap.size g=t->t≠(o,2,p,c)->∀i,wd.cell? ⟨g,i,aj⟩=(wc.alloc (af #[ah ag xi,ah ag xf,ah ag xt,ah ag c,ah ag xe,ay a' xd.length pG] 59)).cell? ⟨g,i,aj⟩):=fun g t hg e1 e2 i=>
   World.cell?_of_block (G2.o.block g (bW hg BA.o.size) fun e=>e2 (by rw[<-e1];exact(NBQ.o g e.symm).1))
  have QRT:=aA (M2.o.qr p HP.o);have KD:aY (wd.cell? ⟨b,2+p,aj⟩=az (ay (az ⟨L.qr p,0,aj⟩) X.aX X.aX)/\wd.cell? ⟨L.qr p,c,aj⟩=az (ay qa Q.length Jo)/\wd.cell? ⟨w.heap.size,0,aj⟩=az (ah ag xi)/\wd.cell? ⟨w.heap.size,1,aj⟩=az (ah ag xf)/\wd.cell? ⟨w.heap.size,2,aj⟩=az (ah ag xt)/\wd.cell? ⟨w.heap.size,3,aj⟩=az (ah ag c)/\wd.cell? ⟨w.heap.size,4,aj⟩=az (ah ag xe)/\wd.cell? ⟨w.heap.size,5,aj⟩=az (ay a xd.length cap)):=by obtain⟨x0,x1,x2,x3,x4,x5,x6,x7⟩:=KS.o _ BA.o;have t0:=M2.o.root.2;have nf:∀i,wd.cell? ⟨w.heap.size,i,aj⟩=_:=FAR.o w.heap.size _ FB2.o.lt (lL (aC _)) (by simp);exact⟨(FAR.o b _ M2.o.root.1.lt t0 (by simp) _).trans x0,(FAR.o _ _ QRT.o.1.lt QRT.o.2 (by simp) _).trans x1,(nf 0).trans x2,(nf 1).trans x3,(nf 2).trans x4,(nf 3).trans x5,(nf 4).trans x6,(nf 5).trans x7⟩
  have cv:=KD.o.2.1;have cf:wd.frozen? ⟨L.qr p,c,aj⟩=false:=by have b1:=(QRT.o.1.below BA.o QRT.o.1.lt).grown G2.o fun e=>(by have h1:=(NBQ.o _ e.symm).1;rw[QRT.o.2]at h1;simp at h1);exact b1.frozen c
  clear uz GM;refine hK.out _ _ (fun _=>KD.o) (fun bU=>?_);have aW:=bU (by decide);clear hK bU;try simp only[bI]
  refine bH.tk 22 aW ?_;try simp only[bI]
  refine bH.one (i:=23) (by kernel_rfl) rfl (fun K hK=>?_);go_simp;refine hK.out _ _ (fun h=>absurd rfl h) (fun _=>?_);clear hK;refine bH.done (by kernel_rfl) ?_ _;try simp only[bI]
  have aoF:=aA (M2.o.asi (x:=⟨xi,xf,xt,c,xe,xd⟩) HP.o Xj.o HQ.o ho q1 q3 BC.o OW.o DL.o O2.o (by rw[qe];exact G2.o) (by rw[qe];simpa using PX));clear cv cf PX q1 q2 q3 q4 azx qe;go_wp2_with fail;rw[<-HAR.o];obtain⟨dN,m3,n3⟩:=aoF.out;exact⟨rfl,dN,_,m3,NXF.o _ _ _ B2.o n3⟩
section
variable{Z:Own}{o b:Nat}{X:Bx}{L:yM}
theorem pO.azw{w2 wd:aG}(h:pO Z o w2 b X L){p c:Nat}(hp:p<X.bE)(hc:c<X.aX)(dim:Bc X.q X.bE X.aX)(ho:2<=o){v2:aI}{Q:List (Fm×aI)}(hQ3:∀y∈Q,iQ Z w2 y.1.data y.2)(bd:aN w2.heap.size w2 wd)(uz:wd.ownsRow 0 59 6 v2 Q.length (Q.flatMap Cx))(loc:∀g,v2.ownBlock=az g->w2.heap.size<=g):∃dN,pO dN o (wd.setCell ⟨L.qr p,c,aj⟩ v2) b {X with q:=mW X.q p c (Q.map (·.1))} {L with qv:=NT L.qv p c v2}/\Nx Z o w2 dN (wd.setCell ⟨L.qr p,c,aj⟩ v2):=by
 have hr:=h.qr p hp;have S3:Ch (fun k=>k=L.qr p) w2 (wd.setCell ⟨L.qr p,c,aj⟩ v2):=(Ch.bY (S:=fun k=>k=L.qr p) bd).setCell (p:=⟨L.qr p,c,aj⟩) (.inl rfl) v2;obtain⟨dN,Pw⟩:∃dN:Own,dN=fun k=>if v2.ownBlock=az k then(o,2,p,c)else fr Z w2.heap.size k:=⟨_,rfl⟩
 have he:∀k,k<w2.heap.size->dN k=Z k:=fun k hk=>by rw[Pw];simp only;rw[if_neg (fun e=>by have:=loc k e;omega),gL hk]
 have aeu:dh wd (L.qr p) 110 (((aO X.aX).map (L.qv p)).toArray):=hr.1.below bd hr.1.lt;refine⟨dN,h.asz hp hc dim ho S3 he (fun i e=>.inl (by rw[e];exact hr.2)) ?_ ?_ ?_,⟨S3.mono fun k _ s=>by rw[s,hr.2],he,fun k h1 h2=>?_⟩⟩
 ·have:=aeu.jd c v2;rw[mH X.aX (L.qv p) (NT L.qv p c v2 p) c v2 (fun i _=>by
   unfold NT;by_cases e:i=c
   ·simp[e]
   ·simp[e])]at this
  exact this
 ·refine⟨Q,rfl,nO uz v2 fun g hg e=>?_,fun y hy=>(hQ3 y hy).jD S3 he fun k s=>by rw[s,hr.2];simp only;omega⟩;have:=loc g hg;have:=hr.1.lt;simp only at e;omega
 ·intro g hg;rw[Pw];simp only;rw[if_pos hg]
 ·rw[Pw];simp only;by_cases e2:v2.ownBlock=az k
  ·rw[if_pos e2];exact .inl rfl
  ·rw[if_neg e2,lL h1];exact .inr (bS _)
end
def Zw(Z:Own)(o:Nat)(w:aG)(b:Nat)(X':Bx)(L:yM)(f:Fm)(e:iM)(w':aG):Prop:=
 ∃v,e=ax (MU f v)/\iQ Z w f.data v/\yt Z o w b X' L w'
theorem Vd(p c N:Nat)(f:Fm)(Z:Own)(o:Nat)(w:aG)(b:Nat)(X:Bx)(L:yM)(h:pO Z o w b X L)(ho:2<=o)(hx:lW X N)(hN:N<=1000000000000)(hp:p<X.bE)(hc:c<X.aX){rest:List Fm}(hf:dR X.q p c=f::rest):bZ aH 127 #[pt b,ah ag p,ah ag c] w (Zw Z o w b (X.pop p c) L f):=by
 obtain⟨⟨Q0,q1,q2,q3⟩,q4⟩:=h.q p c hp hc;rw[hf]at q1;obtain⟨⟨⟨fi,ff,ft,fc,fe,fd⟩,fv⟩,Q,rfl⟩:∃y Q,Q0=y::Q:=by cases Q0 with
  |nil=>cases q1
  |cons y Q=>exact⟨y,Q,rfl⟩
 simp only[List.map_cons,List.cons.injEq]at q1;obtain⟨rfl,q1⟩:=q1;have ahx:=q3 _ List.mem_cons_self;simp only at ahx;obtain⟨da,dc,rfl,dd1,dd2,dd3⟩:=id ahx;obtain⟨g,Jo,qe,hge⟩:∃g Jo,L.qv p c=ay (az ⟨g,0,aj⟩) (Q.length+1) Jo/\Q.length+1<=Jo:=by
  rcases q2.2 with⟨_,e⟩|⟨g,cap,cur,e,_,_,h2,_⟩
  ·simp at e
  ·exact⟨g,cap,by rw[e];rfl,by simpa using h2⟩
 rw[qe]at q2;have hgl:g<w.heap.size:=(q2.lt g rfl).2;obtain⟨w1,gK⟩:∃w1:aG,(w.alloc (af #[ah ag 0,ah ag 0,ah ag 0,ah ag 0,ah ag 0,ay aj 0 0] 59)).alloc (af #[ah ag fi,ah ag ff,ah ag ft,ah ag fc,ah ag fe,ay da fd.length dc] 59)=w1:=⟨_,rfl⟩;have BW:aY (aN w.heap.size w w1):=by rw[<-gK];exact((aQ _ _).alloc (aC _) _).alloc (by simp) _
 have S1:aY (w1.heap.size=w.heap.size+2):=by rw[<-gK,aY];simp
 have Bf:=aA gK;have cq:=h.cq hp hx.p1;have cv:=h.cqv hp hc;rw[qe]at cv;have fcl:=q2.cells (g:=g) rfl;have ad:∀k,(⟨g,0,aj⟩:fA).add k=⟨g,k,aj⟩:=fun k=>by unfold Addr.add;split<;>simp_all
 have y0:=fcl 0 _ rfl;have y1:=fcl 1 _ rfl;have y2:=fcl 2 _ rfl;have y3:=fcl 3 _ rfl;have y4:=fcl 4 _ rfl;have y5:=fcl 5 _ rfl;simp only[ad]at y0 y1 y2 y3 y4 y5;have l1:b<w.heap.size:=h.root.1.lt;have l2:L.qr p<w.heap.size:=(h.qr p hp).1.lt;have p0:(0:Int)<=(p:Int):=by omega
 have p8:(p:Int)<8:=by have:=hx.p1;omega
 have c0:(0:Int)<=(c:Int):=by omega
 have c8:(c:Int)<(X.aX:Int):=by omega
 have QL:aY (Q.length<=64/\(dR X.q p c).tail=Q.map (·.1)/\0<(dR X.q p c).length):=by have ql:=hx.Ws hp hc;rw[hf,<-q1]at ql;rw[aY,hf,<-q1];simp at ql|-;omega
 have HH:=aA h;have HX:=aA hx;have Q1:=aA q1;have Q2:=aA q2;have Q3:=aA q3;have Q4:=aA q4;have QE:=aA qe;have FD:=aA ahx;have GE:=aA hge;generalize hPR:Zw Z o w b (X.pop p c) L _=NW;have HPR:=aA hPR;clear h hx hf q1 q2 q3 q4 qe ahx dd1 dd2 dd3 hge hPR fcl ad gK;unfold pt;have l3:b<w.heap.size+1:=by omega
 have l4:L.qr p<w.heap.size+1:=by omega
 have l5:g<w.heap.size+1:=by omega
 go_enter func127,ntmps127;go_wp2_with fail
 rw[Bf.o];have cq1:=(BW.o.cell (p:=⟨b,2+p,aj⟩) l1).trans cq;have cv1:=(BW.o.cell (p:=⟨L.qr p,c,aj⟩) l2).trans cv;have b1:(1:Int)<=(Q.length:Int)+1:=by omega
 have b2:((Q.length+1:Nat):Int)<=(Jo:Int):=by have:=GE.o;omega
 clear cq cv y0 y1 y2 y3 y4 y5 l3 l4 l5;have KS:aY (∀w',aN w1.heap.size w1 w'->w'.cell? ⟨b,2+p,aj⟩=az (ay (az ⟨L.qr p,0,aj⟩) X.aX X.aX)):=fun w' hb=>(hb.cell (p:=⟨b,2+p,aj⟩) (aZ _ _ cq1)).trans cq1;refine fQ 11 (fun w'=>w'.cell? ⟨b,2+p,aj⟩=az (ay (az ⟨L.qr p,0,aj⟩) X.aX X.aX)) (by kernel_rfl) (KS.o _ ⟨rfl,rfl,rfl,aC _,fun _ _=>rfl⟩) (fun aW=>?_);refine bH.tk 0 aW ?_;try simp only[bI]
 refine bH.tk 1 aW ?_;try simp only[bI]
 refine bH.tk 2 aW ?_;try simp only[bI]
 refine bH.tk 3 aW ?_;try simp only[bI]
 refine bH.tk 4 aW ?_;try simp only[bI]
 refine bH.tk 5 aW ?_;try simp only[bI]
 refine bH.tk 6 aW ?_;try simp only[bI]
 refine bH.tk 7 aW ?_;try simp only[bI]
 refine bH.tk 8 aW ?_;try simp only[bI]
 have TL:aY (Reads w1 w1.heap.size 6 (if Jo=1 then az ⟨g,0,aj⟩else az ⟨g,6,aj⟩) Q.length (Q.flatMap Cx)):=by have r:=((Reads.Jf Q2.o).below BW.o).more (B':=w1.heap.size) BW.o.size;have r2:=r.cut (k:=1) (cap:=Jo) (by omega) GE.o;have e:(az (⟨g,0,aj⟩:fA)).map (·.add (1*6))=az ⟨g,6,aj⟩:=rfl;rw[e]at r2;exact r2
 generalize(if Jo=1 then az (⟨g,0,aj⟩:fA)else az ⟨g,6,aj⟩)=TA at *;obtain⟨i0,hi0,wC,uX,wK⟩:=dX Ck;refine bH.one (i:=9) (by kernel_rfl) rfl (fun K hK=>?_);refine fV _ (by rfl) (.const (ay aj 0 0)) (.tmp 29) 110 (by rfl) w1.heap.size 59 i0 _ 6 64 underlying110 hi0 wC uX wK rfl (by decide) _ 0 [] (by rfl) (dM _ w1.heap.size 59 6) _ TA Q.length (Jo-1) (Q.flatMap Cx) (by rfl) (TL.o.drew) ?_ ?_ ?_ ?_ ?_
 ·intro u hu;simp only[iF,Cx,dG,dP,or_false]at hu;obtain⟨y,hy,hu⟩:=hu;obtain⟨a',c',e',_⟩:=Q3.o y (dU _ hy);rcases hu with rfl|rfl|rfl|rfl|rfl|rfl;all_goals first|rfl|(rw[e'];rfl)
 ·have:=QL.o.1;unfold fB;omega
 ·have:=QL.o.1;omega
 ·exact aC _
 intro v2 wd uz GM PX;try simp only[ry,kg]at uz
 have O2:=aA uz;have BD:aY (aN w1.heap.size w1 wd):=⟨GM.os,GM.tape,GM.output,GM.size,fun k hk=>GM.block k hk (by simp[dV])⟩;obtain⟨a2,cap2,rfl,_,_,uu⟩:=gZ (d:=((⟨0,0,0,0,0,[]⟩:Fm),ay aj 0 0)) xw (by decide) uz;have cv:wd.cell? ⟨L.qr p,c,aj⟩=_:=(BD.o.cell (p:=⟨L.qr p,c,aj⟩) (aZ _ _ cv1)).trans cv1;have cf:wd.frozen? ⟨L.qr p,c,aj⟩=false:=(((HH.o.qr p hp).1.below BW.o l2).below BD.o (by have:=BW.o.size;omega)).frozen c;clear uz GM PX;refine hK.out _ _ (fun _=>KS.o _ BD.o) (fun bU=>?_);have aW:=bU (by decide);clear hK bU;try simp only[bI]
 refine bH.tk 10 aW ?_;try simp only[bI]
 refine bH.one (i:=11) (by kernel_rfl) rfl (fun K hK=>?_);go_simp;refine hK.out _ _ (fun h=>absurd rfl h) (fun _=>?_);clear hK;refine bH.done (by kernel_rfl) ?_ _;try simp only[bI]
 clear KS;obtain⟨w3,zP⟩:∃w3:aG,wd.setCell ⟨L.qr p,c,aj⟩ (ay a2 Q.length cap2)=w3:=⟨_,rfl⟩;obtain⟨xL,m3,n3⟩:=(HH.o.Zj.below BW.o).azw hp hc HX.o.q ho (Q:=Q) (fun y hy=>(Q3.o y (dU _ hy)).jD (S:=fun _=>False) (Ch.bY BW.o) (fun k hk=>gL hk) (fun _ s=>s.elim)) BD.o (wH O2.o (bS _)) (fun k hk=>(O2.o.lt k hk).1);rw[zP]at m3 n3;have BX1:aY (dh w3 w.heap.size 59 #[ah ag 0,ah ag 0,ah ag 0,ah ag 0,ah ag 0,ay aj 0 0]):=by
  rw[<-zP];have h1:dh w1 w.heap.size 59 #[ah ag 0,ah ag 0,ah ag 0,ah ag 0,ah ag 0,ay aj 0 0]:=by rw[<-Bf.o];exact(dh.new w _ _).alloc _
  exact(h1.below BD.o h1.lt).AU (by simp only;omega) _
 have WV:aY (dh w3 (w.heap.size+1) 59 #[ah ag fi,ah ag ff,ah ag ft,ah ag fc,ah ag fe,ay da fd.length dc]):=by
  rw[<-zP];have h1:dh w1 (w.heap.size+1) 59 #[ah ag fi,ah ag ff,ah ag ft,ah ag fc,ah ag fe,ay da fd.length dc]:=by rw[<-Bf.o];have:=dh.new (w.alloc (af #[ah ag 0,ah ag 0,ah ag 0,ah ag 0,ah ag 0,ay aj 0 0] 59)) 59 #[ah ag fi,ah ag ff,ah ag ft,ah ag fc,ah ag fe,ay da fd.length dc];simpa using this
  exact(h1.below BD.o h1.lt).AU (by simp only;omega) _
 rw[zP];have M3:=aA m3.Zj;have N3:=aA n3;obtain⟨gg3,t4,t5⟩:=m3.gg p c hp hc;have T5:=aA t5;have GC3:aY (dh w3 (L.gc p c) 206 (gvC (dR X.gv p c))):=gg3.c;have HG:=aA (Yp _ _ N _ _ w3 (HX.o.g p c hp hc) hN QL.o.2.2 gg3);obtain⟨g1,⟨aeK,cs1,e1,e2,e3⟩,tg⟩:=m3.g p hp;have cg:=m3.cg hp HX.o.p1;have e1':L.gr p=ay (az ⟨g1,0,aj⟩) X.aX aeK:=e1;rw[show({L with qv:=NT L.qv p c (ay a2 Q.length cap2)}:yM).gr p=L.gr p from rfl,e1']at cg;have cc:w3.cell? ⟨g1,c,aj⟩=az (pt (L.gb p c)):=by rw[e2.cell];exact e3 c hc
 unfold pt at cc;clear m3 n3 gg3 t4 t5 e1 e2 e3 e1' tg uu zP cf cv cq1 cv1 b2 b1 O2 TL;have HGF:aY (bZ aH 152 #[au (az ⟨L.gb p c,0,aj⟩),ah ag 0] w3 (GvP (L.gc p c) w3 0 (dR X.gv p c).free)):=HG.o;clear HG;generalize hfr:(dR X.gv p c).free=gfr at HGF;have HFR:=aA hfr;clear hfr;go_wp2_with (first
  |(go_at_call 152;refine HGF.o.mono ?_;rintro e w4 ⟨rfl,b1,b2⟩;have B1:=aA b1;have B2:=aA b2;clear b1 b2;have BY1:=aA (BX1.o.ch B2.o (fun e=>dh.sU BX1.o GC3.o (by decide) e));have BY2:=aA (WV.o.ch B2.o (fun e=>dh.sU WV.o GC3.o (by decide) e));have k0:=BY2.o.cell 0;have k1:=BY2.o.cell 1;have k2:=BY2.o.cell 2;have k3:=BY2.o.cell 3;have k4:=BY2.o.cell 4;have k5:=BY2.o.cell 5;have m0:=BY1.o.cell 0;have m1:=BY1.o.cell 1;have m2:=BY1.o.cell 2;have m3:=BY1.o.cell 3;have m4:=BY1.o.cell 4;have m5:=BY1.o.cell 5;have f0:=BY1.o.frozen 0;have f1:=BY1.o.frozen 1;have f2:=BY1.o.frozen 2;have f3:=BY1.o.frozen 3;have f4:=BY1.o.frozen 4;have f5:=BY1.o.frozen 5;simp only[di,fC,dD]at k0 k1 k2 k3 k4 k5 m0 m1 m2 m3 m4 m5))
 have M4:=aA (M3.o.afS (x:=gfr) hp hc HX.o.gv ho B2.o B1.o);have N4:aY (Nx Z o w (fr xL w3.heap.size) w4):=((Nx.bY BW.o).trans N3.o).trans (Nx.RV B2.o fun k e=>by rw[e];exact congrArg (·.1) T5.o);have TB:aY ((fr xL w3.heap.size) w.heap.size=(0,0,0,0)):=by rw[aY,gL BX1.o.lt,N3.o.ext _ (by have:=S1.o;omega),lL (aC _)]
 have EX:aY (X.pop p c={X with q:=mW X.q p c (Q.map (·.1)),gv:=mW X.gv p c gfr}):=by rw[aY,<-HFR.o,<-QL.o.2.1];rfl
 refine bodyPost_ret (v:=.agg #[ah ag fi,ah ag ff,ah ag ft,ah ag fc,ah ag fe,ay da fd.length dc]) (by simp[results,Tryz.results127,go_sem,m0,m1,m2,m3,m4,m5]) rfl ?_;rw[<-HPR.o,EX.o];refine⟨_,rfl,FD.o,_,_,M4.o.jD (S:=fun k=>k=w.heap.size) ((((((((Ch.refl (fun k=>k=w.heap.size) _).setCell (p:=⟨w.heap.size,0,aj⟩) (.inl rfl) _).setCell (p:=⟨w.heap.size,1,aj⟩) (.inl rfl) _).setCell (p:=⟨w.heap.size,2,aj⟩) (.inl rfl) _).setCell (p:=⟨w.heap.size,3,aj⟩) (.inl rfl) _).setCell (p:=⟨w.heap.size,4,aj⟩) (.inl rfl) _).setCell (p:=⟨w.heap.size,5,aj⟩) (.inl rfl) _)) (fun _ _=>rfl) (fun k e=>by rw[e,TB.o];simp only;omega),
  (((((N4.o.Cs (p:=⟨w.heap.size,0,aj⟩) (aC _) _).Cs (p:=⟨w.heap.size,1,aj⟩) (aC _) _).Cs (p:=⟨w.heap.size,2,aj⟩) (aC _) _).Cs (p:=⟨w.heap.size,3,aj⟩) (aC _) _).Cs (p:=⟨w.heap.size,4,aj⟩) (aC _) _).Cs (p:=⟨w.heap.size,5,aj⟩) (aC _) _⟩
def Ut:Fm×aI:=(⟨0,0,0,0,0,[]⟩,ay aj 0 0)
theorem VD{w:aG}{A:Option fA}{len:Nat}{Q:List (Fm×aI)}(h:gI 6 Cx Ut w A len Q)(k:Nat)(hk:k<len):∃b off,A=az ⟨b,off,aj⟩/\b<w.heap.size/\Q.getD k Ut∈Q/\w.cell? ⟨b,off+k*6,aj⟩=az (ah ag (Q.getD k Ut).1.id)/\w.cell? ⟨b,off+k*6+1,aj⟩=az (ah ag (Q.getD k Ut).1.jR)/\w.cell? ⟨b,off+k*6+2,aj⟩=az (ah ag (Q.getD k Ut).1.kU)/\w.cell? ⟨b,off+k*6+3,aj⟩=az (ah ag (Q.getD k Ut).1.cls)/\w.cell? ⟨b,off+k*6+4,aj⟩=az (ah ag (Q.getD k Ut).1.ep)/\w.cell? ⟨b,off+k*6+5,aj⟩=az (Q.getD k Ut).2:=by
 obtain⟨b,off,ha,hb,hc⟩:=h.2 (by omega);have hl:k<Q.length:=by rw[h.1];exact hk
 exact⟨b,off,ha,hb,by simp[bJ,hl],hc k 0 hk (by omega),hc k 1 hk (by omega),hc k 2 hk (by omega),hc k 3 hk (by omega),hc k 4 hk (by omega),hc k 5 hk (by omega)⟩
theorem Td.asr{Z:Own}{w:aG}{v:aI}{l:List Fm}(h:Td Z w v l):∃a cap Q,v=ay a Q.length cap/\Q.map (·.1)=l/\gI 6 Cx Ut w a Q.length Q/\∀x∈Q,iQ Z w x.1.data x.2:=by obtain⟨Q,q1,q2,q3⟩:=h;obtain⟨a,cap,e,_,r,_⟩:=gZ (d:=Ut) xw (by decide) q2;exact⟨a,cap,Q,e,q1,r,q3⟩
theorem iB(w:aG)(t:dL)(cs:List aI){n size:Nat}(h:cs.length=n*size):Reads (w.alloc (.cells cs.toArray t)) (w.heap.size+1) size (az ⟨w.heap.size,0,aj⟩) n cs:=
 ⟨h,fun _=>⟨_,rfl,by simp,fun q u hu=>uo (cs:=cs.toArray) (t:=t) (fr:=(0,0)) (heap_alloc_new w _) q u (by simpa using hu)⟩⟩
def adA(l:List Fm)(w:aG)(e:iM)(w':aG):Prop:=
 ∃(v:aI) (Q:List (Fm×aI)),e=ax v/\Q.map (·.1)=l/\w'.ownsRow w.heap.size 59 6 v Q.length (Q.flatMap Cx)/\aN w.heap.size w w'
def ajf(Q:List (Fm×aI))(w:aG)(v i:aI)(wr:aG):Prop:=
 ∃(k:Nat) (R:List (Fm×aI)),k<=Q.length/\i=ah ag k/\R.map (·.1)=(Q.take k).map (·.1)/\R.length=k/\wr.ownsRow w.heap.size 59 6 v k (R.flatMap Cx)/\aN w.heap.size w wr
theorem XN(p c N:Nat)(Z:Own)(o:Nat)(w:aG)(b:Nat)(X:Bx)(L:yM)(h:pO Z o w b X L)(hx:lW X N)(hp:p<X.bE)(hc:c<X.aX):bZ aH 49 #[pt b,ah ag p,ah ag c] w (adA (dR X.q p c) w):=by
 have HH:=aA (JS p c _ o w b X L h hp hc);obtain⟨a,cap,Q,qe,q1,qr,q3⟩:=(h.q p c hp hc).1.asr;have ql:=hx.Ws hp hc;rw[<-q1,dE]at ql;have cq:=h.cq hp hx.p1;have cv:=h.cqv hp hc;rw[qe]at cv;rw[<-q1];have p0:(0:Int)<=(p:Int):=by omega
 have p8:(p:Int)<8:=by have:=hx.p1;omega
 have c0:(0:Int)<=(c:Int):=by omega
 have c8:(c:Int)<(X.aX:Int):=by omega
 have QR:=aA qr;have Q3:=aA q3;obtain⟨i0,hi0,wC,uX,wK⟩:=dX Ck;clear h hx qe q1 q3 qr;unfold pt at *;go_enter func49,ntmps49;go_wp2_with (first
  |(go_at_call 91;refine HH.o.mono ?_;rintro e w' ⟨rfl,rfl⟩))
 clear HH cq cv;go_loopw [7,9,29] (fun v _ i wr=>ajf Q w v i wr) (fun _ _ i _=>Q.length-(aJ i).toNat);case atStart=>exact⟨0,[],bS _,rfl,rfl,rfl,dM _ _ _ _,aQ _ _⟩
 case round=>
  obtain⟨k,R,hk,rfl,hR,hRl,yQ,gm⟩:=hrel;subst hRl;have HR:=aA hR;have xM:=aA gm;have OWN:=aA yQ;by_cases yY:R.length<Q.length
  ·obtain⟨b1,o1,ha,hb1,hm,e0,e1,e2,e3,e4,e5⟩:=VD (QR.o.below (aC _) gm) R.length yY;have Qz:=(Q3.o _ hm).jD (S:=fun _=>False) (Ch.bY gm) (fun _ _=>rfl) (fun _ s=>s.elim);have TS:=aA (ji Ut Q R.length yY);generalize Q.getD R.length Ut=x at *;obtain⟨⟨xi,xf,xt,xc,xe,xd⟩,xv⟩:=x;simp only at e0 e1 e2 e3 e4 e5 Qz;obtain⟨da,dc,rfl,dd⟩:=id Qz;obtain⟨w5,Gc⟩:∃w5:aG,wr.alloc (af #[ah ag xi,ah ag xf,ah ag xt,ah ag xc,ah ag xe,ay da xd.length dc] 59)=w5:=⟨_,rfl⟩;have B5:aY (aN wr.heap.size wr w5):=(by rw[<-Gc];exact(aQ _ _).alloc (aC _) _);have FB:aY (dh w5 wr.heap.size 59 #[ah ag xi,ah ag xf,ah ag xt,ah ag xc,ah ag xe,ay da xd.length dc]):=(by rw[<-Gc];exact dh.new wr _ _);have DT:=aA (Qz.jD (S:=fun _=>False) (Ch.bY B5.o) (fun _ _=>rfl) (fun _ s=>s.elim));have k0:=FB.o.cell 0;have k1:=FB.o.cell 1;have k2:=FB.o.cell 2;have k3:=FB.o.cell 3;have k4:=FB.o.cell 4;have k5:=FB.o.cell 5;simp only[di,fC,dD]at k0 k1 k2 k3 k4 k5;obtain⟨va,vc,rfl,_⟩:=gZ (d:=Ut) xw (by decide) yQ;have akO:aY (w5.ownsRow w.heap.size 59 6 (ay va R.length vc) R.length (R.flatMap Cx)):=(by rw[<-Gc];exact yQ.alloc _);subst ha;clear hm hR gm yQ dd Qz;go_wp2_with (first
    |(go_at_call 92;refine(xY ⟨xi,xf,xt,xc,xe,xd⟩ (ay da xd.length dc) Z _ DT.o).mono ?_;rintro e wc ⟨v',rfl,bc,ow⟩;have BC:=aA bc;have OW:=aA ow;obtain⟨a',pG,rfl,_⟩:=gZ (d:=(0:Int)) AO (by decide) ow;clear bc ow;simp only[MU];have apm:aY ((wc.alloc (af #[ah ag xi,ah ag xf,ah ag xt,ah ag xc,ah ag xe,ay a' xd.length pG] 59)).ownsRow w.heap.size 59 6 (ay va R.length vc) R.length (R.flatMap Cx)):=((fO (akO.out) (Ch.bY (S:=fun _=>False) BC.o) (fun _ _ s=>s.elim)).alloc _))
    |(at_builtin;refine gW _ rfl (.tmp 33) (.tmp 36) 110 rfl w.heap.size 59 i0 _ 6 64 underlying110 hi0 wC uX wK rfl (by decide) _ _ _ rfl apm.out _ (az ⟨wc.heap.size,0,aj⟩) 1 1 [ah ag xi,ah ag xf,ah ag xt,ah ag xc,ah ag xe,ay a' xd.length pG] rfl (iB wc _ _ (n:=1) (size:=6) rfl) ?c3 ?c4 ?c5 ?c6 ?_))
   case c3=>exact⟨rfl,rfl,rfl,rfl,rfl,rfl⟩
   case c4=>unfold fB;omega
   case c5=>omega
   case c6=>have h1:=xM.out.size;have h2:=B5.o.size;have h3:=BC.o.size;simp;omega
   intro v2 wd uz GM _;have RF:aY (ajf Q w v2 (ah ag ((R.length+1:Nat):Int)) wd):=by
    refine⟨R.length+1,R++[((⟨xi,xf,xt,xc,xe,xd⟩:Fm),ay a' xd.length pG)],by omega,rfl,?_,by simp,?_,?_⟩
    ·rw[TS.o,eY,eY,HR.o];rfl
    ·rw[List.flatMap_append];exact uz
    ·have h1:=xM.out.size;have b1:aN w.heap.size w wc:=(xM.out.trans (B5.o.mono h1)).trans (BC.o.mono (by have:=B5.o.size;omega));exact(b1.alloc b1.size _).grown GM (by have:=b1.size;simp;omega) (fun g hg=>(apm.out.lt g hg).1)
   clear uz GM;go_wp2_with fail;exact⟨by simpa using RF.o,by simp[aJ];omega⟩
  ·have hl:R.length=Q.length:=by omega
   rw[hl,List.take_length]at hR;have iZ:aY (adA (Q.map (·.1)) w (ax _) wr):=⟨_,R,rfl,hR,yQ,gm⟩;clear hR yQ gm hl;go_wp2_with fail;go_ret;exact iZ.out
end
section
section
variable{P:Program}{ops:Array Oper}{Q:Exit->Act->aG->Prop}{md:qV}{S:aG->Prop}{wW:Nat}
theorem bH.two{i j:Nat}{oi oj:Oper}{n:Nat}{done:Array Bool}{a:Act}{w:aG}(hr:jc md ops done=[i,j])(hi:ops[i]?=az oi)(hj:ops[j]?=az oj)(h:∀K':Act->aG->Prop,aY (∀a' w',(i≠wW->S w')->((i≠wW->S w')->bH P md ops Q S wW n (done.setIfInBounds i true) a' w')->K' a' w')->if eH oi (yielded ops a.tmps)=true then jK P oi a w K' Q else K' (a.put oi.dst undef) w)(k:∀K':Act->aG->Prop,aY (∀a' w',(j≠wW->S w')->((j≠wW->S w')->bH P md ops Q S wW n (done.setIfInBounds j true) a' w')->K' a' w')->if eH oj (yielded ops a.tmps)=true then jK P oj a w K' Q else K' (a.put oj.dst undef) w):bH P md ops Q S wW (n+1) done a w:=
 ⟨fun e=>(by rw[e]at hr;cases hr),fun x hx=>by
  rw[hr]at hx;simp only[dG,dP,or_false]at hx;rcases hx with hx|hx
  ·subst hx;exact wpOp_step hi fun K' hK=>h K' fun a' w' hS hA=>hK a' w' ⟨hS,hA hS⟩
  ·subst hx;exact wpOp_step hj fun K' hK=>k K' fun a' w' hS hA=>hK a' w' ⟨hS,hA hS⟩⟩
end
theorem aba{P:Program}{a:Act}{w:aG}{o:Oper}{x:Operand}{f:FuncId}{ts:Array dL}{v:aI}(hE:∀args w,(callFunc f args).run P w=.ok (.enter f args) w)(ho:o.op=sP {callee:=kv (kz f),args:=#[x],argTypes:=ts})(hx:a.eval x=v):(execOp a.eval o).run P w=.ok (.enter f #[v]) w:=by simp[execOp,ho,resolve,invoke,hE,go_sem];simpa[go_sem]using hx
theorem xC{P:Program}{ops:Array Oper}{o:Oper}{a:Act}{w:aG}{K:Act->aG->Prop}{Q:Exit->Act->aG->Prop}{E:Prop}(hg:o.guard=aj){x:Operand}{f:FuncId}{ts:Array dL}{v:aI}(hE:∀args w,(callFunc f args).run P w=.ok (.enter f args) w)(ho:o.op=sP {callee:=kv (kz f),args:=#[x],argTypes:=ts})(hx:a.eval x=v){Post:iM->aG->Prop}(hc:bZ P f #[v] w Post)(hK:∀e w',Post e w'->∃r,e=ax r/\K (a.put o.dst r) w'):if eH o (yielded ops a.tmps)=true then jK P o a w K Q else E:=by
 have hw:eH o (yielded ops a.tmps)=true:=by simp[eH,hg]
 rw[if_pos hw];unfold jK;rw[aba hE ho hx];exact hc.mono fun e w' h=>by obtain⟨r,rfl,hk⟩:=hK e w' h;exact hk
end
end Go.Proofs.YtnjjkgjdhljfnaaGreat
