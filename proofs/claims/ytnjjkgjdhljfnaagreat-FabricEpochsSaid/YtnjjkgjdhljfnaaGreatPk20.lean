/- Part 20. -/
import Derived.Test.YtnjjkgjdhljfnaaGreatPk17
import Derived.Test.YtnjjkgjdhljfnaaGreatPk19
open Go.Proofs.Tryz
open Go renaming World->aG
open Go.Ending renaming returned->ax
open Go.IntKind renaming i64->ag
open Go.Lib renaming hid->aA
open Go.Obj renaming cells->af
open Go.Proofs.Tryz renaming prog->aH
open Go.RowKit renaming Below->aN,Hid->aY
open Go.RowKit.Below renaming refl->aQ
open Go.Value renaming int->ah,slice->ay
open Nat renaming le_refl->aC
open Option renaming none->aj,some->az
set_option maxRecDepth 100000
set_option maxHeartbeats 16000000
set_option linter.unusedVariables false
set_option linter.unusedSimpArgs false
namespace Go.Proofs.YtnjjkgjdhljfnaaGreat
open Go.RowKit Go.Maps
theorem Zk(ns:List Nd)(cs:List Cb)(lv:List Int)(An Ac Al:Option Addr)(cn cc cl i u v:Nat)(w:aG)(Oc:oD ⟨ns,cs⟩ lv=true)(hi:i<cs.length)(ht:touch (cs.getD i gX) u v)(hu:u<ns.length)(hv:v<ns.length)(lu:0<=lv.getD u 0)(lw:0<=lv.getD v 0)(tu:QI ⟨ns,cs⟩)(hwl:WfI lv)(h:jw w An Ac ⟨ns,cs⟩)(h3:gI 1 cI 0 w Al lv.length lv):Calls aH 90 #[.agg #[ay An ns.length cn,ay Ac cs.length cc],.agg #[ay Al lv.length cl],ah ag (i:Int),ah ag (u:Int)] w fun e w'=>e=ax (.tuple #[.bool (FH lv u v),ah ag 0])/\aN w.heap.size w w':=by
 obtain⟨hvl,yZ⟩:=Qi Oc;simp only at yZ;obtain⟨n16,Lb⟩:=oW hvl;obtain⟨w1,gK⟩:∃w1:aG,(w.alloc (af #[ay An ns.length cn,ay Ac cs.length cc] 25)).alloc (af #[ay Al lv.length cl] 169)=w1:=⟨_,rfl⟩;have BW:aY (aN w.heap.size w w1):=by rw[<-gK];exact((aQ _ _).alloc (aC _) _).alloc (by simp) _
 have P4:aY (dh w1 w.heap.size 25 #[ay An ns.length cn,ay Ac cs.length cc]):=by rw[<-gK];exact(dh.new w 25 #[ay An ns.length cn,ay Ac cs.length cc]).alloc _
 have P5:aY (dh w1 (w.heap.size+1) 169 #[ay Al lv.length cl]):=by rw[<-gK];have:=dh.new (w.alloc (af #[ay An ns.length cn,ay Ac cs.length cc] 25)) 169 #[ay Al lv.length cl];rw[aY];simpa using this
 have HP:=aA (h.below (aC _) BW.o);have HL:=aA (h3.below (aC _) BW.o);have HO:=Gp ⟨ns,cs⟩ lv An Ac Al cn cc cl w1 (by show ns.length<=_;omega) (by show cs.length<=_;omega) tu (by omega) hwl HP.o HL.o;rw[Oc]at HO;have HOO:=aA HO;have Jw:=aA yZ;have HVL:=aA hvl;have Bf:=aA gK;clear Oc tu hwl h h3 HO gK hvl yZ;go_enter func90,ntmps90;go_wp2_with fail;rw[Bf.o];refine HOO.o.mono ?_;rintro e w2 ⟨rfl,gm⟩;have UB:=P4.o.below gm P4.o.lt;have UD:=P5.o.below gm P5.o.lt;have c40:w2.cell? ⟨w.heap.size,0,aj⟩=az (ay An ns.length cn):=by rw[UB.cell];rfl
 have c41:w2.cell? ⟨w.heap.size,1,aj⟩=az (ay Ac cs.length cc):=by rw[UB.cell];rfl
 have c50:=UD.one.1;have l5:=UD.lt;have Jv:aY (aN w.heap.size w w2):=BW.o.trans (gm.mono BW.o.size);have HL2:=aA (HL.o.below (aC _) gm);obtain⟨bc,oc,hAc,hbc,mE,ca,pG,cb,Vf,cd,Vg⟩:=mq (HP.o.below (aC _) gm).2 i hi;obtain⟨bl,ol,hAl,hbl,_,ela⟩:=oC HL2.o u (by rw[Jw.o];exact hu);obtain⟨bl',ol',Ki,_,_,elb⟩:=oC HL2.o v (by rw[Jw.o];exact hv);rw[hAl]at Ki;injection Ki with Ki;injection Ki with hl1 DN;subst hl1;subst DN;have yZ:=Jw.o;have uw:(u:Int)<(lv.length:Int):=by omega
 have vw:(v:Int)<(lv.length:Int):=by omega
 have iw:(i:Int)<(cs.length:Int):=by omega
 have ub:(u:Int)<=16:=by omega
 have vb:(v:Int)<=16:=by omega
 have HU:aY (qI lv (v:Int) (u:Int)=FH lv u v):=rfl;have huv:¬u=v:=fun e=>by have nQ:=Sv HVL.o _ mE;rcases ht with⟨h1,h2⟩|⟨h1,h2⟩<;>(rw[h1,h2,e]at nQ;exact nQ rfl)
 have hvu:¬v=u:=fun e=>huv e.symm;generalize cs.getD i gX=x at *;obtain⟨xa,qF,xb,qO,xd,xc⟩:=x;simp only at ca pG cb Vf cd Vg;subst hAc;subst hAl;clear mE UB UD gm HOO yZ;obtain⟨la,hla⟩:∃la,lv.getD u 0=la:=⟨_,rfl⟩;obtain⟨lb,hlb⟩:∃lb,lv.getD v 0=lb:=⟨_,rfl⟩;rw[hla]at ela lu;rw[hlb]at elb lw;clear hla hlb;obtain⟨w3,zP⟩:∃w3:aG,w2.alloc (af #[ah ag xa,ah ag qF,ah ag xb,ah ag qO,ah ag xd,ah ag xc] 86)=w3:=⟨_,rfl⟩;have Mx:aY (aN w.heap.size w w3):=by rw[<-zP];exact Jv.o.alloc Jv.o.size _
 have HA:=aA (Ls lv (az ⟨bl,ol,aj⟩) cl (v:Int) (u:Int) w3 (by rw[Jw.o];omega) (by rw[<-zP];exact HL2.o.alloc _));have HW3:=aA zP;clear zP;rcases ht with⟨h1,h2⟩|⟨h1,h2⟩
 all_goals
  simp only at h1 h2;subst h1;subst h2;go_wp2_with fail;rw[HW3.o];try rw[show(u:Int)+(v:Int)-(u:Int)=(v:Int) by omega]
  try rw[show(v:Int)+(u:Int)-(u:Int)=(v:Int) by omega]
  refine HA.o.mono ?_;rintro e w4 ⟨rfl,Eg⟩;have F:aY (aN w.heap.size w w4):=Mx.o.trans (Eg.mono Mx.o.size);clear Eg;go_wp2_with fail;go_ret2;exact⟨by rw[<-HU.o];rfl,F.o⟩
theorem Zl(ns:List Nd)(cs:List Cb)(lv:List Int)(An Ac Al:Option Addr)(cn cc cl i u v:Nat)(w:aG)(Oc:oD ⟨ns,cs⟩ lv=true)(hi:i<cs.length)(ht:touch (cs.getD i gX) u v)(hu:u<ns.length)(hv:v<ns.length)(amk:lv.getD u 0<0\/lv.getD v 0<0)(tu:QI ⟨ns,cs⟩)(hwl:WfI lv)(h:jw w An Ac ⟨ns,cs⟩)(h3:gI 1 cI 0 w Al lv.length lv):Calls aH 90 #[.agg #[ay An ns.length cn,ay Ac cs.length cc],.agg #[ay Al lv.length cl],ah ag (i:Int),ah ag (u:Int)] w fun e w'=>(∃c:Int,c≠0/\e=ax (.tuple #[.bool false,ah ag c]))/\aN w.heap.size w w':=by
 obtain⟨hvl,yZ⟩:=Qi Oc;simp only at yZ;obtain⟨n16,Lb⟩:=oW hvl;obtain⟨w1,gK⟩:∃w1:aG,(w.alloc (af #[ay An ns.length cn,ay Ac cs.length cc] 25)).alloc (af #[ay Al lv.length cl] 169)=w1:=⟨_,rfl⟩;have BW:aY (aN w.heap.size w w1):=by rw[<-gK];exact((aQ _ _).alloc (aC _) _).alloc (by simp) _
 have P4:aY (dh w1 w.heap.size 25 #[ay An ns.length cn,ay Ac cs.length cc]):=by rw[<-gK];exact(dh.new w 25 #[ay An ns.length cn,ay Ac cs.length cc]).alloc _
 have P5:aY (dh w1 (w.heap.size+1) 169 #[ay Al lv.length cl]):=by rw[<-gK];have:=dh.new (w.alloc (af #[ay An ns.length cn,ay Ac cs.length cc] 25)) 169 #[ay Al lv.length cl];rw[aY];simpa using this
 have HP:=aA (h.below (aC _) BW.o);have HL:=aA (h3.below (aC _) BW.o);have HO:=Gp ⟨ns,cs⟩ lv An Ac Al cn cc cl w1 (by show ns.length<=_;omega) (by show cs.length<=_;omega) tu (by omega) hwl HP.o HL.o;rw[Oc]at HO;have HOO:=aA HO;have Jw:=aA yZ;have HVL:=aA hvl;have Bf:=aA gK;clear Oc tu hwl h h3 HO gK hvl yZ;go_enter func90,ntmps90;go_wp2_with fail;rw[Bf.o];refine HOO.o.mono ?_;rintro e w2 ⟨rfl,gm⟩;have UB:=P4.o.below gm P4.o.lt;have UD:=P5.o.below gm P5.o.lt;have c40:w2.cell? ⟨w.heap.size,0,aj⟩=az (ay An ns.length cn):=by rw[UB.cell];rfl
 have c41:w2.cell? ⟨w.heap.size,1,aj⟩=az (ay Ac cs.length cc):=by rw[UB.cell];rfl
 have c50:=UD.one.1;have l5:=UD.lt;have Jv:aY (aN w.heap.size w w2):=BW.o.trans (gm.mono BW.o.size);have HL2:=aA (HL.o.below (aC _) gm);obtain⟨bc,oc,hAc,hbc,mE,ca,pG,cb,Vf,cd,Vg⟩:=mq (HP.o.below (aC _) gm).2 i hi;obtain⟨bl,ol,hAl,hbl,_,ela⟩:=oC HL2.o u (by rw[Jw.o];exact hu);obtain⟨bl',ol',Ki,_,_,elb⟩:=oC HL2.o v (by rw[Jw.o];exact hv);rw[hAl]at Ki;injection Ki with Ki;injection Ki with hl1 DN;subst hl1;subst DN;have yZ:=Jw.o;have uw:(u:Int)<(lv.length:Int):=by omega
 have vw:(v:Int)<(lv.length:Int):=by omega
 have iw:(i:Int)<(cs.length:Int):=by omega
 have ub:(u:Int)<=16:=by omega
 have vb:(v:Int)<=16:=by omega
 have huv:¬u=v:=fun e=>by have nQ:=Sv HVL.o _ mE;rcases ht with⟨h1,h2⟩|⟨h1,h2⟩<;>(rw[h1,h2,e]at nQ;exact nQ rfl)
 have hvu:¬v=u:=fun e=>huv e.symm;generalize cs.getD i gX=x at *;obtain⟨xa,qF,xb,qO,xd,xc⟩:=x;simp only at ca pG cb Vf cd Vg;subst hAc;subst hAl;clear mE UB UD gm HOO yZ;obtain⟨la,hla⟩:∃la,lv.getD u 0=la:=⟨_,rfl⟩;obtain⟨lb,hlb⟩:∃lb,lv.getD v 0=lb:=⟨_,rfl⟩;rw[hla]at ela amk;rw[hlb]at elb amk;clear hla hlb;obtain⟨w3,zP⟩:∃w3:aG,w2.alloc (af #[ah ag xa,ah ag qF,ah ag xb,ah ag qO,ah ag xd,ah ag xc] 86)=w3:=⟨_,rfl⟩;have Mx:aY (aN w.heap.size w w3):=by rw[<-zP];exact Jv.o.alloc Jv.o.size _
 have HW3:=aA zP;clear zP;rcases ht with⟨h1,h2⟩|⟨h1,h2⟩
 all_goals
  simp only at h1 h2;subst h1;subst h2;by_cases l1:la<0
  ·have l1':decide (la<0)=true:=decide_eq_true l1;by_cases l2:lb<0
   ·have l2':decide (lb<0)=true:=decide_eq_true l2;go_wp2_with fail;rw[HW3.o];try rw[HW3.o]at *
    go_ret2;exact⟨⟨_,by decide,rfl⟩,Mx.o⟩
   ·have l2':decide (lb<0)=false:=decide_eq_false l2;go_wp2_with fail;rw[HW3.o];go_ret2;exact⟨⟨_,by decide,rfl⟩,Mx.o⟩
  ·have l1':decide (la<0)=false:=decide_eq_false l1;have l2:lb<0:=amk.resolve_left l1;have l2':decide (lb<0)=true:=decide_eq_true l2;go_wp2_with fail;rw[HW3.o];go_ret2;exact⟨⟨_,by decide,rfl⟩,Mx.o⟩
end Go.Proofs.YtnjjkgjdhljfnaaGreat
