/- Part 20. -/
import Derived.Test.YtnjjkgjdhljfnaaGreatPk17
import Derived.Test.YtnjjkgjdhljfnaaGreatPk19
open Go.Proofs.Tryz
open Go renaming World->aG
open Go.Ending renaming returned->ax
open Go.IntKind renaming i64->ag
open Go.Lib renaming hid->aA
open Go.Obj renaming cells->af
open Go.Proofs.Tryz renaming prog->aH
open Go.RowKit renaming Below->aO,Hid->aZ
open Go.RowKit.Below renaming refl->aS
open Go.Value renaming int->ah,slice->ay
open Nat renaming le_refl->aC
open Option renaming none->aj,some->az
set_option maxRecDepth 100000
set_option maxHeartbeats 16000000
set_option linter.unusedVariables false
set_option linter.unusedSimpArgs false
namespace Go.Proofs.YtnjjkgjdhljfnaaGreat
open Go.RowKit Go.Maps
theorem Zk(ns:List Nd)(cs:List Cb)(lv:List Int)(An Ac Al:Option Addr)(cn cc cl i u v:Nat)(w:aG)(Od:oH ⟨ns,cs⟩ lv=true)(hi:i<cs.length)(ht:touch (cs.getD i gV) u v)(hu:u<ns.length)(hv:v<ns.length)(lu:0<=lv.getD u 0)(lw:0<=lv.getD v 0)(sN:QJ ⟨ns,cs⟩)(hwl:WfI lv)(h:jB w An Ac ⟨ns,cs⟩)(h3:gH 1 cI 0 w Al lv.length lv):Calls aH 90 #[.agg #[ay An ns.length cn,ay Ac cs.length cc],.agg #[ay Al lv.length cl],ah ag (i:Int),ah ag (u:Int)] w fun e w'=>e=ax (.tuple #[.bool (Gc lv u v),ah ag 0])/\aO w.heap.size w w':=by
 obtain⟨hvl,zB⟩:=Ql Od;simp only at zB;obtain⟨n16,Ll⟩:=nV hvl;obtain⟨w1,gK⟩:∃w1:aG,(w.alloc (af #[ay An ns.length cn,ay Ac cs.length cc] 25)).alloc (af #[ay Al lv.length cl] 169)=w1:=⟨_,rfl⟩;have BW:aZ (aO w.heap.size w w1):=by rw[<-gK];exact((aS _ _).alloc (aC _) _).alloc (by simp) _
 have P4:aZ (dG w1 w.heap.size 25 #[ay An ns.length cn,ay Ac cs.length cc]):=by rw[<-gK];exact(dG.new w 25 #[ay An ns.length cn,ay Ac cs.length cc]).alloc _
 have P5:aZ (dG w1 (w.heap.size+1) 169 #[ay Al lv.length cl]):=by rw[<-gK];have:=dG.new (w.alloc (af #[ay An ns.length cn,ay Ac cs.length cc] 25)) 169 #[ay Al lv.length cl];rw[aZ];simpa using this
 have HP:=aA (h.below (aC _) BW.o);have HL:=aA (h3.below (aC _) BW.o);have HO:=GJ ⟨ns,cs⟩ lv An Ac Al cn cc cl w1 (by show ns.length<=_;omega) (by show cs.length<=_;omega) sN (by omega) hwl HP.o HL.o;rw[Od]at HO;have HOO:=aA HO;have JC:=aA zB;have HVL:=aA hvl;have Bv:=aA gK;clear Od sN hwl h h3 HO gK hvl zB;go_enter func90,ntmps90;go_wp2_with fail;rw[Bv.o];refine HOO.o.mono ?_;rintro e w2 ⟨rfl,gB⟩;have UF:=P4.o.below gB P4.o.lt;have UG:=P5.o.below gB P5.o.lt;have c40:w2.cell? ⟨w.heap.size,0,aj⟩=az (ay An ns.length cn):=by rw[UF.cell];rfl
 have c41:w2.cell? ⟨w.heap.size,1,aj⟩=az (ay Ac cs.length cc):=by rw[UF.cell];rfl
 have c50:=UG.one.1;have l5:=UG.lt;have JB:aZ (aO w.heap.size w w2):=BW.o.trans (gB.mono BW.o.size);have HL2:=aA (HL.o.below (aC _) gB);obtain⟨bc,oc,hAc,hbc,mI,ca,pJ,cb,Ve,cd,Vf⟩:=mE (HP.o.below (aC _) gB).2 i hi;obtain⟨bl,ol,hAl,hbl,_,ela⟩:=oD HL2.o u (by rw[JC.o];exact hu);obtain⟨bl',ol',Kt,_,_,elb⟩:=oD HL2.o v (by rw[JC.o];exact hv);rw[hAl]at Kt;injection Kt with Kt;injection Kt with hl1 Ef;subst hl1;subst Ef;have zB:=JC.o;have uw:(u:Int)<(lv.length:Int):=by omega
 have vw:(v:Int)<(lv.length:Int):=by omega
 have iw:(i:Int)<(cs.length:Int):=by omega
 have ub:(u:Int)<=16:=by omega
 have vb:(v:Int)<=16:=by omega
 have HU:aZ (qL lv (v:Int) (u:Int)=Gc lv u v):=rfl;have huv:¬u=v:=fun e=>by have nJ:=SV HVL.o _ mI;rcases ht with⟨h1,h2⟩|⟨h1,h2⟩<;>(rw[h1,h2,e]at nJ;exact nJ rfl)
 have hvu:¬v=u:=fun e=>huv e.symm;generalize cs.getD i gV=x at *;obtain⟨xa,qK,xb,qQ,xd,xc⟩:=x;simp only at ca pJ cb Ve cd Vf;subst hAc;subst hAl;clear mI UF UG gB HOO zB;obtain⟨la,hla⟩:∃la,lv.getD u 0=la:=⟨_,rfl⟩;obtain⟨lb,hlb⟩:∃lb,lv.getD v 0=lb:=⟨_,rfl⟩;rw[hla]at ela lu;rw[hlb]at elb lw;clear hla hlb;obtain⟨w3,zZ⟩:∃w3:aG,w2.alloc (af #[ah ag xa,ah ag qK,ah ag xb,ah ag qQ,ah ag xd,ah ag xc] 86)=w3:=⟨_,rfl⟩;have MP:aZ (aO w.heap.size w w3):=by rw[<-zZ];exact JB.o.alloc JB.o.size _
 have HA:=aA (LC lv (az ⟨bl,ol,aj⟩) cl (v:Int) (u:Int) w3 (by rw[JC.o];omega) (by rw[<-zZ];exact HL2.o.alloc _));have HW3:=aA zZ;clear zZ;rcases ht with⟨h1,h2⟩|⟨h1,h2⟩
 all_goals
  simp only at h1 h2;subst h1;subst h2;go_wp2_with fail;rw[HW3.o];try rw[show(u:Int)+(v:Int)-(u:Int)=(v:Int) by omega]
  try rw[show(v:Int)+(u:Int)-(u:Int)=(v:Int) by omega]
  refine HA.o.mono ?_;rintro e w4 ⟨rfl,Et⟩;have F:aZ (aO w.heap.size w w4):=MP.o.trans (Et.mono MP.o.size);clear Et;go_wp2_with fail;go_ret2;exact⟨by rw[<-HU.o];rfl,F.o⟩
theorem Zl(ns:List Nd)(cs:List Cb)(lv:List Int)(An Ac Al:Option Addr)(cn cc cl i u v:Nat)(w:aG)(Od:oH ⟨ns,cs⟩ lv=true)(hi:i<cs.length)(ht:touch (cs.getD i gV) u v)(hu:u<ns.length)(hv:v<ns.length)(amm:lv.getD u 0<0\/lv.getD v 0<0)(sN:QJ ⟨ns,cs⟩)(hwl:WfI lv)(h:jB w An Ac ⟨ns,cs⟩)(h3:gH 1 cI 0 w Al lv.length lv):Calls aH 90 #[.agg #[ay An ns.length cn,ay Ac cs.length cc],.agg #[ay Al lv.length cl],ah ag (i:Int),ah ag (u:Int)] w fun e w'=>(∃c:Int,c≠0/\e=ax (.tuple #[.bool false,ah ag c]))/\aO w.heap.size w w':=by
 obtain⟨hvl,zB⟩:=Ql Od;simp only at zB;obtain⟨n16,Ll⟩:=nV hvl;obtain⟨w1,gK⟩:∃w1:aG,(w.alloc (af #[ay An ns.length cn,ay Ac cs.length cc] 25)).alloc (af #[ay Al lv.length cl] 169)=w1:=⟨_,rfl⟩;have BW:aZ (aO w.heap.size w w1):=by rw[<-gK];exact((aS _ _).alloc (aC _) _).alloc (by simp) _
 have P4:aZ (dG w1 w.heap.size 25 #[ay An ns.length cn,ay Ac cs.length cc]):=by rw[<-gK];exact(dG.new w 25 #[ay An ns.length cn,ay Ac cs.length cc]).alloc _
 have P5:aZ (dG w1 (w.heap.size+1) 169 #[ay Al lv.length cl]):=by rw[<-gK];have:=dG.new (w.alloc (af #[ay An ns.length cn,ay Ac cs.length cc] 25)) 169 #[ay Al lv.length cl];rw[aZ];simpa using this
 have HP:=aA (h.below (aC _) BW.o);have HL:=aA (h3.below (aC _) BW.o);have HO:=GJ ⟨ns,cs⟩ lv An Ac Al cn cc cl w1 (by show ns.length<=_;omega) (by show cs.length<=_;omega) sN (by omega) hwl HP.o HL.o;rw[Od]at HO;have HOO:=aA HO;have JC:=aA zB;have HVL:=aA hvl;have Bv:=aA gK;clear Od sN hwl h h3 HO gK hvl zB;go_enter func90,ntmps90;go_wp2_with fail;rw[Bv.o];refine HOO.o.mono ?_;rintro e w2 ⟨rfl,gB⟩;have UF:=P4.o.below gB P4.o.lt;have UG:=P5.o.below gB P5.o.lt;have c40:w2.cell? ⟨w.heap.size,0,aj⟩=az (ay An ns.length cn):=by rw[UF.cell];rfl
 have c41:w2.cell? ⟨w.heap.size,1,aj⟩=az (ay Ac cs.length cc):=by rw[UF.cell];rfl
 have c50:=UG.one.1;have l5:=UG.lt;have JB:aZ (aO w.heap.size w w2):=BW.o.trans (gB.mono BW.o.size);have HL2:=aA (HL.o.below (aC _) gB);obtain⟨bc,oc,hAc,hbc,mI,ca,pJ,cb,Ve,cd,Vf⟩:=mE (HP.o.below (aC _) gB).2 i hi;obtain⟨bl,ol,hAl,hbl,_,ela⟩:=oD HL2.o u (by rw[JC.o];exact hu);obtain⟨bl',ol',Kt,_,_,elb⟩:=oD HL2.o v (by rw[JC.o];exact hv);rw[hAl]at Kt;injection Kt with Kt;injection Kt with hl1 Ef;subst hl1;subst Ef;have zB:=JC.o;have uw:(u:Int)<(lv.length:Int):=by omega
 have vw:(v:Int)<(lv.length:Int):=by omega
 have iw:(i:Int)<(cs.length:Int):=by omega
 have ub:(u:Int)<=16:=by omega
 have vb:(v:Int)<=16:=by omega
 have huv:¬u=v:=fun e=>by have nJ:=SV HVL.o _ mI;rcases ht with⟨h1,h2⟩|⟨h1,h2⟩<;>(rw[h1,h2,e]at nJ;exact nJ rfl)
 have hvu:¬v=u:=fun e=>huv e.symm;generalize cs.getD i gV=x at *;obtain⟨xa,qK,xb,qQ,xd,xc⟩:=x;simp only at ca pJ cb Ve cd Vf;subst hAc;subst hAl;clear mI UF UG gB HOO zB;obtain⟨la,hla⟩:∃la,lv.getD u 0=la:=⟨_,rfl⟩;obtain⟨lb,hlb⟩:∃lb,lv.getD v 0=lb:=⟨_,rfl⟩;rw[hla]at ela amm;rw[hlb]at elb amm;clear hla hlb;obtain⟨w3,zZ⟩:∃w3:aG,w2.alloc (af #[ah ag xa,ah ag qK,ah ag xb,ah ag qQ,ah ag xd,ah ag xc] 86)=w3:=⟨_,rfl⟩;have MP:aZ (aO w.heap.size w w3):=by rw[<-zZ];exact JB.o.alloc JB.o.size _
 have HW3:=aA zZ;clear zZ;rcases ht with⟨h1,h2⟩|⟨h1,h2⟩
 all_goals
  simp only at h1 h2;subst h1;subst h2;by_cases l1:la<0
  ·have l1':decide (la<0)=true:=decide_eq_true l1;by_cases l2:lb<0
   ·have l2':decide (lb<0)=true:=decide_eq_true l2;go_wp2_with fail;rw[HW3.o];try rw[HW3.o]at *
    go_ret2;exact⟨⟨_,by decide,rfl⟩,MP.o⟩
   ·have l2':decide (lb<0)=false:=decide_eq_false l2;go_wp2_with fail;rw[HW3.o];go_ret2;exact⟨⟨_,by decide,rfl⟩,MP.o⟩
  ·have l1':decide (la<0)=false:=decide_eq_false l1;have l2:lb<0:=amm.resolve_left l1;have l2':decide (lb<0)=true:=decide_eq_true l2;go_wp2_with fail;rw[HW3.o];go_ret2;exact⟨⟨_,by decide,rfl⟩,MP.o⟩
end Go.Proofs.YtnjjkgjdhljfnaaGreat
