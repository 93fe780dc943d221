/- Part 20 of the proof of fabricErrors.proved: NTurn FbUw. Several texts in one, blanks struck, what is not used left out. -/
import Derived.IntWalk
import Derived.Test.YtnjjkgjdhljfnaaGreatPk17
import Derived.Test.YtnjjkgjdhljfnaaGreatPk19
set_option maxRecDepth 100000
set_option maxHeartbeats 16000000
set_option linter.unusedVariables false
set_option linter.unusedSimpArgs false
namespace Go.Proofs.YtnjjkgjdhljfnaaGreat
open Go.RowKit Go.Maps
theorem upward_any(ns:List Nd)(cs:List Cb)(lv:List Int)(An Ac Al:Option Addr)(cn cc cl i u v:Nat)(w:World)(hob:orderB ⟨ns,cs⟩ lv=true)(hi:i<cs.length)(ht:touch (cs.getD i cb0) u v)(hu:u<ns.length)(hv:v<ns.length)(lu:0≤lv.getD u 0)(lw:0≤lv.getD v 0)(hwf:WfP ⟨ns,cs⟩)(hwl:WfI lv)(h:IsPlan w An Ac ⟨ns,cs⟩)(h3:IsRec 1 cI 0 w Al lv.length lv):Calls Tryz.prog 90 #[.agg #[.slice An ns.length cn,.slice Ac cs.length cc],.agg #[.slice Al lv.length cl],.int .i64 (i:Int),.int .i64 (u:Int)] w fun e w'=>e=.returned (.tuple #[.bool (upB lv u v),.int .i64 0])∧Below w.heap.size w w':=by
 obtain⟨hvl,hll⟩:=orderB_len hob;simp only at hll;obtain⟨n16,c32⟩:=valid_sizes hvl;obtain⟨w1,hw1⟩:∃w1:World,(w.alloc (.cells #[.slice An ns.length cn,.slice Ac cs.length cc] 25)).alloc (.cells #[.slice Al lv.length cl] 169)=w1:=⟨_,rfl⟩;have BW:Hid (Below w.heap.size w w1):=by rw[←hw1];exact((Below.refl _ _).alloc (Nat.le_refl _) _).alloc (by simp) _
 have P4:Hid (Blk w1 w.heap.size 25 #[.slice An ns.length cn,.slice Ac cs.length cc]):=by rw[←hw1];exact(Blk.new w 25 #[.slice An ns.length cn,.slice Ac cs.length cc]).alloc _
 have P5:Hid (Blk w1 (w.heap.size+1) 169 #[.slice Al lv.length cl]):=by rw[←hw1];have:=Blk.new (w.alloc (.cells #[.slice An ns.length cn,.slice Ac cs.length cc] 25)) 169 #[.slice Al lv.length cl];rw[Hid];simpa using this
 have HP:=Lib.hid (h.below (Nat.le_refl _) BW.out);have HL:=Lib.hid (h3.below (Nat.le_refl _) BW.out);have HO:=order_any ⟨ns,cs⟩ lv An Ac Al cn cc cl w1 (by show ns.length≤_;omega) (by show cs.length≤_;omega) hwf (by omega) hwl HP.out HL.out;rw[hob]at HO;have HOO:=Lib.hid HO;have HLL:=Lib.hid hll;have HVL:=Lib.hid hvl;have HW1:=Lib.hid hw1;clear hob hwf hwl h h3 HO hw1 hvl hll
 go_enter Tryz.func90,Tryz.ntmps90
 go_wp2_with fail
 rw[HW1.out];refine HOO.out.mono ?_;rintro e w2 ⟨rfl,bel⟩;have P42:=P4.out.below bel P4.out.lt;have P52:=P5.out.below bel P5.out.lt;have c40:w2.cell? ⟨w.heap.size,0,none⟩=some (.slice An ns.length cn):=by rw[P42.cell];rfl
 have c41:w2.cell? ⟨w.heap.size,1,none⟩=some (.slice Ac cs.length cc):=by rw[P42.cell];rfl
 have c50:=P52.one.1;have l5:=P52.lt;have BW2:Hid (Below w.heap.size w w2):=BW.out.trans (bel.mono BW.out.size);have HL2:=Lib.hid (HL.out.below (Nat.le_refl _) bel);obtain⟨bc,oc,hAc,hbc,hmem,ca,cap',cb,cbp,cd,ccp⟩:=cable_at (HP.out.below (Nat.le_refl _) bel).2 i hi;obtain⟨bl,ol,hAl,hbl,_,ela⟩:=int_at HL2.out u (by rw[HLL.out];exact hu);obtain⟨bl',ol',hAl',_,_,elb⟩:=int_at HL2.out v (by rw[HLL.out];exact hv);rw[hAl]at hAl';injection hAl' with hAl';injection hAl' with hl1 hl2;subst hl1;subst hl2;have hll:=HLL.out;have uw:(u:Int)<(lv.length:Int):=by omega
 have vw:(v:Int)<(lv.length:Int):=by omega
 have iw:(i:Int)<(cs.length:Int):=by omega
 have ub:(u:Int)≤16:=by omega
 have vb:(v:Int)≤16:=by omega
 have HU:Hid (aboveB lv (v:Int) (u:Int)=upB lv u v):=rfl;have huv:¬u=v:=fun e=>by have hne:=valid_abG HVL.out _ hmem;rcases ht with⟨h1,h2⟩|⟨h1,h2⟩<;>(rw[h1,h2,e]at hne;exact hne rfl)
 have hvu:¬v=u:=fun e=>huv e.symm;generalize cs.getD i cb0=x at *;obtain⟨xa,xap,xb,xbp,xd,xc⟩:=x;simp only at ca cap' cb cbp cd ccp;subst hAc;subst hAl;clear hmem P42 P52 bel HOO hll;obtain⟨la,hla⟩:∃la,lv.getD u 0=la:=⟨_,rfl⟩;obtain⟨lb,hlb⟩:∃lb,lv.getD v 0=lb:=⟨_,rfl⟩;rw[hla]at ela lu;rw[hlb]at elb lw;clear hla hlb;obtain⟨w3,hw3⟩:∃w3:World,w2.alloc (.cells #[.int .i64 xa,.int .i64 xap,.int .i64 xb,.int .i64 xbp,.int .i64 xd,.int .i64 xc] 86)=w3:=⟨_,rfl⟩;have BW3:Hid (Below w.heap.size w w3):=by rw[←hw3];exact BW2.out.alloc BW2.out.size _
 have HA:=Lib.hid (above_any lv (some ⟨bl,ol,none⟩) cl (v:Int) (u:Int) w3 (by rw[HLL.out];omega) (by rw[←hw3];exact HL2.out.alloc _));have HW3:=Lib.hid hw3;clear hw3;rcases ht with⟨h1,h2⟩|⟨h1,h2⟩
 all_goals
  simp only at h1 h2;subst h1;subst h2
  go_wp2_with fail
  rw[HW3.out]
  try rw[show(u:Int)+(v:Int)-(u:Int)=(v:Int) by omega]
  try rw[show(v:Int)+(u:Int)-(u:Int)=(v:Int) by omega]
  refine HA.out.mono ?_;rintro e w4 ⟨rfl,bel4⟩;have F:Hid (Below w.heap.size w w4):=BW3.out.trans (bel4.mono BW3.out.size);clear bel4
  go_wp2_with fail
  go_ret2
  exact⟨by rw[←HU.out];rfl,F.out⟩
theorem upward_bad(ns:List Nd)(cs:List Cb)(lv:List Int)(An Ac Al:Option Addr)(cn cc cl i u v:Nat)(w:World)(hob:orderB ⟨ns,cs⟩ lv=true)(hi:i<cs.length)(ht:touch (cs.getD i cb0) u v)(hu:u<ns.length)(hv:v<ns.length)(lbad:lv.getD u 0<0∨lv.getD v 0<0)(hwf:WfP ⟨ns,cs⟩)(hwl:WfI lv)(h:IsPlan w An Ac ⟨ns,cs⟩)(h3:IsRec 1 cI 0 w Al lv.length lv):Calls Tryz.prog 90 #[.agg #[.slice An ns.length cn,.slice Ac cs.length cc],.agg #[.slice Al lv.length cl],.int .i64 (i:Int),.int .i64 (u:Int)] w fun e w'=>(∃c:Int,c≠0∧e=.returned (.tuple #[.bool false,.int .i64 c]))∧Below w.heap.size w w':=by
 obtain⟨hvl,hll⟩:=orderB_len hob;simp only at hll;obtain⟨n16,c32⟩:=valid_sizes hvl;obtain⟨w1,hw1⟩:∃w1:World,(w.alloc (.cells #[.slice An ns.length cn,.slice Ac cs.length cc] 25)).alloc (.cells #[.slice Al lv.length cl] 169)=w1:=⟨_,rfl⟩;have BW:Hid (Below w.heap.size w w1):=by rw[←hw1];exact((Below.refl _ _).alloc (Nat.le_refl _) _).alloc (by simp) _
 have P4:Hid (Blk w1 w.heap.size 25 #[.slice An ns.length cn,.slice Ac cs.length cc]):=by rw[←hw1];exact(Blk.new w 25 #[.slice An ns.length cn,.slice Ac cs.length cc]).alloc _
 have P5:Hid (Blk w1 (w.heap.size+1) 169 #[.slice Al lv.length cl]):=by rw[←hw1];have:=Blk.new (w.alloc (.cells #[.slice An ns.length cn,.slice Ac cs.length cc] 25)) 169 #[.slice Al lv.length cl];rw[Hid];simpa using this
 have HP:=Lib.hid (h.below (Nat.le_refl _) BW.out);have HL:=Lib.hid (h3.below (Nat.le_refl _) BW.out);have HO:=order_any ⟨ns,cs⟩ lv An Ac Al cn cc cl w1 (by show ns.length≤_;omega) (by show cs.length≤_;omega) hwf (by omega) hwl HP.out HL.out;rw[hob]at HO;have HOO:=Lib.hid HO;have HLL:=Lib.hid hll;have HVL:=Lib.hid hvl;have HW1:=Lib.hid hw1;clear hob hwf hwl h h3 HO hw1 hvl hll
 go_enter Tryz.func90,Tryz.ntmps90
 go_wp2_with fail
 rw[HW1.out];refine HOO.out.mono ?_;rintro e w2 ⟨rfl,bel⟩;have P42:=P4.out.below bel P4.out.lt;have P52:=P5.out.below bel P5.out.lt;have c40:w2.cell? ⟨w.heap.size,0,none⟩=some (.slice An ns.length cn):=by rw[P42.cell];rfl
 have c41:w2.cell? ⟨w.heap.size,1,none⟩=some (.slice Ac cs.length cc):=by rw[P42.cell];rfl
 have c50:=P52.one.1;have l5:=P52.lt;have BW2:Hid (Below w.heap.size w w2):=BW.out.trans (bel.mono BW.out.size);have HL2:=Lib.hid (HL.out.below (Nat.le_refl _) bel);obtain⟨bc,oc,hAc,hbc,hmem,ca,cap',cb,cbp,cd,ccp⟩:=cable_at (HP.out.below (Nat.le_refl _) bel).2 i hi;obtain⟨bl,ol,hAl,hbl,_,ela⟩:=int_at HL2.out u (by rw[HLL.out];exact hu);obtain⟨bl',ol',hAl',_,_,elb⟩:=int_at HL2.out v (by rw[HLL.out];exact hv);rw[hAl]at hAl';injection hAl' with hAl';injection hAl' with hl1 hl2;subst hl1;subst hl2;have hll:=HLL.out;have uw:(u:Int)<(lv.length:Int):=by omega
 have vw:(v:Int)<(lv.length:Int):=by omega
 have iw:(i:Int)<(cs.length:Int):=by omega
 have ub:(u:Int)≤16:=by omega
 have vb:(v:Int)≤16:=by omega
 have huv:¬u=v:=fun e=>by have hne:=valid_abG HVL.out _ hmem;rcases ht with⟨h1,h2⟩|⟨h1,h2⟩<;>(rw[h1,h2,e]at hne;exact hne rfl)
 have hvu:¬v=u:=fun e=>huv e.symm;generalize cs.getD i cb0=x at *;obtain⟨xa,xap,xb,xbp,xd,xc⟩:=x;simp only at ca cap' cb cbp cd ccp;subst hAc;subst hAl;clear hmem P42 P52 bel HOO hll;obtain⟨la,hla⟩:∃la,lv.getD u 0=la:=⟨_,rfl⟩;obtain⟨lb,hlb⟩:∃lb,lv.getD v 0=lb:=⟨_,rfl⟩;rw[hla]at ela lbad;rw[hlb]at elb lbad;clear hla hlb;obtain⟨w3,hw3⟩:∃w3:World,w2.alloc (.cells #[.int .i64 xa,.int .i64 xap,.int .i64 xb,.int .i64 xbp,.int .i64 xd,.int .i64 xc] 86)=w3:=⟨_,rfl⟩;have BW3:Hid (Below w.heap.size w w3):=by rw[←hw3];exact BW2.out.alloc BW2.out.size _
 have HW3:=Lib.hid hw3;clear hw3;rcases ht with⟨h1,h2⟩|⟨h1,h2⟩
 all_goals
  simp only at h1 h2;subst h1;subst h2;by_cases l1:la<0
  ·have l1':decide (la<0)=true:=decide_eq_true l1;by_cases l2:lb<0
   ·have l2':decide (lb<0)=true:=decide_eq_true l2
    go_wp2_with fail
    rw[HW3.out]
    try rw[HW3.out]at *
    go_ret2
    exact⟨⟨_,by decide,rfl⟩,BW3.out⟩
   ·have l2':decide (lb<0)=false:=decide_eq_false l2
    go_wp2_with fail
    rw[HW3.out]
    go_ret2
    exact⟨⟨_,by decide,rfl⟩,BW3.out⟩
  ·have l1':decide (la<0)=false:=decide_eq_false l1;have l2:lb<0:=lbad.resolve_left l1;have l2':decide (lb<0)=true:=decide_eq_true l2
   go_wp2_with fail
   rw[HW3.out]
   go_ret2
   exact⟨⟨_,by decide,rfl⟩,BW3.out⟩
end Go.Proofs.YtnjjkgjdhljfnaaGreat
