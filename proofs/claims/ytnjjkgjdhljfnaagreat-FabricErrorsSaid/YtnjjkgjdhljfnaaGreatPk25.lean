/- Part 25 of the proof of fabricErrors.proved: FabricErrors. Several texts in one, blanks struck, what is not used left out. -/
import Derived.Test.YtnjjkgjdhljfnaaGreatPk4
import Derived.Test.YtnjjkgjdhljfnaaGreatPk18
import Derived.Test.YtnjjkgjdhljfnaaGreatPk24
set_option maxRecDepth 100000
set_option maxHeartbeats 16000000
set_option linter.unusedVariables false
set_option linter.unusedSimpArgs false
namespace Go.Proofs.YtnjjkgjdhljfnaaGreat
open Go.RowKit Go.Maps
attribute [local go_sem ↓] Go.wp_at_zero Go.wp_at_succ
def RelV28(rooms:List Int)(w1:World)(i:Value)(wr:World):Prop:=∃k:Nat,k≤rooms.length∧i=.int .i64 k∧w1=wr∧(rooms.take k).all roomB=true
theorem valid28_any(rooms:List Int)(A:Option Addr)(c:Nat)(w:World)(hl:rooms.length≤1000000)(h:IsRec 1 cI 0 w A rooms.length rooms):Calls Tryz.prog 13 #[.slice A rooms.length c] w fun e w'=>e=.returned (.bool (roomsB rooms))∧w=w':=by
 by_cases h0:rooms.length<1
 ·have e:roomsB rooms=false:=by unfold roomsB;simp;omega
  rw[e]
  go_enter Tryz.func13,Tryz.ntmps13
  go_wp2_with fail
  go_ret
  exact⟨rfl,rfl⟩
 ·by_cases h1:4<rooms.length
  ·have e:roomsB rooms=false:=by unfold roomsB;simp;omega
   rw[e];have i1:(4:Int)<(rooms.length:Int):=by omega
   have i2:(1:Int)≤(rooms.length:Int):=by omega
   go_enter Tryz.func13,Tryz.ntmps13
   go_wp2_with fail
   go_ret
   exact⟨rfl,rfl⟩
  ·have i1:(rooms.length:Int)≤(4:Int):=by omega
   have i2:(1:Int)≤(rooms.length:Int):=(by omega);have R:=Lib.hid h;have RB:Hid (roomsB rooms=rooms.all roomB):=(by unfold roomsB;rw[Hid,decide_eq_true (by omega:1≤rooms.length),decide_eq_true (by omega:rooms.length≤4)];simp);clear h;generalize roomsB rooms=rb at *
   go_enter Tryz.func13,Tryz.ntmps13
   go_wp2_with fail
   go_loopw [2,3,12,13,14,15,16,17,18,19,20,21,22,23,24,25,26,27,28,29] (fun _ i _ _ _ _ _ _ _ _ _ _ _ _ _ _ _ _ _ _ wr=>RelV28 rooms w i wr) (fun _ i _ _ _ _ _ _ _ _ _ _ _ _ _ _ _ _ _ _ _=>rooms.length-(RowKit.intOf i).toNat)
   case atStart=>exact⟨0,Nat.zero_le _,rfl,rfl,rfl⟩
   case round=>
    obtain⟨k,hk,rfl,rfl,hall⟩:=hrel;by_cases hkr:k<rooms.length
    ·obtain⟨b0,o0,rfl,_,hc⟩:=int_at R.out k hkr;have BK:Hid ((rooms.getD k 0<1∨64<rooms.getD k 0)→rb=false):=fun hb=>by
      rw[RB.out,List.all_eq_false];have hm:rooms.getD k 0∈rooms:=by simp[List.getD,hkr]
      generalize rooms.getD k 0=r at *;exact⟨r,hm,by unfold roomB;simp;omega⟩
     have TK:Hid (roomB (rooms.getD k 0)=true→(rooms.take (k+1)).all roomB=true):=fun q=>(by rw[List.take_add_one,List.all_append,hall];simp[List.getD,hkr]at q⊢;exact q);have hkc:(k:Int)<(rooms.length:Int):=(by omega);have hk0:(0:Int)≤(k:Int):=(by omega);generalize rooms.getD k 0=r at *;clear hall;by_cases r1:r<1
     ·have e:=BK.out (.inl r1);subst e
      go_wp2_with fail
      go_ret
      exact⟨rfl,rfl⟩
     ·have r1':1≤r:=by omega
      by_cases r2:64<r
      ·have e:=BK.out (.inr r2);subst e
       go_wp2_with fail
       go_ret
       exact⟨rfl,rfl⟩
      ·have r2':r≤64:=by omega
       have T:=Lib.hid (TK.out (by unfold roomB;simp;omega))
       go_wp2_with fail
       exact⟨⟨k+1,by omega,by congr 1,rfl,T.out⟩,by simp[RowKit.intOf];omega⟩
    ·obtain rfl:rooms.length=k:=by omega
     rw[List.take_length]at hall;have e:rb=true:=by rw[RB.out];exact hall
     subst e
     go_wp2_with fail
     go_ret
     exact⟨rfl,rfl⟩
end Go.Proofs.YtnjjkgjdhljfnaaGreat
namespace Go.Proofs.YtnjjkgjdhljfnaaGreat.fabricErrorsW
open Go.RowKit Go.Maps
attribute [local go_sem ↓] Go.wp_at_zero Go.wp_at_succ
theorem walk(An Ac:Option Addr)(cn cc:Nat)(p:Pl)(Ar:Option Addr)(cr:Nat)(rooms:List Int)(x:Act28)(aD:Option Addr)(cD:Nat)(w:World)(h:IsPlan w An Ac p)(hwf:WfP p)(hr:IsRec 1 cI 0 w Ar rooms.length rooms)(hwr:WfI rooms)(hd:IsRec 1 cU8 0 w aD x.data.length x.data)(hwa:WfAct x):Calls Tryz.prog 3 #[.agg #[.slice An p.ns.length cn,.slice Ac p.cs.length cc],.slice Ar rooms.length cr,.agg #[.int .i64 x.k,.int .i64 x.a,.int .i64 x.b,.int .i64 x.c,.int .i64 x.i,.slice aD x.data.length cD]] w fun e w'=>e=.returned (.bool true)∧Below w.heap.size w w':=by
 obtain⟨ns,cs⟩:=p;simp only at h⊢;obtain⟨w1,hw1⟩:∃w1:World,(w.alloc (.cells #[.slice An ns.length cn,.slice Ac cs.length cc] 25)).alloc (.cells #[.int .i64 x.k,.int .i64 x.a,.int .i64 x.b,.int .i64 x.c,.int .i64 x.i,.slice aD x.data.length cD] 29)=w1:=⟨_,rfl⟩;have B1:Hid (Below w.heap.size w w1):=by rw[←hw1];exact((Below.refl _ _).alloc (Nat.le_refl _) _).alloc (by simp) _
 have P1:Hid (Blk w1 w.heap.size 25 #[.slice An ns.length cn,.slice Ac cs.length cc]):=by rw[←hw1];exact(Blk.new w _ _).alloc _
 have A1:Hid (Blk w1 (w.heap.size+1) 29 #[.int .i64 x.k,.int .i64 x.a,.int .i64 x.b,.int .i64 x.c,.int .i64 x.i,.slice aD x.data.length cD]):=by rw[Hid,←hw1];have:=Blk.new (w.alloc (.cells #[.slice An ns.length cn,.slice Ac cs.length cc] 25)) 29 #[.int .i64 x.k,.int .i64 x.a,.int .i64 x.b,.int .i64 x.c,.int .i64 x.i,.slice aD x.data.length cD];simpa using this
 have AW:=Lib.hid (awake_any w1);have HI:=Lib.hid h;have HR:=Lib.hid hr;clear h hr hd;by_cases q1:40<ns.length
 ·have i1:(40:Int)<(ns.length:Int):=by omega
  go_enter Tryz.func3,Tryz.ntmps3
  go_wp2_with (first|(go_at_call 10;((with_reducible refine AW.out.mono ?_);rintro e w2 ⟨rfl,hb2⟩;have B2:=Lib.hid hb2;have p2:=P1.out.below hb2 P1.out.lt;have a2:=A1.out.below hb2 A1.out.lt;have k0:=p2.cell 0;have k1:=p2.cell 1;have P2:=Lib.hid p2;have A2:=Lib.hid a2;clear hb2 p2 a2)))
  go_ret
  exact⟨rfl,B1.out.trans (B2.out.mono B1.out.size)⟩
 by_cases q2:60<cs.length
 ·have i1:(ns.length:Int)≤40:=by omega
  have i2:(60:Int)<(cs.length:Int):=by omega
  go_enter Tryz.func3,Tryz.ntmps3
  go_wp2_with (first|(go_at_call 10;((with_reducible refine AW.out.mono ?_);rintro e w2 ⟨rfl,hb2⟩;have B2:=Lib.hid hb2;have p2:=P1.out.below hb2 P1.out.lt;have a2:=A1.out.below hb2 A1.out.lt;have k0:=p2.cell 0;have k1:=p2.cell 1;have P2:=Lib.hid p2;have A2:=Lib.hid a2;clear hb2 p2 a2)))
  go_ret
  exact⟨rfl,B1.out.trans (B2.out.mono B1.out.size)⟩
 by_cases q3:60<rooms.length
 ·have i1:(ns.length:Int)≤40:=by omega
  have i2:(cs.length:Int)≤60:=by omega
  have i3:(60:Int)<(rooms.length:Int):=by omega
  go_enter Tryz.func3,Tryz.ntmps3
  go_wp2_with (first|(go_at_call 10;((with_reducible refine AW.out.mono ?_);rintro e w2 ⟨rfl,hb2⟩;have B2:=Lib.hid hb2;have p2:=P1.out.below hb2 P1.out.lt;have a2:=A1.out.below hb2 A1.out.lt;have k0:=p2.cell 0;have k1:=p2.cell 1;have P2:=Lib.hid p2;have A2:=Lib.hid a2;clear hb2 p2 a2)))
  go_ret
  exact⟨rfl,B1.out.trans (B2.out.mono B1.out.size)⟩
 have i1:(ns.length:Int)≤40:=by omega
 have i2:(cs.length:Int)≤60:=by omega
 have i3:(rooms.length:Int)≤60:=by omega
 have NEW:Hid (∀w',Below w1.heap.size w1 w'→Calls Tryz.prog 11 #[.agg #[.slice An ns.length cn,.slice Ac cs.length cc],.slice Ar rooms.length cr] w' fun e w''=>∃o,e=.returned (.tuple #[.pointer o,.int .i64 (newErr ⟨ns,cs⟩ rooms)])∧(o=none↔newErr ⟨ns,cs⟩ rooms≠0)∧Below w'.heap.size w' w''):=fun w' hb=>by
  have b3:=B1.out.trans (hb.mono B1.out.size);refine(fnew_any ns cs rooms An Ac Ar cn cc cr w' (by omega) (by omega) (by omega) hwf hwr (HI.out.below (Nat.le_refl _) b3) (HR.out.below (Nat.le_refl _) b3)).mono ?_;rintro e w'' (⟨h1,rfl,h2⟩|⟨h1,b,r,τ,L,rfl,_,_,_,h2⟩)
  ·exact⟨none,rfl,⟨fun _=>h1,fun _=>rfl⟩,h2⟩
  ·exact⟨some ⟨b,0,none⟩,by rw[h1],⟨fun q=>(by cases q),fun q=>absurd h1 q⟩,h2⟩
 have VAL:Hid (∀w',Below w1.heap.size w1 w'→Calls Tryz.prog 12 #[.agg #[.slice An ns.length cn,.slice Ac cs.length cc]] w' fun e w''=>e=.returned (.int .i64 (validP ⟨ns,cs⟩))∧Below w'.heap.size w' w''):=fun w' hb=>
  r14valid_any ⟨ns,cs⟩ An Ac cn cc w' (by show ns.length≤_;omega) (by show cs.length≤_;omega) (HI.out.below (Nat.le_refl _) (B1.out.trans (hb.mono B1.out.size)))
 have V28:Hid (∀w',Below w1.heap.size w1 w'→Calls Tryz.prog 13 #[.slice Ar rooms.length cr] w' fun e w''=>e=.returned (.bool (roomsB rooms))∧w'=w''):=fun w' hb=>
  valid28_any rooms Ar cr w' (by omega) (HR.out.below (Nat.le_refl _) (B1.out.trans (hb.mono B1.out.size)))
 by_cases hv:validP ⟨ns,cs⟩=0
 ·cases hb:roomsB rooms with
  |false=>
   have en:newErr ⟨ns,cs⟩ rooms=2:=(by unfold newErr;rw[if_pos hv,hb];rfl);rw[en]at NEW;rw[hv]at VAL;rw[hb]at V28;clear HI HR
   go_enter Tryz.func3,Tryz.ntmps3
   go_wp2_with (first|(go_at_call 10;((with_reducible refine AW.out.mono ?_);rintro e w2 ⟨rfl,hb2⟩;have B2:=Lib.hid hb2;have p2:=P1.out.below hb2 P1.out.lt;have a2:=A1.out.below hb2 A1.out.lt;have k0:=p2.cell 0;have k1:=p2.cell 1;have P2:=Lib.hid p2;have A2:=Lib.hid a2;clear hb2 p2 a2))|(go_at_call 11;((with_reducible refine(NEW.out w2 B2.out).mono ?_);rintro e w3 ⟨o,rfl,ho,hb3⟩;obtain rfl:o=none:=ho.2 (by decide);have B3:=Lib.hid (B2.out.trans (hb3.mono B2.out.size));have p3:=P2.out.below hb3 P2.out.lt;have a3:=A2.out.below hb3 A2.out.lt;have m0:=p3.cell 0;have m1:=p3.cell 1;have A3:=Lib.hid a3;clear hb3 p3 a3 ho))|(go_at_call 12;((with_reducible refine(VAL.out w3 B3.out).mono ?_);rintro e w4 ⟨rfl,hb4⟩;have B4:=Lib.hid (B3.out.trans (hb4.mono B3.out.size));have a4:=A3.out.below hb4 A3.out.lt;have n1:=a4.cell 1;have n2:=a4.cell 2;have n3:=a4.cell 3;have n4:=a4.cell 4;have n5:=a4.cell 5;have A4:=Lib.hid a4;clear hb4 a4))|(go_at_call 13;((with_reducible refine(V28.out w4 B4.out).mono ?_);rintro e w5 ⟨rfl,rfl⟩))|(go_at_call 14;((refine(ninject _ _ _ _ _).mono ?_);rintro e w9 ⟨rfl,rfl⟩))|(go_at_call 15;((refine(ntick _).mono ?_);rintro e w9 ⟨rfl,rfl⟩))|(go_at_call 17;((refine(nmend _ _).mono ?_);rintro e w9 ⟨rfl,rfl⟩))|(go_at_call 18;((refine(ninside _).mono ?_);rintro e w9 ⟨rfl,rfl⟩))|(go_at_call 19;((refine(nlost _).mono ?_);rintro e w9 ⟨rfl,rfl⟩))|(go_at_call 20;((refine(nover _).mono ?_);rintro e w9 ⟨rfl,rfl⟩))|(go_at_call 21;((refine(nholds _).mono ?_);rintro e w9 ⟨rfl,rfl⟩))|(go_at_call 22;((refine(nepoch _).mono ?_);rintro e w9 ⟨rfl,rfl⟩))|(go_at_call 16;((refine(ncut _ _).mono ?_);rintro e w6 ⟨rfl,hb6⟩;have a6:=A4.out.below hb6 A4.out.lt;have o1:=a6.cell 4;have B6:=Lib.hid (B4.out.trans (hb6.mono B4.out.size));clear hb6 a6)))
   go_ret
   exact⟨rfl,B1.out.trans (B6.out.mono B1.out.size)⟩
  |true=>
   have en:newErr ⟨ns,cs⟩ rooms=0:=(by unfold newErr;rw[if_pos hv,hb];rfl);rw[en]at NEW;rw[hv]at VAL;rw[hb]at V28;clear HI HR
   go_enter Tryz.func3,Tryz.ntmps3
   go_wp2_with (first|(go_at_call 10;((with_reducible refine AW.out.mono ?_);rintro e w2 ⟨rfl,hb2⟩;have B2:=Lib.hid hb2;have p2:=P1.out.below hb2 P1.out.lt;have a2:=A1.out.below hb2 A1.out.lt;have k0:=p2.cell 0;have k1:=p2.cell 1;have P2:=Lib.hid p2;have A2:=Lib.hid a2;clear hb2 p2 a2))|(go_at_call 11;((with_reducible refine(NEW.out w2 B2.out).mono ?_);rintro e w3 ⟨o,rfl,ho,hb3⟩;obtain⟨oa,rfl⟩:∃a,o=some a:=(Option.ne_none_iff_exists'.1 fun q=>(ho.1 q) rfl);have B3:=Lib.hid (B2.out.trans (hb3.mono B2.out.size));have p3:=P2.out.below hb3 P2.out.lt;have a3:=A2.out.below hb3 A2.out.lt;have m0:=p3.cell 0;have m1:=p3.cell 1;have A3:=Lib.hid a3;clear hb3 p3 a3 ho))|(go_at_call 12;((with_reducible refine(VAL.out w3 B3.out).mono ?_);rintro e w4 ⟨rfl,hb4⟩;have B4:=Lib.hid (B3.out.trans (hb4.mono B3.out.size));have a4:=A3.out.below hb4 A3.out.lt;have n1:=a4.cell 1;have n2:=a4.cell 2;have n3:=a4.cell 3;have n4:=a4.cell 4;have n5:=a4.cell 5;have A4:=Lib.hid a4;clear hb4 a4))|(go_at_call 13;((with_reducible refine(V28.out w4 B4.out).mono ?_);rintro e w5 ⟨rfl,rfl⟩))|(go_at_call 14;((refine(ninject _ _ _ _ _).mono ?_);rintro e w9 ⟨rfl,rfl⟩))|(go_at_call 15;((refine(ntick _).mono ?_);rintro e w9 ⟨rfl,rfl⟩))|(go_at_call 17;((refine(nmend _ _).mono ?_);rintro e w9 ⟨rfl,rfl⟩))|(go_at_call 18;((refine(ninside _).mono ?_);rintro e w9 ⟨rfl,rfl⟩))|(go_at_call 19;((refine(nlost _).mono ?_);rintro e w9 ⟨rfl,rfl⟩))|(go_at_call 20;((refine(nover _).mono ?_);rintro e w9 ⟨rfl,rfl⟩))|(go_at_call 21;((refine(nholds _).mono ?_);rintro e w9 ⟨rfl,rfl⟩))|(go_at_call 22;((refine(nepoch _).mono ?_);rintro e w9 ⟨rfl,rfl⟩))|(go_at_call 16;((refine(ncut _ _).mono ?_);rintro e w6 ⟨rfl,hb6⟩;have a6:=A4.out.below hb6 A4.out.lt;have o1:=a6.cell 4;have B6:=Lib.hid (B4.out.trans (hb6.mono B4.out.size));clear hb6 a6)))
   go_ret
   exact⟨rfl,B1.out.trans (B6.out.mono B1.out.size)⟩
 ·have en:newErr ⟨ns,cs⟩ rooms=validP ⟨ns,cs⟩:=by unfold newErr;rw[if_neg hv]
  rw[en]at NEW;obtain⟨ev,hev⟩:∃ev,validP ⟨ns,cs⟩=ev:=⟨_,rfl⟩;rw[hev]at NEW VAL hv;have hv2:(ev==0)=false:=by simpa using hv
  have hv3:(ev !=0)=true:=by simpa using hv
  clear HI HR hev en V28
  go_enter Tryz.func3,Tryz.ntmps3
  go_wp2_with (first|(go_at_call 10;((with_reducible refine AW.out.mono ?_);rintro e w2 ⟨rfl,hb2⟩;have B2:=Lib.hid hb2;have p2:=P1.out.below hb2 P1.out.lt;have a2:=A1.out.below hb2 A1.out.lt;have k0:=p2.cell 0;have k1:=p2.cell 1;have P2:=Lib.hid p2;have A2:=Lib.hid a2;clear hb2 p2 a2))|(go_at_call 11;((with_reducible refine(NEW.out w2 B2.out).mono ?_);rintro e w3 ⟨o,rfl,ho,hb3⟩;obtain rfl:o=none:=ho.2 hv;have B3:=Lib.hid (B2.out.trans (hb3.mono B2.out.size));have p3:=P2.out.below hb3 P2.out.lt;have a3:=A2.out.below hb3 A2.out.lt;have m0:=p3.cell 0;have m1:=p3.cell 1;have A3:=Lib.hid a3;clear hb3 p3 a3 ho))|(go_at_call 12;((with_reducible refine(VAL.out w3 B3.out).mono ?_);rintro e w4 ⟨rfl,hb4⟩;have B4:=Lib.hid (B3.out.trans (hb4.mono B3.out.size));have a4:=A3.out.below hb4 A3.out.lt;have n1:=a4.cell 1;have n2:=a4.cell 2;have n3:=a4.cell 3;have n4:=a4.cell 4;have n5:=a4.cell 5;have A4:=Lib.hid a4;clear hb4 a4))|(go_at_call 14;((refine(ninject _ _ _ _ _).mono ?_);rintro e w9 ⟨rfl,rfl⟩))|(go_at_call 15;((refine(ntick _).mono ?_);rintro e w9 ⟨rfl,rfl⟩))|(go_at_call 17;((refine(nmend _ _).mono ?_);rintro e w9 ⟨rfl,rfl⟩))|(go_at_call 18;((refine(ninside _).mono ?_);rintro e w9 ⟨rfl,rfl⟩))|(go_at_call 19;((refine(nlost _).mono ?_);rintro e w9 ⟨rfl,rfl⟩))|(go_at_call 20;((refine(nover _).mono ?_);rintro e w9 ⟨rfl,rfl⟩))|(go_at_call 21;((refine(nholds _).mono ?_);rintro e w9 ⟨rfl,rfl⟩))|(go_at_call 22;((refine(nepoch _).mono ?_);rintro e w9 ⟨rfl,rfl⟩))|(go_at_call 16;((refine(ncut _ _).mono ?_);rintro e w6 ⟨rfl,hb6⟩;have a6:=A4.out.below hb6 A4.out.lt;have o1:=a6.cell 4;have B6:=Lib.hid (B4.out.trans (hb6.mono B4.out.size));clear hb6 a6)))
  go_ret
  exact⟨rfl,B1.out.trans (B6.out.mono B1.out.size)⟩
end Go.Proofs.YtnjjkgjdhljfnaaGreat.fabricErrorsW
