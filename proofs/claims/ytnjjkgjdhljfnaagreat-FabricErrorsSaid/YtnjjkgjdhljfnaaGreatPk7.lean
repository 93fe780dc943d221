/- Part 7 of the proof of fabricErrors.proved: FbCr FbBa FbBb FbBx FbBc FbHl FbHc FbBd FbBe FbBf FbHd. Several texts in one, blanks struck, what is not used left out. -/
import Derived.BigQuiet
import Derived.Deep.DrawnRows
import Derived.Deep.QuietTactic
import Derived.Deep.RegionHeld3
import Derived.IntWalk
import Derived.Test.YtnjjkgjdhljfnaaGreatPk1
import Derived.Test.YtnjjkgjdhljfnaaGreatPk3
set_option maxRecDepth 100000
set_option maxHeartbeats 16000000
set_option linter.unusedVariables false
set_option linter.unusedSimpArgs false
namespace Go.Proofs.YtnjjkgjdhljfnaaGreat
open Go.RowKit Go.Maps
attribute [local go_sem ↓] Go.wp_at_zero Go.wp_at_succ
def gvC(x:Gv):Array Value:=#[.int .i64 x.room,.int .i64 x.rec',.int .i64 x.freed]
def tkC(x:Tk):Array Value:=#[.int .i64 x.sent,.int .i64 x.lim]
def GvP(h:Nat)(w:World)(v:Int)(x':Gv)(e:Ending)(w':World):Prop:=e=.returned (.int .i64 v)∧Blk w' h 206 (gvC x')∧Ch (· =h) w w'
def TkP(h:Nat)(w:World)(v:Int)(x':Tk)(e:Ending)(w':World):Prop:=e=.returned (.int .i64 v)∧Blk w' h 228 (tkC x')∧Ch (· =h) w w'
theorem gvlimit_any(xr xc xf:Int)(w:World)(h:0≤xr∧xr≤1000000)(h2:0≤xf∧xf≤1000000000000):Calls Tryz.prog 121 #[.agg #[.int .i64 xr,.int .i64 xc,.int .i64 xf]] w fun e w'=>e=.returned (.int .i64 (xr+xf))∧w.alloc (.cells #[.int .i64 xr,.int .i64 xc,.int .i64 xf] 206)=w':=by
 have q1:IntKind.i64.wrap (xr+xf)=xr+xf:=IntWalk.i64_in _ (by omega);clear h h2
 go_enter Tryz.func121,Tryz.ntmps121
 go_wp2_with fail
 go_ret
 exact⟨rfl,rfl⟩
def rcvCode(x:Gv):Int:=if x.limit≤x.rec' then 5 else 0
theorem gvreceive1_any(x:Gv)(q N:Nat)(h:Nat)(w:World)(hx:GvOk x q N)(hN:N≤1000000000000)(hb:Blk w h 206 (gvC x)):Calls Tryz.prog 120 #[.pointer (some ⟨h,0,none⟩)] w (GvP h w (rcvCode x) x.receive.1):=by
 obtain⟨xr,xc,xf⟩:=x;obtain⟨r0,r1,f0,f1,n1,full⟩:=hx;simp only at r0 r1 f0 f1 n1 full;have z0:0≤xc:=by omega
 have z1:xc≤1000000000000:=by omega
 have z2:xf≤1000000000000:=by omega
 clear f1 n1 full hN;have HB:=Lib.hid hb;have c0:w.cell? ⟨h,0,none⟩=some (.int .i64 xr):=hb.cell 0;have c1:w.cell? ⟨h,0+1,none⟩=some (.int .i64 xc):=hb.cell 1;have c2:w.cell? ⟨h,0+1+1,none⟩=some (.int .i64 xf):=hb.cell 2;have fr:w.frozen? ⟨h,0+1,none⟩=false:=hb.frozen 1;have lt:=hb.lt;have ne:¬h=w.heap.size:=by omega
 clear hb;have n0:=World.new_ne w ⟨h,0,none⟩ c0;have n1':=World.new_ne w ⟨h,0+1,none⟩ c1;have n2':=World.new_ne w ⟨h,0+1+1,none⟩ c2;have e1:rcvCode ⟨xr,xc,xf⟩=if xr+xf≤xc then 5 else 0:=rfl
 have e2:(⟨xr,xc,xf⟩:Gv).receive.1=if xr+xf≤xc then⟨xr,xc,xf⟩else⟨xr,xc+1,xf⟩:=by unfold Gv.receive Gv.limit;simp only;split<;>rfl
 have q1:IntKind.i64.wrap (xc+1)=xc+1:=IntWalk.i64_in _ (by omega);by_cases hf:xr+xf≤xc
 ·rw[if_pos hf]at e1 e2;rw[e1,e2];clear e1 e2
  go_enter Tryz.func120,Tryz.ntmps120
  go_wp2_with fail
  go_region_held3 (fun w'=>w'.cell? ⟨h,0,none⟩=some (.int .i64 xr)∧w'.cell? ⟨h,0+1,none⟩=some (.int .i64 xc)∧w'.cell? ⟨h,0+1+1,none⟩=some (.int .i64 xf)) (go_keep)
   (first|(go_at_call 121;refine(gvlimit_any xr xc xf _ (by omega) (by omega)).mono ?_;rintro e w' ⟨rfl,rfl⟩))
  all_goals go_wp2_with fail
  all_goals go_ret
  all_goals exact⟨rfl,(HB.out.drew.alloc _),((Ch.refl _ w).drew.alloc _)⟩
 ·rw[if_neg hf]at e1 e2;rw[e1,e2];clear e1 e2
  go_enter Tryz.func120,Tryz.ntmps120
  go_wp2_with fail
  go_region_held3 (fun w'=>w'.cell? ⟨h,0,none⟩=some (.int .i64 xr)∧w'.cell? ⟨h,0+1,none⟩=some (.int .i64 xc)∧w'.cell? ⟨h,0+1+1,none⟩=some (.int .i64 xf)) (go_keep)
   (first|(go_at_call 121;refine(gvlimit_any xr xc xf _ (by omega) (by omega)).mono ?_;rintro e w' ⟨rfl,rfl⟩))
  all_goals go_wp2_with fail
  all_goals go_ret
  all_goals exact⟨rfl,((HB.out.set_ 1 _).alloc _).drew,(((Ch.refl (· =h) w).setCell (p:=⟨h,1,none⟩) (.inl rfl) _).alloc _).drew⟩
theorem gvreceive_any(x:Gv)(q N:Nat)(g h:Nat)(w:World)(hx:GvOk x q N)(hN:N≤1000000000000)(hg:IsGv w g h x):Calls Tryz.prog 93 #[.pointer (some ⟨g,0,none⟩),.int .i64 0] w (GvP h w (rcvCode x) x.receive.1):=by
 have c0:w.cell? ⟨g,0,none⟩=some (.slice (some ⟨h,0,none⟩) 1 1):=hg.p.cell 0;have HC:=Lib.hid (gvreceive1_any x q N h w hx hN hg.c);clear hg hx;generalize rcvCode x=v at HC⊢;generalize x.receive.1=x' at HC⊢
 go_enter Tryz.func93,Tryz.ntmps93
 go_wp2_with (first|(go_at_call 120;refine HC.out.mono ?_;rintro e w' ⟨rfl,b1,b2⟩;have B1:=Lib.hid b1;have B2:=Lib.hid b2;clear b1 b2)|go_in)
 all_goals go_ret
 all_goals exact⟨rfl,B1.out,B2.out⟩
theorem gvfree1_any(x:Gv)(q N:Nat)(h:Nat)(w:World)(hx:GvOk x q N)(hN:N≤1000000000000)(hq:0<q)(hb:Blk w h 206 (gvC x)):Calls Tryz.prog 175 #[.pointer (some ⟨h,0,none⟩)] w (GvP h w 0 x.free):=by
 obtain⟨xr,xc,xf⟩:=x;obtain⟨r0,r1,f0,f1,n1,full⟩:=hx;simp only at r0 r1 f0 f1 n1 full;have e2:(⟨xr,xc,xf⟩:Gv).free=⟨xr,xc,xf+1⟩:=by unfold Gv.free;simp only;rw[if_neg (by omega)]
 rw[e2];clear e2;have z3:xf<xc:=by omega
 have z2:xf≤1000000000000:=by omega
 have q1:IntKind.i64.wrap (xf+1)=xf+1:=IntWalk.i64_in _ (by omega);clear f1 n1 full hN;have HB:=Lib.hid hb;have c1:w.cell? ⟨h,0+1,none⟩=some (.int .i64 xc):=hb.cell 1;have c2:w.cell? ⟨h,0+1+1,none⟩=some (.int .i64 xf):=hb.cell 2;have fr:w.frozen? ⟨h,0+1+1,none⟩=false:=hb.frozen 2;clear hb
 go_enter Tryz.func175,Tryz.ntmps175
 go_wp2_with fail
 go_quiet (fail)
 go_wp2_with fail
 go_ret
 exact⟨rfl,(HB.out.set_ 2 _).drewN _,((Ch.refl (· =h) w).setCell (p:=⟨h,2,none⟩) (.inl rfl) _).drewN _⟩
theorem gvfree_any(x:Gv)(q N:Nat)(g h:Nat)(w:World)(hx:GvOk x q N)(hN:N≤1000000000000)(hq:0<q)(hg:IsGv w g h x):Calls Tryz.prog 152 #[.pointer (some ⟨g,0,none⟩),.int .i64 0] w (GvP h w 0 x.free):=by
 have c0:w.cell? ⟨g,0,none⟩=some (.slice (some ⟨h,0,none⟩) 1 1):=hg.p.cell 0;have HC:=Lib.hid (gvfree1_any x q N h w hx hN hq hg.c);clear hg hx;generalize x.free=x' at HC⊢
 go_enter Tryz.func152,Tryz.ntmps152
 go_wp2_with (first|(go_at_call 175;refine HC.out.mono ?_;rintro e w' ⟨rfl,b1,b2⟩;have B1:=Lib.hid b1;have B2:=Lib.hid b2;clear b1 b2)|go_in)
 all_goals go_ret
 all_goals exact⟨rfl,B1.out,B2.out⟩
theorem gvlim1_any(x:Gv)(q N:Nat)(h v:Nat)(w:World)(hx:GvOk x q N)(hN:N≤1000000000000)(hb:Blk w h 206 (gvC x))(u:Value)(hv:Blk w v 3 #[u]):Calls Tryz.prog 157 #[.pointer (some ⟨h,0,none⟩),.pointer (some ⟨v,0,none⟩)] w fun e w'=>e=.returned (.int .i64 0)∧Blk w' v 3 #[.int .i64 x.limit]∧Ch (· =v) w w':=by
 obtain⟨xr,xc,xf⟩:=x;obtain⟨r0,r1,f0,f1,n1,full⟩:=hx;simp only at r0 r1 f0 f1 n1 full;show Calls _ _ _ _ fun e w'=>e=.returned (.int .i64 0)∧Blk w' v 3 #[.int .i64 (xr+xf)]∧Ch (· =v) w w';have z2:xf≤1000000000000:=by omega
 clear f1 n1 full hN;have HB:=Lib.hid hb;have HV:=Lib.hid hv;have c0:w.cell? ⟨h,0,none⟩=some (.int .i64 xr):=hb.cell 0;have c1:w.cell? ⟨h,0+1,none⟩=some (.int .i64 xc):=hb.cell 1;have c2:w.cell? ⟨h,0+1+1,none⟩=some (.int .i64 xf):=hb.cell 2;have fr:w.frozen? ⟨v,0,none⟩=false:=hv.frozen 0;have cv:w.cell? ⟨v,0,none⟩=some u:=hv.cell 0;have lt:=hv.lt;have ne:¬v=w.heap.size:=by omega
 have nn:=World.new_ne w ⟨v,0,none⟩ cv;clear hb hv
 go_enter Tryz.func157,Tryz.ntmps157
 go_wp2_with (first|(go_at_call 121;refine(gvlimit_any xr xc xf _ (by omega) (by omega)).mono ?_;rintro e w' ⟨rfl,rfl⟩))
 go_ret
 exact⟨rfl,((HV.out.set_ 0 _).alloc _),((Ch.refl (· =v) w).setCell (p:=⟨v,0,none⟩) (.inl rfl) _).alloc _⟩
theorem gvlim_any(x:Gv)(q N:Nat)(g h:Nat)(w:World)(hx:GvOk x q N)(hN:N≤1000000000000)(hg:IsGv w g h x):Calls Tryz.prog 133 #[.pointer (some ⟨g,0,none⟩),.int .i64 0] w fun e w'=>e=.returned (.int .i64 x.limit)∧Below w.heap.size w w':=by
 obtain⟨w1,hw1⟩:∃w1:World,w.alloc (.cells #[.int .i64 0] 3)=w1:=⟨_,rfl⟩;have BV:Hid (Blk w1 w.heap.size 3 #[.int .i64 0]):=by rw[←hw1];exact Blk.new w _ _
 have BW:Hid (Below w.heap.size w w1):=by rw[←hw1];exact(Below.refl _ _).alloc (Nat.le_refl _) _
 have gp:=hg.p.below BW.out hg.p.lt;have gc:=hg.c.below BW.out hg.c.lt;have c0:w1.cell? ⟨g,0,none⟩=some (.slice (some ⟨h,0,none⟩) 1 1):=gp.cell 0;have HC:=Lib.hid (gvlim1_any x q N h w.heap.size w1 hx hN gc _ BV.out);have HW:=Lib.hid hw1;clear hw1 hg hx gp gc;generalize x.limit=l at HC⊢
 go_enter Tryz.func133,Tryz.ntmps133
 go_wp2_with (first|(go_at_call 157;refine HC.out.mono ?_;rintro e w' ⟨rfl,b1,b2⟩;have cl:=b1.cell 0;have B1:=Lib.hid b1;have B2:=Lib.hid b2;clear b1 b2)|(go_at_call 119;rw[HW.out];go_in))
 all_goals go_ret
 all_goals exact⟨rfl,BW.out.trans (B2.out.below (by exact BW.out.size) (by rintro k rfl;exact Nat.le_refl _))⟩
theorem tkraise1_any(x:Tk)(N:Nat)(l:Int)(h v:Nat)(w:World)(hx:TkOk x N)(hN:N≤1000000000000)(hl:(Lit.int .i64 l).wf=true)(hb:Blk w h 228 (tkC x))(hv:Blk w v 3 #[.int .i64 l]):Calls Tryz.prog 123 #[.pointer (some ⟨h,0,none⟩),.pointer (some ⟨v,0,none⟩)] w fun e w'=>(∃c:Int,e=.returned (.int .i64 c))∧Blk w' h 228 (tkC (x.raise l))∧Ch (· =h) w w':=by
 obtain⟨xs,xl⟩:=x;obtain⟨s0,s1,l0,l1,le⟩:=hx;simp only at s0 s1 l0 l1 le;have HB:=Lib.hid hb;have c0:w.cell? ⟨h,0,none⟩=some (.int .i64 xs):=hb.cell 0;have c1:w.cell? ⟨h,0+1,none⟩=some (.int .i64 xl):=hb.cell 1;have fr:w.frozen? ⟨h,0+1,none⟩=false:=hb.frozen 1;have cv:w.cell? ⟨v,0,none⟩=some (.int .i64 l):=hv.cell 0;clear hb hv;by_cases h0:l<0
 ·have e:(⟨xs,xl⟩:Tk).raise l=⟨xs,xl⟩:=by unfold Tk.raise;rw[if_pos (.inl h0)]
  rw[e];clear e
  go_enter Tryz.func123,Tryz.ntmps123
  go_wp2_with fail
  go_ret
  exact⟨⟨_,rfl⟩,HB.out,Ch.refl _ _⟩
 ·by_cases h1:1099511627776<l
  ·have e:(⟨xs,xl⟩:Tk).raise l=⟨xs,xl⟩:=by unfold Tk.raise;rw[if_pos (.inr h1)]
   rw[e];clear e
   go_enter Tryz.func123,Tryz.ntmps123
   go_wp2_with fail
   go_ret
   exact⟨⟨_,rfl⟩,HB.out,Ch.refl _ _⟩
  ·have e:(⟨xs,xl⟩:Tk).raise l=⟨xs,max xl l⟩:=by unfold Tk.raise;rw[if_neg (by omega)]
   rw[e];clear e;have q0:0≤l:=by omega
   have q1:l≤1099511627776:=(by omega);by_cases hm:xl<l
   ·rw[Int.max_eq_right (by omega)]
    go_enter Tryz.func123,Tryz.ntmps123
    go_wp2_with fail
    go_region
    all_goals go_wp2_with fail
    all_goals go_ret
    all_goals exact⟨⟨_,rfl⟩,(HB.out.set_ 1 _).drew,((Ch.refl (· =h) w).setCell (p:=⟨h,1,none⟩) (.inl rfl) _).drew⟩
   ·rw[Int.max_eq_left (by omega)]
    go_enter Tryz.func123,Tryz.ntmps123
    go_wp2_with fail
    go_region
    all_goals go_wp2_with fail
    all_goals go_ret
    all_goals exact⟨⟨_,rfl⟩,(HB.out.set_ 1 _).drew,((Ch.refl (· =h) w).setCell (p:=⟨h,1,none⟩) (.inl rfl) _).drew⟩
theorem tkraise_any(x:Tk)(N:Nat)(l:Int)(g h:Nat)(w:World)(hx:TkOk x N)(hN:N≤1000000000000)(hl:(Lit.int .i64 l).wf=true)(hg:IsTk w g h x):Calls Tryz.prog 94 #[.pointer (some ⟨g,0,none⟩),.int .i64 0,.int .i64 l] w fun e w'=>(∃c:Int,e=.returned (.int .i64 c))∧Blk w' h 228 (tkC (x.raise l))∧Ch (· =h) w w':=by
 obtain⟨w1,hw1⟩:∃w1:World,w.alloc (.cells #[.int .i64 l] 3)=w1:=⟨_,rfl⟩;have BV:Hid (Blk w1 w.heap.size 3 #[.int .i64 l]):=by rw[←hw1];exact Blk.new w _ _
 have BW:Hid (Below w.heap.size w w1):=by rw[←hw1];exact(Below.refl _ _).alloc (Nat.le_refl _) _
 have gp:=hg.p.below BW.out hg.p.lt;have gc:=hg.c.below BW.out hg.c.lt;have c0:w1.cell? ⟨g,0,none⟩=some (.slice (some ⟨h,0,none⟩) 1 1):=gp.cell 0;have HC:=Lib.hid (tkraise1_any x N l h w.heap.size w1 hx hN hl gc BV.out);have HW:=Lib.hid hw1;clear hw1 hg hx gp gc;generalize x.raise l=x' at HC⊢
 go_enter Tryz.func94,Tryz.ntmps94
 go_wp2_with (first|(go_at_call 123;refine HC.out.mono ?_;rintro e w' ⟨⟨c,rfl⟩,b1,b2⟩;have B1:=Lib.hid b1;have B2:=Lib.hid b2;clear b1 b2)|(go_at_call 122;rw[HW.out];go_in))
 all_goals go_ret
 all_goals exact⟨⟨_,rfl⟩,B1.out,(Ch.of_below BW.out).trans B2.out (fun i _ q=>q)⟩
theorem tktake1_any(x:Tk)(N:Nat)(h:Nat)(w:World)(hx:TkOk x N)(hN:N≤1000000000000)(hlt:x.sent<x.lim)(hb:Blk w h 228 (tkC x)):Calls Tryz.prog 156 #[.pointer (some ⟨h,0,none⟩)] w (TkP h w 0 x.take):=by
 obtain⟨xs,xl⟩:=x;obtain⟨s0,s1,l0,l1,le⟩:=hx;simp only at s0 s1 l0 l1 le hlt;have e:(⟨xs,xl⟩:Tk).take=⟨xs+1,xl⟩:=by unfold Tk.take;simp only;rw[if_neg (by omega)]
 rw[e];clear e;have q1:IntKind.i64.wrap (xs+1)=xs+1:=IntWalk.i64_in _ (by omega);have HB:=Lib.hid hb;have c0:w.cell? ⟨h,0,none⟩=some (.int .i64 xs):=hb.cell 0;have c1:w.cell? ⟨h,0+1,none⟩=some (.int .i64 xl):=hb.cell 1;have fr:w.frozen? ⟨h,0,none⟩=false:=hb.frozen 0;clear hb
 go_enter Tryz.func156,Tryz.ntmps156
 go_wp2_with fail
 go_quiet (fail)
 go_wp2_with fail
 go_ret
 exact⟨rfl,(HB.out.set_ 0 _).drewN _,((Ch.refl (· =h) w).setCell (p:=⟨h,0,none⟩) (.inl rfl) _).drewN _⟩
theorem tktake_any(x:Tk)(N:Nat)(g h:Nat)(w:World)(hx:TkOk x N)(hN:N≤1000000000000)(hlt:x.sent<x.lim)(hg:IsTk w g h x):Calls Tryz.prog 132 #[.pointer (some ⟨g,0,none⟩),.int .i64 0] w (TkP h w 0 x.take):=by
 have c0:w.cell? ⟨g,0,none⟩=some (.slice (some ⟨h,0,none⟩) 1 1):=hg.p.cell 0;have HC:=Lib.hid (tktake1_any x N h w hx hN hlt hg.c);clear hg hx hlt;generalize x.take=x' at HC⊢
 go_enter Tryz.func132,Tryz.ntmps132
 go_wp2_with (first|(go_at_call 156;refine HC.out.mono ?_;rintro e w' ⟨rfl,b1,b2⟩;have B1:=Lib.hid b1;have B2:=Lib.hid b2;clear b1 b2)|go_in)
 all_goals go_ret
 all_goals exact⟨rfl,B1.out,B2.out⟩
theorem tkleft1_any(x:Tk)(N:Nat)(h v:Nat)(w:World)(hx:TkOk x N)(hN:N≤1000000000000)(hb:Blk w h 228 (tkC x))(u:Value)(hv:Blk w v 3 #[u]):Calls Tryz.prog 153 #[.pointer (some ⟨h,0,none⟩),.pointer (some ⟨v,0,none⟩)] w fun e w'=>e=.returned (.int .i64 0)∧Blk w' v 3 #[.int .i64 x.left]∧Ch (· =v) w w':=by
 obtain⟨xs,xl⟩:=x;obtain⟨s0,s1,l0,l1,le⟩:=hx;simp only at s0 s1 l0 l1 le;show Calls _ _ _ _ fun e w'=>e=.returned (.int .i64 0)∧Blk w' v 3 #[.int .i64 (xl-xs)]∧Ch (· =v) w w';have q1:IntKind.i64.wrap (xl-xs)=xl-xs:=IntWalk.i64_in _ (by omega);have HV:=Lib.hid hv;have c0:w.cell? ⟨h,0,none⟩=some (.int .i64 xs):=hb.cell 0;have c1:w.cell? ⟨h,0+1,none⟩=some (.int .i64 xl):=hb.cell 1;have fr:w.frozen? ⟨v,0,none⟩=false:=hv.frozen 0;have cv:w.cell? ⟨v,0,none⟩=some u:=hv.cell 0;clear hb hv
 go_enter Tryz.func153,Tryz.ntmps153
 go_wp2_with fail
 go_region
 all_goals go_wp2_with fail
 all_goals go_ret
 all_goals exact⟨rfl,(HV.out.set_ 0 _).drew,((Ch.refl (· =v) w).setCell (p:=⟨v,0,none⟩) (.inl rfl) _).drew⟩
theorem tkleft_any(x:Tk)(N:Nat)(g h:Nat)(w:World)(hx:TkOk x N)(hN:N≤1000000000000)(hg:IsTk w g h x):Calls Tryz.prog 129 #[.pointer (some ⟨g,0,none⟩),.int .i64 0] w fun e w'=>e=.returned (.int .i64 x.left)∧Below w.heap.size w w':=by
 obtain⟨w1,hw1⟩:∃w1:World,w.alloc (.cells #[.int .i64 0] 3)=w1:=⟨_,rfl⟩;have BV:Hid (Blk w1 w.heap.size 3 #[.int .i64 0]):=by rw[←hw1];exact Blk.new w _ _
 have BW:Hid (Below w.heap.size w w1):=by rw[←hw1];exact(Below.refl _ _).alloc (Nat.le_refl _) _
 have gp:=hg.p.below BW.out hg.p.lt;have gc:=hg.c.below BW.out hg.c.lt;have c0:w1.cell? ⟨g,0,none⟩=some (.slice (some ⟨h,0,none⟩) 1 1):=gp.cell 0;have HC:=Lib.hid (tkleft1_any x N h w.heap.size w1 hx hN gc _ BV.out);have HW:=Lib.hid hw1;clear hw1 hg hx gp gc;generalize x.left=l at HC⊢
 go_enter Tryz.func129,Tryz.ntmps129
 go_wp2_with (first|(go_at_call 153;refine HC.out.mono ?_;rintro e w' ⟨rfl,b1,b2⟩;have cl:=b1.cell 0;have B1:=Lib.hid b1;have B2:=Lib.hid b2;clear b1 b2)|(go_at_call 122;rw[HW.out];go_in))
 all_goals go_ret
 all_goals exact⟨rfl,BW.out.trans (B2.out.below (by exact BW.out.size) (by rintro k rfl;exact Nat.le_refl _))⟩
def optV:Option Nat→Value
 |none=>.int .i64 (-1)
 |some k=>.int .i64 k
def optI:Option Nat→Int
 |none=>-1
 |some k=>k
theorem optV_int(o:Option Nat):optV o=.int .i64 (optI o):=by cases o<;>rfl
theorem find_range_some{s:Nat→Bool}{f:Nat→Nat}{n k:Nat}(hk:k<n)(h:s (f k)=true)(hno:∀j,j<k→s (f j)=false):((List.range n).map f).find? s=some (f k):=by rw[List.find?_map,Option.map_eq_some_iff];refine⟨k,?_,rfl⟩;rw[List.find?_range_eq_some];exact⟨h,by simpa using hk,fun j hj=>by simp[hno j hj]⟩
theorem find_range_none{s:Nat→Bool}{f:Nat→Nat}{n:Nat}(hno:∀j,j<n→s (f j)=false):((List.range n).map f).find? s=none:=by rw[List.find?_eq_none];intro x hx;simp only[List.mem_map,List.mem_range]at hx;obtain⟨j,hj,rfl⟩:=hx;simp[hno j hj]
def FirstPost(n fr:Nat)(s:Nat→Bool)(w:World)(e:Ending)(w':World):Prop:=e=.returned (.int .i64 (optI (firstC n fr s)))∧Below w.heap.size w w'
def RelFst(n fr:Nat)(s:Nat→Bool)(w:World)(i:Value)(wr:World):Prop:=∃k:Nat,k≤n∧i=.int .i64 k∧(∀j,j<k→s ((fr+j)%n)=false)∧Below w.heap.size w wr
theorem first1_any(n fr:Nat)(s:Nat→Bool)(bM bR bK:Nat)(w:World)(hn:n≤8)(hf:fr<8)(HS:∀(x:Nat) (w':World),x<n→Below w.heap.size w w'→Calls Tryz.prog 177 #[.int .i64 x,.pointer (some ⟨bM,0,none⟩),.pointer (some ⟨bR,0,none⟩),.pointer (some ⟨bK,0,none⟩)] w' fun e w''=>e=.returned (.bool (s x))∧Below w'.heap.size w' w''):Calls Tryz.prog 176 #[.int .i64 n,.int .i64 fr,.func (.func 177) #[] #[.pointer (some ⟨bM,0,none⟩),.pointer (some ⟨bR,0,none⟩),.pointer (some ⟨bK,0,none⟩)]] w (FirstPost n fr s w):=by
 have HC:=Lib.hid HS;clear HS
 go_enter Tryz.func176,Tryz.ntmps176
 go_wp2_with fail
 go_loopw [7,8,10] (fun _ _ i wr=>RelFst n fr s w i wr) (fun _ _ i _=>n-(RowKit.intOf i).toNat)
 case atStart=>exact⟨0,Nat.zero_le _,rfl,by simp,Below.refl _ _⟩
 case round=>
  obtain⟨k,hk,rfl,hno,bel⟩:=hrel;have HNO:=Lib.hid hno;have BEL:=Lib.hid bel;clear hno bel;by_cases hkn:k<n
  ·have HCK:Hid (Calls Tryz.prog 177 #[.int .i64 ((fr+k)%n:Nat),.pointer (some ⟨bM,0,none⟩),.pointer (some ⟨bR,0,none⟩),.pointer (some ⟨bK,0,none⟩)] wr fun e w''=>e=.returned (.bool (s ((fr+k)%n)))∧Below wr.heap.size wr w''):=HC.out _ _ (Nat.mod_lt _ (by omega)) BEL.out;have MD:Hid (((fr:Int)+(k:Int))%(n:Int)=(((fr+k)%n:Nat):Int)):=by rw[Hid];push_cast;rfl
   cases hs:s ((fr+k)%n)with
   |true=>
    rw[hs]at HCK;have HF:Hid (firstC n fr s=some ((fr+k)%n)):=find_range_some hkn hs HNO.out;clear hs;generalize(fr+k)%n=y at HCK MD HF
    go_wp2_with (first|(go_at_call 177;rw[MD.out];refine HCK.out.mono ?_;rintro e w' ⟨rfl,b⟩;have B:=Lib.hid b;clear b))
    go_ret
    exact⟨by rw[HF.out];rfl,BEL.out.trans (B.out.mono BEL.out.size)⟩
   |false=>
    rw[hs]at HCK;have HN2:Hid (∀j,j<k+1→s ((fr+j)%n)=false):=fun j hj=>by
     by_cases e:j=k
     ·rw[e];exact hs
     ·exact HNO.out j (by omega)
    clear hs;generalize(fr+k)%n=y at HCK MD
    go_wp2_with (first|(go_at_call 177;rw[MD.out];refine HCK.out.mono ?_;rintro e w' ⟨rfl,b⟩;have B:=Lib.hid b;clear b))
    exact⟨⟨k+1,by omega,by simp,HN2.out,BEL.out.trans (B.out.mono BEL.out.size)⟩,by simp[RowKit.intOf];omega⟩
  ·obtain rfl:k=n:=by omega
   have HF:Hid (firstC k fr s=none):=find_range_none HNO.out
   go_wp2_with fail
   go_ret
   exact⟨by rw[HF.out];rfl,BEL.out⟩
theorem first2_any(n fr:Nat)(s:Nat→Bool)(bM bR:Nat)(w:World)(hn:n≤8)(hf:fr<8)(HS:∀(x:Nat) (w':World),x<n→Below w.heap.size w w'→Calls Tryz.prog 178 #[.int .i64 x,.pointer (some ⟨bM,0,none⟩),.pointer (some ⟨bR,0,none⟩)] w' fun e w''=>e=.returned (.bool (s x))∧Below w'.heap.size w' w''):Calls Tryz.prog 176 #[.int .i64 n,.int .i64 fr,.func (.func 178) #[] #[.pointer (some ⟨bM,0,none⟩),.pointer (some ⟨bR,0,none⟩)]] w (FirstPost n fr s w):=by
 have HC:=Lib.hid HS;clear HS
 go_enter Tryz.func176,Tryz.ntmps176
 go_wp2_with fail
 go_loopw [7,8,10] (fun _ _ i wr=>RelFst n fr s w i wr) (fun _ _ i _=>n-(RowKit.intOf i).toNat)
 case atStart=>exact⟨0,Nat.zero_le _,rfl,by simp,Below.refl _ _⟩
 case round=>
  obtain⟨k,hk,rfl,hno,bel⟩:=hrel;have HNO:=Lib.hid hno;have BEL:=Lib.hid bel;clear hno bel;by_cases hkn:k<n
  ·have HCK:Hid (Calls Tryz.prog 178 #[.int .i64 ((fr+k)%n:Nat),.pointer (some ⟨bM,0,none⟩),.pointer (some ⟨bR,0,none⟩)] wr fun e w''=>e=.returned (.bool (s ((fr+k)%n)))∧Below wr.heap.size wr w''):=HC.out _ _ (Nat.mod_lt _ (by omega)) BEL.out;have MD:Hid (((fr:Int)+(k:Int))%(n:Int)=(((fr+k)%n:Nat):Int)):=by rw[Hid];push_cast;rfl
   cases hs:s ((fr+k)%n)with
   |true=>
    rw[hs]at HCK;have HF:Hid (firstC n fr s=some ((fr+k)%n)):=find_range_some hkn hs HNO.out;clear hs;generalize(fr+k)%n=y at HCK MD HF
    go_wp2_with (first|(go_at_call 178;rw[MD.out];refine HCK.out.mono ?_;rintro e w' ⟨rfl,b⟩;have B:=Lib.hid b;clear b))
    go_ret
    exact⟨by rw[HF.out];rfl,BEL.out.trans (B.out.mono BEL.out.size)⟩
   |false=>
    rw[hs]at HCK;have HN2:Hid (∀j,j<k+1→s ((fr+j)%n)=false):=fun j hj=>by
     by_cases e:j=k
     ·rw[e];exact hs
     ·exact HNO.out j (by omega)
    clear hs;generalize(fr+k)%n=y at HCK MD
    go_wp2_with (first|(go_at_call 178;rw[MD.out];refine HCK.out.mono ?_;rintro e w' ⟨rfl,b⟩;have B:=Lib.hid b;clear b))
    exact⟨⟨k+1,by omega,by simp,HN2.out,BEL.out.trans (B.out.mono BEL.out.size)⟩,by simp[RowKit.intOf];omega⟩
  ·obtain rfl:k=n:=by omega
   have HF:Hid (firstC k fr s=none):=find_range_none HNO.out
   go_wp2_with fail
   go_ret
   exact⟨by rw[HF.out];rfl,BEL.out⟩
def cNt(k:Nat):Value:=.int .i64 k
theorem arr_at{α:Type}(f:α→Value)(d:α)(l:List α){i:Nat}(h:i<l.length):(l.map f).toArray[i]?=some (f (l.getD i d)):=by simp[List.getD,h]
theorem arr_set{α:Type}(f:α→Value)(l:List α)(i:Nat)(x:α):(l.map f).toArray.setIfInBounds i (f x)=((l.set i x).map f).toArray:=by simp[List.map_set]
structure ReqM(w:World)(R:Option Addr)(n:Nat)(rq:Nat→Nat→Bool):Prop where
 n0:1≤n
 n1:n≤8
 rows:∃(b:Nat) (V:Nat→Value) (cs:Array Value),R=some ⟨b,0,none⟩∧Blk w b 52 cs∧∀i,i<n→cs[i]?=some (V i)∧
  ∃b2 c2 cs2,V i=.slice (some ⟨b2,0,none⟩) n c2∧Blk w b2 4 cs2∧∀k,k<n→cs2[k]?=some (.bool (rq i k))
theorem ReqM.ch{w w':World}{S:Nat→Prop}{R:Option Addr}{n:Nat}{rq:Nat→Nat→Bool}(h:ReqM w R n rq)(hc:Ch S w w')(hS:∀k t cs,S k→Blk w k t cs→t≠52∧t≠4):ReqM w' R n rq:=by obtain⟨b,V,cs,e,hb,hr⟩:=h.rows;refine⟨h.n0,h.n1,b,V,cs,e,hb.ch hc fun q=>(hS _ _ _ q hb).1 rfl,fun i hi=>?_⟩;obtain⟨h1,b2,c2,cs2,h2,h3,h4⟩:=hr i hi;exact⟨h1,b2,c2,cs2,h2,h3.ch hc fun q=>(hS _ _ _ q h3).2 rfl,h4⟩
theorem ReqM.below{w w':World}{R:Option Addr}{n:Nat}{rq:Nat→Nat→Bool}(h:ReqM w R n rq)(hb:Below w.heap.size w w'):ReqM w' R n rq:=h.ch (S:=fun _=>False) (Ch.of_below hb) (fun k t cs q=>q.elim)
def barL(b:Bar)(n:Nat):List Nat:=n::(b.grant++b.acc)
structure MatM(w:World)(bb bM bT n:Nat)(m:Mat):Prop where
 bar:Blk w bb 201 ((barL m.bar n).map cNt).toArray
 mt:Blk w bM 3 (m.mt.map optV).toArray
 tk:Blk w bT 259 (m.taken.map Value.bool).toArray
 lm:m.mt.length=n
 lt:m.taken.length=8
 ok:BarOk m.bar n
theorem MatM.ch{w w':World}{S:Nat→Prop}{bb bM bT n:Nat}{m:Mat}(h:MatM w bb bM bT n m)(hc:Ch S w w')(h1:¬S bb)(h2:¬S bM)(h3:¬S bT):MatM w' bb bM bT n m:=
 ⟨h.bar.ch hc h1,h.mt.ch hc h2,h.tk.ch hc h3,h.lm,h.lt,h.ok⟩
theorem MatM.drew{w:World}{bb bM bT n:Nat}{m:Mat}(h:MatM w bb bM bT n m):MatM w.drew bb bM bT n m:=⟨h.bar,h.mt,h.tk,h.lm,h.lt,h.ok⟩
theorem MatM.below{w w':World}{bb bM bT n:Nat}{m:Mat}(h:MatM w bb bM bT n m)(hb:Below w.heap.size w w'):MatM w' bb bM bT n m:=h.ch (S:=fun _=>False) (Ch.of_below hb) id id id
theorem BarOk.len{b:Bar}{n:Nat}(h:BarOk b n):(barL b n).length=17:=by unfold barL;simp[h.gl,h.al]
theorem barL_g{b:Bar}{n k:Nat}(h:BarOk b n)(hk:k<8):(barL b n).getD (1+k) 0=b.grant.getD k 0:=by unfold barL;rw[show 1+k=k+1 by omega];simp[List.getD,List.getElem?_append,h.gl,hk]
theorem barL_a{b:Bar}{n k:Nat}(h:BarOk b n)(hk:k<8):(barL b n).getD (9+k) 0=b.acc.getD k 0:=by
 unfold barL;rw[show 9+k=(8+k)+1 by omega];have e:¬8+k<8:=by omega
 simp[List.getD,List.getElem?_append,h.gl,e]
theorem barL_setG{b:Bar}{n k x:Nat}(h:BarOk b n)(hk:k<8):(barL b n).set (1+k) x=barL ⟨b.grant.set k x,b.acc⟩ n:=by unfold barL;rw[show 1+k=k+1 by omega];simp[List.set_append,h.gl,hk]
theorem barL_setA{b:Bar}{n k x:Nat}(h:BarOk b n)(hk:k<8):(barL b n).set (9+k) x=barL ⟨b.grant,b.acc.set k x⟩ n:=by unfold barL;rw[show 9+k=(8+k)+1 by omega];simp[List.set_append,h.gl]
theorem BarOk.setG{b:Bar}{n k x:Nat}(h:BarOk b n)(hx:x<n):BarOk ⟨b.grant.set k x,b.acc⟩ n:=
 ⟨by simp[h.gl],h.al,fun j=>by
  by_cases e:j=k
  ·subst e;by_cases hj:j<b.grant.length
   ·simp only;rw[getD_set_at _ _ _ hj];exact hx
   ·simp only;rw[List.set_eq_of_length_le (by omega)];exact h.g j
  ·simp only;rw[getD_set_far _ _ _ e];exact h.g j,h.a⟩
theorem BarOk.setA{b:Bar}{n k x:Nat}(h:BarOk b n)(hx:x<n):BarOk ⟨b.grant,b.acc.set k x⟩ n:=
 ⟨h.gl,by simp[h.al],h.g,fun j=>by
  by_cases e:j=k
  ·subst e;by_cases hj:j<b.acc.length
   ·simp only;rw[getD_set_at _ _ _ hj];exact hx
   ·simp only;rw[List.set_eq_of_length_le (by omega)];exact h.a j
  ·simp only;rw[getD_set_far _ _ _ e];exact h.a j⟩
theorem round1_any(n cp:Nat)(R:Option Addr)(rq:Nat→Nat→Bool)(mt:List (Option Nat))(bM cM bm bR bK i k:Nat)(w:World)(hR:ReqM w R n rq)(hM:Blk w bM 3 (mt.map optV).toArray)(hl:mt.length=n)(hi:i<n)(hk:k<n)(cm:w.cell? ⟨bm,0,none⟩=some (.slice (some ⟨bM,0,none⟩) n cM))(cr:w.cell? ⟨bR,0,none⟩=some (.slice R n cp))(ck:w.cell? ⟨bK,0,none⟩=some (.int .i64 k)):Calls Tryz.prog 177 #[.int .i64 i,.pointer (some ⟨bm,0,none⟩),.pointer (some ⟨bR,0,none⟩),.pointer (some ⟨bK,0,none⟩)] w fun e w'=>e=.returned (.bool ((mt.getD i none).isNone&&rq i k))∧Below w.heap.size w w':=by
 obtain⟨b,V,cs,rfl,hb,hr⟩:=hR.rows;obtain⟨h1',b2,c2,cs2,h2,h3,h4⟩:=hr i hi;have c4:w.cell? ⟨b2,k,none⟩=some (.bool (rq i k)):=by rw[h3.cell];exact h4 k hk
 have h1:w.cell? ⟨b,i,none⟩=some (.slice (some ⟨b2,0,none⟩) n c2):=by rw[hb.cell,h1',h2]
 have cM0:w.cell? ⟨bM,i,none⟩=some (optV (mt.getD i none)):=by rw[hM.cell];exact arr_at _ _ _ (by omega)
 have n8:=hR.n1;have i0:(0:Int)≤(i:Int):=by omega
 have i1:(i:Int)<(n:Int):=by omega
 have k0:(0:Int)≤(k:Int):=by omega
 have k1:(k:Int)<(n:Int):=by omega
 clear hr hR hM h4 h2 hb h3 hl h1';cases hm:mt.getD i none with
 |none=>
  have e1:((none:Option Nat).isNone&&rq i k)=rq i k:=rfl;rw[e1];rw[hm]at cM0;have c5:w.cell? ⟨bM,i,none⟩=some (.int .i64 (-1)):=cM0;clear hm cM0 e1;generalize rq i k=q at *
  go_enter Tryz.func177,Tryz.ntmps177
  go_wp2_with fail
  go_quiet (fail)
  go_wp2_with fail
  go_ret
  exact⟨rfl,below_drewN (Below.refl _ _) _⟩
 |some x=>
  have e1:((some x:Option Nat).isNone&&rq i k)=false:=rfl;rw[e1];rw[hm]at cM0;have c5:w.cell? ⟨bM,i,none⟩=some (.int .i64 (x:Int)):=cM0;have c6:decide ((x:Int)<0)=false:=by simp
  clear hm cM0 e1
  go_enter Tryz.func177,Tryz.ntmps177
  go_wp2_with fail
  go_quiet (fail)
  go_wp2_with fail
  go_ret
  exact⟨rfl,below_drewN (Below.refl _ _) _⟩
theorem round2_any(g:List (Option Nat))(bG bK i k n:Nat)(w:World)(hn:n≤8)(hG:∀j,j<n→w.cell? ⟨bG,j,none⟩=some (optV (g.getD j none)))(hk:k<n)(ck:w.cell? ⟨bK,0,none⟩=some (.int .i64 i)):Calls Tryz.prog 178 #[.int .i64 k,.pointer (some ⟨bG,0,none⟩),.pointer (some ⟨bK,0,none⟩)] w fun e w'=>e=.returned (.bool (g.getD k none==some i))∧Below w.heap.size w w':=by
 have c:=hG k hk;rw[optV_int]at c;have E:Hid ((g.getD k none==some i)=(optI (g.getD k none)==(i:Int))):=by
  rw[Hid];cases g.getD k none with
  |none=>rw[Bool.eq_iff_iff];simp[optI]
  |some x=>rw[Bool.eq_iff_iff];simp[optI];omega
 rw[E.out];generalize optI (g.getD k none)=q at *;have k0:(0:Int)≤(k:Int):=by omega
 have k1:(k:Int)<(8:Int):=by omega
 clear hG E
 go_enter Tryz.func178,Tryz.ntmps178
 go_wp2_with fail
 go_quiet (fail)
 go_wp2_with fail
 go_ret
 exact⟨rfl,below_drewN (Below.refl _ _) _⟩
theorem MatM.setM{w:World}{bb bM bT n:Nat}{m:Mat}(h:MatM w bb bM bT n m)(i k:Nat):MatM (w.setCell ⟨bM,i,none⟩ (.int .i64 k)) bb bM bT n ⟨m.mt.set i (some k),m.taken,m.bar⟩:=
 ⟨h.bar.far (h.bar.ne_ h.mt (by decide)) _,by have:=h.mt.set_ i (optV (some k));rw[arr_set]at this;exact this,h.tk.far (h.tk.ne_ h.mt (by decide)) _,by simp[h.lm],h.lt,h.ok⟩
theorem MatM.setT{w:World}{bb bM bT n:Nat}{m:Mat}(h:MatM w bb bM bT n m)(k:Nat):MatM (w.setCell ⟨bT,k,none⟩ (.bool true)) bb bM bT n ⟨m.mt,m.taken.set k true,m.bar⟩:=
 ⟨h.bar.far (h.bar.ne_ h.tk (by decide)) _,h.mt.far (h.mt.ne_ h.tk (by decide)) _,by have:=h.tk.set_ k (.bool true);rw[arr_set]at this;exact this,h.lm,by simp[h.lt],h.ok⟩
theorem MatM.setG{w:World}{bb bM bT n:Nat}{m:Mat}(h:MatM w bb bM bT n m){k x:Nat}(hk:k<8)(hx:x<n):MatM (w.setCell ⟨bb,0+1+k,none⟩ (.int .i64 x)) bb bM bT n ⟨m.mt,m.taken,⟨m.bar.grant.set k x,m.bar.acc⟩⟩:=
 ⟨by have:=h.bar.set_ (0+1+k) (cNt x);rw[arr_set,show 0+1+k=1+k by omega,barL_setG h.ok hk]at this;rw[show 0+1+k=1+k by omega];exact this,h.mt.far (h.mt.ne_ h.bar (by decide)) _,h.tk.far (h.tk.ne_ h.bar (by decide)) _,h.lm,h.lt,h.ok.setG hx⟩
theorem MatM.setA{w:World}{bb bM bT n:Nat}{m:Mat}(h:MatM w bb bM bT n m){k x:Nat}(hk:k<8)(hx:x<n):MatM (w.setCell ⟨bb,0+1+8+k,none⟩ (.int .i64 x)) bb bM bT n ⟨m.mt,m.taken,⟨m.bar.grant,m.bar.acc.set k x⟩⟩:=
 ⟨by have:=h.bar.set_ (0+1+8+k) (cNt x);rw[arr_set,show 0+1+8+k=9+k by omega,barL_setA h.ok hk]at this;rw[show 0+1+8+k=9+k by omega];exact this,h.mt.far (h.mt.ne_ h.bar (by decide)) _,h.tk.far (h.tk.ne_ h.bar (by decide)) _,h.lm,h.lt,h.ok.setA hx⟩
theorem MatM.c0{w:World}{bb bM bT n:Nat}{m:Mat}(h:MatM w bb bM bT n m):w.cell? ⟨bb,0,none⟩=some (.int .i64 n):=by rw[h.bar.cell];exact arr_at cNt 0 _ (by rw[h.ok.len];omega)
theorem MatM.cg{w:World}{bb bM bT n:Nat}{m:Mat}(h:MatM w bb bM bT n m){k:Nat}(hk:k<8):w.cell? ⟨bb,0+1+k,none⟩=some (.int .i64 (m.bar.grant.getD k 0:Nat)):=by rw[h.bar.cell];have:=arr_at cNt 0 (barL m.bar n) (i:=1+k) (by rw[h.ok.len];omega);rw[barL_g h.ok hk]at this;rw[show 0+1+k=1+k by omega];exact this
theorem MatM.ca{w:World}{bb bM bT n:Nat}{m:Mat}(h:MatM w bb bM bT n m){k:Nat}(hk:k<8):w.cell? ⟨bb,0+1+8+k,none⟩=some (.int .i64 (m.bar.acc.getD k 0:Nat)):=by rw[h.bar.cell];have:=arr_at cNt 0 (barL m.bar n) (i:=9+k) (by rw[h.ok.len];omega);rw[barL_a h.ok hk]at this;rw[show 0+1+8+k=9+k by omega];exact this
def grC(l:List (Option Nat)):Array Value:=(l.map optV++List.replicate (8-l.length) (Value.int .i64 0)).toArray
theorem grC_set(l:List (Option Nat))(x:Option Nat)(h:l.length<8):(grC l).setIfInBounds l.length (optV x)=grC (l++[x]):=by unfold grC;rw[List.setIfInBounds_toArray,List.set_append_right _ _ (by simp)];rw[show 8-l.length=(8-(l++[x]).length)+1 by simp;omega,List.replicate_succ];simp
theorem grC_over(l:List (Option Nat))(x y:Option Nat):(grC (l++[x])).setIfInBounds l.length (optV y)=grC (l++[y]):=by unfold grC;rw[List.setIfInBounds_toArray,List.set_append_left _ _ (by simp)];simp
theorem grC_at(l:List (Option Nat)){i:Nat}(h:i<l.length):(grC l)[i]?=some (optV (l.getD i none)):=by unfold grC;simp[List.getElem?_append,h,List.getD]
theorem grC_nil:grC []=#[.int .i64 0,.int .i64 0,.int .i64 0,.int .i64 0,.int .i64 0,.int .i64 0,.int .i64 0,.int .i64 0]:=by simp[grC,List.replicate]
theorem grC_next(l:List (Option Nat))(h:l.length<8):(grC l)[l.length]?=some (.int .i64 0):=by unfold grC;rw[List.getElem?_toArray,List.getElem?_append_right (by simp)];simp only[List.length_map,Nat.sub_self,List.getElem?_replicate];rw[if_pos (by omega)]
theorem grants_len(n:Nat)(rq:Nat→Nat→Bool)(m:Mat):(grants n rq m).length=n:=by simp[grants]
theorem grants_at{n k:Nat}(rq:Nat→Nat→Bool)(m:Mat)(hk:k<n):(grants n rq m).getD k none=if m.taken.getD k false then none else firstC n (m.bar.grant.getD k 0) fun i=>(m.mt.getD i none).isNone&&rq i k:=by unfold grants;rw[List.getD,List.getElem?_map,List.getElem?_range hk];rfl
theorem firstC_some{n f k:Nat}{s:Nat→Bool}(h:firstC n f s=some k):k<n∧s k=true:=by unfold firstC at h;have h1:=List.find?_some h;have h2:=List.mem_of_find?_eq_some h;simp only[List.mem_map,List.mem_range]at h2;obtain⟨j,hj,rfl⟩:=h2;exact⟨Nat.mod_lt _ (by omega),h1⟩
def SR(bb bM bT k:Nat):Prop:=k=bb∨k=bM∨k=bT
def RelR1(n:Nat)(rq:Nat→Nat→Bool)(m:Mat)(w1:World)(B:Nat)(i:Value)(wr:World):Prop:=
 ∃k:Nat,k≤n∧i=.int .i64 k∧Blk wr B 156 (grC ((grants n rq m).take k))∧Below B w1 wr
def accTo(n:Nat)(g:List (Option Nat))(adv:Bool)(m:Mat)(i:Nat):Mat:=(List.range i).foldl (accept1 n g adv) m
theorem accTo_succ(n:Nat)(g:List (Option Nat))(adv:Bool)(m:Mat)(i:Nat):accTo n g adv m (i+1)=accept1 n g adv (accTo n g adv m i) i:=by unfold accTo;rw[List.range_succ,List.foldl_append];rfl
def RelR2(n:Nat)(g:List (Option Nat))(adv:Bool)(m:Mat)(bb bM bT:Nat)(wa:World)(i:Value)(wr:World):Prop:=
 ∃k:Nat,k≤n∧i=.int .i64 k∧MatM wr bb bM bT n (accTo n g adv m k)∧Ch (SR bb bM bT) wa wr
theorem bround_any(n cp cM:Nat)(R:Option Addr)(rq:Nat→Nat→Bool)(m:Mat)(bb bM bT:Nat)(adv:Bool)(w:World)(hR:ReqM w R n rq)(hM:MatM w bb bM bT n m):Calls Tryz.prog 155 #[.pointer (some ⟨bb,0,none⟩),.slice R n cp,.slice (some ⟨bM,0,none⟩) n cM,.pointer (some ⟨bT,0,none⟩),.bool adv] w fun e w'=>e=.returned (.tuple #[])∧MatM w' bb bM bT n (roundX n rq adv m)∧Ch (SR bb bM bT) w w':=by
 obtain⟨w1,hw1⟩:∃w1:World,((w.alloc (.cells #[.slice R n cp] 95)).alloc (.cells #[.slice (some ⟨bM,0,none⟩) n cM] 26)).alloc (.cells (grC []) 156)=w1:=⟨_,rfl⟩;have n0:=hR.n0;have n8:=hR.n1;have HR:=Lib.hid hR;have HM:=Lib.hid hM;have HW:=Lib.hid hw1;clear hw1 hR hM;have B3:Hid (Below w.heap.size w w1):=by rw[←HW.out];exact(((Below.refl _ _).alloc (Nat.le_refl _) _).alloc (by simp) _).alloc (by simp;omega) _
 have K0:Hid (∀w',Below w.heap.size w w'→w'.cell? ⟨bb,0,none⟩=some (.int .i64 n)∧MatM w' bb bM bT n m∧ReqM w' R n rq):=fun w' hb=>by have hm:=HM.out;have b1:=hm.bar.below hb hm.bar.lt;exact⟨by rw[b1.cell];exact arr_at cNt 0 _ (by rw[hm.ok.len];omega),⟨b1,hm.mt.below hb hm.mt.lt,hm.tk.below hb hm.tk.lt,hm.lm,hm.lt,hm.ok⟩,HR.out.below hb⟩
 have c0:=(K0.out w (Below.refl _ _)).1;have lt:=HM.out.bar.lt;have a1:bb<w.heap.size+1:=by omega
 have a2:bb<w.heap.size+1+1:=by omega
 have s1:w1.heap.size=w.heap.size+3:=by rw[←HW.out];simp
 have P1:Hid (w1.cell? ⟨w.heap.size,0,none⟩=some (.slice R n cp)∧w1.cell? ⟨w.heap.size+1,0,none⟩=some (.slice (some ⟨bM,0,none⟩) n cM)∧Blk w1 (w.heap.size+1+1) 156 (grC [])):=by rw[←HW.out];refine⟨by simp[go_sem],by simp[go_sem],?_⟩;have:=Blk.new ((w.alloc (.cells #[.slice R n cp] 95)).alloc (.cells #[.slice (some ⟨bM,0,none⟩) n cM] 26)) 156 (grC []);simpa using this
 have S1:=Lib.hid s1;clear s1
 go_enter Tryz.func155,Tryz.ntmps155
 go_wp2_with fail
 rw[←grC_nil,HW.out];clear lt a1 a2 c0;obtain⟨bR,hbR⟩:∃x,w.heap.size=x:=⟨_,rfl⟩;obtain⟨bm,hbm⟩:∃x,w.heap.size+1=x:=⟨_,rfl⟩;obtain⟨bG,hbG⟩:∃x,w.heap.size+1+1=x:=⟨_,rfl⟩;rw[hbG,hbm,hbR]at P1;rw[hbG,hbm,hbR];have HbR:=Lib.hid hbR;have Hbm:=Lib.hid hbm;have HbG:=Lib.hid hbG;clear hbR hbm hbG
 go_loopw [11,18] (fun _ i wr=>RelR1 n rq m w1 bG i wr) (fun _ i _=>n-(RowKit.intOf i).toNat)
 case atStart=>exact⟨0,Nat.zero_le _,rfl,P1.out.2.2,Below.refl _ _⟩
 case round=>
  obtain⟨k,hk,rfl,hG,bel⟩:=hrel;have HG:=Lib.hid hG;have BEL:=Lib.hid bel;clear hG bel;by_cases hkn:k<n
  ·have gl:=grants_len n rq m;have tl:((grants n rq m).take k).length=k:=by rw[List.length_take];omega
   have k0:(0:Int)≤(k:Int):=(by omega);have k8:(k:Int)<8:=(by omega);have cG:wr.cell? ⟨bG,k,none⟩=some (.int .i64 0):=(by rw[HG.out.cell];have:=grC_next ((grants n rq m).take k) (by omega);rw[tl]at this;exact this);have fG:wr.frozen? ⟨bG,k,none⟩=false:=HG.out.frozen k;have lG:=HG.out.lt;obtain⟨w7,hw7⟩:∃w7:World,(wr.setCell ⟨bG,k,none⟩ (.int .i64 (-1))).alloc (.cells #[.int .i64 k] 3)=w7:=⟨_,rfl⟩;have G7:Hid (Blk w7 bG 156 (grC ((grants n rq m).take k++[none]))):=(by rw[←hw7];have:=HG.out.set_ k (optV none);have e:=grC_set ((grants n rq m).take k) none (by omega);rw[tl]at e;rw[e]at this;exact this.alloc _);have BG:Hid (Below bG w1 w7):=(by rw[←hw7];have h1:=BEL.out.size;have h2:=P1.out.2.2.lt;exact(BEL.out.setCell (p:=⟨bG,k,none⟩) (Nat.le_refl _) _).alloc (by simp[World.setCell];omega) _);have B7:Hid (Below w.heap.size w w7):=B3.out.trans (BG.out.mono (by have:=HbG.out;omega));have ck:w7.cell? ⟨wr.heap.size,0,none⟩=some (.int .i64 k):=(by have:=(Blk.new (wr.setCell ⟨bG,k,none⟩ (.int .i64 (-1))) 3 #[.int .i64 k]).cell 0;rw[hw7]at this;simpa[World.setCell]using this);have z7:wr.heap.size<w7.heap.size:=(by rw[←hw7];simp[World.setCell]);have cR:w7.cell? ⟨bR,0,none⟩=some (.slice R n cp):=(BG.out.cell (p:=⟨bR,0,none⟩) (by show bR<bG;have:=HbR.out;have:=HbG.out;omega)).trans P1.out.1;have cm:w7.cell? ⟨bm,0,none⟩=some (.slice (some ⟨bM,0,none⟩) n cM):=(BG.out.cell (p:=⟨bm,0,none⟩) (by show bm<bG;have:=Hbm.out;have:=HbG.out;omega)).trans P1.out.2.1;obtain⟨c0,hM7,hR7⟩:=K0.out w7 B7.out;have ct:w7.cell? ⟨bT,k,none⟩=some (.bool (m.taken.getD k false)):=(by rw[hM7.tk.cell];exact arr_at _ _ _ (by rw[hM7.lt];omega));have cg:w7.cell? ⟨bb,0+1+k,none⟩=some (.int .i64 (m.bar.grant.getD k 0:Nat)):=(by rw[hM7.bar.cell];have:=arr_at cNt 0 (barL m.bar n) (i:=1+k) (by rw[hM7.ok.len];omega);rw[barL_g hM7.ok (by omega)]at this;rw[show 0+1+k=1+k by omega];exact this);have M7:=Lib.hid hM7;have R7:=Lib.hid hR7;have gn:=hM7.ok.g k;have GA:=Lib.hid (grants_at rq m hkn);have TS:=Lib.hid (take_snocG none (grants n rq m) k (by omega));have G0:Hid ((grC ((grants n rq m).take k++[none]))[k]?=some (.int .i64 (-1))):=(by have:=grC_at ((grants n rq m).take k++[none]) (i:=k) (by simp;omega);rw[Hid,this];have e:((grants n rq m).take k++[none]).getD k none=none:=(by rw[List.getD,List.getElem?_append_right (by omega),tl];simp);rw[e];rfl);have TL:=Lib.hid tl;have LG:=Lib.hid lG;have nb:bb≠bG:=hM7.bar.ne_ G7.out (by decide);clear gl tl hM7 hR7;cases ht:m.taken.getD k false with
   |true=>
    rw[ht]at ct;have E:Hid ((grants n rq m).take (k+1)=(grants n rq m).take k++[none]):=by have:=TS.out;rw[GA.out,ht]at this;exact this
    clear ht GA TS
    go_wp2_with fail
    clear hw7 cG fG lG
    go_quiet (fail)
    go_wp2_with fail
    exact⟨⟨k+1,by omega,by simp,by rw[E.out];exact G7.out.drewN _,below_drewN BG.out _⟩,by simp[RowKit.intOf];omega⟩
   |false=>
    rw[ht]at ct;have E:Hid ((grants n rq m).take (k+1)=(grants n rq m).take k++[firstC n (m.bar.grant.getD k 0) fun i=>(m.mt.getD i none).isNone&&rq i k]):=by have:=TS.out;rw[GA.out,ht]at this;exact this
    clear ht GA TS
    go_wp2_with fail
    clear hw7 cG fG lG
    go_quiet (fail)
    have HF:Hid (∀w',Below w7.heap.size w7 w'→Calls Tryz.prog 176 #[.int .i64 n,.int .i64 (m.bar.grant.getD k 0:Nat),.func (.func 177) #[] #[.pointer (some ⟨bm,0,none⟩),.pointer (some ⟨bR,0,none⟩),.pointer (some ⟨wr.heap.size,0,none⟩)]] w' (FirstPost n (m.bar.grant.getD k 0) (fun i=>(m.mt.getD i none).isNone&&rq i k) w')):=
     fun w' hb=>first1_any n _ _ bm bR wr.heap.size w' n8 (by omega) fun x w'' hx hb2=>by have b2:Below w7.heap.size w7 w'':=hb.trans (hb2.mono hb.size);obtain⟨_,hm8,hr8⟩:=K0.out w'' (B7.out.trans (b2.mono B7.out.size));exact round1_any n cp R rq m.mt bM cM bm bR wr.heap.size x k w'' hr8 hm8.mt hm8.lm hx hkn ((b2.cell (p:=⟨bm,0,none⟩) (World.block_lt_of_cell? _ _ cm)).trans cm) ((b2.cell (p:=⟨bR,0,none⟩) (World.block_lt_of_cell? _ _ cR)).trans cR) ((b2.cell (p:=⟨wr.heap.size,0,none⟩) z7).trans ck)
    have KP:Hid (∀w',Below w7.heap.size w7 w'→w'.cell? ⟨wr.heap.size,0,none⟩=some (.int .i64 k)∧w'.cell? ⟨bb,0,none⟩=some (.int .i64 n)∧w'.cell? ⟨bb,0+1+k,none⟩=some (.int .i64 (m.bar.grant.getD k 0:Nat))):=
     fun w' hb=>⟨(hb.cell (p:=⟨wr.heap.size,0,none⟩) z7).trans ck,(hb.cell (p:=⟨bb,0,none⟩) (World.block_lt_of_cell? _ _ c0)).trans c0,(hb.cell (p:=⟨bb,0+1+k,none⟩) (World.block_lt_of_cell? _ _ cg)).trans cg⟩
    have KS:Hid (∀w' v,Below w7.heap.size w7 w'→(w'.setCell ⟨bG,k,none⟩ v).cell? ⟨wr.heap.size,0,none⟩=some (.int .i64 k)∧(w'.setCell ⟨bG,k,none⟩ v).cell? ⟨bb,0,none⟩=some (.int .i64 n)∧(w'.setCell ⟨bG,k,none⟩ v).cell? ⟨bb,0+1+k,none⟩=some (.int .i64 (m.bar.grant.getD k 0:Nat))):=
     fun w' v hb=>by obtain⟨k1,k2,k3⟩:=KP.out w' hb;exact⟨(World.cell?_setCell_other _ _ _ _ (by intro e;injection e with e;have:=LG.out;omega)).trans k1,(World.cell?_setCell_other _ _ _ _ (by intro e;injection e with e;exact nb e.symm)).trans k2,(World.cell?_setCell_other _ _ _ _ (by intro e;injection e with e;exact nb e.symm)).trans k3⟩
    obtain⟨gk,hgk⟩:∃gk,m.bar.grant.getD k 0=gk:=⟨_,rfl⟩;obtain⟨sf,hsf⟩:∃sf,(fun i=>(m.mt.getD i none).isNone&&rq i k)=sf:=⟨_,rfl⟩;obtain⟨F0,hF0⟩:∃F0,firstC n gk sf=F0:=⟨_,rfl⟩;rw[hgk]at KP KS HF cg E;rw[hsf]at HF E;rw[hF0]at E;unfold FirstPost at HF;rw[hF0]at HF;clear hgk hsf hF0 gn
    go_wp2_with fail
    go_region_held3 (fun w'=>w'.cell? ⟨wr.heap.size,0,none⟩=some (.int .i64 k)∧w'.cell? ⟨bb,0,none⟩=some (.int .i64 n)∧w'.cell? ⟨bb,0+1+k,none⟩=some (.int .i64 (gk:Int)))
     (first|exact KP.out _ ⟨rfl,rfl,rfl,Nat.le_refl _,fun _ _=>rfl⟩|exact KP.out _ BY.out|exact KS.out _ _ BY.out)
     (first
      |(go_at_call 176;refine(HF.out _ (by exact⟨rfl,rfl,rfl,Nat.le_refl _,fun _ _=>rfl⟩)).mono ?_;rintro e wy ⟨rfl,b⟩;have BY:Hid (Below w7.heap.size w7 wy):=(show Below w7.heap.size w7 wy from⟨b.os,b.tape,b.output,b.size,b.block⟩);have GY:=Lib.hid (G7.out.below BY.out G7.out.lt);have cY:=(GY.out.cell k).trans G0.out;have fY:=GY.out.frozen k;clear b))
    have BY2:Hid (Below bG w1 (wy.setCell ⟨bG,k,none⟩ (.int .i64 (optI F0)))):=(BG.out.trans (BY.out.mono (Nat.le_of_lt G7.out.lt))).setCell (p:=⟨bG,k,none⟩) (Nat.le_refl _) _;have GY2:Hid (Blk (wy.setCell ⟨bG,k,none⟩ (.int .i64 (optI F0))) bG 156 (grC ((grants n rq m).take k++[F0]))):=by have:=GY.out.set_ k (.int .i64 (optI F0));have e:=grC_over ((grants n rq m).take k) none F0;rw[optV_int,TL.out]at e;rw[e]at this;exact this
    go_wp2_with fail
    exact⟨⟨k+1,by omega,by simp,by rw[E.out];exact GY2.out,BY2.out⟩,by simp[RowKit.intOf];omega⟩
  ·obtain rfl:n=k:=by omega
   have HGa:Hid (Blk wr bG 156 (grC (grants n rq m))):=(by have:=HG.out;rw[List.take_of_length_le (by rw[grants_len];omega)]at this;exact this);have BW:Hid (Below w.heap.size w wr):=B3.out.trans (BEL.out.mono (by have:=HbG.out;omega));have cm:Hid (wr.cell? ⟨bm,0,none⟩=some (.slice (some ⟨bM,0,none⟩) n cM)):=(BEL.out.cell (p:=⟨bm,0,none⟩) (by show bm<bG;have:=Hbm.out;have:=HbG.out;omega)).trans P1.out.2.1;obtain⟨c0,hM0,_⟩:=K0.out wr BW.out;have M0:=Lib.hid hM0;have HBM:Hid (bm<wr.heap.size∧bG<wr.heap.size∧bb<w.heap.size∧bM<w.heap.size∧bT<w.heap.size∧w.heap.size<bm):=⟨World.block_lt_of_cell? _ _ cm.out,HGa.out.lt,HM.out.bar.lt,HM.out.mt.lt,HM.out.tk.lt,by have:=Hbm.out;omega⟩;clear hM0 K0 P1 HG BEL HW S1 HR;have gl:=grants_len n rq m
   go_wp2_with fail
   have ROUND:Hid (roundX n rq adv m=accTo n (grants n rq m) adv m n):=rfl;generalize grants n rq m=g at *;clear c0;obtain⟨wo,rfl⟩:∃wo:World,wo=wr:=⟨_,rfl⟩
   go_loopw [12,13,48] (fun _ _ i wr=>RelR2 n g adv m bb bM bT wo i wr) (fun _ _ i _=>n-(RowKit.intOf i).toNat)
   case atStart=>exact⟨0,Nat.zero_le _,rfl,M0.out,Ch.refl _ _⟩
   case round=>
    obtain⟨i,hi,rfl,hm,hc⟩:=hrel;have ACC:=Lib.hid (accTo_succ n g adv m i);have HC:=Lib.hid hc;by_cases hin:i<n
    ·generalize accTo n g adv m i=mi at hm ACC;have i0:(0:Int)≤(i:Int):=by omega
     have i8:(i:Int)<8:=(by omega);have HMI:=Lib.hid hm;have gs:=hc.size;obtain⟨ai,hai⟩:∃ai,mi.bar.acc.getD i 0=ai:=⟨_,rfl⟩;have an:ai<n:=(by rw[←hai];exact hm.ok.a i);obtain⟨F0,hF0⟩:∃F0,firstC n ai (fun k=>g.getD k none==some i)=F0:=⟨_,rfl⟩;obtain⟨w5,hw5⟩:∃w5:World,wr.alloc (.cells #[.int .i64 i] 3)=w5:=⟨_,rfl⟩;have B5:Hid (Below wr.heap.size wr w5):=(by rw[←hw5];exact(Below.refl _ _).alloc (Nat.le_refl _) _);have KI:Hid (∀w',Below w5.heap.size w5 w'→MatM w' bb bM bT n mi∧w'.cell? ⟨wr.heap.size,0,none⟩=some (.int .i64 i)∧w'.cell? ⟨bm,0,none⟩=some (.slice (some ⟨bM,0,none⟩) n cM)∧Blk w' bG 156 (grC g)):=fun w' hb=>by
      have b2:Below wr.heap.size wr w':=B5.out.trans (hb.mono B5.out.size);obtain⟨q1,q2,q3,q4,q5,q6⟩:=HBM.out;refine⟨HMI.out.below b2,?_,?_,?_⟩
      ·rw[hb.cell (p:=⟨wr.heap.size,0,none⟩) (by rw[←hw5];simp),←hw5];simp
      ·rw[b2.cell (p:=⟨bm,0,none⟩) (by show bm<_;omega),HC.out.cell (p:=⟨bm,0,none⟩) q1 (by rintro(e|e|e)<;>simp only at e<;>omega)];exact cm.out
      ·exact(HGa.out.ch HC.out (by have:=Hbm.out;have:=HbG.out;rintro(e|e|e)<;>omega)).below b2 (by omega)
     have HF:Hid (∀w',Below w5.heap.size w5 w'→Calls Tryz.prog 176 #[.int .i64 n,.int .i64 ai,.func (.func 178) #[] #[.pointer (some ⟨bG,0,none⟩),.pointer (some ⟨wr.heap.size,0,none⟩)]] w' (fun e w''=>e=.returned (.int .i64 (optI F0))∧Below w'.heap.size w' w'')):=
      fun w' hb=>by rw[←hF0];exact first2_any n _ _ bG wr.heap.size w' n8 (by omega) fun x w'' hx hb2=>by obtain⟨_,u2,_,u4⟩:=KI.out w'' (hb.trans (hb2.mono hb.size));exact round2_any g bG wr.heap.size i x n w'' n8 (fun j hj=>by rw[u4.cell];exact grC_at g (by omega)) hx u2
     have KS:Hid (∀w',Below w5.heap.size w5 w'→w'.cell? ⟨bb,0,none⟩=some (.int .i64 n)∧w'.cell? ⟨wr.heap.size,0,none⟩=some (.int .i64 i)∧w'.cell? ⟨bb,0+1+8+i,none⟩=some (.int .i64 ai)):=fun w' hb=>(by obtain⟨u1,u2,_,_⟩:=KI.out w' hb;refine⟨u1.c0,u2,?_⟩;have:=u1.ca (k:=i) (by omega);rw[hai]at this;exact this);clear hm hc;cases F0 with
     |none=>
      have E:Hid (accTo n g adv m (i+1)=mi):=(by rw[Hid,ACC.out,accept1,hai,hF0]);clear hF0 hai
      go_wp2_with fail
      clear hw5
      go_region_held3 (fun w'=>w'.cell? ⟨bb,0,none⟩=some (.int .i64 n)∧w'.cell? ⟨wr.heap.size,0,none⟩=some (.int .i64 i)∧w'.cell? ⟨bb,0+1+8+i,none⟩=some (.int .i64 ai))
       (first|exact KS.out _ ⟨rfl,rfl,rfl,Nat.le_refl _,fun _ _=>rfl⟩|exact KS.out _ BY.out)
       (first
        |(go_at_call 176;refine(HF.out _ (by exact⟨rfl,rfl,rfl,Nat.le_refl _,fun _ _=>rfl⟩)).mono ?_;rintro e wy ⟨rfl,b⟩;have BY:Hid (Below w5.heap.size w5 wy):=(show Below w5.heap.size w5 wy from⟨b.os,b.tape,b.output,b.size,b.block⟩);clear b))
      go_wp2_with fail
      exact⟨⟨i+1,by omega,by simp,by rw[E.out];exact(KI.out _ BY.out).1,HC.out.thenBelow (B5.out.trans (BY.out.mono B5.out.size))⟩,by simp[RowKit.intOf];omega⟩
     |some k=>
      obtain⟨hkn2,_⟩:=firstC_some hF0;rw[show optI (some k)=(k:Int)from rfl]at HF;have E:Hid (accTo n g adv m (i+1)=⟨mi.mt.set i (some k),mi.taken.set k true,if adv then⟨mi.bar.grant.set k ((i+1)%n),mi.bar.acc.set i ((k+1)%n)⟩else mi.bar⟩):=(by rw[Hid,ACC.out,accept1,hai,hF0]);clear hF0 hai;have k0:(0:Int)≤(k:Int):=(by omega);have k8:(k:Int)<8:=(by omega);have kn:(k:Int)<(n:Int):=(by omega);have in_:(i:Int)<(n:Int):=(by omega);have n1:¬bM=bT:=HMI.out.mt.ne_ HMI.out.tk (by decide);have n2:¬bT=bM:=fun e=>n1 e.symm;have n3:¬bb=bT:=HMI.out.bar.ne_ HMI.out.tk (by decide);have n4:¬bb=bM:=HMI.out.bar.ne_ HMI.out.mt (by decide);have g2:IntKind.i64.wrap ((i:Int)+1)=(i:Int)+1:=IntWalk.i64_in _ (by omega);have g3:IntKind.i64.wrap ((k:Int)+1)=(k:Int)+1:=IntWalk.i64_in _ (by omega);cases adv with
      |false=>
       go_wp2_with fail
       clear hw5
       go_region_held3 (fun w'=>w'.cell? ⟨bb,0,none⟩=some (.int .i64 n)∧w'.cell? ⟨wr.heap.size,0,none⟩=some (.int .i64 i)∧w'.cell? ⟨bb,0+1+8+i,none⟩=some (.int .i64 ai))
        (first|exact KS.out _ ⟨rfl,rfl,rfl,Nat.le_refl _,fun _ _=>rfl⟩|exact KS.out _ BY.out)
        (first
         |(go_at_call 176;refine(HF.out _ (by exact⟨rfl,rfl,rfl,Nat.le_refl _,fun _ _=>rfl⟩)).mono ?_;rintro e wy ⟨rfl,b⟩;have BY:Hid (Below w5.heap.size w5 wy):=(show Below w5.heap.size w5 wy from⟨b.os,b.tape,b.output,b.size,b.block⟩);clear b))
       have KY:=Lib.hid (KI.out _ BY.out);have y1:=KY.out.2.1;have y2:=KY.out.2.2.1;have y3:wy.cell? ⟨bM,i,none⟩=some (.int .i64 (optI (mi.mt.getD i none))):=(by rw[KY.out.1.mt.cell,arr_at optV none mi.mt (by rw[KY.out.1.lm];omega),optV_int]);have y4:wy.cell? ⟨bT,k,none⟩=some (.bool (mi.taken.getD k false)):=(by rw[KY.out.1.tk.cell];exact arr_at Value.bool false mi.taken (by rw[KY.out.1.lt];omega));have y5:=KY.out.1.mt.frozen i;have y6:=KY.out.1.tk.frozen k;have CH:Hid (Ch (SR bb bM bT) wo wy):=HC.out.thenBelow (B5.out.trans (BY.out.mono B5.out.size));clear HC
       go_wp2_with fail
       exact⟨⟨i+1,by omega,by simp,by rw[E.out];exact(KY.out.1.setM i k).setT k,(CH.out.setCell (p:=⟨bM,i,none⟩) (.inl (.inr (.inl rfl))) _).setCell (p:=⟨bT,k,none⟩) (.inl (.inr (.inr rfl))) _⟩,by simp[RowKit.intOf];omega⟩
      |true=>
       go_wp2_with fail
       clear hw5
       go_region_held3 (fun w'=>w'.cell? ⟨bb,0,none⟩=some (.int .i64 n)∧w'.cell? ⟨wr.heap.size,0,none⟩=some (.int .i64 i)∧w'.cell? ⟨bb,0+1+8+i,none⟩=some (.int .i64 ai))
        (first|exact KS.out _ ⟨rfl,rfl,rfl,Nat.le_refl _,fun _ _=>rfl⟩|exact KS.out _ BY.out)
        (first
         |(go_at_call 176;refine(HF.out _ (by exact⟨rfl,rfl,rfl,Nat.le_refl _,fun _ _=>rfl⟩)).mono ?_;rintro e wy ⟨rfl,b⟩;have BY:Hid (Below w5.heap.size w5 wy):=(show Below w5.heap.size w5 wy from⟨b.os,b.tape,b.output,b.size,b.block⟩);clear b))
       have KY:=Lib.hid (KI.out _ BY.out);have y1:=KY.out.2.1;have y2:=KY.out.2.2.1;have y3:wy.cell? ⟨bM,i,none⟩=some (.int .i64 (optI (mi.mt.getD i none))):=(by rw[KY.out.1.mt.cell,arr_at optV none mi.mt (by rw[KY.out.1.lm];omega),optV_int]);have y4:wy.cell? ⟨bT,k,none⟩=some (.bool (mi.taken.getD k false)):=(by rw[KY.out.1.tk.cell];exact arr_at Value.bool false mi.taken (by rw[KY.out.1.lt];omega));have y5:=KY.out.1.mt.frozen i;have y6:=KY.out.1.tk.frozen k;have CH:Hid (Ch (SR bb bM bT) wo wy):=HC.out.thenBelow (B5.out.trans (BY.out.mono B5.out.size));clear HC;obtain⟨w9,hw9⟩:∃w9:World,(wy.setCell ⟨bM,i,none⟩ (.int .i64 k)).setCell ⟨bT,k,none⟩ (.bool true)=w9:=⟨_,rfl⟩;have M9:Hid (MatM w9 bb bM bT n ⟨mi.mt.set i (some k),mi.taken.set k true,mi.bar⟩):=(by rw[←hw9];exact(KY.out.1.setM i k).setT k);have C9:Hid (Ch (SR bb bM bT) wo w9):=(by rw[←hw9];exact(CH.out.setCell (p:=⟨bM,i,none⟩) (.inl (.inr (.inl rfl))) _).setCell (p:=⟨bT,k,none⟩) (.inl (.inr (.inr rfl))) _);have x1:w9.cell? ⟨wr.heap.size,0,none⟩=some (.int .i64 i):=by
        rw[←hw9,World.cell?_setCell_other,World.cell?_setCell_other]
        ·exact y1
        ·intro e;injection e with e;have:=HMI.out.mt.lt;omega
        ·intro e;injection e with e;have:=HMI.out.tk.lt;omega
       go_wp2_with fail
       clear hw9;have x0:=M9.out.c0;have x2:=M9.out.cg (k:=k) (by omega);have x3:=M9.out.bar.frozen (0+1+k);clear y1 y2 y3 y4 y5 y6;have md1:Hid (((i:Int)+1)%(n:Int)=(((i+1)%n:Nat):Int)):=by rw[Hid];push_cast;rfl
       have md2:Hid (((k:Int)+1)%(n:Int)=(((k+1)%n:Nat):Int)):=by rw[Hid];push_cast;rfl
       go_region
       rw[md1.out];have M10:Hid (MatM (w9.setCell ⟨bb,0+1+k,none⟩ (.int .i64 (((i+1)%n:Nat):Int))) bb bM bT n ⟨mi.mt.set i (some k),mi.taken.set k true,⟨mi.bar.grant.set k ((i+1)%n),mi.bar.acc⟩⟩):=M9.out.setG (by omega) (Nat.mod_lt _ (by omega));have C10:Hid (Ch (SR bb bM bT) wo (w9.setCell ⟨bb,0+1+k,none⟩ (.int .i64 (((i+1)%n:Nat):Int)))):=C9.out.setCell (p:=⟨bb,0+1+k,none⟩) (.inl (.inl rfl)) _;have x1':(w9.setCell ⟨bb,0+1+k,none⟩ (.int .i64 (((i+1)%n:Nat):Int))).cell? ⟨wr.heap.size,0,none⟩=some (.int .i64 i):=by
        rw[World.cell?_setCell_other]
        ·exact x1
        ·intro e;injection e with e;have:=HMI.out.bar.lt;omega
       generalize(w9.setCell ⟨bb,0+1+k,none⟩ (.int .i64 (((i+1)%n:Nat):Int)))=w10 at *;have x0':=M10.out.c0;have x2':=M10.out.ca (k:=i) (by omega);have x3':=M10.out.bar.frozen (0+1+8+i);clear x0 x1 x2 x3
       go_wp2_with fail
       go_region
       go_wp2_with fail
       have M11:=M10.out.setA (k:=i) (x:=(k+1)%n) (by omega) (Nat.mod_lt _ (by omega));have C11:=C10.out.setCell (p:=⟨bb,0+1+8+i,none⟩) (.inl (.inl rfl)) (.int .i64 (((k+1)%n:Nat):Int));rw[show 0+1+8+i=9+i by omega,←md2.out]at M11 C11;exact⟨⟨i+1,by omega,by simp,by rw[E.out];simp only[if_true];exact M11.drew.drew,C11.drew.drew⟩,by simp[RowKit.intOf];omega⟩
    ·obtain rfl:n=i:=by omega
     go_wp2_with fail
     go_end0
     exact⟨rfl,by rw[ROUND.out];exact hm,(Ch.of_below BW.out).trans HC.out (fun _ _ q=>q)⟩
theorem Blk.same{w:World}{g:Nat}{t t':TypeId}{cs cs':Array Value}(h:Blk w g t cs)(h':Blk w g t' cs'):t=t'∧cs=cs':=by unfold Blk at h h';rw[h]at h';injection h' with h';injection h' with h1 h2;exact⟨h2,h1⟩
theorem ReqM.keepT{w w':World}{S:Nat→Prop}{R:Option Addr}{n:Nat}{rq:Nat→Nat→Bool}(h:ReqM w R n rq)(hc:Ch S w w')(hS:∀k,S k→∃t cs,Blk w k t cs∧t≠52∧t≠4):ReqM w' R n rq:=
 h.ch hc fun k t cs q hb=>by obtain⟨t',cs',h1,h2,h3⟩:=hS k q;obtain⟨rfl,_⟩:=hb.same h1;exact⟨h2,h3⟩
theorem square_any(n cp:Nat)(R:Option Addr)(rq:Nat→Nat→Bool)(w:World)(hR:ReqM w R n rq):Calls Tryz.prog 154 #[.slice R n cp,.int .i64 n] w fun e w'=>e=.returned (.bool true)∧w=w':=by
 obtain⟨b,V,cs,rfl,hb,hr⟩:=hR.rows;have n0:=hR.n0;have n8:=hR.n1;have HR:Hid (∀i,i<n→∃b2 c2,w.cell? ⟨b,i,none⟩=some (.slice (some ⟨b2,0,none⟩) n c2)):=fun i hi=>by obtain⟨h1,b2,c2,cs2,h2,h3,h4⟩:=hr i hi;exact⟨b2,c2,by rw[hb.cell,h1,h2]⟩
 clear hr hR hb
 go_enter Tryz.func154,Tryz.ntmps154
 go_wp2_with fail
 go_loop [6,13] (fun _ i=>∃k:Nat,k≤n∧i=.int .i64 k) (fun _ i=>n-(RowKit.intOf i).toNat)
 case atStart=>exact⟨0,Nat.zero_le _,rfl⟩
 case round=>
  obtain⟨k,hk,rfl⟩:=hrel;by_cases hkn:k<n
  ·obtain⟨b2,c2,hc⟩:=HR.out k hkn
   go_wp2_with fail
   exact⟨⟨k+1,by omega,by simp⟩,by simp[RowKit.intOf];omega⟩
  ·obtain rfl:n=k:=by omega
   go_wp2_with fail
   go_ret
   exact⟨rfl,rfl⟩
theorem infoIntB:(Tryz.prog.info? 3).map (fun i=>(i.zero,i.size,i.bytes))=some (some (.int .i64 0),1,8):=by kernel_rfl
def m1C(n k:Nat):Array Value:=(List.replicate k (Value.int .i64 (-1))++List.replicate (n-k) (Value.int .i64 0)).toArray
theorem m1C_set{n k:Nat}(h:k<n):(m1C n k).setIfInBounds k (.int .i64 (-1))=m1C n (k+1):=by unfold m1C;rw[List.setIfInBounds_toArray,List.set_append_right _ _ (by simp)];rw[show n-k=(n-(k+1))+1 by omega,List.replicate_succ,List.replicate_succ'];simp
theorem m1C_at{n k:Nat}(h:k<n):(m1C n k)[k]?=some (.int .i64 0):=by unfold m1C;rw[List.getElem?_toArray,List.getElem?_append_right (by simp)];simp only[List.length_replicate,Nat.sub_self,List.getElem?_replicate];rw[if_pos (by omega)]
theorem m1C_zero(n:Nat):madeCells #[.int .i64 0] n=m1C n 0:=by unfold m1C madeCells;apply Array.ext';simp[Nat.mod_one,List.map_const']
theorem m1C_all(n:Nat):m1C n n=((List.replicate n (none:Option Nat)).map optV).toArray:=by unfold m1C;simp[optV]
def matTo(n:Nat)(rq:Nat→Nat→Bool)(b:Bar)(k:Nat):Mat:=(List.range k).foldl (fun m r=>roundX n rq (r==0) m) ⟨List.replicate n none,List.replicate 8 false,b⟩
theorem matTo_succ(n:Nat)(rq:Nat→Nat→Bool)(b:Bar)(k:Nat):matTo n rq b (k+1)=roundX n rq (k==0) (matTo n rq b k):=by unfold matTo;rw[List.range_succ,List.foldl_append];rfl
def MatchPost(n:Nat)(rq:Nat→Nat→Bool)(b:Bar)(bb:Nat)(w:World)(e:Ending)(w':World):Prop:=
 ∃bM bT,e=.returned (.tuple #[.slice (some ⟨bM,0,none⟩) n n,.int .i64 0])∧w.heap.size≤bM∧MatM w' bb bM bT n (matTo n rq b n)∧Ch (· =bb) w w'
def RelM1(n:Nat)(w:World)(B:Nat)(i:Value)(wr:World):Prop:=∃k:Nat,k≤n∧i=.int .i64 k∧Blk wr B 3 (m1C n k)∧Below B w wr
def RelM2(n:Nat)(rq:Nat→Nat→Bool)(b:Bar)(bb bM bT:Nat)(w:World)(i:Value)(wr:World):Prop:=∃k:Nat,k≤n∧i=.int .i64 k∧MatM wr bb bM bT n (matTo n rq b k)∧Ch (SR bb bM bT) w wr
theorem bmatch_any(n cp:Nat)(R:Option Addr)(rq:Nat→Nat→Bool)(b:Bar)(bb:Nat)(w:World)(hR:ReqM w R n rq)(hB:Blk w bb 201 ((barL b n).map cNt).toArray)(hok:BarOk b n):Calls Tryz.prog 130 #[.pointer (some ⟨bb,0,none⟩),.slice R n cp,.int .i64 n] w (MatchPost n rq b bb w):=by
 have n0:=hR.n0;have n8:=hR.n1;have c0:w.cell? ⟨bb,0,none⟩=some (.int .i64 n):=by rw[hB.cell];exact arr_at cNt 0 _ (by rw[hok.len];omega)
 have HS:=Lib.hid (square_any n cp R rq w hR);have HR:=Lib.hid hR;have HB:=Lib.hid hB;clear hR hB;obtain⟨j0,hj0,hy0,hy1,hy2⟩:=info_parts infoIntB;obtain⟨w1,hw1⟩:∃w1:World,w.alloc (.cells (m1C n 0) 3)=w1:=⟨_,rfl⟩
 go_enter Tryz.func130,Tryz.ntmps130
 go_wp2_with (first
  |(go_at_call 154;refine HS.out.mono ?_;rintro e w' ⟨rfl,rfl⟩)
  |(at_make;refine wpList_make_rec _ rfl _ _ 26 rfl 3 j0 _ 1 Tryz.underlying26 hj0 hy0 hy1 .i64 .i64 _ _ n rfl rfl ?m1 ?m2 (by rw[hy2];omega) (by unfold maxLen;omega) ?_))
 case m1=>rfl
 case m2=>rfl
 rw[m1C_zero,hw1];have B1:Hid (Blk w1 w.heap.size 3 (m1C n 0)):=by rw[←hw1];exact Blk.new w _ _
 have W1:Hid (Below w.heap.size w w1):=by rw[←hw1];exact(Below.refl _ _).alloc (Nat.le_refl _) _
 have LTB:=Lib.hid HB.out.lt;obtain⟨bM,hbM⟩:∃x,w.heap.size=x:=⟨_,rfl⟩;rw[hbM];rw[hbM]at B1;have HbM:=Lib.hid hbM;clear hw1 hbM c0 HS
 go_loopw [9,36] (fun _ i wr=>RelM1 n w1 bM i wr) (fun _ i _=>n-(RowKit.intOf i).toNat)
 case atStart=>exact⟨0,Nat.zero_le _,rfl,B1.out,Below.refl _ _⟩
 case round=>
  obtain⟨k,hk,rfl,hG,bel⟩:=hrel;have HG:=Lib.hid hG;have BEL:=Lib.hid bel;by_cases hkn:k<n
  ·have cG:wr.cell? ⟨bM,k,none⟩=some (.int .i64 0):=by rw[hG.cell];exact m1C_at hkn
   have fG:=hG.frozen k;clear hG bel
   go_wp2_with fail
   exact⟨⟨k+1,by omega,by simp,by rw[←m1C_set hkn];exact HG.out.set_ k _,BEL.out.setCell (p:=⟨bM,k,none⟩) (Nat.le_refl _) _⟩,by simp[RowKit.intOf];omega⟩
  ·obtain rfl:n=k:=by omega
   obtain⟨w2,hw2⟩:∃w2:World,wr.alloc (.cells ((List.replicate 8 false).map Value.bool).toArray 259)=w2:=⟨_,rfl⟩;have BW:Hid (Below w.heap.size w wr):=W1.out.trans (BEL.out.mono (by have:=HbM.out;omega));have M2:Hid (MatM w2 bb bM wr.heap.size n (matTo n rq b 0)):=(by rw[←hw2];refine⟨(HB.out.below BW.out LTB.out).alloc _,?_,Blk.new _ _ _,by simp[matTo],by simp[matTo],hok⟩;have:=HG.out.alloc (.cells ((List.replicate 8 false).map Value.bool).toArray 259);rw[m1C_all]at this;exact this);have C2:Hid (Ch (· =bb) w w2):=(by rw[←hw2];exact(Ch.of_below BW.out).alloc _);have R2:Hid (ReqM w2 R n rq):=HR.out.keepT C2.out (fun k e=>by subst e;exact⟨201,_,HB.out,by decide,by decide⟩);have E0:Hid (wr.alloc (.cells #[.bool false,.bool false,.bool false,.bool false,.bool false,.bool false,.bool false,.bool false] 259)=w2):=(by rw[←hw2];rfl);have W2:Hid (w.heap.size≤wr.heap.size):=BW.out.size;clear hG bel HG BEL hw2
   go_wp2_with fail
   rw[E0.out];clear E0;generalize wr.heap.size=bT at *;have n8':(n:Int)≤8:=by omega
   obtain⟨wo,rfl⟩:∃wo:World,wo=wr:=⟨_,rfl⟩
   go_loopw [11,44] (fun _ i wr=>RelM2 n rq b bb bM bT w2 i wr) (fun _ i _=>n-(RowKit.intOf i).toNat)
   case atStart=>exact⟨0,Nat.zero_le _,rfl,M2.out,Ch.refl _ _⟩
   case round=>
    obtain⟨k,hk,rfl,hm,hc⟩:=hrel;have HC:=Lib.hid hc;by_cases hkn:k<n
    ·have MS:=Lib.hid (matTo_succ n rq b k);generalize matTo n rq b k=mk at hm MS;have RK:ReqM wr R n rq:=R2.out.keepT HC.out (fun k e=>by rcases e with e|e|e<;>subst e;exact⟨201,_,M2.out.bar,by decide,by decide⟩;exact⟨3,_,M2.out.mt,by decide,by decide⟩;exact⟨259,_,M2.out.tk,by decide,by decide⟩);obtain⟨bk,hbk⟩:∃bk,(k==0)=bk:=⟨_,rfl⟩;have ek:((k:Int)==0)=bk:=(by rw[←hbk,Bool.eq_iff_iff];simp);rw[hbk]at MS;have HR2:Hid (Calls Tryz.prog 155 #[.pointer (some ⟨bb,0,none⟩),.slice R n cp,.slice (some ⟨bM,0,none⟩) n n,.pointer (some ⟨bT,0,none⟩),.bool bk] wr fun e w'=>e=.returned (.tuple #[])∧MatM w' bb bM bT n (roundX n rq bk mk)∧Ch (SR bb bM bT) wr w'):=bround_any n cp n R rq mk bb bM bT bk wr RK hm;clear RK hm hc hbk
     go_wp2_with (first|(go_at_call 155;refine HR2.out.mono ?_;rintro e w' ⟨rfl,b1,b2⟩;have B1':=Lib.hid b1;have B2':=Lib.hid b2;clear b1 b2))
     exact⟨⟨k+1,by omega,by simp,by rw[MS.out];exact B1'.out,HC.out.trans B2'.out (fun _ _ q=>q)⟩,by simp[RowKit.intOf];omega⟩
    ·obtain rfl:n=k:=by omega
     have FIN:Hid (MatchPost n rq b bb w (.returned (.tuple #[.slice (some ⟨bM,0,none⟩) n n,.int .i64 0])) wr):=⟨bM,bT,rfl,Nat.le_of_eq HbM.out,hm,C2.out.trans HC.out (fun i hi q=>by
      have:=HbM.out;rcases q with q|q|q
      ·exact q
      ·omega
      ·have:=W2.out;omega)⟩
     go_wp2_with fail
     go_ret2
     exact FIN.out
theorem bnew_any(n:Nat)(w:World)(n0:1≤n)(n8:n≤8):Calls Tryz.prog 84 #[.int .i64 n] w fun e w'=>e=.returned (.tuple #[.pointer (some ⟨w.heap.size,0,none⟩),.int .i64 0])∧w.alloc (.cells ((barL ⟨List.replicate 8 0,List.replicate 8 0⟩ n).map cNt).toArray 201)=w':=by
 have E:((barL ⟨List.replicate 8 0,List.replicate 8 0⟩ n).map cNt).toArray=#[.int .i64 n,.int .i64 0,.int .i64 0,.int .i64 0,.int .i64 0,.int .i64 0,.int .i64 0,.int .i64 0,.int .i64 0,.int .i64 0,.int .i64 0,.int .i64 0,.int .i64 0,.int .i64 0,.int .i64 0,.int .i64 0,.int .i64 0]:=by simp[barL,cNt,List.replicate]
 rw[E];clear E
 go_enter Tryz.func84,Tryz.ntmps84
 go_wp2_with fail
 go_ret2
 exact⟨rfl,rfl⟩
end Go.Proofs.YtnjjkgjdhljfnaaGreat
namespace Go.Proofs.YtnjjkgjdhljfnaaGreat
open Go.RowKit Go.Maps
def pt(b:Nat):Value:=.pointer (some ⟨b,0,none⟩)
structure BxL where
 qr:Nat→Nat
 qv:Nat→Nat→Value
 gr:Nat→Value
 tr:Nat→Value
 gb:Nat→Nat→Nat
 gc:Nat→Nat→Nat
 tb:Nat→Nat→Nat
 tc:Nat→Nat→Nat
 bb:Nat
def rowV(n:Nat)(f:Nat→Value)(p:Nat):Value:=if p<n then f p else .slice none 0 0
def bxV(X:Bx)(L:BxL)(i:Nat):Value:=
 if i=0 then .int .i64 X.ports else if i=1 then .int .i64 X.classes
 else if i<10 then rowV X.ports (fun p=>.slice (some ⟨L.qr p,0,none⟩) X.classes X.classes) (i-2)
 else if i<18 then rowV X.ports L.gr (i-10)
 else if i<26 then rowV X.ports L.tr (i-18)
 else if i<34 then .int .i64 ((X.ptr.getD (i-26) 0:Nat):Int)
 else if i=34 then pt L.bb else .int .i64 X.ov
def bxC(X:Bx)(L:BxL):Array Value:=((List.range 36).map (bxV X L)).toArray
theorem range_arr(n:Nat)(f:Nat→Value){i:Nat}(h:i<n):(((List.range n).map f).toArray)[i]?=some (f i):=by rw[List.getElem?_toArray,List.getElem?_map,List.getElem?_range h];rfl
theorem range_arr_set(n:Nat)(f g:Nat→Value)(j:Nat)(v:Value)(h:∀i,i<n→g i=if i=j then v else f i):(((List.range n).map f).toArray).setIfInBounds j v=((List.range n).map g).toArray:=by
 apply Array.ext';rw[List.setIfInBounds_toArray];apply List.ext_getElem?;intro i;rw[List.getElem?_set];simp only[List.length_map,List.length_range,List.getElem?_map];by_cases hi:i<n
 ·rw[List.getElem?_range hi];simp only[Option.map_some];rw[h i hi];by_cases e:j=i
  ·subst e;simp[hi]
  ·rw[if_neg e,if_neg (fun q=>e q.symm)]
 ·rw[List.getElem?_eq_none (by simp;omega)];by_cases e:j=i
  ·subst e;simp[hi]
  ·simp[e]
def updV(f:Nat→Nat→Value)(i j:Nat)(v:Value):Nat→Nat→Value:=fun a b=>if a=i∧b=j then v else f a b
theorem updV_at(f:Nat→Nat→Value)(i j:Nat)(v:Value):updV f i j v i j=v:=if_pos ⟨rfl,rfl⟩
theorem updV_ne(f:Nat→Nat→Value){i j a b:Nat}(v:Value)(h:¬(a=i∧b=j)):updV f i j v a b=f a b:=if_neg h
def fr(τ:Own)(n:Nat):Own:=tagTo τ n (0,0,0,0)
theorem fr_old{τ:Own}{n k:Nat}(h:k<n):fr τ n k=τ k:=if_pos h
theorem fr_new{τ:Own}{n k:Nat}(h:n≤k):fr τ n k=(0,0,0,0):=if_neg (by omega)
theorem Nx.of_ch{τ:Own}{o:Nat}{S:Nat→Prop}{w w':World}(hc:Ch S w w')(hS:∀k,S k→(τ k).1=o):Nx τ o w (fr τ w.heap.size) w':=
 ⟨hc.mono fun k _ s=>hS k s,fun k hk=>fr_old hk,fun k h1 _=>.inr (by rw[fr_new h1];exact Nat.zero_le _)⟩
theorem Nx.of_ch'{τ:Own}{o:Nat}{S:Nat→Prop}{w w':World}(hc:Ch S w w')(hS:∀k,k<w.heap.size→S k→(τ k).1=o):Nx τ o w (fr τ w.heap.size) w':=
 ⟨hc.mono fun k hk s=>hS k hk s,fun k hk=>fr_old hk,fun k h1 _=>.inr (by rw[fr_new h1];exact Nat.zero_le _)⟩
theorem Nx.setFresh{τ τ':Own}{o:Nat}{w w':World}(h:Nx τ o w τ' w'){p:Addr}(hp:w.heap.size≤p.block)(u:Value):Nx τ o w τ' (w'.setCell p u):=
 ⟨h.ch.setCell (.inr hp) u,h.ext,fun k h1 h2=>h.fresh k h1 (by simpa[World.setCell]using h2)⟩
theorem Nx.of_below{τ:Own}{o:Nat}{w w':World}(h:Below w.heap.size w w'):Nx τ o w (fr τ w.heap.size) w':=Nx.of_ch (S:=fun _=>False) (Ch.of_below h) (fun _ s=>s.elim)
def cFm(x:Fm×Value):List Value:=[.int .i64 x.1.id,.int .i64 x.1.frm,.int .i64 x.1.to',.int .i64 x.1.cls,.int .i64 x.1.ep,x.2]
theorem cF_length(x:Fm×Value):(cFm x).length=6:=rfl
def fmV(x:Fm)(v:Value):Value:=.agg #[.int .i64 x.id,.int .i64 x.frm,.int .i64 x.to',.int .i64 x.cls,.int .i64 x.ep,v]
def QueM(τ:Own)(w:World)(v:Value)(l:List Fm):Prop:=
 ∃Q:List (Fm×Value),Q.map (·.1)=l∧w.ownsRow 0 59 6 v Q.length (Q.flatMap cFm)∧∀x∈Q,IsDat τ w x.1.data x.2
theorem IsDat.chE{τ τ':Own}{S:Nat→Prop}{w w':World}{x:List Int}{v:Value}(h:IsDat τ w x v)(hc:Ch S w w')(he:∀k,k<w.heap.size→τ' k=τ k)(hS:∀k,S k→(τ k).1≠1):IsDat τ' w' x v:=by obtain⟨a,cap,e,h1,h2,h3⟩:=h;refine⟨a,cap,e,h1.ch hc fun p hp q=>hS _ q (h2 p hp).1,fun p hp=>?_,h3⟩;have:=h2 p hp;exact⟨by rw[he _ this.2];exact this.1,Nat.lt_of_lt_of_le this.2 hc.size⟩
theorem QueM.chE{τ τ':Own}{S:Nat→Prop}{w w':World}{l:List Fm}{v:Value}(h:QueM τ w v l)(hc:Ch S w w')(he:∀k,k<w.heap.size→τ' k=τ k)(hS:∀k,S k→(τ k).1≠1)(hv:∀g,v.ownBlock=some g→¬S g):QueM τ' w' v l:=by obtain⟨Q,h1,h2,h3⟩:=h;exact⟨Q,h1,own_ch h2 hc hv,fun x hx=>(h3 x hx).chE hc he hS⟩
theorem QueM.lt{τ:Own}{w:World}{l:List Fm}{v:Value}(h:QueM τ w v l):∀g,v.ownBlock=some g→g<w.heap.size:=by obtain⟨Q,_,h2,_⟩:=h;exact fun g hg=>(h2.lt g hg).2
def PtrR(w:World)(t:TypeId)(v:Value)(n:Nat)(f:Nat→Nat)(g:Nat):Prop:=
 ∃cap cs,v=.slice (some ⟨g,0,none⟩) n cap∧Blk w g t cs∧∀c,c<n→cs[c]?=some (pt (f c))
theorem PtrR.ch{S:Nat→Prop}{w w':World}{t:TypeId}{v:Value}{n:Nat}{f:Nat→Nat}{g:Nat}(h:PtrR w t v n f g)(hc:Ch S w w')(hg:¬S g):PtrR w' t v n f g:=by obtain⟨cap,cs,h1,h2,h3⟩:=h;exact⟨cap,cs,h1,h2.ch hc hg,h3⟩
theorem PtrR.lt{w:World}{t:TypeId}{v:Value}{n:Nat}{f:Nat→Nat}{g:Nat}(h:PtrR w t v n f g):g<w.heap.size:=by obtain⟨cap,cs,h1,h2,h3⟩:=h;exact h2.lt
structure BxM(τ:Own)(o:Nat)(w:World)(b:Nat)(X:Bx)(L:BxL):Prop where
 root:Blk w b 158 (bxC X L)∧τ b=(o,0,0,0)
 qr:∀p,p<X.ports→Blk w (L.qr p) 110 (((List.range X.classes).map (L.qv p)).toArray)∧τ (L.qr p)=(o,1,p,0)
 q:∀p c,p<X.ports→c<X.classes→QueM τ w (L.qv p c) (get2 X.q p c)∧∀g,(L.qv p c).ownBlock=some g→τ g=(o,2,p,c)
 g:∀p,p<X.ports→∃g,PtrR w 159 (L.gr p) X.classes (L.gb p) g∧τ g=(o,3,p,0)
 gg:∀p c,p<X.ports→c<X.classes→IsGv w (L.gb p c) (L.gc p c) (get2 X.gv p c)∧τ (L.gb p c)=(o,4,p,c)∧τ (L.gc p c)=(o,5,p,c)
 t:∀p,p<X.ports→∃g,PtrR w 162 (L.tr p) X.classes (L.tb p) g∧τ g=(o,6,p,0)
 tt:∀p c,p<X.ports→c<X.classes→IsTk w (L.tb p c) (L.tc p c) (get2 X.tk p c)∧τ (L.tb p c)=(o,7,p,c)∧τ (L.tc p c)=(o,8,p,c)
 bar:Blk w L.bb 201 (((barL X.bar X.ports).map cNt).toArray)∧τ L.bb=(o,9,0,0)
section
variable{τ τ':Own}{o:Nat}{w w':World}{b:Nat}{X:Bx}{L:BxL}
theorem BxM.chE{S:Nat→Prop}(h:BxM τ o w b X L)(hc:Ch S w w')(he:∀k,k<w.heap.size→τ' k=τ k)(hS:∀k,S k→(τ k).1≠1∧(τ k).1≠o):BxM τ' o w' b X L where
 root:=⟨h.root.1.ch hc fun s=>(hS _ s).2 (by rw[h.root.2]),by rw[he _ h.root.1.lt];exact h.root.2⟩
 qr:=fun p hp=>let a:=h.qr p hp;⟨a.1.ch hc fun s=>(hS _ s).2 (by rw[a.2]),by rw[he _ a.1.lt];exact a.2⟩
 q:=fun p c hp hc'=>let a:=h.q p c hp hc';⟨a.1.chE hc he (fun k s=>(hS k s).1) (fun g hg s=>(hS _ s).2 (by rw[a.2 g hg])),fun g hg=>by rw[he _ (a.1.lt g hg)];exact a.2 g hg⟩
 g:=fun p hp=>by obtain⟨g,h1,h2⟩:=h.g p hp;exact⟨g,h1.ch hc fun s=>(hS _ s).2 (by rw[h2]),by rw[he _ h1.lt];exact h2⟩
 gg:=fun p c hp hc'=>by obtain⟨h1,h2,h3⟩:=h.gg p c hp hc';exact⟨h1.ch hc (fun s=>(hS _ s).2 (by rw[h2])) (fun s=>(hS _ s).2 (by rw[h3])),by rw[he _ h1.p.lt];exact h2,by rw[he _ h1.c.lt];exact h3⟩
 t:=fun p hp=>by obtain⟨g,h1,h2⟩:=h.t p hp;exact⟨g,h1.ch hc fun s=>(hS _ s).2 (by rw[h2]),by rw[he _ h1.lt];exact h2⟩
 tt:=fun p c hp hc'=>by obtain⟨h1,h2,h3⟩:=h.tt p c hp hc';exact⟨h1.ch hc (fun s=>(hS _ s).2 (by rw[h2])) (fun s=>(hS _ s).2 (by rw[h3])),by rw[he _ h1.p.lt];exact h2,by rw[he _ h1.c.lt];exact h3⟩
 bar:=⟨h.bar.1.ch hc fun s=>(hS _ s).2 (by rw[h.bar.2]),by rw[he _ h.bar.1.lt];exact h.bar.2⟩
theorem BxM.nx{τ'':Own}{o2:Nat}(h:BxM τ o w b X L)(k:Nx τ o2 w τ'' w')(ho:o≠o2)(h2:2≤o2):BxM τ'' o w' b X L:=
 h.chE k.ch k.ext fun i hi=>⟨by omega,fun e=>ho (e.symm.trans hi)⟩
theorem BxM.below(h:BxM τ o w b X L)(k:Below w.heap.size w w'):BxM τ o w' b X L:=h.chE (S:=fun _=>False) (Ch.of_below k) (fun _ _=>rfl) (fun _ s=>s.elim)
theorem BxM.drew(h:BxM τ o w b X L):BxM τ o w.drew b X L:=h.below ⟨rfl,rfl,rfl,Nat.le_refl _,fun _ _=>rfl⟩
theorem BxM.toFr(h:BxM τ o w b X L):BxM (fr τ w.heap.size) o w b X L:=h.chE (S:=fun _=>False) (Ch.refl _ _) (fun k hk=>fr_old hk) (fun _ s=>s.elim)
theorem BxM.setGv(h:BxM τ o w b X L){p c:Nat}(hp:p<X.ports)(hc:c<X.classes)(dim:Dim2 X.gv X.ports X.classes)(ho:2≤o){x:Gv}(k:Ch (· =L.gc p c) w w')(hb:Blk w' (L.gc p c) 206 (gvC x)):BxM τ o w' b {X with gv:=set2 X.gv p c x} L:=by
 have T:=(h.gg p c hp hc).2.2;have hd:∀i,i=L.gc p c→(τ i).1≠1:=fun i e=>by rw[e,T];simp only;omega
 have ne:∀{i t},τ i=t→t≠(o,5,p,c)→¬(i=L.gc p c):=fun h1 h2 e=>h2 (by rw[←h1,e,T]);exact{
  root:=⟨h.root.1.ch k (ne h.root.2 (by simp)),h.root.2⟩
  qr:=fun a ha=>let r:=h.qr a ha;⟨r.1.ch k (ne r.2 (by simp)),r.2⟩
  q:=fun a d ha hd'=>let r:=h.q a d ha hd';⟨r.1.chE k (fun _ _=>rfl) hd (fun g hg=>ne (r.2 g hg) (by simp)),r.2⟩
  g:=fun a ha=>by obtain⟨g,h1,h2⟩:=h.g a ha;exact⟨g,h1.ch k (ne h2 (by simp)),h2⟩
  gg:=fun a d ha hd'=>by
   obtain⟨h1,h2,h3⟩:=h.gg a d ha hd';refine⟨?_,h2,h3⟩;rw[get2_set2 dim hp hc];by_cases e:a=p∧d=c
   ·rw[if_pos e];obtain⟨rfl,rfl⟩:=e;exact⟨h1.p.ch k (ne h2 (by simp)),hb⟩
   ·rw[if_neg e];exact h1.ch k (ne h2 (by simp)) (ne h3 (fun q=>e (by injection q with _ q;injection q with _ q;injection q with q1 q2;exact⟨q1,q2⟩)))
  t:=fun a ha=>by obtain⟨g,h1,h2⟩:=h.t a ha;exact⟨g,h1.ch k (ne h2 (by simp)),h2⟩
  tt:=fun a d ha hd'=>by obtain⟨h1,h2,h3⟩:=h.tt a d ha hd';exact⟨h1.ch k (ne h2 (by simp)) (ne h3 (by simp)),h2,h3⟩
  bar:=⟨h.bar.1.ch k (ne h.bar.2 (by simp)),h.bar.2⟩}
theorem BxM.setTk(h:BxM τ o w b X L){p c:Nat}(hp:p<X.ports)(hc:c<X.classes)(dim:Dim2 X.tk X.ports X.classes)(ho:2≤o){x:Tk}(k:Ch (· =L.tc p c) w w')(hb:Blk w' (L.tc p c) 228 (tkC x)):BxM τ o w' b {X with tk:=set2 X.tk p c x} L:=by
 have T:=(h.tt p c hp hc).2.2;have hd:∀i,i=L.tc p c→(τ i).1≠1:=fun i e=>by rw[e,T];simp only;omega
 have ne:∀{i t},τ i=t→t≠(o,8,p,c)→¬(i=L.tc p c):=fun h1 h2 e=>h2 (by rw[←h1,e,T]);exact{
  root:=⟨h.root.1.ch k (ne h.root.2 (by simp)),h.root.2⟩
  qr:=fun a ha=>let r:=h.qr a ha;⟨r.1.ch k (ne r.2 (by simp)),r.2⟩
  q:=fun a d ha hd'=>let r:=h.q a d ha hd';⟨r.1.chE k (fun _ _=>rfl) hd (fun g hg=>ne (r.2 g hg) (by simp)),r.2⟩
  g:=fun a ha=>by obtain⟨g,h1,h2⟩:=h.g a ha;exact⟨g,h1.ch k (ne h2 (by simp)),h2⟩
  gg:=fun a d ha hd'=>by obtain⟨h1,h2,h3⟩:=h.gg a d ha hd';exact⟨h1.ch k (ne h2 (by simp)) (ne h3 (by simp)),h2,h3⟩
  t:=fun a ha=>by obtain⟨g,h1,h2⟩:=h.t a ha;exact⟨g,h1.ch k (ne h2 (by simp)),h2⟩
  tt:=fun a d ha hd'=>by
   obtain⟨h1,h2,h3⟩:=h.tt a d ha hd';refine⟨?_,h2,h3⟩;rw[get2_set2 dim hp hc];by_cases e:a=p∧d=c
   ·rw[if_pos e];obtain⟨rfl,rfl⟩:=e;exact⟨h1.p.ch k (ne h2 (by simp)),hb⟩
   ·rw[if_neg e];exact h1.ch k (ne h2 (by simp)) (ne h3 (fun q=>e (by injection q with _ q;injection q with _ q;injection q with q1 q2;exact⟨q1,q2⟩)))
  bar:=⟨h.bar.1.ch k (ne h.bar.2 (by simp)),h.bar.2⟩}
theorem BxM.setQ(h:BxM τ o w b X L){p c:Nat}(hp:p<X.ports)(hc:c<X.classes)(dim:Dim2 X.q X.ports X.classes)(ho:2≤o){S:Nat→Prop}{v:Value}{l:List Fm}(k:Ch S w w')(he:∀i,i<w.heap.size→τ' i=τ i)(hS:∀i,S i→τ i=(o,1,p,0)∨τ i=(o,2,p,c))(hr:Blk w' (L.qr p) 110 (((List.range X.classes).map (updV L.qv p c v p)).toArray))(hq:QueM τ' w' v l)(hv:∀g,v.ownBlock=some g→τ' g=(o,2,p,c)):BxM τ' o w' b {X with q:=set2 X.q p c l} {L with qv:=updV L.qv p c v}:=by
 have hd:∀i,S i→(τ i).1≠1:=fun i e=>by rcases hS i e with q|q<;>rw[q]<;>simp only<;>omega
 have ne:∀{i t},τ i=t→t≠(o,1,p,0)→t≠(o,2,p,c)→¬S i:=fun h1 h2 h3 s=>by
  rcases hS _ s with q|q
  ·exact h2 (by rw[←h1,q])
  ·exact h3 (by rw[←h1,q])
 exact{
  root:=⟨h.root.1.ch k (ne h.root.2 (by simp) (by simp)),by rw[he _ h.root.1.lt];exact h.root.2⟩
  qr:=fun a ha=>by
   have r:=h.qr a ha;refine⟨?_,by rw[he _ r.1.lt];exact r.2⟩;by_cases e:a=p
   ·subst e;exact hr
   ·have e2:(updV L.qv p c v a)=L.qv a:=by funext d;exact updV_ne _ _ (fun q=>e q.1)
    simp only;rw[e2];exact r.1.ch k (ne r.2 (fun q=>e (by injection q with _ q;injection q with _ q;injection q)) (by simp))
  q:=fun a d ha hd'=>by
   have r:=h.q a d ha hd';simp only;rw[get2_set2 dim hp hc];by_cases e:a=p∧d=c
   ·rw[if_pos e];obtain⟨rfl,rfl⟩:=e;rw[updV_at];exact⟨hq,hv⟩
   ·rw[if_neg e,updV_ne _ _ e];exact⟨r.1.chE k he hd (fun g hg=>ne (r.2 g hg) (by simp) (fun q=>e (by injection q with _ q;injection q with _ q;injection q with q1 q2;exact⟨q1,q2⟩))),fun g hg=>by rw[he _ (r.1.lt g hg)];exact r.2 g hg⟩
  g:=fun a ha=>by obtain⟨g,h1,h2⟩:=h.g a ha;exact⟨g,h1.ch k (ne h2 (by simp) (by simp)),by rw[he _ h1.lt];exact h2⟩
  gg:=fun a d ha hd'=>by obtain⟨h1,h2,h3⟩:=h.gg a d ha hd';exact⟨h1.ch k (ne h2 (by simp) (by simp)) (ne h3 (by simp) (by simp)),by rw[he _ h1.p.lt];exact h2,by rw[he _ h1.c.lt];exact h3⟩
  t:=fun a ha=>by obtain⟨g,h1,h2⟩:=h.t a ha;exact⟨g,h1.ch k (ne h2 (by simp) (by simp)),by rw[he _ h1.lt];exact h2⟩
  tt:=fun a d ha hd'=>by obtain⟨h1,h2,h3⟩:=h.tt a d ha hd';exact⟨h1.ch k (ne h2 (by simp) (by simp)) (ne h3 (by simp) (by simp)),by rw[he _ h1.p.lt];exact h2,by rw[he _ h1.c.lt];exact h3⟩
  bar:=⟨h.bar.1.ch k (ne h.bar.2 (by simp) (by simp)),by rw[he _ h.bar.1.lt];exact h.bar.2⟩}
theorem BxM.setRoot(h:BxM τ o w b X L)(ho:2≤o){ptr':List Nat}{ov':Nat}(k:Ch (· =b) w w')(hb:Blk w' b 158 (bxC {X with ptr:=ptr',ov:=ov'} L)):BxM τ o w' b {X with ptr:=ptr',ov:=ov'} L:=by
 have hd:∀i,i=b→(τ i).1≠1:=fun i e=>by rw[e,h.root.2];simp only;omega
 have ne:∀{i t},τ i=t→t≠(o,0,0,0)→¬(i=b):=fun h1 h2 e=>h2 (by rw[←h1,e,h.root.2]);exact{
  root:=⟨hb,h.root.2⟩
  qr:=fun a ha=>let r:=h.qr a ha;⟨r.1.ch k (ne r.2 (by simp)),r.2⟩
  q:=fun a d ha hd'=>let r:=h.q a d ha hd';⟨r.1.chE k (fun _ _=>rfl) hd (fun g hg=>ne (r.2 g hg) (by simp)),r.2⟩
  g:=fun a ha=>by obtain⟨g,h1,h2⟩:=h.g a ha;exact⟨g,h1.ch k (ne h2 (by simp)),h2⟩
  gg:=fun a d ha hd'=>by obtain⟨h1,h2,h3⟩:=h.gg a d ha hd';exact⟨h1.ch k (ne h2 (by simp)) (ne h3 (by simp)),h2,h3⟩
  t:=fun a ha=>by obtain⟨g,h1,h2⟩:=h.t a ha;exact⟨g,h1.ch k (ne h2 (by simp)),h2⟩
  tt:=fun a d ha hd'=>by obtain⟨h1,h2,h3⟩:=h.tt a d ha hd';exact⟨h1.ch k (ne h2 (by simp)) (ne h3 (by simp)),h2,h3⟩
  bar:=⟨h.bar.1.ch k (ne h.bar.2 (by simp)),h.bar.2⟩}
theorem BxM.setBar(h:BxM τ o w b X L)(ho:2≤o){B:Bar}(k:Ch (· =L.bb) w w')(hb:Blk w' L.bb 201 (((barL B X.ports).map cNt).toArray)):BxM τ o w' b {X with bar:=B} L:=by
 have hd:∀i,i=L.bb→(τ i).1≠1:=fun i e=>by rw[e,h.bar.2];simp only;omega
 have ne:∀{i t},τ i=t→t≠(o,9,0,0)→¬(i=L.bb):=fun h1 h2 e=>h2 (by rw[←h1,e,h.bar.2]);exact{
  root:=⟨h.root.1.ch k (ne h.root.2 (by simp)),h.root.2⟩
  qr:=fun a ha=>let r:=h.qr a ha;⟨r.1.ch k (ne r.2 (by simp)),r.2⟩
  q:=fun a d ha hd'=>let r:=h.q a d ha hd';⟨r.1.chE k (fun _ _=>rfl) hd (fun g hg=>ne (r.2 g hg) (by simp)),r.2⟩
  g:=fun a ha=>by obtain⟨g,h1,h2⟩:=h.g a ha;exact⟨g,h1.ch k (ne h2 (by simp)),h2⟩
  gg:=fun a d ha hd'=>by obtain⟨h1,h2,h3⟩:=h.gg a d ha hd';exact⟨h1.ch k (ne h2 (by simp)) (ne h3 (by simp)),h2,h3⟩
  t:=fun a ha=>by obtain⟨g,h1,h2⟩:=h.t a ha;exact⟨g,h1.ch k (ne h2 (by simp)),h2⟩
  tt:=fun a d ha hd'=>by obtain⟨h1,h2,h3⟩:=h.tt a d ha hd';exact⟨h1.ch k (ne h2 (by simp)) (ne h3 (by simp)),h2,h3⟩
  bar:=⟨hb,h.bar.2⟩}
theorem cU8_len(x:Int):(cU8 x).length=1:=rfl
theorem IsDat.of_own{base:Nat}{x:List Int}{v:Value}(h:w.ownsRow base 5 1 v x.length (x.flatMap cU8))(hl:x.length≤64)(ht:∀g,v.ownBlock=some g→(τ g).1=1):IsDat τ w x v:=by obtain⟨a,cap,e,_,h2,_⟩:=rec_of_own (d:=(0:Int)) cU8_len (by decide) h;subst e;refine⟨a,cap,rfl,h2,fun p hp=>?_,hl⟩;subst hp;exact⟨ht _ rfl,(h.lt _ rfl).2⟩
theorem own_ne_own{w':World}{b1 b2:Nat}{t1 t2:TypeId}{m1 m2 n1 n2:Nat}{v1 v2:Value}{l1 l2:List Value}(h1:w'.ownsRow b1 t1 m1 v1 n1 l1)(h2:w'.ownsRow b2 t2 m2 v2 n2 l2)(hne:t1≠t2):∀g,v1.ownBlock=some g→v2.ownBlock≠some g:=by
 intro g e1 e2;rcases h1.2 with⟨rfl,_⟩|⟨g1,c1,cur1,rfl,_,hh1,_⟩
 ·simp[Value.ownBlock]at e1
 ·rcases h2.2 with⟨rfl,_⟩|⟨g2,c2,cur2,rfl,_,hh2,_⟩
  ·simp[Value.ownBlock]at e2
  ·simp[Value.ownBlock]at e1 e2;subst e1;subst e2;exact Blk.ne_ (show Blk w' _ t1 cur1 from hh1) (show Blk w' _ t2 cur2 from hh2) hne rfl
theorem BxM.pushQ{w2 wc wd:World}(h:BxM τ o w2 b X L){p c:Nat}(hp:p<X.ports)(hc:c<X.classes)(dim:Dim2 X.q X.ports X.classes)(ho:2≤o){x:Fm}{v' v2:Value}{o1:Obj}{Q:List (Fm×Value)}(hQ1:Q.map (·.1)=get2 X.q p c)(hQ3:∀y∈Q,IsDat τ w2 y.1.data y.2)(bc:Below w2.heap.size w2 wc)(ow:wc.ownsRow w2.heap.size 5 1 v' x.data.length (x.data.flatMap cU8))(hl:x.data.length≤64)(own2:wd.ownsRow 0 59 6 v2 (Q.length+1) (Q.flatMap cFm++cFm (x,v')))(gr:(wc.alloc o1).grownBy wd (L.qv p c).ownBlock)(loc:v2.ownBlock=(L.qv p c).ownBlock∨v2.ownBlock=some (wc.heap.size+1)):∃τ',BxM τ' o (wd.setCell ⟨L.qr p,c,none⟩ v2) b {X with q:=set2 X.q p c (get2 X.q p c++[x])} {L with qv:=updV L.qv p c v2}∧Nx τ o w2 τ' (wd.setCell ⟨L.qr p,c,none⟩ v2):=by
 have hq:=h.q p c hp hc;have hr:=h.qr p hp;have ltq:=hq.1.lt;have sz:w2.heap.size≤wc.heap.size:=bc.size;have lt':∀g,v'.ownBlock=some g→w2.heap.size≤g∧g<wc.heap.size:=ow.lt;have ow2:wd.ownsRow w2.heap.size 5 1 v' x.data.length (x.data.flatMap cU8):=by
  refine(ow.alloc o1).kept gr ?_;cases e:v'.ownBlock with
  |none=>exact .inl rfl
  |some g=>refine .inr fun e2=>?_;have h1:=(lt' g e).1;have h2:=ltq g e2.symm;omega
 have ne2:=own_ne_own ow2 own2 (by decide);have hrq:∀g,(L.qv p c).ownBlock=some g→L.qr p≠g:=fun g hg e=>by have h1:=hr.2;have h2:=hq.2 g hg;rw[e,h2]at h1;simp at h1
 have S3:Ch (fun k=>k=L.qr p∨(L.qv p c).ownBlock=some k) w2 (wd.setCell ⟨L.qr p,c,none⟩ v2):=
  (((Ch.of_below bc).alloc o1).grown gr fun g hg=>.inl (.inr hg)).setCell (.inl (.inl rfl)) v2
 obtain⟨τ',hτ'⟩:∃τ':Own,τ'=fun k=>if v'.ownBlock=some k then(1,0,0,0)else if v2.ownBlock=some k then(o,2,p,c)else fr τ w2.heap.size k:=⟨_,rfl⟩
 have he:∀k,k<w2.heap.size→τ' k=τ k:=fun k hk=>by
  rw[hτ'];simp only;rw[if_neg (fun e=>by have:=(lt' k e).1;omega)];by_cases e:v2.ownBlock=some k
  ·rw[if_pos e];rcases loc with q|q
   ·rw[q]at e;exact(hq.2 k e).symm
   ·rw[q]at e;injection e with e;omega
  ·rw[if_neg e,fr_old hk]
 have blkqr:Blk wd (L.qr p) 110 (((List.range X.classes).map (L.qv p)).toArray):=((hr.1.below bc hr.1.lt).alloc o1).grown gr fun e=>hrq _ e.symm rfl;refine⟨τ',h.setQ hp hc dim ho S3 he ?_ ?_ ?_ ?_,⟨S3.mono fun k _ s=>?_,he,fun k h1 h2=>?_⟩⟩
 ·rintro i (e|e)
  ·exact .inl (by rw[e];exact hr.2)
  ·exact .inr (hq.2 i e)
 ·have:=blkqr.set_ c v2;rw[range_arr_set X.classes (L.qv p) (updV L.qv p c v2 p) c v2 (fun i _=>by
   unfold updV;by_cases e:i=c
   ·simp[e]
   ·simp[e])]at this
  exact this
 ·refine⟨Q++[(x,v')],by simp[hQ1],?_,fun y hy=>?_⟩
  ·have:=own2;rw[show Q.flatMap cFm++cFm (x,v')=(Q++[(x,v')]).flatMap cFm by simp,show Q.length+1=(Q++[(x,v')]).length by simp]at this;exact own_ch this ((Ch.refl (· =L.qr p) wd).setCell (p:=⟨L.qr p,c,none⟩) (.inl rfl) v2) fun g hg e=>by
    subst e;rcases loc with q|q
    ·rw[q]at hg;exact hrq _ hg rfl
    ·rw[q]at hg;injection hg with hg;have:=hr.1.lt;omega
  ·rcases List.mem_append.1 hy with hy|hy
   ·exact(hQ3 y hy).chE S3 he fun k s=>by
     rcases s with s|s
     ·rw[s,hr.2];simp only;omega
     ·rw[hq.2 k s];simp only;omega
   ·simp only[List.mem_singleton]at hy;subst hy;refine IsDat.of_own (base:=w2.heap.size) (own_ch ow2 ((Ch.refl (· =L.qr p) wd).setCell (p:=⟨L.qr p,c,none⟩) (.inl rfl) v2) fun g hg e=>?_) hl fun g hg=>?_
    ·have:=(lt' g hg).1;have:=hr.1.lt;omega
    ·rw[hτ'];simp only;rw[if_pos hg]
 ·intro g hg;rw[hτ'];simp only;rw[if_neg (fun e=>ne2 g e hg),if_pos hg]
 ·rcases s with s|s
  ·rw[s,hr.2]
  ·rw[hq.2 k s]
 ·rw[hτ'];simp only;by_cases e1:v'.ownBlock=some k
  ·rw[if_pos e1];exact .inr (Nat.le_refl _)
  ·rw[if_neg e1];by_cases e2:v2.ownBlock=some k
   ·rw[if_pos e2];exact .inl rfl
   ·rw[if_neg e2,fr_new h1];exact .inr (Nat.zero_le _)
end
end Go.Proofs.YtnjjkgjdhljfnaaGreat
namespace Go.Proofs.YtnjjkgjdhljfnaaGreat
open Go.RowKit Go.Maps
attribute [local go_sem ↓] Go.wp_at_zero Go.wp_at_succ
section
variable{τ:Own}{o:Nat}{w:World}{b:Nat}{X:Bx}{L:BxL}
theorem BxM.at_(h:BxM τ o w b X L){i:Nat}(hi:i<36):w.cell? ⟨b,i,none⟩=some (bxV X L i):=by rw[h.root.1.cell];exact range_arr 36 _ hi
theorem BxM.c0(h:BxM τ o w b X L):w.cell? ⟨b,0,none⟩=some (.int .i64 X.ports):=h.at_ (i:=0) (by omega)
theorem BxM.c1(h:BxM τ o w b X L):w.cell? ⟨b,0+1,none⟩=some (.int .i64 X.classes):=h.at_ (i:=1) (by omega)
theorem BxM.cq(h:BxM τ o w b X L){p:Nat}(hp:p<X.ports)(h8:X.ports≤8):w.cell? ⟨b,2+p,none⟩=some (.slice (some ⟨L.qr p,0,none⟩) X.classes X.classes):=by rw[h.at_ (i:=2+p) (by omega)];unfold bxV rowV;rw[if_neg (by omega),if_neg (by omega),if_pos (by omega),show 2+p-2=p by omega,if_pos hp]
theorem BxM.cg(h:BxM τ o w b X L){p:Nat}(hp:p<X.ports)(h8:X.ports≤8):w.cell? ⟨b,10+p,none⟩=some (L.gr p):=by rw[h.at_ (i:=10+p) (by omega)];unfold bxV rowV;rw[if_neg (by omega),if_neg (by omega),if_neg (by omega),if_pos (by omega),show 10+p-10=p by omega,if_pos hp]
theorem BxM.ct(h:BxM τ o w b X L){p:Nat}(hp:p<X.ports)(h8:X.ports≤8):w.cell? ⟨b,18+p,none⟩=some (L.tr p):=by rw[h.at_ (i:=18+p) (by omega)];unfold bxV rowV;rw[if_neg (by omega),if_neg (by omega),if_neg (by omega),if_neg (by omega),if_pos (by omega),show 18+p-18=p by omega,if_pos hp]
theorem BxM.cp(h:BxM τ o w b X L){p:Nat}(hp:p<8):w.cell? ⟨b,26+p,none⟩=some (.int .i64 (X.ptr.getD p 0:Nat)):=by rw[h.at_ (i:=26+p) (by omega)];unfold bxV rowV;rw[if_neg (by omega),if_neg (by omega),if_neg (by omega),if_neg (by omega),if_neg (by omega),if_pos (by omega),show 26+p-26=p by omega]
theorem BxM.cb(h:BxM τ o w b X L):w.cell? ⟨b,34,none⟩=some (pt L.bb):=h.at_ (i:=34) (by omega)
theorem BxM.cov(h:BxM τ o w b X L):w.cell? ⟨b,35,none⟩=some (.int .i64 X.ov):=h.at_ (i:=35) (by omega)
theorem BxM.cqv(h:BxM τ o w b X L){p c:Nat}(hp:p<X.ports)(hc:c<X.classes):w.cell? ⟨L.qr p,c,none⟩=some (L.qv p c):=by rw[(h.qr p hp).1.cell];exact range_arr _ _ hc
end
theorem own_set{w:World}{base:Nat}{e:TypeId}{m n:Nat}{v:Value}{xs:List Value}(h:w.ownsRow base e m v n xs){p:Addr}(u:Value)(hg:∀g,v.ownBlock=some g→g≠p.block):(w.setCell p u).ownsRow base e m v n xs:=
 own_ch h ((Ch.refl (· =p.block) w).setCell (.inl rfl) u) hg
theorem bhas_any(p c:Nat)(τ:Own)(o:Nat)(w:World)(b:Nat)(X:Bx)(L:BxL)(h:BxM τ o w b X L)(hp:p<X.ports)(hc:c<X.classes):Calls Tryz.prog 91 #[pt b,.int .i64 p,.int .i64 c] w fun e w'=>e=.returned (.bool true)∧w=w':=by
 have c0:=h.c0;have c1:=h.c1;clear h;unfold pt
 go_enter Tryz.func91,Tryz.ntmps91
 go_wp2_with fail
 go_ret
 exact⟨rfl,rfl⟩
theorem cU8_one(l:List Int):∀u∈l.flatMap cU8,u.oneCell'=true:=by intro u hu;simp only[List.mem_flatMap,cU8,List.mem_singleton]at hu;obtain⟨x,_,rfl⟩:=hu;rfl
theorem infoU8:(Tryz.prog.info? 5).map (fun i=>(i.zero,i.size,i.bytes))=some (some (.int .u8 0),1,1):=by kernel_rfl
def CopyF(x:Fm)(w:World)(e:Ending)(w':World):Prop:=∃v',e=.returned (fmV x v')∧Below w.heap.size w w'∧w'.ownsRow w.heap.size 5 1 v' x.data.length (x.data.flatMap cU8)
theorem bcopied_any(x:Fm)(v:Value)(τ:Own)(w:World)(h:IsDat τ w x.data v):Calls Tryz.prog 92 #[fmV x v] w (CopyF x w):=by
 obtain⟨a,cap,rfl,h1,h2,h3⟩:=h;obtain⟨xi,xf,xt,xc,xe,xd⟩:=x;simp only at h1 h2 h3⊢;unfold fmV;simp only;obtain⟨w1,hw1⟩:∃w1:World,(w.alloc (.cells #[.int .i64 xi,.int .i64 xf,.int .i64 xt,.int .i64 xc,.int .i64 xe,.slice a xd.length cap] 59)).alloc (.cells #[.int .i64 0,.int .i64 0,.int .i64 0,.int .i64 0,.int .i64 0,.slice none 0 0] 59)=w1:=⟨_,rfl⟩;have BW:Hid (Below w.heap.size w w1):=by rw[←hw1];exact((Below.refl _ _).alloc (Nat.le_refl _) _).alloc (by simp) _
 have S1:Hid (w1.heap.size=w.heap.size+2):=by rw[←hw1,Hid];simp
 have B1:Hid (Blk w1 w.heap.size 59 #[.int .i64 xi,.int .i64 xf,.int .i64 xt,.int .i64 xc,.int .i64 xe,.slice a xd.length cap]):=by rw[←hw1];exact(Blk.new w _ _).alloc _
 have B2:Hid (Blk w1 (w.heap.size+1) 59 #[.int .i64 0,.int .i64 0,.int .i64 0,.int .i64 0,.int .i64 0,.slice none 0 0]):=by rw[←hw1];have:=Blk.new (w.alloc (.cells #[.int .i64 xi,.int .i64 xf,.int .i64 xt,.int .i64 xc,.int .i64 xe,.slice a xd.length cap] 59)) 59 #[.int .i64 0,.int .i64 0,.int .i64 0,.int .i64 0,.int .i64 0,.slice none 0 0];rw[Hid];simpa using this
 have RA:=Lib.hid (reads_of_rec cU8_len (h1.below (Nat.le_refl _) BW.out));have fo:=Lib.hid (cU8_one xd);have HL:=Lib.hid h3;obtain⟨i0,hi0,hz0,hz1,hz2⟩:=info_parts infoU8;have k5:=B1.out.cell 5;have kf:=B1.out.frozen 5;simp only[List.getElem?_toArray,List.getElem?_cons_succ,List.getElem?_cons_zero]at k5;clear h1 h2 h3
 go_enter Tryz.func92,Tryz.ntmps92
 go_wp2_with (at_builtin;go_loud (refine wpList_append_any _ rfl (.const (.slice none 0 0)) (.tmp 4) 27 rfl w.heap.size 5 i0 _ 1 1 Tryz.underlying27 hi0 hz0 hz1 hz2 rfl (by decide) _ 0 [] rfl (World.ownsRow_nil w1 w.heap.size 5 1) w1.heap.size _ xd.length cap (xd.flatMap cU8) rfl RA.out fo.out ?c3 ?c4 ?c5 ?_))
 case c3=>have:=HL.out;unfold maxLen;omega
 case c4=>have:=HL.out;omega
 case c5=>exact BW.out.size
 intro v1 w2 own1 gr1 loc1
 try simp only[Nat.zero_add,List.nil_append]at own1
 have B1':Hid (Blk w2 w.heap.size 59 #[.int .i64 xi,.int .i64 xf,.int .i64 xt,.int .i64 xc,.int .i64 xe,.slice a xd.length cap]):=B1.out.grown gr1 (by simp[Value.ownBlock]);have B2':Hid (Blk w2 (w.heap.size+1) 59 #[.int .i64 0,.int .i64 0,.int .i64 0,.int .i64 0,.int .i64 0,.slice none 0 0]):=B2.out.grown gr1 (by simp[Value.ownBlock]);have BW2:Hid (Below w.heap.size w w2):=BW.out.trans ⟨gr1.os,gr1.tape,gr1.output,gr1.size,fun k hk=>gr1.block k (Nat.lt_of_lt_of_le hk BW.out.size) (by simp[Value.ownBlock])⟩;obtain⟨a1,cap1,rfl,hcap,_,hbase⟩:=rec_of_own (d:=(0:Int)) cU8_len (by decide) own1;have OW:=Lib.hid own1;have NB:Hid (∀g,(Value.slice a1 xd.length cap1).ownBlock=some g→g≠w.heap.size∧g≠w.heap.size+1):=fun g hg=>by
  rcases loc1 with q|q
  ·rw[hg]at q;simp[Value.ownBlock]at q
  ·rw[hg]at q;injection q with q;have:=S1.out;omega
 clear own1 gr1 hcap hbase kf k5 loc1;have k0:=B1'.out.cell 0;have k1:=B1'.out.cell 1;have k2:=B1'.out.cell 2;have k3:=B1'.out.cell 3;have k4:=B1'.out.cell 4;have k5:=B1'.out.cell 5;have kf:=B1'.out.frozen 5;have m0:=B2'.out.cell 0;have m1:=B2'.out.cell 1;have m2:=B2'.out.cell 2;have m3:=B2'.out.cell 3;have m4:=B2'.out.cell 4;have m5:=B2'.out.cell 5;have f0:=B2'.out.frozen 0;have f1:=B2'.out.frozen 1;have f2:=B2'.out.frozen 2;have f3:=B2'.out.frozen 3;have f4:=B2'.out.frozen 4;have f5:=B2'.out.frozen 5;simp only[List.getElem?_toArray,List.getElem?_cons_succ,List.getElem?_cons_zero]at k0 k1 k2 k3 k4 k5 m0 m1 m2 m3 m4 m5;clear hw1
 go_wp2_with fail
 refine bodyPost_ret (v:=.agg #[.int .i64 xi,.int .i64 xf,.int .i64 xt,.int .i64 xc,.int .i64 xe,.slice a1 xd.length cap1]) (by simp[results,Tryz.results92,go_sem,m0,m1,m2,m3,m4,m5]) rfl ⟨_,rfl,?_,?_⟩
 ·exact((((((BW2.out.setCell (by simp) _).setCell (by simp) _).setCell (by simp) _).setCell (by simp) _).setCell (by simp) _).setCell (by simp) _).setCell (by simp) _
 ·refine own_set (own_set (own_set (own_set (own_set (own_set (own_set OW.out _ ?_) _ ?_) _ ?_) _ ?_) _ ?_) _ ?_) _ ?_
  ·exact fun g hg=>(NB.out g hg).1
  all_goals exact fun g hg=>(NB.out g hg).2
theorem blimit_any(p c N:Nat)(τ:Own)(o:Nat)(w:World)(b:Nat)(X:Bx)(L:BxL)(h:BxM τ o w b X L)(hx:BxOk X N)(hN:N≤1000000000000)(hp:p<X.ports)(hc:c<X.classes):Calls Tryz.prog 100 #[pt b,.int .i64 p,.int .i64 c] w fun e w'=>e=.returned (.int .i64 (get2 X.gv p c).limit)∧Below w.heap.size w w':=by
 have HH:=Lib.hid (bhas_any p c τ o w b X L h hp hc);obtain⟨hg,_,_⟩:=h.gg p c hp hc;have HG:=Lib.hid (gvlim_any _ _ N _ _ w (hx.g p c hp hc) hN hg);obtain⟨g,⟨cap,cs,e1,e2,e3⟩,_⟩:=h.g p hp;have cg:=h.cg hp hx.p1;rw[e1]at cg;have cc:w.cell? ⟨g,c,none⟩=some (pt (L.gb p c)):=by rw[e2.cell];exact e3 c hc
 have p0:(0:Int)≤(p:Int):=by omega
 have p8:(p:Int)<8:=by have:=hx.p1;omega
 have c0:(0:Int)≤(c:Int):=by omega
 have c8:(c:Int)<(X.classes:Int):=by omega
 generalize(get2 X.gv p c).limit=l at HG⊢;clear h hx hg e1 e2 e3;unfold pt at *
 go_enter Tryz.func100,Tryz.ntmps100
 go_wp2_with (first
  |(go_at_call 91;refine HH.out.mono ?_;rintro e w' ⟨rfl,rfl⟩)
  |(go_at_call 133;refine HG.out.mono ?_;rintro e w' ⟨rfl,bel⟩;have BL:=Lib.hid bel;clear bel))
 go_ret
 exact⟨rfl,BL.out⟩
def BxPost(τ:Own)(o:Nat)(w:World)(b:Nat)(X':Bx)(L:BxL)(w':World):Prop:=∃τ' L',BxM τ' o w' b X' L'∧Nx τ o w τ' w'
theorem braise_any(p c N:Nat)(l:Int)(τ:Own)(o:Nat)(w:World)(b:Nat)(X:Bx)(L:BxL)(h:BxM τ o w b X L)(ho:2≤o)(hx:BxOk X N)(hN:N≤1000000000000)(hp:p<X.ports)(hc:c<X.classes)(hl:(Lit.int .i64 l).wf=true):Calls Tryz.prog 54 #[pt b,.int .i64 p,.int .i64 c,.int .i64 l] w fun e w'=>(∃r:Int,e=.returned (.int .i64 r))∧BxPost τ o w b (X.raise p c l) L w':=by
 have HH:=Lib.hid (bhas_any p c τ o w b X L h hp hc);obtain⟨hg,t1,t2⟩:=h.tt p c hp hc;have HG:=Lib.hid (tkraise_any _ N l _ _ w (hx.t p c hp hc) hN hl hg);have FIN:Hid (∀w',Blk w' (L.tc p c) 228 (tkC ((get2 X.tk p c).raise l))→Ch (· =L.tc p c) w w'→BxPost τ o w b (X.raise p c l) L w'):=fun w' h1 h2=>
  ⟨_,_,h.toFr.setTk hp hc hx.tk ho h2 h1,Nx.of_ch h2 fun k e=>by rw[e,t2]⟩
 obtain⟨g,⟨cap,cs,e1,e2,e3⟩,_⟩:=h.t p hp;have cg:=h.ct hp hx.p1;rw[e1]at cg;have cc:w.cell? ⟨g,c,none⟩=some (pt (L.tb p c)):=by rw[e2.cell];exact e3 c hc
 have p0:(0:Int)≤(p:Int):=by omega
 have p8:(p:Int)<8:=by have:=hx.p1;omega
 have c0:(0:Int)≤(c:Int):=by omega
 have c8:(c:Int)<(X.classes:Int):=by omega
 generalize(get2 X.tk p c).raise l=x' at *;generalize X.raise p c l=X' at *;clear h hx hg e1 e2 e3 t1 t2;unfold pt at *
 go_enter Tryz.func54,Tryz.ntmps54
 go_wp2_with (first
  |(go_at_call 91;refine HH.out.mono ?_;rintro e w' ⟨rfl,rfl⟩)
  |(go_at_call 94;refine HG.out.mono ?_;rintro e w' ⟨⟨r,rfl⟩,b1,b2⟩;have BL:=Lib.hid (FIN.out _ b1 b2);clear b1 b2))
 go_ret
 exact⟨⟨_,rfl⟩,BL.out⟩
end Go.Proofs.YtnjjkgjdhljfnaaGreat
namespace Go.Proofs.YtnjjkgjdhljfnaaGreat
open Go.RowKit Go.Maps
section
variable{P:Program}{ops:Array Oper}{Q:Exit→Act→World→Prop}{md:Region.Mode}{S:World→Prop}{lst:Nat}
def AnyL(P:Program)(md:Region.Mode)(ops:Array Oper)(Q:Exit→Act→World→Prop)(S:World→Prop)(lst:Nat):Nat→Array Bool→Act→World→Prop
 |0,done,a,w=>Region.ready md ops done=[]∧Q .normal a w
 |n+1,done,a,w=>(Region.ready md ops done=[]→Q .normal a w)∧∀j∈Region.ready md ops done,wpOp P ops Q j (fun a' w'=>(j≠lst→S w')∧AnyL P md ops Q S lst n (done.setIfInBounds j true) a' w') a w
theorem AnyL.any:∀(n:Nat) (done:Array Bool) (a:Act) (w:World),AnyL P md ops Q S lst n done a w→wpAny P md ops Q n done a w
 |0,_,_,_,h=>h
 |n+1,_,_,_,h=>⟨h.1,fun j hj=>wpOp_mono (fun a' w' k=>AnyL.any n _ a' w' k.2) (h.2 j hj)⟩
def waitsB(md:Region.Mode)(ops:Array Oper)(lst i:Nat):Bool:=match ops[lst]? with
 |some o=>o.after.any fun e=>Region.binds md e&&e.on==i
 |none=>false
theorem not_ready_of_waits{i:Nat}{done:Array Bool}(h:waitsB md ops lst i=true)(hi:done.getD i false=false):lst∉Region.ready md ops done:=fun hm=>by obtain⟨_,o,ho,hall⟩:=mem_ready.1 hm;unfold waitsB at h;rw[ho]at h;simp only[Array.any_eq_true,Bool.and_eq_true,beq_iff_eq]at h;obtain⟨k,hk,hb,he⟩:=h;have:=hall _ (Array.getElem_mem hk) hb;rw[he,hi]at this;cases this
theorem AnyL.first{i:Nat}{oi:Oper}{v:Value}(hi:ops[i]?=some oi)(hsel:∀(j:Nat) (o:Oper) cs b,ops[j]?=some o→o.op≠.select cs b)(hQ:∀c a w,Q (.panic c) (a.put oi.dst v) w→Q (.panic c) a w)(hw:waitsB md ops lst i=true):∀(n:Nat) (done:Array Bool) (a:Act) (w:World),(∀j oj,ops[j]?=some oj→j≠i→done.getD j true=false→(∀e∈oj.after,Region.binds md e=true→e.on≠i)→oi.apart ops oj=true)→i∈Region.ready md ops done→YieldsIf P ops S oi v a→S w→i≠lst→AnyL P md ops Q S lst n (done.setIfInBounds i true) (a.put oi.dst v) w→AnyL P md ops Q S lst (n+1) done a w:=by
 intro n
 induction n with
 |zero=>
  intro done a w _ hr hy hS hne H;refine⟨fun h=>(by rw[h]at hr;cases hr),fun j hj=>?_⟩;by_cases hji:j=i
  ·subst hji;exact hy.wpOp hi hS ⟨fun _=>hS,H⟩
  ·have:=ready_mono hj hji;rw[H.1]at this;cases this
 |succ n ih=>
  intro done a w hfree hr hy hS hne H;refine⟨fun h=>(by rw[h]at hr;cases hr),fun j hj=>?_⟩;by_cases hji:j=i
  ·subst hji;exact hy.wpOp hi hS ⟨fun _=>hS,H⟩
  ·have hnd:done.getD i false=false:=by
    have h0:=(mem_ready.1 hr).1;rcases Nat.lt_or_ge i done.size with h'|h'
    ·simp[h']at h0⊢;exact h0
    ·simp[Array.getElem?_eq_none h']at h0⊢
   have hjl:j≠lst:=fun e=>not_ready_of_waits hw hnd (e▸hj);have h1:=H.2 j (ready_mono hj hji);obtain⟨hjun,oj,hoj,hall⟩:=mem_ready.1 hj;have hno:∀e∈oj.after,Region.binds md e=true→e.on≠i:=fun e he hb heq=>(by have h2:=hall e he hb;rw[heq,hnd]at h2;cases h2);have h2:=wpOp_putIf hoj (hfree j oj hoj hji hjun hno) (fun cs b=>hsel i oi cs b hi) (fun cs b=>hsel j oj cs b hoj) hQ hy h1;have hfree':∀k ok,ops[k]?=some ok→k≠i→(done.setIfInBounds j true).getD k true=false→(∀e∈ok.after,Region.binds md e=true→e.on≠i)→oi.apart ops ok=true:=fun k ok hk hki hun hn=>by
    refine hfree k ok hk hki ?_ hn;by_cases hjk:j=k
    ·subst hjk;exact hjun
    ·rw[getD_set_ne true hjk]at hun;exact hun
   refine wpOp_mono (fun a' w' h3=>⟨h3.2.1,ih (done.setIfInBounds j true) a' w' hfree' (ready_mono hr (Ne.symm hji)) h3.1 (h3.2.1 hjl) hne ?_⟩) h2;rw[Array.setIfInBounds_comm _ _ hji];exact h3.2.2
theorem AnyL.take{i:Nat}{oi:Oper}{v:Value}{n:Nat}{done:Array Bool}{a:Act}{w:World}(hi:ops[i]?=some oi)(hs:Region.noSelect ops=true)(hf:Region.free md ops done i=true)(hr:(Region.ready md ops done).contains i=true)(hw:(waitsB md ops lst i&&i !=lst)=true)(hQ:∀c a w,Q (.panic c) (a.put oi.dst v) w→Q (.panic c) a w)(hy:YieldsIf P ops S oi v a)(hS:S w)(h:AnyL P md ops Q S lst n (done.setIfInBounds i true) (a.put oi.dst v) w):AnyL P md ops Q S lst (n+1) done a w:=by simp only[Bool.and_eq_true,bne_iff_ne,ne_eq]at hw;exact AnyL.first hi (Region.noSelect_spec hs) hQ hw.1 n done a w (Region.free_spec hi hf) (by simpa using hr) hy hS hw.2 h
def Closed(md:Region.Mode)(ops:Array Oper)(done:Array Bool):Prop:=∀(j:Nat) (o:Oper),ops[j]?=some o→done.getD j false=true→∀e∈o.after,Region.binds md e=true→done.getD e.on false=true
def closedB(md:Region.Mode)(ops:Array Oper)(done:Array Bool):Bool:=(List.range ops.size).all fun j=>!(done.getD j false)||(match ops[j]? with|some o=>o.after.all fun e=>!Region.binds md e||done.getD e.on false|none=>true)
theorem Closed.of_b{done:Array Bool}(h:closedB md ops done=true):Closed md ops done:=fun j o ho hd e he hb=>by
 unfold closedB at h;rw[List.all_eq_true]at h;have hj:j<ops.size:=by
  rcases Nat.lt_or_ge j ops.size with q|q
  ·exact q
  ·rw[Array.getElem?_eq_none q]at ho;cases ho
 have:=h j (List.mem_range.2 hj);rw[hd,ho]at this;simp only[Bool.not_true,Bool.false_or,Array.all_eq_true]at this;obtain⟨k,hk,rfl⟩:=Array.getElem_of_mem he;have h2:=this k hk;rw[hb]at h2;simpa using h2
def waitsT(md:Region.Mode)(ops:Array Oper):Nat→Nat→Nat→Bool
 |0,_,_=>false
 |n+1,l,i=>match ops[l]? with
  |some o=>o.after.any fun e=>Region.binds md e&&(e.on==i||waitsT md ops n e.on i)
  |none=>false
theorem waitsT_done{done:Array Bool}(hc:Closed md ops done):∀(n l i:Nat),waitsT md ops n l i=true→done.getD l false=true→done.getD i false=true
 |0,_,_,h,_=>by simp[waitsT]at h
 |n+1,l,i,h,hl=>by
  unfold waitsT at h;cases ho:ops[l]? with
  |none=>rw[ho]at h;cases h
  |some o=>
   rw[ho]at h;simp only[Array.any_eq_true,Bool.and_eq_true,Bool.or_eq_true,beq_iff_eq]at h;obtain⟨k,hk,hb,he⟩:=h;have h1:=hc l o ho hl _ (Array.getElem_mem hk) hb;rcases he with he|he
   ·rw[he]at h1;exact h1
   ·exact waitsT_done hc n _ i he h1
theorem not_ready_of_waitsT{n i:Nat}{done:Array Bool}(hc:Closed md ops done)(h:waitsT md ops n lst i=true)(hi:done.getD i false=false):lst∉Region.ready md ops done:=fun hm=>by
 obtain⟨_,o,ho,hall⟩:=mem_ready.1 hm;cases n with
 |zero=>simp[waitsT]at h
 |succ n=>
  unfold waitsT at h;rw[ho]at h;simp only[Array.any_eq_true,Bool.and_eq_true,Bool.or_eq_true,beq_iff_eq]at h;obtain⟨k,hk,hb,he⟩:=h;have h1:=hall _ (Array.getElem_mem hk) hb;rcases he with he|he
  ·rw[he,hi]at h1;cases h1
  ·have:=waitsT_done hc n _ i he h1;rw[hi]at this;cases this
theorem getD_setF_ne{done:Array Bool}{j k:Nat}(h:j≠k):(done.setIfInBounds j true).getD k false=done.getD k false:=by simp[Array.getElem?_setIfInBounds,h]
theorem Closed.set{done:Array Bool}(hc:Closed md ops done){j:Nat}(hj:j∈Region.ready md ops done):Closed md ops (done.setIfInBounds j true):=fun k o ho hd e he hb=>by
 have keep:done.getD e.on false=true→(done.setIfInBounds j true).getD e.on false=true:=fun h=>by
  by_cases q:j=e.on
  ·subst q;rcases Nat.lt_or_ge e.on done.size with h'|h'
   ·simp[h']
   ·simp[Array.getElem?_eq_none h']at h
  ·rw[getD_setF_ne q];exact h
 by_cases q:j=k
 ·subst q;obtain⟨_,o',ho',hall⟩:=mem_ready.1 hj;rw[ho]at ho';injection ho' with ho';subst ho';exact keep (hall e he hb)
 ·rw[getD_setF_ne q]at hd;exact keep (hc k o ho hd e he hb)
theorem AnyL.firstT{i t:Nat}{oi:Oper}{v:Value}(hi:ops[i]?=some oi)(hsel:∀(j:Nat) (o:Oper) cs b,ops[j]?=some o→o.op≠.select cs b)(hQ:∀c a w,Q (.panic c) (a.put oi.dst v) w→Q (.panic c) a w)(hw:waitsT md ops t lst i=true):∀(n:Nat) (done:Array Bool) (a:Act) (w:World),Closed md ops done→(∀j oj,ops[j]?=some oj→j≠i→done.getD j true=false→(∀e∈oj.after,Region.binds md e=true→e.on≠i)→oi.apart ops oj=true)→i∈Region.ready md ops done→YieldsIf P ops S oi v a→S w→i≠lst→AnyL P md ops Q S lst n (done.setIfInBounds i true) (a.put oi.dst v) w→AnyL P md ops Q S lst (n+1) done a w:=by
 intro n
 induction n with
 |zero=>
  intro done a w hcl _ hr hy hS hne H;refine⟨fun h=>(by rw[h]at hr;cases hr),fun j hj=>?_⟩;by_cases hji:j=i
  ·subst hji;exact hy.wpOp hi hS ⟨fun _=>hS,H⟩
  ·have:=ready_mono hj hji;rw[H.1]at this;cases this
 |succ n ih=>
  intro done a w hcl hfree hr hy hS hne H;refine⟨fun h=>(by rw[h]at hr;cases hr),fun j hj=>?_⟩;by_cases hji:j=i
  ·subst hji;exact hy.wpOp hi hS ⟨fun _=>hS,H⟩
  ·have hnd:done.getD i false=false:=by
    have h0:=(mem_ready.1 hr).1;rcases Nat.lt_or_ge i done.size with h'|h'
    ·simp[h']at h0⊢;exact h0
    ·simp[Array.getElem?_eq_none h']at h0⊢
   have hjl:j≠lst:=fun e=>not_ready_of_waitsT hcl hw hnd (e▸hj);have h1:=H.2 j (ready_mono hj hji);obtain⟨hjun,oj,hoj,hall⟩:=mem_ready.1 hj;have hno:∀e∈oj.after,Region.binds md e=true→e.on≠i:=fun e he hb heq=>(by have h2:=hall e he hb;rw[heq,hnd]at h2;cases h2);have h2:=wpOp_putIf hoj (hfree j oj hoj hji hjun hno) (fun cs b=>hsel i oi cs b hi) (fun cs b=>hsel j oj cs b hoj) hQ hy h1;have hfree':∀k ok,ops[k]?=some ok→k≠i→(done.setIfInBounds j true).getD k true=false→(∀e∈ok.after,Region.binds md e=true→e.on≠i)→oi.apart ops ok=true:=fun k ok hk hki hun hn=>by
    refine hfree k ok hk hki ?_ hn;by_cases hjk:j=k
    ·subst hjk;exact hjun
    ·rw[getD_set_ne true hjk]at hun;exact hun
   refine wpOp_mono (fun a' w' h3=>⟨h3.2.1,ih (done.setIfInBounds j true) a' w' (hcl.set hj) hfree' (ready_mono hr (Ne.symm hji)) h3.1 (h3.2.1 hjl) hne ?_⟩) h2;rw[Array.setIfInBounds_comm _ _ hji];exact h3.2.2
theorem AnyL.takeT{i:Nat}{oi:Oper}{v:Value}{n:Nat}{done:Array Bool}{a:Act}{w:World}(hi:ops[i]?=some oi)(hs:Region.noSelect ops=true)(hf:Region.free md ops done i=true)(hr:(Region.ready md ops done).contains i=true)(hw:(waitsT md ops 6 lst i&&i !=lst&&closedB md ops done)=true)(hQ:∀c a w,Q (.panic c) (a.put oi.dst v) w→Q (.panic c) a w)(hy:YieldsIf P ops S oi v a)(hS:S w)(h:AnyL P md ops Q S lst n (done.setIfInBounds i true) (a.put oi.dst v) w):AnyL P md ops Q S lst (n+1) done a w:=by simp only[Bool.and_eq_true,bne_iff_ne,ne_eq]at hw;exact AnyL.firstT hi (Region.noSelect_spec hs) hQ hw.1.1 n done a w (Closed.of_b hw.2) (Region.free_spec hi hf) (by simpa using hr) hy hS hw.1.2 h
theorem puts:(∀(a:Act) (d:Nat) (v:Value),a.put (some d) v={a with tmps:=a.tmps.setIfInBounds d v})∧(∀(a:Act) (v:Value),a.put none v=a)∧(∀{α:Type} {xs:List α} {i:Nat} (h:i<xs.toArray.size),xs.toArray[i]=xs[i]'(by simpa using h))∧(∀{α:Type} {a:α} {bs:List α} {i:Nat} (h:i+1<(a::bs).length),(a::bs)[i+1]=bs[i]'(Nat.lt_of_succ_lt_succ h))∧(∀{α:Type} {a:α} {bs:List α} (h:0<(a::bs).length),(a::bs)[0]=a)∧(∀{α:Type} {bs:List α} {i:Nat} {a:α},bs.toArray.setIfInBounds i a=(bs.set i a).toArray)∧(∀{α:Type} {xs:List α} {x a:α},(x::xs).set 0 a=a::xs)∧(∀{α:Type} {xs:List α} {i:Nat} {x a:α},(x::xs).set (i+1) a=x::xs.set i a):=
 ⟨fun _ _ _=>rfl,fun _ _=>rfl,fun _=>List.getElem_toArray _,fun _=>rfl,fun _=>rfl,List.setIfInBounds_toArray _ _ _,rfl,rfl⟩
theorem AnyL.tk(i:Nat){oi:Oper}{v:Value}{n:Nat}{done:Array Bool}{a:Act}{w:World}(hS:S w)(h:AnyL P md ops Q S lst n (done.setIfInBounds i true) (a.put oi.dst v) w)(hi:ops[i]?=some oi:=by rfl)(hc:(Region.noSelect ops&&Region.free md ops done i&&(Region.ready md ops done).contains i&&(waitsT md ops 6 lst i&&i !=lst&&closedB md ops done))=true:=by kernel_rfl)(hw:Region.wanted oi (yielded ops a.tmps)=true:=by rfl)(hy:∀w',S w'→(execOp a.eval oi).run P w'=.ok (.value v) w':=by(intro w' hSw;(repeat(have:=And.left hSw;replace hSw:=And.right hSw));go_simp;all_goals with_reducible rfl))(hQ:∀c a w,Q (.panic c) (a.put oi.dst v) w→Q (.panic c) a w:=by exact fun _ _ _ h=>h):AnyL P md ops Q S lst (n+1) done a w:=by simp only[Bool.and_eq_true]at hc;exact AnyL.takeT hi hc.1.1.1 hc.1.1.2 hc.1.2 (by simp only[Bool.and_eq_true];exact hc.2) hQ (.inl ⟨hw,hy⟩) hS h
theorem AnyL.one{i:Nat}{oi:Oper}{n:Nat}{done:Array Bool}{a:Act}{w:World}(hr:Region.ready md ops done=[i])(hi:ops[i]?=some oi)(h:∀K':Act→World→Prop,Hid (∀a' w',(i≠lst→S w')→((i≠lst→S w')→AnyL P md ops Q S lst n (done.setIfInBounds i true) a' w')→K' a' w')→if Region.wanted oi (yielded ops a.tmps)=true then Oper.wp P oi a w K' Q else K' (a.put oi.dst undef) w):AnyL P md ops Q S lst (n+1) done a w:=
 ⟨fun e=>(by rw[e]at hr;cases hr),fun j hj=>by rw[hr]at hj;simp only[List.mem_singleton]at hj;subst hj;exact wpOp_step hi fun K' hK=>h K' fun a' w' hS hA=>hK a' w' ⟨hS,hA hS⟩⟩
theorem AnyL.done{listed:Array Bool}{a:Act}{w:World}(hr:Region.ready md ops listed=[])(h:Q .normal a w):∀n,AnyL P md ops Q S lst n listed a w
 |0=>⟨hr,h⟩
 |_+1=>⟨fun _=>h,by rw[hr];simp⟩
theorem wp_region_L(lst:Nat)(S:World→Prop){id:Nat}{a:Act}{w:World}(hm:P.follows .mixedOrders=true)(hS:S w.drew)(h:S w.drew→AnyL P .any ops Q S lst ops.size (Array.replicate ops.size false) a w.drew):(Code.region id ops true).wp P Q a w:=
 wp_region_any hm (AnyL.any _ _ _ _ (h hS))
end
theorem call3_run{P:Program}{a:Act}{w:World}{o:Oper}{x1 x2 x3:Operand}{f:FuncId}{ts:Array TypeId}{v1 v2 v3:Value}(hE:∀args w,(callFunc f args).run P w=.ok (.enter f args) w)(ho:o.op=Op.call {callee:=Callee.value (Operand.func f),args:=#[x1,x2,x3],argTypes:=ts})(h1:a.eval x1=v1)(h2:a.eval x2=v2)(h3:a.eval x3=v3):(execOp a.eval o).run P w=.ok (.enter f #[v1,v2,v3]) w:=by subst h1;subst h2;subst h3;simp[execOp,ho,resolve,invoke,hE,go_sem]
theorem step_call3{P:Program}{ops:Array Oper}{o:Oper}{a:Act}{w:World}{K:Act→World→Prop}{Q:Exit→Act→World→Prop}{E:Prop}(hg:o.guard=none){x1 x2 x3:Operand}{f:FuncId}{ts:Array TypeId}{v1 v2 v3:Value}(hE:∀args w,(callFunc f args).run P w=.ok (.enter f args) w)(ho:o.op=Op.call {callee:=Callee.value (Operand.func f),args:=#[x1,x2,x3],argTypes:=ts})(h1:a.eval x1=v1)(h2:a.eval x2=v2)(h3:a.eval x3=v3){Post:Ending→World→Prop}(hc:Calls P f #[v1,v2,v3] w Post)(hK:∀e w',Post e w'→∃r,e=.returned r∧K (a.put o.dst r) w'):if Region.wanted o (yielded ops a.tmps)=true then Oper.wp P o a w K Q else E:=by
 have hw:Region.wanted o (yielded ops a.tmps)=true:=by simp[Region.wanted,hg]
 rw[if_pos hw];unfold Oper.wp;rw[call3_run hE ho h1 h2 h3];exact hc.mono fun e w' h=>by obtain⟨r,rfl,hk⟩:=hK e w' h;exact hk
theorem call2_run{P:Program}{a:Act}{w:World}{o:Oper}{x1 x2:Operand}{f:FuncId}{ts:Array TypeId}{v1 v2:Value}(hE:∀args w,(callFunc f args).run P w=.ok (.enter f args) w)(ho:o.op=Op.call {callee:=Callee.value (Operand.func f),args:=#[x1,x2],argTypes:=ts})(h1:a.eval x1=v1)(h2:a.eval x2=v2):(execOp a.eval o).run P w=.ok (.enter f #[v1,v2]) w:=by subst h1;subst h2;simp[execOp,ho,resolve,invoke,hE,go_sem]
theorem step_call2{P:Program}{ops:Array Oper}{o:Oper}{a:Act}{w:World}{K:Act→World→Prop}{Q:Exit→Act→World→Prop}{E:Prop}(hg:o.guard=none){x1 x2:Operand}{f:FuncId}{ts:Array TypeId}{v1 v2:Value}(hE:∀args w,(callFunc f args).run P w=.ok (.enter f args) w)(ho:o.op=Op.call {callee:=Callee.value (Operand.func f),args:=#[x1,x2],argTypes:=ts})(h1:a.eval x1=v1)(h2:a.eval x2=v2){Post:Ending→World→Prop}(hc:Calls P f #[v1,v2] w Post)(hK:∀e w',Post e w'→∃r,e=.returned r∧K (a.put o.dst r) w'):if Region.wanted o (yielded ops a.tmps)=true then Oper.wp P o a w K Q else E:=by
 have hw:Region.wanted o (yielded ops a.tmps)=true:=by simp[Region.wanted,hg]
 rw[if_pos hw];unfold Oper.wp;rw[call2_run hE ho h1 h2];exact hc.mono fun e w' h=>by obtain⟨r,rfl,hk⟩:=hK e w' h;exact hk
end Go.Proofs.YtnjjkgjdhljfnaaGreat
namespace Go.Proofs.YtnjjkgjdhljfnaaGreat
open Go.RowKit Go.Maps
attribute [local go_sem ↓] Go.wp_at_zero Go.wp_at_succ
theorem infoFrame:(Tryz.prog.info? 59).map (fun i=>(i.zero,i.size,i.bytes))=some (some (.agg #[.int .i64 0,.int .i64 0,.int .i64 0,.int .i64 0,.int .i64 0,.slice none 0 0]),6,64):=by kernel_rfl
def ArrPost(τ:Own)(o:Nat)(w:World)(b:Nat)(r:Bx×Bool)(L:BxL)(e:Ending)(w':World):Prop:=
 e=.returned (.int .i64 (if r.2 then 0 else 5))∧BxPost τ o w b r.1 L w'
theorem barrive_any(p N:Nat)(x:Fm)(v:Value)(τ:Own)(o:Nat)(w:World)(b:Nat)(X:Bx)(L:BxL)(h:BxM τ o w b X L)(ho:2≤o)(hx:BxOk X N)(hN:N<1000000000000)(hp:p<X.ports)(hc0:0≤x.cls)(hc:x.cls.toNat<X.classes)(hv:IsDat τ w x.data v):Calls Tryz.prog 50 #[pt b,.int .i64 p,fmV x v] w (ArrPost τ o w b (X.arrive p x) L):=by
 obtain⟨c,hcc⟩:∃c:Nat,x.cls=(c:Int):=⟨x.cls.toNat,by omega⟩;have hcn:x.cls.toNat=c:=by omega
 rw[hcn]at hc;obtain⟨xi,xf,xt,xc,xe,xd⟩:=x;simp only at hcc hcn hc0 hv;subst hcc;have hcopy0:=hv;obtain⟨a,cap,rfl,d1,d2,d3⟩:=hv;obtain⟨w1,hw1⟩:∃w1:World,w.alloc (.cells #[.int .i64 xi,.int .i64 xf,.int .i64 xt,.int .i64 c,.int .i64 xe,.slice a xd.length cap] 59)=w1:=⟨_,rfl⟩;have BW:Hid (Below w.heap.size w w1):=by rw[←hw1];exact(Below.refl _ _).alloc (Nat.le_refl _) _
 have FB:Hid (Blk w1 w.heap.size 59 #[.int .i64 xi,.int .i64 xf,.int .i64 xt,.int .i64 c,.int .i64 xe,.slice a xd.length cap]):=by rw[←hw1];exact Blk.new w _ _
 have H1:Hid (BxM (fr τ w.heap.size) o w1 b X L):=h.toFr.below BW.out;have HH:=Lib.hid (bhas_any p c _ o w1 b X L H1.out hp hc);obtain⟨hg,t4,t5⟩:=H1.out.gg p c hp hc;have HG:=Lib.hid (gvreceive_any _ _ N _ _ w1.drew (hx.g p c hp hc) (by omega) hg.drew);obtain⟨g,⟨gcap,cs,e1,e2,e3⟩,tg⟩:=H1.out.g p hp;have cg:=H1.out.cg hp hx.p1;rw[e1]at cg;have cc:w1.cell? ⟨g,c,none⟩=some (pt (L.gb p c)):=by rw[e2.cell];exact e3 c hc
 have p0:(0:Int)≤(p:Int):=by omega
 have p8:(p:Int)<8:=by have:=hx.p1;omega
 have c0:(0:Int)≤(c:Int):=by omega
 have c8:(c:Int)<(X.classes:Int):=by omega
 have f3:w1.cell? ⟨w.heap.size,3,none⟩=some (.int .i64 c):=FB.out.cell 3;have KP:Hid (∀w',Ch (· =L.gc p c) w1 w'→w'.cell? ⟨b,10+p,none⟩=some (.slice (some ⟨g,0,none⟩) X.classes gcap)∧w'.cell? ⟨w.heap.size,3,none⟩=some (.int .i64 c)∧w'.cell? ⟨g,c,none⟩=some (pt (L.gb p c))):=fun w' hc'=>by
  refine⟨?_,?_,?_⟩
  ·rw[hc'.cell (p:=⟨b,10+p,none⟩) H1.out.root.1.lt (fun q=>by have h1:=H1.out.root.2;simp only at q;rw[q,t5]at h1;simp at h1)];exact cg
  ·rw[hc'.cell (p:=⟨w.heap.size,3,none⟩) FB.out.lt (fun q=>Blk.ne_ FB.out hg.c (by decide) q)];exact f3
  ·rw[hc'.cell (p:=⟨g,c,none⟩) e2.lt (fun q=>by simp only at q;rw[q,t5]at tg;simp at tg)];exact cc
 have LTb:=Lib.hid h.root.1.lt;clear h hg e1 e2 e3 tg;have HXX:=Lib.hid hx;by_cases hf:(get2 X.gv p c).limit≤(get2 X.gv p c).rec'
 ·have E1:rcvCode (get2 X.gv p c)=5:=if_pos hf;have E2:(get2 X.gv p c).receive.1=get2 X.gv p c:=by unfold Gv.receive;rw[if_pos hf]
  have E3:X.arrive p ⟨xi,xf,xt,c,xe,xd⟩=({X with ov:=X.ov+1},false):=by unfold Bx.arrive;simp only[Int.toNat_natCast];unfold Gv.receive;rw[if_pos hf];rfl
  rw[E1,E2]at HG;rw[E3];have q1:IntKind.i64.wrap ((X.ov:Int)+1)=(X.ov:Int)+1:=IntWalk.i64_in _ (by have:=hx.ov;omega);have FIN:Hid (∀w2,Blk w2 (L.gc p c) 206 (gvC (get2 X.gv p c))→Ch (· =L.gc p c) w1 w2→w2.cell? ⟨b,35,none⟩=some (.int .i64 X.ov)∧w2.frozen? ⟨b,35,none⟩=false∧BxPost τ o w b {X with ov:=X.ov+1} L (w2.setCell ⟨b,35,none⟩ (.int .i64 ((X.ov:Int)+1)))):=fun w2 h1 h2=>by
   have m2:=H1.out.setGv hp hc HXX.out.gv ho h2 h1;rw[set2_get2 _ HXX.out.gv hp hc]at m2;have c1:Ch (· =b) w2 (w2.setCell ⟨b,35,none⟩ (.int .i64 ((X.ov:Int)+1))):=(Ch.refl (· =b) w2).setCell (p:=⟨b,35,none⟩) (.inl rfl) _;have m3:BxM (fr τ w.heap.size) o (w2.setCell ⟨b,35,none⟩ (.int .i64 ((X.ov:Int)+1))) b {X with ov:=X.ov+1} L:=m2.setRoot ho c1 (by
    have:=m2.root.1.set_ 35 (.int .i64 ((X.ov:Int)+1));unfold bxC at this⊢;rw[range_arr_set 36 (bxV X L) (bxV {X with ov:=X.ov+1} L) 35 (.int .i64 ((X.ov:Int)+1)) (fun i hi=>by
     unfold bxV;by_cases e:i=35
     ·subst e;simp
     ·simp only[e,if_false]
      repeat(split;rfl)
      omega)]at this
    exact this)
   refine⟨m2.cov,m2.root.1.frozen 35,_,_,m3,?_⟩;have c0:Ch (fun k=>k=b∨k=L.gc p c) w (w2.setCell ⟨b,35,none⟩ (.int .i64 ((X.ov:Int)+1))):=((Ch.of_below BW.out).trans h2 (fun _ _ e=>.inr e)).trans c1 (fun _ _ e=>.inl e);refine Nx.of_ch' c0 fun k hk e=>?_;rcases e with e|e
   ·have:=H1.out.root.2;rw[fr_old LTb.out]at this;rw[e,this]
   ·rw[e,←fr_old (τ:=τ) (n:=w.heap.size) (k:=L.gc p c) (by rw[←e];exact hk),t5]
  have KQ:Hid (∀w',w'=w1∨w'=w1.drew→Ch (· =L.gc p c) w1 w'):=fun w' e=>by rcases e with rfl|rfl;exact Ch.refl _ _;exact(Ch.refl _ _).drew
  unfold pt at *;unfold fmV;clear hx hf FB H1 LTb HXX;generalize hAR:(ArrPost τ o w b _ L)=PST;have HAR:=Lib.hid hAR;clear hAR
  go_enter Tryz.func50,Tryz.ntmps50
  go_wp2_with (first
   |(go_at_call 91;refine HH.out.mono ?_;rintro e w' ⟨rfl,rfl⟩))
  clear hw1
  go_region_held3 (fun w'=>w'.cell? ⟨b,10+p,none⟩=some (.slice (some ⟨g,0,none⟩) X.classes gcap)∧w'.cell? ⟨w.heap.size,3,none⟩=some (.int .i64 c)∧w'.cell? ⟨g,c,none⟩=some (.pointer (some ⟨L.gb p c,0,none⟩)))
   (first|exact KP.out _ (Ch.refl _ _).drew|exact KP.out _ B2.out|exact KP.out _ B2.out.drew)
   (first
    |(go_at_call 93;refine HG.out.mono ?_;rintro e w2 ⟨rfl,b1,b2⟩;have B1:=Lib.hid b1;have B2:Hid (Ch (· =L.gc p c) w1 w2):=(show Ch (· =L.gc p c) w1 w2 from⟨b2.os,b2.tape,b2.output,b2.size,b2.block⟩);clear b1 b2))
  obtain⟨y1,y2,y3⟩:=FIN.out w2 B1.out B2.out;have Y3:=Lib.hid y3;clear y3 FIN
  go_wp2_with fail
  rw[←HAR.out];exact⟨rfl,Y3.out⟩
 ·have E1:rcvCode (get2 X.gv p c)=0:=if_neg hf;obtain⟨gx,hgx⟩:∃gx,(get2 X.gv p c).receive.1=gx:=⟨_,rfl⟩;have E3:X.arrive p ⟨xi,xf,xt,c,xe,xd⟩=({X with gv:=set2 X.gv p c gx,q:=set2 X.q p c (get2 X.q p c++[⟨xi,xf,xt,c,xe,xd⟩])},true):=by
   unfold Bx.arrive;simp only[Int.toNat_natCast];rw[←hgx];unfold Gv.receive;rw[if_neg hf];rfl
  rw[E1,hgx]at HG;rw[E3];have FIN:Hid (∀w2,Blk w2 (L.gc p c) 206 (gvC gx)→Ch (· =L.gc p c) w1 w2→BxM (fr τ w.heap.size) o w2 b {X with gv:=set2 X.gv p c gx} L):=fun w2 h1 h2=>H1.out.setGv hp hc HXX.out.gv ho h2 h1;have NXF:Hid (∀w2 w3 τ',Ch (· =L.gc p c) w1 w2→Nx (fr τ w.heap.size) o w2 τ' w3→Nx τ o w τ' w3):=fun w2 w3 τ' h2 h3=>by have n1:Nx τ o w (fr τ w.heap.size) w2:=Nx.of_ch' ((Ch.of_below BW.out).trans h2 (fun _ _ e=>e)) fun k hk e=>(by rw[e,←fr_old (τ:=τ) (n:=w.heap.size) (k:=L.gc p c) (by rw[←e];exact hk),t5]);exact n1.trans h3
  have FBC:Hid (∀w2,Ch (· =L.gc p c) w1 w2→Blk w2 w.heap.size 59 #[.int .i64 xi,.int .i64 xf,.int .i64 xt,.int .i64 c,.int .i64 xe,.slice a xd.length cap]∧IsDat (fr τ w.heap.size) w2 xd (.slice a xd.length cap)):=fun w2 h2=>
   ⟨FB.out.ch h2 (fun q=>Blk.ne_ FB.out (H1.out.gg p c hp hc).1.c (by decide) q),(hcopy0.chE (Ch.of_below (S:=fun _=>False) BW.out) (fun k hk=>fr_old hk) (fun _ s=>s.elim)).chE h2 (fun _ _=>rfl) (fun k e=>by rw[e,t5];simp only;omega)⟩
  have HP:=Lib.hid hp;have HPC:=Lib.hid hc;have H8:=Lib.hid hx.p1;have HQ:=Lib.hid hx.q;have QL:=Lib.hid (hx.qlen hp hc);have DL:=Lib.hid d3;clear hx hf FB H1 LTb HXX d1 d2 d3 hcopy0 t4;generalize hAR:(ArrPost τ o w b _ L)=PST;have HAR:=Lib.hid hAR;clear hAR;unfold pt at *;unfold fmV
  go_enter Tryz.func50,Tryz.ntmps50
  go_wp2_with (first
   |(go_at_call 91;refine HH.out.mono ?_;rintro e w' ⟨rfl,rfl⟩))
  clear hw1
  go_region_held3 (fun w'=>w'.cell? ⟨b,10+p,none⟩=some (.slice (some ⟨g,0,none⟩) X.classes gcap)∧w'.cell? ⟨w.heap.size,3,none⟩=some (.int .i64 c)∧w'.cell? ⟨g,c,none⟩=some (.pointer (some ⟨L.gb p c,0,none⟩)))
   (first|exact KP.out _ (Ch.refl _ _).drew|exact KP.out _ B2.out|exact KP.out _ B2.out.drew)
   (first
    |(go_at_call 93;refine HG.out.mono ?_;rintro e w2 ⟨rfl,b1,b2⟩;have B1:=Lib.hid b1;have B2:Hid (Ch (· =L.gc p c) w1 w2):=(show Ch (· =L.gc p c) w1 w2 from⟨b2.os,b2.tape,b2.output,b2.size,b2.block⟩);clear b1 b2))
  have M2:=Lib.hid (FIN.out w2 B1.out B2.out);obtain⟨fb2,dat2⟩:=FBC.out w2 B2.out;have FB2:=Lib.hid fb2;have DT2:=Lib.hid dat2;clear fb2 dat2 FIN FBC KP cg cc f3 HG HH;obtain⟨⟨Q,q1,q2,q3⟩,q4⟩:=M2.out.q p c HP.out HPC.out;have cq:=M2.out.cq (p:=p) HP.out H8.out;have cv:=M2.out.cqv HP.out HPC.out;obtain⟨qa,qcap,qe,_,qrec,_⟩:=rec_of_own (d:=((⟨0,0,0,0,0,[]⟩:Fm),Value.slice none 0 0)) cF_length (by decide) q2;rw[qe]at cv;have k0:=FB2.out.cell 0;have k1:=FB2.out.cell 1;have k2:=FB2.out.cell 2;have k3:=FB2.out.cell 3;have k4:=FB2.out.cell 4;have k5:=FB2.out.cell 5;simp only[List.getElem?_toArray,List.getElem?_cons_succ,List.getElem?_cons_zero]at k0 k1 k2 k3 k4 k5;have KS:Hid (∀w',Below w2.heap.size w2 w'→w'.cell? ⟨b,2+p,none⟩=some (.slice (some ⟨L.qr p,0,none⟩) X.classes X.classes)∧w'.cell? ⟨L.qr p,c,none⟩=some (.slice qa Q.length qcap)∧w'.cell? ⟨w.heap.size,0,none⟩=some (.int .i64 xi)∧w'.cell? ⟨w.heap.size,1,none⟩=some (.int .i64 xf)∧w'.cell? ⟨w.heap.size,2,none⟩=some (.int .i64 xt)∧w'.cell? ⟨w.heap.size,3,none⟩=some (.int .i64 c)∧w'.cell? ⟨w.heap.size,4,none⟩=some (.int .i64 xe)∧w'.cell? ⟨w.heap.size,5,none⟩=some (.slice a xd.length cap)):=fun w' hb=>
   ⟨(hb.cell (p:=⟨b,2+p,none⟩) (World.block_lt_of_cell? _ _ cq)).trans cq,(hb.cell (p:=⟨L.qr p,c,none⟩) (World.block_lt_of_cell? _ _ cv)).trans cv,(hb.cell (p:=⟨w.heap.size,0,none⟩) FB2.out.lt).trans k0,(hb.cell (p:=⟨w.heap.size,1,none⟩) FB2.out.lt).trans k1,(hb.cell (p:=⟨w.heap.size,2,none⟩) FB2.out.lt).trans k2,(hb.cell (p:=⟨w.heap.size,3,none⟩) FB2.out.lt).trans k3,(hb.cell (p:=⟨w.heap.size,4,none⟩) FB2.out.lt).trans k4,(hb.cell (p:=⟨w.heap.size,5,none⟩) FB2.out.lt).trans k5⟩
  clear cq cv k0 k1 k2 k3 k4 k5
  go_wp2_with fail
  refine wp_region_L 23 (fun w'=>w'.cell? ⟨b,2+p,none⟩=some (.slice (some ⟨L.qr p,0,none⟩) X.classes X.classes)∧w'.cell? ⟨L.qr p,c,none⟩=some (.slice qa Q.length qcap)∧w'.cell? ⟨w.heap.size,0,none⟩=some (.int .i64 xi)∧w'.cell? ⟨w.heap.size,1,none⟩=some (.int .i64 xf)∧w'.cell? ⟨w.heap.size,2,none⟩=some (.int .i64 xt)∧w'.cell? ⟨w.heap.size,3,none⟩=some (.int .i64 c)∧w'.cell? ⟨w.heap.size,4,none⟩=some (.int .i64 xe)∧w'.cell? ⟨w.heap.size,5,none⟩=some (.slice a xd.length cap)) (by kernel_rfl) (KS.out _ ⟨rfl,rfl,rfl,Nat.le_refl _,fun _ _=>rfl⟩) (fun hHeld=>?_);refine AnyL.tk 0 hHeld ?_
  try simp only[puts]
  refine AnyL.tk 1 hHeld ?_
  try simp only[puts]
  refine AnyL.tk 2 hHeld ?_
  try simp only[puts]
  refine AnyL.tk 3 hHeld ?_
  try simp only[puts]
  refine AnyL.tk 4 hHeld ?_
  try simp only[puts]
  refine AnyL.tk 5 hHeld ?_
  try simp only[puts]
  refine AnyL.tk 6 hHeld ?_
  try simp only[puts]
  refine AnyL.tk 7 hHeld ?_
  try simp only[puts]
  refine AnyL.tk 8 hHeld ?_
  try simp only[puts]
  refine AnyL.tk 9 hHeld ?_
  try simp only[puts]
  refine AnyL.tk 10 hHeld ?_
  try simp only[puts]
  refine AnyL.tk 11 hHeld ?_
  try simp only[puts]
  refine AnyL.tk 12 hHeld ?_
  try simp only[puts]
  refine AnyL.tk 13 hHeld ?_
  try simp only[puts]
  refine AnyL.tk 14 hHeld ?_
  try simp only[puts]
  refine AnyL.tk 15 hHeld ?_
  try simp only[puts]
  refine AnyL.tk 16 hHeld ?_
  try simp only[puts]
  refine AnyL.tk 17 hHeld ?_
  try simp only[puts]
  refine AnyL.tk 18 hHeld ?_
  try simp only[puts]
  refine AnyL.one (i:=19) (by kernel_rfl) rfl (fun K hK=>?_);go_simp;refine(bcopied_any ⟨xi,xf,xt,c,xe,xd⟩ (.slice a xd.length cap) (fr τ w.heap.size) _ (DT2.out.chE (S:=fun _=>False) (Ch.refl _ _).drew (fun _ _=>rfl) (fun _ s=>s.elim))).mono ?_;rintro e wc ⟨v',rfl,bc,ow⟩;have BC:Hid (Below w2.heap.size w2 wc):=⟨bc.os,bc.tape,bc.output,bc.size,bc.block⟩;have OW:Hid (wc.ownsRow w2.heap.size 5 1 v' xd.length (xd.flatMap cU8)):=ow;obtain⟨a',cap',rfl,_⟩:=rec_of_own (d:=(0:Int)) cU8_len (by decide) ow;clear bc ow;refine hK.out _ _ (fun _=>KS.out _ BC.out) (fun hHeld0=>?_);have hHeld:=hHeld0 (by decide);clear hK hHeld0
  try simp only[puts]
  try simp only[fmV]
  refine AnyL.one (i:=20) (by kernel_rfl) rfl (fun K hK=>?_);go_simp;have BA:Hid (Below w2.heap.size w2 (wc.alloc (.cells #[.int .i64 xi,.int .i64 xf,.int .i64 xt,.int .i64 c,.int .i64 xe,.slice a' xd.length cap'] 59))):=BC.out.alloc (BC.out.size) _;refine hK.out _ _ (fun _=>KS.out _ BA.out) (fun hHeld0=>?_);have hHeld:=hHeld0 (by decide);clear hK hHeld0
  try simp only[puts]
  have OQ:Hid ((wc.alloc (.cells #[.int .i64 xi,.int .i64 xf,.int .i64 xt,.int .i64 c,.int .i64 xe,.slice a' xd.length cap'] 59)).ownsRow 0 59 6 (.slice qa Q.length qcap) Q.length (Q.flatMap cFm)):=by have h1:=q2;rw[qe]at h1;exact(own_ch h1 (Ch.of_below (S:=fun _=>False) BC.out) (fun _ _ s=>s.elim)).alloc _
  obtain⟨i0,hi0,hz0,hz1,hz2⟩:=info_parts infoFrame;have RN:Hid (Reads (wc.alloc (.cells #[.int .i64 xi,.int .i64 xf,.int .i64 xt,.int .i64 c,.int .i64 xe,.slice a' xd.length cap'] 59)) (wc.heap.size+1) 6 (some ⟨wc.heap.size,0,none⟩) 1 [.int .i64 xi,.int .i64 xf,.int .i64 xt,.int .i64 c,.int .i64 xe,.slice a' xd.length cap']):=
   ⟨rfl,fun _=>⟨_,rfl,by simp,fun q u hu=>World.news_of_block (cs:=#[.int .i64 xi,.int .i64 xf,.int .i64 xt,.int .i64 c,.int .i64 xe,.slice a' xd.length cap']) (t:=59) (fr:=(0,0)) (heap_alloc_new wc _) q u hu⟩⟩
  refine AnyL.one (i:=21) (by kernel_rfl) rfl (fun K hK=>?_);refine step_append_any _ (by rfl) (.tmp 53) (.tmp 56) 110 (by rfl) 0 59 i0 _ 6 64 Tryz.underlying110 hi0 hz0 hz1 hz2 rfl (by decide) _ _ _ (by rfl) OQ.out _ (some ⟨wc.heap.size,0,none⟩) 1 1 [.int .i64 xi,.int .i64 xf,.int .i64 xt,.int .i64 c,.int .i64 xe,.slice a' xd.length cap'] (by rfl) RN.out ?_ ?_ ?_ ?_ ?_
  ·intro u hu;simp only[List.mem_cons,List.not_mem_nil,or_false]at hu;rcases hu with rfl|rfl|rfl|rfl|rfl|rfl<;>rfl
  ·have:=QL.out;have h2:Q.length=(get2 X.q p c).length:=by rw[←q1];simp
   unfold maxLen;omega
  ·have:=QL.out;have h2:Q.length=(get2 X.q p c).length:=by rw[←q1];simp
   omega
  ·exact Nat.zero_le _
  intro v2 wd own2 gr2 loc2;have O2:=Lib.hid own2;have G2:=Lib.hid gr2;obtain⟨a2,cap2,rfl,_⟩:=rec_of_own (d:=((⟨0,0,0,0,0,[]⟩:Fm),Value.slice none 0 0)) (xs:=Q++[(⟨xi,xf,xt,c,xe,xd⟩,.slice a' xd.length cap')]) cF_length (by decide) (by have:=own2;rw[show Q.flatMap cFm++[.int .i64 xi,.int .i64 xf,.int .i64 xt,.int .i64 c,.int .i64 xe,.slice a' xd.length cap']=(Q++[((⟨xi,xf,xt,c,xe,xd⟩:Fm),Value.slice a' xd.length cap')]).flatMap cFm by simp[cFm]]at this;exact this);have NBQ:Hid (∀k,(Value.slice qa Q.length qcap).ownBlock=some k→fr τ w.heap.size k=(o,2,p,c)∧k<w2.heap.size):=fun k hk=>by rw[←qe]at hk;exact⟨q4 k hk,(q2.lt k hk).2⟩
  have FAR:Hid (∀g t,g<w2.heap.size→fr τ w.heap.size g=t→t≠(o,2,p,c)→∀i,wd.cell? ⟨g,i,none⟩=(wc.alloc (.cells #[.int .i64 xi,.int .i64 xf,.int .i64 xt,.int .i64 c,.int .i64 xe,.slice a' xd.length cap'] 59)).cell? ⟨g,i,none⟩):=fun g t hg e1 e2 i=>
   World.cell?_of_block (G2.out.block g (Nat.lt_of_lt_of_le hg BA.out.size) fun e=>e2 (by rw[←e1];exact(NBQ.out g e.symm).1))
  have QRT:=Lib.hid (M2.out.qr p HP.out);have KD:Hid (wd.cell? ⟨b,2+p,none⟩=some (.slice (some ⟨L.qr p,0,none⟩) X.classes X.classes)∧wd.cell? ⟨L.qr p,c,none⟩=some (.slice qa Q.length qcap)∧wd.cell? ⟨w.heap.size,0,none⟩=some (.int .i64 xi)∧wd.cell? ⟨w.heap.size,1,none⟩=some (.int .i64 xf)∧wd.cell? ⟨w.heap.size,2,none⟩=some (.int .i64 xt)∧wd.cell? ⟨w.heap.size,3,none⟩=some (.int .i64 c)∧wd.cell? ⟨w.heap.size,4,none⟩=some (.int .i64 xe)∧wd.cell? ⟨w.heap.size,5,none⟩=some (.slice a xd.length cap)):=by obtain⟨x0,x1,x2,x3,x4,x5,x6,x7⟩:=KS.out _ BA.out;have t0:=M2.out.root.2;have nf:∀i,wd.cell? ⟨w.heap.size,i,none⟩=_:=FAR.out w.heap.size _ FB2.out.lt (fr_new (Nat.le_refl _)) (by simp);exact⟨(FAR.out b _ M2.out.root.1.lt t0 (by simp) _).trans x0,(FAR.out _ _ QRT.out.1.lt QRT.out.2 (by simp) _).trans x1,(nf 0).trans x2,(nf 1).trans x3,(nf 2).trans x4,(nf 3).trans x5,(nf 4).trans x6,(nf 5).trans x7⟩
  have cv:=KD.out.2.1;have cf:wd.frozen? ⟨L.qr p,c,none⟩=false:=by have b1:=(QRT.out.1.below BA.out QRT.out.1.lt).grown G2.out fun e=>(by have h1:=(NBQ.out _ e.symm).1;rw[QRT.out.2]at h1;simp at h1);exact b1.frozen c
  clear own2 gr2;refine hK.out _ _ (fun _=>KD.out) (fun hHeld0=>?_);have hHeld:=hHeld0 (by decide);clear hK hHeld0
  try simp only[puts]
  refine AnyL.tk 22 hHeld ?_
  try simp only[puts]
  refine AnyL.one (i:=23) (by kernel_rfl) rfl (fun K hK=>?_);go_simp;refine hK.out _ _ (fun h=>absurd rfl h) (fun _=>?_);clear hK;refine AnyL.done (by kernel_rfl) ?_ _
  try simp only[puts]
  have FINAL:=Lib.hid (M2.out.pushQ (x:=⟨xi,xf,xt,c,xe,xd⟩) HP.out HPC.out HQ.out ho q1 q3 BC.out OW.out DL.out O2.out (by rw[qe];exact G2.out) (by rw[qe];simpa using loc2));clear cv cf loc2 q1 q2 q3 q4 qrec qe
  go_wp2_with fail
  rw[←HAR.out];obtain⟨τ',m3,n3⟩:=FINAL.out;exact⟨rfl,τ',_,m3,NXF.out _ _ _ B2.out n3⟩
section
variable{τ:Own}{o b:Nat}{X:Bx}{L:BxL}
theorem BxM.popQ{w2 wd:World}(h:BxM τ o w2 b X L){p c:Nat}(hp:p<X.ports)(hc:c<X.classes)(dim:Dim2 X.q X.ports X.classes)(ho:2≤o){v2:Value}{Q:List (Fm×Value)}(hQ3:∀y∈Q,IsDat τ w2 y.1.data y.2)(bd:Below w2.heap.size w2 wd)(own2:wd.ownsRow 0 59 6 v2 Q.length (Q.flatMap cFm))(loc:∀g,v2.ownBlock=some g→w2.heap.size≤g):∃τ',BxM τ' o (wd.setCell ⟨L.qr p,c,none⟩ v2) b {X with q:=set2 X.q p c (Q.map (·.1))} {L with qv:=updV L.qv p c v2}∧Nx τ o w2 τ' (wd.setCell ⟨L.qr p,c,none⟩ v2):=by
 have hr:=h.qr p hp;have S3:Ch (fun k=>k=L.qr p) w2 (wd.setCell ⟨L.qr p,c,none⟩ v2):=(Ch.of_below (S:=fun k=>k=L.qr p) bd).setCell (p:=⟨L.qr p,c,none⟩) (.inl rfl) v2;obtain⟨τ',hτ'⟩:∃τ':Own,τ'=fun k=>if v2.ownBlock=some k then(o,2,p,c)else fr τ w2.heap.size k:=⟨_,rfl⟩
 have he:∀k,k<w2.heap.size→τ' k=τ k:=fun k hk=>by rw[hτ'];simp only;rw[if_neg (fun e=>by have:=loc k e;omega),fr_old hk]
 have blkqr:Blk wd (L.qr p) 110 (((List.range X.classes).map (L.qv p)).toArray):=hr.1.below bd hr.1.lt;refine⟨τ',h.setQ hp hc dim ho S3 he (fun i e=>.inl (by rw[e];exact hr.2)) ?_ ?_ ?_,⟨S3.mono fun k _ s=>by rw[s,hr.2],he,fun k h1 h2=>?_⟩⟩
 ·have:=blkqr.set_ c v2;rw[range_arr_set X.classes (L.qv p) (updV L.qv p c v2 p) c v2 (fun i _=>by
   unfold updV;by_cases e:i=c
   ·simp[e]
   ·simp[e])]at this
  exact this
 ·refine⟨Q,rfl,own_set own2 v2 fun g hg e=>?_,fun y hy=>(hQ3 y hy).chE S3 he fun k s=>by rw[s,hr.2];simp only;omega⟩;have:=loc g hg;have:=hr.1.lt;simp only at e;omega
 ·intro g hg;rw[hτ'];simp only;rw[if_pos hg]
 ·rw[hτ'];simp only;by_cases e2:v2.ownBlock=some k
  ·rw[if_pos e2];exact .inl rfl
  ·rw[if_neg e2,fr_new h1];exact .inr (Nat.zero_le _)
end
def PopPost(τ:Own)(o:Nat)(w:World)(b:Nat)(X':Bx)(L:BxL)(f:Fm)(e:Ending)(w':World):Prop:=
 ∃v,e=.returned (fmV f v)∧IsDat τ w f.data v∧BxPost τ o w b X' L w'
theorem bpop_any(p c N:Nat)(f:Fm)(τ:Own)(o:Nat)(w:World)(b:Nat)(X:Bx)(L:BxL)(h:BxM τ o w b X L)(ho:2≤o)(hx:BxOk X N)(hN:N≤1000000000000)(hp:p<X.ports)(hc:c<X.classes){rest:List Fm}(hf:get2 X.q p c=f::rest):Calls Tryz.prog 127 #[pt b,.int .i64 p,.int .i64 c] w (PopPost τ o w b (X.pop p c) L f):=by
 obtain⟨⟨Q0,q1,q2,q3⟩,q4⟩:=h.q p c hp hc;rw[hf]at q1;obtain⟨⟨⟨fi,ff,ft,fc,fe,fd⟩,fv⟩,Q,rfl⟩:∃y Q,Q0=y::Q:=by cases Q0 with
  |nil=>cases q1
  |cons y Q=>exact⟨y,Q,rfl⟩
 simp only[List.map_cons,List.cons.injEq]at q1;obtain⟨rfl,q1⟩:=q1;have fdat:=q3 _ List.mem_cons_self;simp only at fdat;obtain⟨da,dc,rfl,dd1,dd2,dd3⟩:=id fdat;obtain⟨g,qcap,qe,hge⟩:∃g qcap,L.qv p c=.slice (some ⟨g,0,none⟩) (Q.length+1) qcap∧Q.length+1≤qcap:=by
  rcases q2.2 with⟨_,e⟩|⟨g,cap,cur,e,_,_,h2,_⟩
  ·simp at e
  ·exact⟨g,cap,by rw[e];rfl,by simpa using h2⟩
 rw[qe]at q2;have hgl:g<w.heap.size:=(q2.lt g rfl).2;obtain⟨w1,hw1⟩:∃w1:World,(w.alloc (.cells #[.int .i64 0,.int .i64 0,.int .i64 0,.int .i64 0,.int .i64 0,.slice none 0 0] 59)).alloc (.cells #[.int .i64 fi,.int .i64 ff,.int .i64 ft,.int .i64 fc,.int .i64 fe,.slice da fd.length dc] 59)=w1:=⟨_,rfl⟩;have BW:Hid (Below w.heap.size w w1):=by rw[←hw1];exact((Below.refl _ _).alloc (Nat.le_refl _) _).alloc (by simp) _
 have S1:Hid (w1.heap.size=w.heap.size+2):=by rw[←hw1,Hid];simp
 have HW1:=Lib.hid hw1;have cq:=h.cq hp hx.p1;have cv:=h.cqv hp hc;rw[qe]at cv;have fcl:=q2.cells (g:=g) rfl;have ad:∀k,(⟨g,0,none⟩:Addr).add k=⟨g,k,none⟩:=fun k=>by unfold Addr.add;split<;>simp_all
 have y0:=fcl 0 _ rfl;have y1:=fcl 1 _ rfl;have y2:=fcl 2 _ rfl;have y3:=fcl 3 _ rfl;have y4:=fcl 4 _ rfl;have y5:=fcl 5 _ rfl;simp only[ad]at y0 y1 y2 y3 y4 y5;have l1:b<w.heap.size:=h.root.1.lt;have l2:L.qr p<w.heap.size:=(h.qr p hp).1.lt;have p0:(0:Int)≤(p:Int):=by omega
 have p8:(p:Int)<8:=by have:=hx.p1;omega
 have c0:(0:Int)≤(c:Int):=by omega
 have c8:(c:Int)<(X.classes:Int):=by omega
 have QL:Hid (Q.length≤64∧(get2 X.q p c).tail=Q.map (·.1)∧0<(get2 X.q p c).length):=by have ql:=hx.qlen hp hc;rw[hf,←q1]at ql;rw[Hid,hf,←q1];simp at ql⊢;omega
 have HH:=Lib.hid h;have HX:=Lib.hid hx;have Q1:=Lib.hid q1;have Q2:=Lib.hid q2;have Q3:=Lib.hid q3;have Q4:=Lib.hid q4;have QE:=Lib.hid qe;have FD:=Lib.hid fdat;have GE:=Lib.hid hge;generalize hPR:PopPost τ o w b (X.pop p c) L _=PST;have HPR:=Lib.hid hPR;clear h hx hf q1 q2 q3 q4 qe fdat dd1 dd2 dd3 hge hPR fcl ad hw1;unfold pt;have l3:b<w.heap.size+1:=by omega
 have l4:L.qr p<w.heap.size+1:=by omega
 have l5:g<w.heap.size+1:=by omega
 go_enter Tryz.func127,Tryz.ntmps127
 go_wp2_with fail
 rw[HW1.out];have cq1:=(BW.out.cell (p:=⟨b,2+p,none⟩) l1).trans cq;have cv1:=(BW.out.cell (p:=⟨L.qr p,c,none⟩) l2).trans cv;have b1:(1:Int)≤(Q.length:Int)+1:=by omega
 have b2:((Q.length+1:Nat):Int)≤(qcap:Int):=by have:=GE.out;omega
 clear cq cv y0 y1 y2 y3 y4 y5 l3 l4 l5;have KS:Hid (∀w',Below w1.heap.size w1 w'→w'.cell? ⟨b,2+p,none⟩=some (.slice (some ⟨L.qr p,0,none⟩) X.classes X.classes)):=fun w' hb=>(hb.cell (p:=⟨b,2+p,none⟩) (World.block_lt_of_cell? _ _ cq1)).trans cq1;refine wp_region_L 11 (fun w'=>w'.cell? ⟨b,2+p,none⟩=some (.slice (some ⟨L.qr p,0,none⟩) X.classes X.classes)) (by kernel_rfl) (KS.out _ ⟨rfl,rfl,rfl,Nat.le_refl _,fun _ _=>rfl⟩) (fun hHeld=>?_);refine AnyL.tk 0 hHeld ?_
 try simp only[puts]
 refine AnyL.tk 1 hHeld ?_
 try simp only[puts]
 refine AnyL.tk 2 hHeld ?_
 try simp only[puts]
 refine AnyL.tk 3 hHeld ?_
 try simp only[puts]
 refine AnyL.tk 4 hHeld ?_
 try simp only[puts]
 refine AnyL.tk 5 hHeld ?_
 try simp only[puts]
 refine AnyL.tk 6 hHeld ?_
 try simp only[puts]
 refine AnyL.tk 7 hHeld ?_
 try simp only[puts]
 refine AnyL.tk 8 hHeld ?_
 try simp only[puts]
 have TL:Hid (Reads w1 w1.heap.size 6 (if qcap=1 then some ⟨g,0,none⟩else some ⟨g,6,none⟩) Q.length (Q.flatMap cFm)):=by have r:=((Reads.of_own Q2.out).below BW.out).more (B':=w1.heap.size) BW.out.size;have r2:=r.cut (k:=1) (cap:=qcap) (by omega) GE.out;have e:(some (⟨g,0,none⟩:Addr)).map (·.add (1*6))=some ⟨g,6,none⟩:=rfl;rw[e]at r2;exact r2
 generalize(if qcap=1 then some (⟨g,0,none⟩:Addr)else some ⟨g,6,none⟩)=TA at *;obtain⟨i0,hi0,hz0,hz1,hz2⟩:=info_parts infoFrame;refine AnyL.one (i:=9) (by kernel_rfl) rfl (fun K hK=>?_);refine step_append_any _ (by rfl) (.const (.slice none 0 0)) (.tmp 29) 110 (by rfl) w1.heap.size 59 i0 _ 6 64 Tryz.underlying110 hi0 hz0 hz1 hz2 rfl (by decide) _ 0 [] (by rfl) (World.ownsRow_nil _ w1.heap.size 59 6) _ TA Q.length (qcap-1) (Q.flatMap cFm) (by rfl) (TL.out.drew) ?_ ?_ ?_ ?_ ?_
 ·intro u hu;simp only[List.mem_flatMap,cFm,List.mem_cons,List.not_mem_nil,or_false]at hu;obtain⟨y,hy,hu⟩:=hu;obtain⟨a',c',e',_⟩:=Q3.out y (List.mem_cons_of_mem _ hy);rcases hu with rfl|rfl|rfl|rfl|rfl|rfl
  all_goals first|rfl|(rw[e'];rfl)
 ·have:=QL.out.1;unfold maxLen;omega
 ·have:=QL.out.1;omega
 ·exact Nat.le_refl _
 intro v2 wd own2 gr2 loc2
 try simp only[Nat.zero_add,List.nil_append]at own2
 have O2:=Lib.hid own2;have BD:Hid (Below w1.heap.size w1 wd):=⟨gr2.os,gr2.tape,gr2.output,gr2.size,fun k hk=>gr2.block k hk (by simp[Value.ownBlock])⟩;obtain⟨a2,cap2,rfl,_,_,hb2⟩:=rec_of_own (d:=((⟨0,0,0,0,0,[]⟩:Fm),Value.slice none 0 0)) cF_length (by decide) own2;have cv:wd.cell? ⟨L.qr p,c,none⟩=_:=(BD.out.cell (p:=⟨L.qr p,c,none⟩) (World.block_lt_of_cell? _ _ cv1)).trans cv1;have cf:wd.frozen? ⟨L.qr p,c,none⟩=false:=(((HH.out.qr p hp).1.below BW.out l2).below BD.out (by have:=BW.out.size;omega)).frozen c;clear own2 gr2 loc2;refine hK.out _ _ (fun _=>KS.out _ BD.out) (fun hHeld0=>?_);have hHeld:=hHeld0 (by decide);clear hK hHeld0
 try simp only[puts]
 refine AnyL.tk 10 hHeld ?_
 try simp only[puts]
 refine AnyL.one (i:=11) (by kernel_rfl) rfl (fun K hK=>?_);go_simp;refine hK.out _ _ (fun h=>absurd rfl h) (fun _=>?_);clear hK;refine AnyL.done (by kernel_rfl) ?_ _
 try simp only[puts]
 clear KS;obtain⟨w3,hw3⟩:∃w3:World,wd.setCell ⟨L.qr p,c,none⟩ (.slice a2 Q.length cap2)=w3:=⟨_,rfl⟩;obtain⟨τ3,m3,n3⟩:=(HH.out.toFr.below BW.out).popQ hp hc HX.out.q ho (Q:=Q) (fun y hy=>(Q3.out y (List.mem_cons_of_mem _ hy)).chE (S:=fun _=>False) (Ch.of_below BW.out) (fun k hk=>fr_old hk) (fun _ s=>s.elim)) BD.out (own_mono O2.out (Nat.zero_le _)) (fun k hk=>(O2.out.lt k hk).1);rw[hw3]at m3 n3;have BX1:Hid (Blk w3 w.heap.size 59 #[.int .i64 0,.int .i64 0,.int .i64 0,.int .i64 0,.int .i64 0,.slice none 0 0]):=by
  rw[←hw3];have h1:Blk w1 w.heap.size 59 #[.int .i64 0,.int .i64 0,.int .i64 0,.int .i64 0,.int .i64 0,.slice none 0 0]:=by rw[←HW1.out];exact(Blk.new w _ _).alloc _
  exact(h1.below BD.out h1.lt).far (by simp only;omega) _
 have BX2:Hid (Blk w3 (w.heap.size+1) 59 #[.int .i64 fi,.int .i64 ff,.int .i64 ft,.int .i64 fc,.int .i64 fe,.slice da fd.length dc]):=by
  rw[←hw3];have h1:Blk w1 (w.heap.size+1) 59 #[.int .i64 fi,.int .i64 ff,.int .i64 ft,.int .i64 fc,.int .i64 fe,.slice da fd.length dc]:=by rw[←HW1.out];have:=Blk.new (w.alloc (.cells #[.int .i64 0,.int .i64 0,.int .i64 0,.int .i64 0,.int .i64 0,.slice none 0 0] 59)) 59 #[.int .i64 fi,.int .i64 ff,.int .i64 ft,.int .i64 fc,.int .i64 fe,.slice da fd.length dc];simpa using this
  exact(h1.below BD.out h1.lt).far (by simp only;omega) _
 rw[hw3];have M3:=Lib.hid m3.toFr;have N3:=Lib.hid n3;obtain⟨gg3,t4,t5⟩:=m3.gg p c hp hc;have T5:=Lib.hid t5;have GC3:Hid (Blk w3 (L.gc p c) 206 (gvC (get2 X.gv p c))):=gg3.c;have HG:=Lib.hid (gvfree_any _ _ N _ _ w3 (HX.out.g p c hp hc) hN QL.out.2.2 gg3);obtain⟨g1,⟨gcap,cs1,e1,e2,e3⟩,tg⟩:=m3.g p hp;have cg:=m3.cg hp HX.out.p1;have e1':L.gr p=.slice (some ⟨g1,0,none⟩) X.classes gcap:=e1;rw[show({L with qv:=updV L.qv p c (.slice a2 Q.length cap2)}:BxL).gr p=L.gr p from rfl,e1']at cg;have cc:w3.cell? ⟨g1,c,none⟩=some (pt (L.gb p c)):=by rw[e2.cell];exact e3 c hc
 unfold pt at cc;clear m3 n3 gg3 t4 t5 e1 e2 e3 e1' tg hb2 hw3 cf cv cq1 cv1 b2 b1 O2 TL;have HGF:Hid (Calls Tryz.prog 152 #[.pointer (some ⟨L.gb p c,0,none⟩),.int .i64 0] w3 (GvP (L.gc p c) w3 0 (get2 X.gv p c).free)):=HG.out;clear HG;generalize hfr:(get2 X.gv p c).free=gfr at HGF;have HFR:=Lib.hid hfr;clear hfr
 go_wp2_with (first
  |(go_at_call 152;refine HGF.out.mono ?_;rintro e w4 ⟨rfl,b1,b2⟩;have B1:=Lib.hid b1;have B2:=Lib.hid b2;clear b1 b2;have BY1:=Lib.hid (BX1.out.ch B2.out (fun e=>Blk.ne_ BX1.out GC3.out (by decide) e));have BY2:=Lib.hid (BX2.out.ch B2.out (fun e=>Blk.ne_ BX2.out GC3.out (by decide) e));have k0:=BY2.out.cell 0;have k1:=BY2.out.cell 1;have k2:=BY2.out.cell 2;have k3:=BY2.out.cell 3;have k4:=BY2.out.cell 4;have k5:=BY2.out.cell 5;have m0:=BY1.out.cell 0;have m1:=BY1.out.cell 1;have m2:=BY1.out.cell 2;have m3:=BY1.out.cell 3;have m4:=BY1.out.cell 4;have m5:=BY1.out.cell 5;have f0:=BY1.out.frozen 0;have f1:=BY1.out.frozen 1;have f2:=BY1.out.frozen 2;have f3:=BY1.out.frozen 3;have f4:=BY1.out.frozen 4;have f5:=BY1.out.frozen 5;simp only[List.getElem?_toArray,List.getElem?_cons_succ,List.getElem?_cons_zero]at k0 k1 k2 k3 k4 k5 m0 m1 m2 m3 m4 m5))
 have M4:=Lib.hid (M3.out.setGv (x:=gfr) hp hc HX.out.gv ho B2.out B1.out);have N4:Hid (Nx τ o w (fr τ3 w3.heap.size) w4):=((Nx.of_below BW.out).trans N3.out).trans (Nx.of_ch B2.out fun k e=>by rw[e];exact congrArg (·.1) T5.out);have TB:Hid ((fr τ3 w3.heap.size) w.heap.size=(0,0,0,0)):=by rw[Hid,fr_old BX1.out.lt,N3.out.ext _ (by have:=S1.out;omega),fr_new (Nat.le_refl _)]
 have EX:Hid (X.pop p c={X with q:=set2 X.q p c (Q.map (·.1)),gv:=set2 X.gv p c gfr}):=by rw[Hid,←HFR.out,←QL.out.2.1];rfl
 refine bodyPost_ret (v:=.agg #[.int .i64 fi,.int .i64 ff,.int .i64 ft,.int .i64 fc,.int .i64 fe,.slice da fd.length dc]) (by simp[results,Tryz.results127,go_sem,m0,m1,m2,m3,m4,m5]) rfl ?_;rw[←HPR.out,EX.out];refine⟨_,rfl,FD.out,_,_,M4.out.chE (S:=fun k=>k=w.heap.size) ((((((((Ch.refl (fun k=>k=w.heap.size) _).setCell (p:=⟨w.heap.size,0,none⟩) (.inl rfl) _).setCell (p:=⟨w.heap.size,1,none⟩) (.inl rfl) _).setCell (p:=⟨w.heap.size,2,none⟩) (.inl rfl) _).setCell (p:=⟨w.heap.size,3,none⟩) (.inl rfl) _).setCell (p:=⟨w.heap.size,4,none⟩) (.inl rfl) _).setCell (p:=⟨w.heap.size,5,none⟩) (.inl rfl) _)) (fun _ _=>rfl) (fun k e=>by rw[e,TB.out];simp only;omega),
  (((((N4.out.setFresh (p:=⟨w.heap.size,0,none⟩) (Nat.le_refl _) _).setFresh (p:=⟨w.heap.size,1,none⟩) (Nat.le_refl _) _).setFresh (p:=⟨w.heap.size,2,none⟩) (Nat.le_refl _) _).setFresh (p:=⟨w.heap.size,3,none⟩) (Nat.le_refl _) _).setFresh (p:=⟨w.heap.size,4,none⟩) (Nat.le_refl _) _).setFresh (p:=⟨w.heap.size,5,none⟩) (Nat.le_refl _) _⟩
def fq0:Fm×Value:=(⟨0,0,0,0,0,[]⟩,.slice none 0 0)
theorem frame_at{w:World}{A:Option Addr}{len:Nat}{Q:List (Fm×Value)}(h:IsRec 6 cFm fq0 w A len Q)(k:Nat)(hk:k<len):∃b off,A=some ⟨b,off,none⟩∧b<w.heap.size∧Q.getD k fq0∈Q∧w.cell? ⟨b,off+k*6,none⟩=some (.int .i64 (Q.getD k fq0).1.id)∧w.cell? ⟨b,off+k*6+1,none⟩=some (.int .i64 (Q.getD k fq0).1.frm)∧w.cell? ⟨b,off+k*6+2,none⟩=some (.int .i64 (Q.getD k fq0).1.to')∧w.cell? ⟨b,off+k*6+3,none⟩=some (.int .i64 (Q.getD k fq0).1.cls)∧w.cell? ⟨b,off+k*6+4,none⟩=some (.int .i64 (Q.getD k fq0).1.ep)∧w.cell? ⟨b,off+k*6+5,none⟩=some (Q.getD k fq0).2:=by
 obtain⟨b,off,ha,hb,hc⟩:=h.2 (by omega);have hl:k<Q.length:=by rw[h.1];exact hk
 exact⟨b,off,ha,hb,by simp[List.getD,hl],hc k 0 hk (by omega),hc k 1 hk (by omega),hc k 2 hk (by omega),hc k 3 hk (by omega),hc k 4 hk (by omega),hc k 5 hk (by omega)⟩
theorem QueM.rec_{τ:Own}{w:World}{v:Value}{l:List Fm}(h:QueM τ w v l):∃a cap Q,v=.slice a Q.length cap∧Q.map (·.1)=l∧IsRec 6 cFm fq0 w a Q.length Q∧∀x∈Q,IsDat τ w x.1.data x.2:=by obtain⟨Q,q1,q2,q3⟩:=h;obtain⟨a,cap,e,_,r,_⟩:=rec_of_own (d:=fq0) cF_length (by decide) q2;exact⟨a,cap,Q,e,q1,r,q3⟩
theorem reads_newN(w:World)(t:TypeId)(cs:List Value){n size:Nat}(h:cs.length=n*size):Reads (w.alloc (.cells cs.toArray t)) (w.heap.size+1) size (some ⟨w.heap.size,0,none⟩) n cs:=
 ⟨h,fun _=>⟨_,rfl,by simp,fun q u hu=>World.news_of_block (cs:=cs.toArray) (t:=t) (fr:=(0,0)) (heap_alloc_new w _) q u (by simpa using hu)⟩⟩
def QCopy(l:List Fm)(w:World)(e:Ending)(w':World):Prop:=
 ∃(v:Value) (Q:List (Fm×Value)),e=.returned v∧Q.map (·.1)=l∧w'.ownsRow w.heap.size 59 6 v Q.length (Q.flatMap cFm)∧Below w.heap.size w w'
def RelQc(Q:List (Fm×Value))(w:World)(v i:Value)(wr:World):Prop:=
 ∃(k:Nat) (R:List (Fm×Value)),k≤Q.length∧i=.int .i64 k∧R.map (·.1)=(Q.take k).map (·.1)∧R.length=k∧wr.ownsRow w.heap.size 59 6 v k (R.flatMap cFm)∧Below w.heap.size w wr
theorem bqueue_any(p c N:Nat)(τ:Own)(o:Nat)(w:World)(b:Nat)(X:Bx)(L:BxL)(h:BxM τ o w b X L)(hx:BxOk X N)(hp:p<X.ports)(hc:c<X.classes):Calls Tryz.prog 49 #[pt b,.int .i64 p,.int .i64 c] w (QCopy (get2 X.q p c) w):=by
 have HH:=Lib.hid (bhas_any p c _ o w b X L h hp hc);obtain⟨a,cap,Q,qe,q1,qr,q3⟩:=(h.q p c hp hc).1.rec_;have ql:=hx.qlen hp hc;rw[←q1,List.length_map]at ql;have cq:=h.cq hp hx.p1;have cv:=h.cqv hp hc;rw[qe]at cv;rw[←q1];have p0:(0:Int)≤(p:Int):=by omega
 have p8:(p:Int)<8:=by have:=hx.p1;omega
 have c0:(0:Int)≤(c:Int):=by omega
 have c8:(c:Int)<(X.classes:Int):=by omega
 have QR:=Lib.hid qr;have Q3:=Lib.hid q3;obtain⟨i0,hi0,hz0,hz1,hz2⟩:=info_parts infoFrame;clear h hx qe q1 q3 qr;unfold pt at *
 go_enter Tryz.func49,Tryz.ntmps49
 go_wp2_with (first
  |(go_at_call 91;refine HH.out.mono ?_;rintro e w' ⟨rfl,rfl⟩))
 clear HH cq cv
 go_loopw [7,9,29] (fun v _ i wr=>RelQc Q w v i wr) (fun _ _ i _=>Q.length-(RowKit.intOf i).toNat)
 case atStart=>exact⟨0,[],Nat.zero_le _,rfl,rfl,rfl,World.ownsRow_nil _ _ _ _,Below.refl _ _⟩
 case round=>
  obtain⟨k,R,hk,rfl,hR,hRl,hown,bel⟩:=hrel;subst hRl;have HR:=Lib.hid hR;have BEL:=Lib.hid bel;have OWN:=Lib.hid hown;by_cases hkn:R.length<Q.length
  ·obtain⟨b1,o1,ha,hb1,hm,e0,e1,e2,e3,e4,e5⟩:=frame_at (QR.out.below (Nat.le_refl _) bel) R.length hkn;have dat:=(Q3.out _ hm).chE (S:=fun _=>False) (Ch.of_below bel) (fun _ _=>rfl) (fun _ s=>s.elim);have TS:=Lib.hid (take_snocG fq0 Q R.length hkn);generalize Q.getD R.length fq0=x at *;obtain⟨⟨xi,xf,xt,xc,xe,xd⟩,xv⟩:=x;simp only at e0 e1 e2 e3 e4 e5 dat;obtain⟨da,dc,rfl,dd⟩:=id dat;obtain⟨w5,hw5⟩:∃w5:World,wr.alloc (.cells #[.int .i64 xi,.int .i64 xf,.int .i64 xt,.int .i64 xc,.int .i64 xe,.slice da xd.length dc] 59)=w5:=⟨_,rfl⟩;have B5:Hid (Below wr.heap.size wr w5):=(by rw[←hw5];exact(Below.refl _ _).alloc (Nat.le_refl _) _);have FB:Hid (Blk w5 wr.heap.size 59 #[.int .i64 xi,.int .i64 xf,.int .i64 xt,.int .i64 xc,.int .i64 xe,.slice da xd.length dc]):=(by rw[←hw5];exact Blk.new wr _ _);have DT:=Lib.hid (dat.chE (S:=fun _=>False) (Ch.of_below B5.out) (fun _ _=>rfl) (fun _ s=>s.elim));have k0:=FB.out.cell 0;have k1:=FB.out.cell 1;have k2:=FB.out.cell 2;have k3:=FB.out.cell 3;have k4:=FB.out.cell 4;have k5:=FB.out.cell 5;simp only[List.getElem?_toArray,List.getElem?_cons_succ,List.getElem?_cons_zero]at k0 k1 k2 k3 k4 k5;obtain⟨va,vc,rfl,_⟩:=rec_of_own (d:=fq0) cF_length (by decide) hown;have OWN5:Hid (w5.ownsRow w.heap.size 59 6 (.slice va R.length vc) R.length (R.flatMap cFm)):=(by rw[←hw5];exact hown.alloc _);subst ha;clear hm hR bel hown dd dat
   go_wp2_with (first
    |(go_at_call 92;refine(bcopied_any ⟨xi,xf,xt,xc,xe,xd⟩ (.slice da xd.length dc) τ _ DT.out).mono ?_;rintro e wc ⟨v',rfl,bc,ow⟩;have BC:=Lib.hid bc;have OW:=Lib.hid ow;obtain⟨a',cap',rfl,_⟩:=rec_of_own (d:=(0:Int)) cU8_len (by decide) ow;clear bc ow;simp only[fmV];have OWN2:Hid ((wc.alloc (.cells #[.int .i64 xi,.int .i64 xf,.int .i64 xt,.int .i64 xc,.int .i64 xe,.slice a' xd.length cap'] 59)).ownsRow w.heap.size 59 6 (.slice va R.length vc) R.length (R.flatMap cFm)):=((own_ch (OWN5.out) (Ch.of_below (S:=fun _=>False) BC.out) (fun _ _ s=>s.elim)).alloc _))
    |(at_builtin;refine wpList_append_any _ rfl (.tmp 33) (.tmp 36) 110 rfl w.heap.size 59 i0 _ 6 64 Tryz.underlying110 hi0 hz0 hz1 hz2 rfl (by decide) _ _ _ rfl OWN2.out _ (some ⟨wc.heap.size,0,none⟩) 1 1 [.int .i64 xi,.int .i64 xf,.int .i64 xt,.int .i64 xc,.int .i64 xe,.slice a' xd.length cap'] rfl (reads_newN wc _ _ (n:=1) (size:=6) rfl) ?c3 ?c4 ?c5 ?c6 ?_))
   case c3=>exact⟨rfl,rfl,rfl,rfl,rfl,rfl⟩
   case c4=>unfold maxLen;omega
   case c5=>omega
   case c6=>have h1:=BEL.out.size;have h2:=B5.out.size;have h3:=BC.out.size;simp;omega
   intro v2 wd own2 gr2 _;have RF:Hid (RelQc Q w v2 (.int .i64 ((R.length+1:Nat):Int)) wd):=by
    refine⟨R.length+1,R++[((⟨xi,xf,xt,xc,xe,xd⟩:Fm),Value.slice a' xd.length cap')],by omega,rfl,?_,by simp,?_,?_⟩
    ·rw[TS.out,List.map_append,List.map_append,HR.out];rfl
    ·rw[List.flatMap_append];exact own2
    ·have h1:=BEL.out.size;have b1:Below w.heap.size w wc:=(BEL.out.trans (B5.out.mono h1)).trans (BC.out.mono (by have:=B5.out.size;omega));exact(b1.alloc b1.size _).grown gr2 (by have:=b1.size;simp;omega) (fun g hg=>(OWN2.out.lt g hg).1)
   clear own2 gr2
   go_wp2_with fail
   exact⟨by simpa using RF.out,by simp[RowKit.intOf];omega⟩
  ·have hl:R.length=Q.length:=by omega
   rw[hl,List.take_length]at hR;have FIN:Hid (QCopy (Q.map (·.1)) w (.returned _) wr):=⟨_,R,rfl,hR,hown,bel⟩;clear hR hown bel hl
   go_wp2_with fail
   go_ret
   exact FIN.out
end Go.Proofs.YtnjjkgjdhljfnaaGreat
namespace Go.Proofs.YtnjjkgjdhljfnaaGreat
open Go.RowKit Go.Maps
section
variable{P:Program}{ops:Array Oper}{Q:Exit→Act→World→Prop}{md:Region.Mode}{S:World→Prop}{lst:Nat}
theorem AnyL.two{i j:Nat}{oi oj:Oper}{n:Nat}{done:Array Bool}{a:Act}{w:World}(hr:Region.ready md ops done=[i,j])(hi:ops[i]?=some oi)(hj:ops[j]?=some oj)(h:∀K':Act→World→Prop,Hid (∀a' w',(i≠lst→S w')→((i≠lst→S w')→AnyL P md ops Q S lst n (done.setIfInBounds i true) a' w')→K' a' w')→if Region.wanted oi (yielded ops a.tmps)=true then Oper.wp P oi a w K' Q else K' (a.put oi.dst undef) w)(k:∀K':Act→World→Prop,Hid (∀a' w',(j≠lst→S w')→((j≠lst→S w')→AnyL P md ops Q S lst n (done.setIfInBounds j true) a' w')→K' a' w')→if Region.wanted oj (yielded ops a.tmps)=true then Oper.wp P oj a w K' Q else K' (a.put oj.dst undef) w):AnyL P md ops Q S lst (n+1) done a w:=
 ⟨fun e=>(by rw[e]at hr;cases hr),fun x hx=>by
  rw[hr]at hx;simp only[List.mem_cons,List.not_mem_nil,or_false]at hx;rcases hx with hx|hx
  ·subst hx;exact wpOp_step hi fun K' hK=>h K' fun a' w' hS hA=>hK a' w' ⟨hS,hA hS⟩
  ·subst hx;exact wpOp_step hj fun K' hK=>k K' fun a' w' hS hA=>hK a' w' ⟨hS,hA hS⟩⟩
end
theorem call1_run{P:Program}{a:Act}{w:World}{o:Oper}{x:Operand}{f:FuncId}{ts:Array TypeId}{v:Value}(hE:∀args w,(callFunc f args).run P w=.ok (.enter f args) w)(ho:o.op=Op.call {callee:=Callee.value (Operand.func f),args:=#[x],argTypes:=ts})(hx:a.eval x=v):(execOp a.eval o).run P w=.ok (.enter f #[v]) w:=by simp[execOp,ho,resolve,invoke,hE,go_sem];simpa[go_sem]using hx
theorem step_call1{P:Program}{ops:Array Oper}{o:Oper}{a:Act}{w:World}{K:Act→World→Prop}{Q:Exit→Act→World→Prop}{E:Prop}(hg:o.guard=none){x:Operand}{f:FuncId}{ts:Array TypeId}{v:Value}(hE:∀args w,(callFunc f args).run P w=.ok (.enter f args) w)(ho:o.op=Op.call {callee:=Callee.value (Operand.func f),args:=#[x],argTypes:=ts})(hx:a.eval x=v){Post:Ending→World→Prop}(hc:Calls P f #[v] w Post)(hK:∀e w',Post e w'→∃r,e=.returned r∧K (a.put o.dst r) w'):if Region.wanted o (yielded ops a.tmps)=true then Oper.wp P o a w K Q else E:=by
 have hw:Region.wanted o (yielded ops a.tmps)=true:=by simp[Region.wanted,hg]
 rw[if_pos hw];unfold Oper.wp;rw[call1_run hE ho hx];exact hc.mono fun e w' h=>by obtain⟨r,rfl,hk⟩:=hK e w' h;exact hk
end Go.Proofs.YtnjjkgjdhljfnaaGreat
