/- Part 12 of the proof of fabricErrors.proved: FbN2 FbM2 FbN3 FbNf FbN4 FbN6 FbN7 FbNc FbNb FbNa FbN5 FbT0 FbT1 FbNg FbTk FbN8. Several texts in one, blanks struck, what is not used left out. -/
import Derived.Deep.Cut
import Derived.Deep.CutRange
import Derived.Maps.OwnSet
import Derived.Test.YtnjjkgjdhljfnaaGreatPk1
import Derived.Test.YtnjjkgjdhljfnaaGreatPk7
import Derived.Test.YtnjjkgjdhljfnaaGreatPk11
set_option maxRecDepth 100000
set_option maxHeartbeats 16000000
set_option linter.unusedVariables false
set_option linter.unusedSimpArgs false
namespace Go.Proofs.YtnjjkgjdhljfnaaGreat
open Go.RowKit Go.Maps
attribute [local go_sem ↓] Go.wp_at_zero Go.wp_at_succ
def EndPost(v:Bool)(w:World)(e:Ending)(w':World):Prop:=e=.returned (.bool v)∧w=w'
theorem fend_any(x:Int)(b:Nat)(ns:List Nd)(cs:List Cb)(An Ac:Option Addr)(cn cc:Nat)(w:World)(h:FabS w b ns cs An Ac cn cc)(hp:PlF ns cs):Calls Tryz.prog 46 #[pt b,.int .i64 x] w (EndPost (endF ns x) w):=by
 have n16:=hp.n16;have c0:=h.c0;by_cases h0:0≤x
 ·by_cases h1:x<(ns.length:Int)
  ·obtain⟨k,rfl⟩:∃k:Nat,x=k:=⟨x.toNat,by omega⟩;obtain⟨b2,o2,ha,hb2,_,_,e1,_⟩:=node_at h.plan.1 k (by simp only;omega);rw[ha]at c0;have E:endF ns (k:Int)=!(ns.getD k nd0).sw:=by unfold endF isSw;simp;omega
   simp only at e1;rw[E];generalize(ns.getD k nd0).sw=sw at *;clear h hp ha E;unfold pt;cases sw with
   |true=>
    go_enter Tryz.func46,Tryz.ntmps46
    go_wp2_with fail
    go_ret
    exact⟨rfl,rfl⟩
   |false=>
    go_enter Tryz.func46,Tryz.ntmps46
    go_wp2_with fail
    go_ret
    exact⟨rfl,rfl⟩
  ·have E:endF ns x=false:=by unfold endF;simp;omega
   rw[E];clear h hp E;have h1':decide (x<(ns.length:Int))=false:=by simpa using h1
   unfold pt
   go_enter Tryz.func46,Tryz.ntmps46
   go_wp2_with fail
   go_ret
   exact⟨rfl,rfl⟩
 ·have E:endF ns x=false:=by unfold endF;simp;omega
  rw[E];clear h hp E;have h0':decide (0≤x)=false:=by simpa using h0
  unfold pt
  go_enter Tryz.func46,Tryz.ntmps46
  go_wp2_with fail
  go_ret
  exact⟨rfl,rfl⟩
def LeavePost(v:Int)(w:World)(e:Ending)(w':World):Prop:=e=.returned (.int .i64 v)∧Below w.heap.size w w'
structure RtS(w:World)(b:Nat)(q:Nat)(n ports:Nat)(node port to':Nat)(r:Rt):Prop where
 nx:∃(g c:Nat) (V:Nat→Value),w.cell? ⟨b,7+q*2,none⟩=some (.slice (some ⟨g,0,none⟩) n c)∧(∀p,p<2→w.cell? ⟨g,node*2+p,none⟩=some (V p))∧∀p,p<2→∃g2 c2,V p=.slice (some ⟨g2,0,none⟩) n c2∧w.cell? ⟨g2,to',none⟩=some (.int .i64 (r.next node p to'))
 fl:∃(g c g2 c2:Nat),w.cell? ⟨b,7+q*2+1,none⟩=some (.slice (some ⟨g,0,none⟩) n c)∧w.cell? ⟨g,node,none⟩=some (.slice (some ⟨g2,0,none⟩) ports c2)∧w.cell? ⟨g2,port,none⟩=some (.bool (r.falls node port))
theorem fleave_any(f:Fab)(node port b:Nat)(x:Fm)(v:Value)(ns:List Nd)(cs:List Cb)(An Ac:Option Addr)(cn cc gu cu:Nat)(w:World)(h:FabS w b ns cs An Ac cn cc)(hp:PlF ns cs)(hn:node<ns.length)(hpo:port<portsOf (ns.getD node nd0))(he:0≤x.ep)(ht0:0≤x.to')(ht1:x.to'<ns.length)(hR:RtS w b (x.ep.toNat%2) ns.length (portsOf (ns.getD node nd0)) node port x.to'.toNat (f.rt x.ep))(hr:∀p,p<2→(f.rt x.ep).next node p x.to'.toNat<cs.length∧-2≤(f.rt x.ep).next node p x.to'.toNat)(hup:f.up.length=cs.length)(hU:0<cs.length→w.cell? ⟨b,6,none⟩=some (.slice (some ⟨gu,0,none⟩) cs.length cu)∧∀i,i<cs.length→w.cell? ⟨gu,i,none⟩=some (.bool (f.up.getD i false)))(hv:∃a n c,v=.slice a n c):Calls Tryz.prog 66 #[pt b,.int .i64 node,.int .i64 port,fmV x v] w (LeavePost (optI (f.leave ns cs node port x)) w):=by
 obtain⟨xi,xf,xt,xc,xe,xd⟩:=x;simp only at he ht0 ht1 hR hr;obtain⟨va,vn,vc,rfl⟩:=hv;obtain⟨ep,rfl⟩:∃n:Nat,xe=n:=⟨xe.toNat,by omega⟩;obtain⟨tt,rfl⟩:∃n:Nat,xt=n:=⟨xt.toNat,by omega⟩;simp only[Int.toNat_natCast]at hR hr;obtain⟨ng,nc,V,n1,n2,n3⟩:=hR.nx;obtain⟨fg,fc,fg2,fc2,f1,f2,f3⟩:=hR.fl;have n16:=hp.n16;have c32:=hp.c32;have c0:=h.c0;obtain⟨b2,o2,ha,hb2,_,_,e1,_⟩:=node_at h.plan.1 node hn;rw[ha]at c0;simp only at e1;have EV:Hid (f.leave ns cs node port ⟨xi,xf,tt,xc,ep,xd⟩=(let cable:=(f.rt ep).next node (if(ns.getD node nd0).sw&&(f.rt ep).falls node port then 1 else 0) tt
  if cable<0 then none else if f.up.getD cable.toNat false then some (chanF cs cable.toNat node)else none)):=rfl
 generalize f.rt ep=r at *;obtain⟨q,hq⟩:∃q,ep%2=q:=⟨_,rfl⟩;rw[hq]at n1 f1;have q2:q<2:=by omega
 have hqt:((ep:Int)).tmod 2=(q:Int):=by rw[Int.tmod_eq_emod_of_nonneg (by omega)];omega
 have hqm:((ep:Int))%2=(q:Int):=by omega
 have q0:(0:Int)≤(q:Int):=by omega
 have q3:(q:Int)<2:=by omega
 have i0:(0:Int)≤(node:Int):=by omega
 have i1:(node:Int)<(ns.length:Int):=by omega
 have p0:(0:Int)≤(port:Int):=by omega
 have p1:(port:Int)<(portsOf (ns.getD node nd0):Int):=by omega
 have t0:(0:Int)≤(tt:Int):=by omega
 have t1:(tt:Int)<(ns.length:Int):=by omega
 obtain⟨w1,hw1⟩:∃w1:World,w.alloc (.cells #[.int .i64 xi,.int .i64 xf,.int .i64 tt,.int .i64 xc,.int .i64 ep,.slice va vn vc] 59)=w1:=⟨_,rfl⟩;have B1:Hid (Below w.heap.size w w1):=by rw[←hw1];exact(Below.refl _ _).alloc (Nat.le_refl _) _
 have F1:Hid (Blk w1 w.heap.size 59 #[.int .i64 xi,.int .i64 xf,.int .i64 tt,.int .i64 xc,.int .i64 ep,.slice va vn vc]):=by rw[←hw1];exact Blk.new w _ _
 have KP:Hid (∀w',Below w.heap.size w w'→w'.cell? ⟨b,7+q*2,none⟩=some (.slice (some ⟨ng,0,none⟩) ns.length nc)∧w'.cell? ⟨b,7+q*2+1,none⟩=some (.slice (some ⟨fg,0,none⟩) ns.length fc)):=fun w' hb=>
  ⟨(hb.cell (p:=⟨b,7+q*2,none⟩) (World.block_lt_of_cell? _ _ n1)).trans n1,(hb.cell (p:=⟨b,7+q*2+1,none⟩) (World.block_lt_of_cell? _ _ f1)).trans f1⟩
 clear hR ha hq;unfold fmV;simp only;unfold pt
 go_enter Tryz.func66,Tryz.ntmps66
 go_wp2_with fail
 have f4:w1.cell? ⟨w.heap.size,4,none⟩=some (.int .i64 ep):=F1.out.cell 4;have kp:=KP.out w1 B1.out;have S1:Hid (w1.heap.size=w.heap.size+1):=by rw[←hw1,Hid];simp
 clear n1 f1 hw1;refine wp_region_L 9 (fun w'=>w'.cell? ⟨w.heap.size,4,none⟩=some (.int .i64 ep)∧w'.cell? ⟨b,7+q*2,none⟩=some (.slice (some ⟨ng,0,none⟩) ns.length nc)∧w'.cell? ⟨b,7+q*2+1,none⟩=some (.slice (some ⟨fg,0,none⟩) ns.length fc)) (by kernel_rfl) ⟨f4,kp.1,kp.2⟩ (fun hHeld=>?_);refine AnyL.tk 0 hHeld ?_
 try simp only[puts]
 refine AnyL.tk 1 hHeld ?_
 try simp only[puts]
 refine AnyL.tk 2 hHeld ?_
 try simp only[puts]
 refine AnyL.tk 3 hHeld ?_
 try simp only[puts]
 refine AnyL.tk 4 hHeld ?_
 try simp only[puts]
 refine AnyL.tk 5 hHeld ?_
 try simp only[puts]
 refine AnyL.tk 6 hHeld ?_
 try simp only[puts]
 refine AnyL.tk 7 hHeld ?_
 try simp only[puts]
 have KA:Hid (∀o,(w1.alloc o).cell? ⟨w.heap.size,4,none⟩=some (.int .i64 ep)∧(w1.alloc o).cell? ⟨b,7+q*2,none⟩=some (.slice (some ⟨ng,0,none⟩) ns.length nc)∧(w1.alloc o).cell? ⟨b,7+q*2+1,none⟩=some (.slice (some ⟨fg,0,none⟩) ns.length fc)):=fun o=>⟨(F1.out.alloc o).cell 4,(KP.out _ (B1.out.alloc B1.out.size o)).1,(KP.out _ (B1.out.alloc B1.out.size o)).2⟩;refine AnyL.one (i:=8) (by kernel_rfl) rfl (fun K hK=>?_);go_simp;refine hK.out _ _ (fun _=>KA.out _) (fun hHeld0=>?_);have hHeld:=hHeld0 (by decide);clear hK hHeld0
 try simp only[puts]
 refine AnyL.one (i:=9) (by kernel_rfl) rfl (fun K hK=>?_);go_simp;refine hK.out _ _ (fun h=>absurd rfl h) (fun _=>?_);clear hK;refine AnyL.done (by kernel_rfl) ?_ _
 try simp only[puts]
 clear f4 kp hHeld;obtain⟨w2,hw2⟩:∃w2:World,(w1.alloc (.cells #[.slice (some ⟨ng,0,none⟩) ns.length nc,.slice (some ⟨fg,0,none⟩) ns.length fc] 97)).drew=w2:=⟨_,rfl⟩;rw[hw2];have B2:Hid (Below w.heap.size w w2):=by rw[←hw2];exact(B1.out.alloc B1.out.size _).drew
 have R2:Hid (Blk w2 w1.heap.size 97 #[.slice (some ⟨ng,0,none⟩) ns.length nc,.slice (some ⟨fg,0,none⟩) ns.length fc]):=by rw[←hw2];exact(Blk.new w1 _ _).drew
 have F2:Hid (Blk w2 w.heap.size 59 #[.int .i64 xi,.int .i64 xf,.int .i64 tt,.int .i64 xc,.int .i64 ep,.slice va vn vc]):=by rw[←hw2];exact(F1.out.alloc _).drew
 have C2:Hid (∀p u,w.cell? p=some u→w2.cell? p=some u):=fun p u hu=>(B2.out.cell (World.block_lt_of_cell? _ _ hu)).trans hu;have HF2:=Lib.hid f2;have HF3:=Lib.hid f3;have HU:=Lib.hid hU;have HN2:=Lib.hid n2;have HN3:=Lib.hid n3;have HR:=Lib.hid hr;have HUP:=Lib.hid hup;have FCH:Hid (∀i,i<cs.length→∀w',Below w.heap.size w w'→Calls Tryz.prog 65 #[.pointer (some ⟨b,0,none⟩),.int .i64 i,.int .i64 node] w' fun e w''=>e=.returned (.int .i64 (chanF cs i node:Nat))∧w'=w''):=fun i hi w' hb=>fchan_any i node b ns cs An Ac cn cc w' (h.below hb) hp hi hn;have d0:=C2.out _ _ c0;have d1:=C2.out _ _ e1;have d2:w2.cell? ⟨w1.heap.size,0+1,none⟩=some (.slice (some ⟨fg,0,none⟩) ns.length fc):=R2.out.cell 1;have d3:=C2.out _ _ f2;have d4:=C2.out _ _ f3;have d5:w2.cell? ⟨w1.heap.size,0,none⟩=some (.slice (some ⟨ng,0,none⟩) ns.length nc):=R2.out.cell 0;have d6:w2.cell? ⟨w.heap.size,2,none⟩=some (.int .i64 tt):=F2.out.cell 2;clear hw2 c0 e1 f2 f3 hU n2 n3 hr hup h hp B1 F1;obtain⟨ph,hph⟩:∃ph,(if(ns.getD node nd0).sw&&r.falls node port then 1 else 0:Nat)=ph:=⟨_,rfl⟩;have ph2:ph<2:=by rw[←hph];split<;>omega
 obtain⟨g2,c2,eV,n4⟩:=HN3.out ph ph2;have d7:=C2.out _ _ (HN2.out ph ph2);have d8:=C2.out _ _ n4;rw[eV]at d7;have RR:=Lib.hid (HR.out ph ph2);rw[hph]at EV;generalize r.next node ph tt=cab at *;have ph0:(0:Int)≤(ph:Int):=by omega
 have ph1:(ph:Int)<2:=by omega
 clear n4 eV;generalize(ns.getD node nd0).sw=sw at *;generalize r.falls node port=fa at *;generalize portsOf (ns.getD node nd0)=np at *;have e7:∀p:Nat,(node*2+p)=node*2+p:=fun _=>rfl;clear e7;cases sw with
 |true=>
  cases fa with
  |true=>
   obtain rfl:1=ph:=hph;by_cases hcab:cab<0
   ·have hcd:decide (cab<0)=true:=decide_eq_true hcab;have LV:Hid (f.leave ns cs node port ⟨xi,xf,tt,xc,ep,xd⟩=none):=by rw[Hid,EV.out];simp only[hcab,if_true]
    clear hcab
    go_wp2_with fail
    go_quiet (fail)
    go_wp2_with fail
    go_ret
    exact⟨by rw[LV.out];rfl,below_drewN B2.out _⟩
   ·obtain⟨i,rfl⟩:∃i:Nat,cab=i:=⟨cab.toNat,by omega⟩;have hi:i<cs.length:=by have:=RR.out.1;omega
    obtain⟨u1,u2⟩:=HU.out (by omega);have d9:=C2.out _ _ u1;have d10:=C2.out _ _ (u2 i hi);have i0':(0:Int)≤(i:Int):=(by omega);have i1':(i:Int)<(cs.length:Int):=(by omega);have hcd:decide ((i:Int)<0)=false:=decide_eq_false hcab;have FC:=Lib.hid (FCH.out i hi);cases hup:f.up.getD i false with
    |false=>
     have LV:Hid (f.leave ns cs node port ⟨xi,xf,tt,xc,ep,xd⟩=none):=(by rw[Hid,EV.out];simp only[hcab,if_false,Int.toNat_natCast,hup];simp);rw[hup]at d10;clear hup u1 u2 hcab
     go_wp2_with fail
     go_quiet (fail)
     go_wp2_with fail
     go_ret
     exact⟨by rw[LV.out];rfl,below_drewN B2.out _⟩
    |true=>
     have LV:Hid (f.leave ns cs node port ⟨xi,xf,tt,xc,ep,xd⟩=some (chanF cs i node)):=(by rw[Hid,EV.out];simp only[hcab,if_false,Int.toNat_natCast,hup,if_true]);rw[hup]at d10;clear hup u1 u2 hcab
     go_wp2_with fail
     go_quiet (fail)
     go_wp2_with (first|(go_at_call 65;refine(FC.out _ (below_drewN B2.out _)).mono ?_;rintro e w' ⟨rfl,rfl⟩))
     go_ret
     exact⟨by rw[LV.out];rfl,below_drewN B2.out _⟩
  |false=>
   obtain rfl:0=ph:=hph;simp only[Nat.add_zero]at d7;by_cases hcab:cab<0
   ·have hcd:decide (cab<0)=true:=decide_eq_true hcab;have LV:Hid (f.leave ns cs node port ⟨xi,xf,tt,xc,ep,xd⟩=none):=by rw[Hid,EV.out];simp only[hcab,if_true]
    clear hcab
    go_wp2_with fail
    go_quiet (fail)
    go_wp2_with fail
    go_ret
    exact⟨by rw[LV.out];rfl,below_drewN B2.out _⟩
   ·obtain⟨i,rfl⟩:∃i:Nat,cab=i:=⟨cab.toNat,by omega⟩;have hi:i<cs.length:=by have:=RR.out.1;omega
    obtain⟨u1,u2⟩:=HU.out (by omega);have d9:=C2.out _ _ u1;have d10:=C2.out _ _ (u2 i hi);have i0':(0:Int)≤(i:Int):=(by omega);have i1':(i:Int)<(cs.length:Int):=(by omega);have hcd:decide ((i:Int)<0)=false:=decide_eq_false hcab;have FC:=Lib.hid (FCH.out i hi);cases hup:f.up.getD i false with
    |false=>
     have LV:Hid (f.leave ns cs node port ⟨xi,xf,tt,xc,ep,xd⟩=none):=(by rw[Hid,EV.out];simp only[hcab,if_false,Int.toNat_natCast,hup];simp);rw[hup]at d10;clear hup u1 u2 hcab
     go_wp2_with fail
     go_quiet (fail)
     go_wp2_with fail
     go_ret
     exact⟨by rw[LV.out];rfl,below_drewN B2.out _⟩
    |true=>
     have LV:Hid (f.leave ns cs node port ⟨xi,xf,tt,xc,ep,xd⟩=some (chanF cs i node)):=(by rw[Hid,EV.out];simp only[hcab,if_false,Int.toNat_natCast,hup,if_true]);rw[hup]at d10;clear hup u1 u2 hcab
     go_wp2_with fail
     go_quiet (fail)
     go_wp2_with (first|(go_at_call 65;refine(FC.out _ (below_drewN B2.out _)).mono ?_;rintro e w' ⟨rfl,rfl⟩))
     go_ret
     exact⟨by rw[LV.out];rfl,below_drewN B2.out _⟩
 |false=>
  obtain rfl:0=ph:=hph;simp only[Nat.add_zero]at d7;by_cases hcab:cab<0
  ·have hcd:decide (cab<0)=true:=decide_eq_true hcab;have LV:Hid (f.leave ns cs node port ⟨xi,xf,tt,xc,ep,xd⟩=none):=by rw[Hid,EV.out];simp only[hcab,if_true]
   clear hcab
   go_wp2_with fail
   go_quiet (fail)
   go_wp2_with fail
   go_ret
   exact⟨by rw[LV.out];rfl,below_drewN B2.out _⟩
  ·obtain⟨i,rfl⟩:∃i:Nat,cab=i:=⟨cab.toNat,by omega⟩;have hi:i<cs.length:=by have:=RR.out.1;omega
   obtain⟨u1,u2⟩:=HU.out (by omega);have d9:=C2.out _ _ u1;have d10:=C2.out _ _ (u2 i hi);have i0':(0:Int)≤(i:Int):=(by omega);have i1':(i:Int)<(cs.length:Int):=(by omega);have hcd:decide ((i:Int)<0)=false:=decide_eq_false hcab;have FC:=Lib.hid (FCH.out i hi);cases hup:f.up.getD i false with
   |false=>
    have LV:Hid (f.leave ns cs node port ⟨xi,xf,tt,xc,ep,xd⟩=none):=(by rw[Hid,EV.out];simp only[hcab,if_false,Int.toNat_natCast,hup];simp);rw[hup]at d10;clear hup u1 u2 hcab
    go_wp2_with fail
    go_quiet (fail)
    go_wp2_with fail
    go_ret
    exact⟨by rw[LV.out];rfl,below_drewN B2.out _⟩
   |true=>
    have LV:Hid (f.leave ns cs node port ⟨xi,xf,tt,xc,ep,xd⟩=some (chanF cs i node)):=(by rw[Hid,EV.out];simp only[hcab,if_false,Int.toNat_natCast,hup,if_true]);rw[hup]at d10;clear hup u1 u2 hcab
    go_wp2_with fail
    go_quiet (fail)
    go_wp2_with (first|(go_at_call 65;refine(FC.out _ (below_drewN B2.out _)).mono ?_;rintro e w' ⟨rfl,rfl⟩))
    go_ret
    exact⟨by rw[LV.out];rfl,below_drewN B2.out _⟩
end Go.Proofs.YtnjjkgjdhljfnaaGreat
namespace Go.Proofs.YtnjjkgjdhljfnaaGreat
open Go.RowKit Go.Maps
theorem RtM.chE{τ τ':Own}{w w':World}{ns:List Nd}{vn vf:Value}{r:Rt}{S:Nat→Prop}(h:RtM τ w ns vn vf r)(hc:Ch S w w')(he:∀k,k<w.heap.size→τ' k=τ k)(hS:∀k,S k→(τ k).1≠1):RtM τ' w' ns vn vf r:=by obtain⟨V,h1,h2⟩:=h.nx;obtain⟨U,h3,h4⟩:=h.fl;exact⟨⟨V,h1.chE hc he fun k s q=>hS k s q,fun i hi p hp=>(h2 i hi p hp).chE hc he fun k s q=>hS k s q⟩,⟨U,h3.chE hc he fun k s q=>hS k s q,fun i hi=>(h4 i hi).chE hc he fun k s q=>hS k s q⟩⟩
theorem omap_ch{w w':World}{P:Program}{k:TypeId}{b n:Nat}{M:Lit→Option Value}{S:Nat→Prop}(h:OMap w P k b n M)(hc:Ch S w w')(hb:¬S b):OMap w' P k b n M:=by obtain⟨D,⟨es,clock,h1,h2⟩,h3⟩:=h;exact⟨D,⟨es,clock,(hc.block b (World.ownsMap.lt (⟨es,clock,h1,h2⟩:w.ownsMap P k anyElem b n D)) hb).trans h1,h2⟩,h3⟩
theorem FliM.chE{τ τ':Own}{w w':World}{v:Value}{l:List (Nat×Fm)}{S:Nat→Prop}(h:FliM τ w v l)(hc:Ch S w w')(he:∀k,k<w.heap.size→τ' k=τ k)(hS:∀k,S k→(τ k).1≠1)(hv:∀g,v.ownBlock=some g→¬S g):FliM τ' w' v l:=by obtain⟨Q,h1,h2,h3⟩:=h;exact⟨Q,h1,own_ch h2 hc hv,fun x hx=>(h3 x hx).chE hc he hS⟩
theorem FliM.lt{τ:Own}{w:World}{v:Value}{l:List (Nat×Fm)}(h:FliM τ w v l):∀g,v.ownBlock=some g→g<w.heap.size:=by obtain⟨Q,_,h2,_⟩:=h;exact fun g hg=>(h2.lt g hg).2
theorem CntM.chE{τ τ':Own}{w w':World}{k:Nat}{v:Value}{row:Nat→Value}{n:Nat}{l:List (List Int)}{S:Nat→Prop}(h:CntM τ w k v row n l)(hc:Ch S w w')(he:∀k,k<w.heap.size→τ' k=τ k)(hS:∀g,S g→(τ g).1≠1∧((τ g).1=2→(τ g).2.1≠k)):CntM τ' w' k v row n l:=
 ⟨h.1.chE hc he fun g s q=>(hS g s).1 q,fun i hi=>(h.2 i hi).chE hc he fun g s q=>(hS g s).2 (by rw[q]) (by rw[q])⟩
structure FabG(K:Nat→Prop)(τ:Own)(w:World)(b:Nat)(ns:List Nd)(cs:List Cb)(f:Fab)(L:FbL):Prop where
 root:¬K 0→Blk w b 100 (fabC f L)
 rootT:τ b=(2,0,0,0)∧b<w.heap.size
 plan:PlanM τ w ns cs L.vn L.vc
 rooms:ArrM τ w 3 never L.vr f.rooms.length (f.rooms.map fun x=>.int .i64 x)
 cab:ArrM τ w 26 never L.vt ns.length ((List.range ns.length).map L.row)∧∀i,i<ns.length→ArrM τ w 3 never (L.row i) (portsOf (ns.getD i nd0)) ((List.range (portsOf (ns.getD i nd0))).map fun p=>.int .i64 (cabI cs i p))
 bxs:ArrM τ w 101 never L.vb ns.length ((List.range ns.length).map fun i=>pt (L.bx i))
 bx:∀i,i<ns.length→BxM τ (3+i) w (L.bx i) (f.boxes.getD i default) (L.bxl i)
 up:¬K 1→ArrM τ w 4 (is2 1 0) L.vu f.up.length (f.up.map fun x=>.bool x)
 r0:RtM τ w ns L.r0n L.r0f f.rt0
 r1:0<f.bnow→RtM τ w ns L.r1n L.r1f f.rt1
 bk:¬K 2→Bk w L.bk f.bnow f.al0 f.al1
 bkT:τ L.bk=(2,2,0,0)
 fl:¬K 3→¬K 4→TickM w L.mf f.fl (fun t v l=>FliM τ w v l∧∀g,v.ownBlock=some g→τ g=(2,4,t,0))
 flT:τ L.mf=(2,3,0,0)
 lim:¬K 5→¬K 6→TickM w L.ml f.lim (fun t v l=>NotM w v l∧∀g,v.ownBlock=some g→τ g=(2,6,t,0))
 limT:τ L.ml=(2,5,0,0)
 came:¬K 7→CntM τ w 7 L.vcm L.cm ns.length f.came
 gone:¬K 8→CntM τ w 8 L.vg L.gn (2*cs.length) f.gone
 lost:¬K 9→∃ids:List Int,w.ownsRow 0 3 1 L.vl ids.length (ids.flatMap cI)∧(∀g,L.vl.ownBlock=some g→τ g=(2,9,0,0))∧ids.Perm (f.lost.map (·.id))
section
variable{τ τ':Own}{w w':World}{b:Nat}{ns:List Nd}{cs:List Cb}{f:Fab}{L:FbL}
theorem OMap.ltb{n:Nat}{M:Lit→Option Value}{bm:Nat}(h:OMap w Tryz.prog 3 bm n M):bm<w.heap.size:=h.lt
theorem FabM.toG{S:Nat→Prop}(K:Nat→Prop)(h:FabM τ w b ns cs f L)(hc:Ch S w w')(he:∀k,k<w.heap.size→τ' k=τ k)(hS:∀k,S k→(τ k).1=0∨((τ k).1=2∧K (τ k).2.1)):FabG K τ' w' b ns cs f L:=by
 have s1:∀k,S k→(τ k).1≠1:=fun k s=>by rcases hS k s with q|q<;>omega
 have s2:∀(kd:Nat) {g a d:Nat},¬K kd→τ g=(2,kd,a,d)→¬S g:=fun kd g a d hk e s=>by
  rcases hS g s with q|q
  ·rw[e]at q;simp at q
  ·rw[e]at q;exact hk q.2
 have s3:∀k,S k→∀i,(τ k).1≠3+i:=fun k s i=>by rcases hS k s with q|q<;>omega
 have sn:∀k,S k→¬never (τ k):=fun k s q=>s1 k s q;have lb:=h.root.1.lt;exact{
  root:=fun hk=>h.root.1.ch hc (s2 0 hk h.root.2)
  rootT:=⟨by rw[he _ lb];exact h.root.2,Nat.lt_of_lt_of_le lb hc.size⟩
  plan:=h.plan.chE hc he s1
  rooms:=h.rooms.chE hc he sn
  cab:=⟨h.cab.1.chE hc he sn,fun i hi=>(h.cab.2 i hi).chE hc he sn⟩
  bxs:=h.bxs.chE hc he sn
  bx:=fun i hi=>(h.bx i hi).chE hc he fun k s=>⟨s1 k s,s3 k s i⟩
  up:=fun hk=>h.up.chE hc he fun k s q=>s2 1 hk q s
  r0:=h.r0.chE hc he s1
  r1:=fun hb=>(h.r1 hb).chE hc he s1
  bk:=fun hk=>Blk.ch h.bk.1 hc (s2 2 hk h.bk.2)
  bkT:=by rw[he _ (Blk.lt h.bk.1)];exact h.bk.2
  fl:=fun h3 h4=>by obtain⟨n,M,m1,m2,m3,m4,m5⟩:=h.fl.1;refine⟨n,M,omap_ch m1 hc (s2 3 h3 h.fl.2),m2,m3,m4,fun t v hv=>?_⟩;obtain⟨a1,a2⟩:=m5 t v hv;exact⟨a1.chE hc he s1 fun g hg=>s2 4 h4 (a2 g hg),fun g hg=>by rw[he _ (a1.lt g hg)];exact a2 g hg⟩
  flT:=by obtain⟨n,M,m1,_⟩:=h.fl.1;rw[he _ m1.ltb];exact h.fl.2
  lim:=fun h3 h4=>by obtain⟨n,M,m1,m2,m3,m4,m5⟩:=h.lim.1;refine⟨n,M,omap_ch m1 hc (s2 5 h3 h.lim.2),m2,m3,m4,fun t v hv=>?_⟩;obtain⟨a1,a2⟩:=m5 t v hv;exact⟨own_ch a1 hc fun g hg=>s2 6 h4 (a2 g hg),fun g hg=>by rw[he _ (World.ownsRow.lt a1 g hg).2];exact a2 g hg⟩
  limT:=by obtain⟨n,M,m1,_⟩:=h.lim.1;rw[he _ m1.ltb];exact h.lim.2
  came:=fun hk=>h.came.chE hc he fun g s=>⟨s1 g s,fun q q2=>by
   rcases hS g s with p|p
   ·omega
   ·rw[q2]at p;exact hk p.2⟩
  gone:=fun hk=>h.gone.chE hc he fun g s=>⟨s1 g s,fun q q2=>by
   rcases hS g s with p|p
   ·omega
   ·rw[q2]at p;exact hk p.2⟩
  lost:=fun hk=>by obtain⟨ids,i1,i2,i3⟩:=h.lost;exact⟨ids,own_ch i1 hc fun g hg=>s2 9 hk (i2 g hg),fun g hg=>by rw[he _ (i1.lt g hg).2];exact i2 g hg,i3⟩}
theorem FabG.all(h:FabG (fun _=>False) τ w b ns cs f L):FabM τ w b ns cs f L:=
 ⟨⟨h.root id,h.rootT.1⟩,h.plan,h.rooms,h.cab,h.bxs,h.bx,h.up id,h.r0,h.r1,⟨h.bk id,h.bkT⟩,⟨h.fl id id,h.flT⟩,⟨h.lim id id,h.limT⟩,h.came id,h.gone id,h.lost id⟩
theorem FabM.chE{S:Nat→Prop}(h:FabM τ w b ns cs f L)(hc:Ch S w w')(he:∀k,k<w.heap.size→τ' k=τ k)(hS:∀k,S k→(τ k).1=0):FabM τ' w' b ns cs f L:=
 (h.toG (fun _=>False) hc he fun k s=>.inl (hS k s)).all
theorem FabM.below(h:FabM τ w b ns cs f L)(k:Below w.heap.size w w'):FabM (fr τ w.heap.size) w' b ns cs f L:=h.chE (S:=fun _=>False) (Ch.of_below k) (fun _ hk=>fr_old hk) (fun _ s=>s.elim)
theorem FabM.drew(h:FabM τ w b ns cs f L):FabM τ w.drew b ns cs f L:=h.chE (S:=fun _=>False) (Ch.refl _ w).drew (fun _ _=>rfl) (fun _ s=>s.elim)
theorem FabM.box(h:FabM τ w b ns cs f L){i:Nat}(hi:i<ns.length)(hl:f.boxes.length=ns.length){X:Bx}{LX:BxL}(k:Nx τ (3+i) w τ' w')(hx:BxM τ' (3+i) w' (L.bx i) X LX):FabM τ' w' b ns cs {f with boxes:=f.boxes.set i X} {L with bxl:=fun j=>if j=i then LX else L.bxl j}:=by
 have s1:∀k,(τ k).1=3+i→(τ k).1≠1:=fun k s=>by omega
 have s2:∀{g a c d:Nat},τ g=(2,a,c,d)→¬(τ g).1=3+i:=fun e s=>by rw[e]at s;simp at s;omega
 have sn:∀k,(τ k).1=3+i→¬never (τ k):=fun k s q=>s1 k s q;have lb:=h.root.1.lt;have hc:=k.ch;have he:=k.ext;exact{
  root:=⟨h.root.1.ch hc (s2 h.root.2),by rw[he _ lb];exact h.root.2⟩
  plan:=h.plan.chE hc he s1
  rooms:=h.rooms.chE hc he sn
  cab:=⟨h.cab.1.chE hc he sn,fun i hi=>(h.cab.2 i hi).chE hc he sn⟩
  bxs:=h.bxs.chE hc he sn
  bx:=fun j hj=>by
   show BxM τ' (3+j) w' (L.bx j) ((f.boxes.set i X).getD j default) (if j=i then LX else L.bxl j);by_cases e:j=i
   ·subst e;rw[getD_set_at _ _ _ (by omega),if_pos rfl];exact hx
   ·rw[getD_set_far _ _ _ e,if_neg e];exact(h.bx j hj).nx k (by omega) (by omega)
  up:=h.up.chE hc he fun k s q=>s2 q s
  r0:=h.r0.chE hc he s1
  r1:=fun hb=>(h.r1 hb).chE hc he s1
  bk:=⟨Blk.ch h.bk.1 hc (s2 h.bk.2),by rw[he _ (Blk.lt h.bk.1)];exact h.bk.2⟩
  fl:=by obtain⟨n,M,m1,m2,m3,m4,m5⟩:=h.fl.1;refine⟨⟨n,M,omap_ch m1 hc (s2 h.fl.2),m2,m3,m4,fun t v hv=>?_⟩,by rw[he _ m1.ltb];exact h.fl.2⟩;obtain⟨a1,a2⟩:=m5 t v hv;exact⟨a1.chE hc he s1 fun g hg=>s2 (a2 g hg),fun g hg=>by rw[he _ (a1.lt g hg)];exact a2 g hg⟩
  lim:=by obtain⟨n,M,m1,m2,m3,m4,m5⟩:=h.lim.1;refine⟨⟨n,M,omap_ch m1 hc (s2 h.lim.2),m2,m3,m4,fun t v hv=>?_⟩,by rw[he _ m1.ltb];exact h.lim.2⟩;obtain⟨a1,a2⟩:=m5 t v hv;exact⟨own_ch a1 hc fun g hg=>s2 (a2 g hg),fun g hg=>by rw[he _ (World.ownsRow.lt a1 g hg).2];exact a2 g hg⟩
  came:=h.came.chE hc he fun g s=>⟨s1 g s,fun q=>by omega⟩
  gone:=h.gone.chE hc he fun g s=>⟨s1 g s,fun q=>by omega⟩
  lost:=by obtain⟨ids,i1,i2,i3⟩:=h.lost;exact⟨ids,own_ch i1 hc fun g hg=>s2 (i2 g hg),fun g hg=>by rw[he _ (i1.lt g hg).2];exact i2 g hg,i3⟩}
theorem FabM.toS(h:FabM τ w b ns cs f L):∃An Ac cn cc,FabS w b ns cs An Ac cn cc:=by
 obtain⟨An,Ac,cn,cc,e1,e2,hp,_,_⟩:=h.plan;refine⟨An,Ac,cn,cc,?_,?_,hp⟩
 ·rw[h.root.1.cell];show some L.vn=_;rw[e1]
 ·rw[h.root.1.cell];show some L.vc=_;rw[e2]
end
end Go.Proofs.YtnjjkgjdhljfnaaGreat
namespace Go.Proofs.YtnjjkgjdhljfnaaGreat
open Go.RowKit Go.Maps
attribute [local go_sem ↓] Go.wp_at_zero Go.wp_at_succ
structure FNx(τ:Own)(w:World)(τ':Own)(w':World):Prop where
 ch:Ch (fun k=>2≤(τ k).1) w w'
 ext:∀k,k<w.heap.size→τ' k=τ k
theorem FNx.refl(τ:Own)(w:World):FNx τ w τ w:=⟨Ch.refl _ _,fun _ _=>rfl⟩
theorem FNx.trans{τ τ' τ'':Own}{w w' w'':World}(h:FNx τ w τ' w')(k:FNx τ' w' τ'' w''):FNx τ w τ'' w'':=
 ⟨h.ch.trans k.ch fun i hi s=>by rw[h.ext i hi]at s;exact s,fun i hi=>(k.ext i (Nat.lt_of_lt_of_le hi h.ch.size)).trans (h.ext i hi)⟩
theorem FNx.of_nx{τ τ':Own}{w w':World}{o:Nat}(h:Nx τ o w τ' w')(ho:2≤o):FNx τ w τ' w':=⟨h.ch.mono fun k _ s=>by omega,h.ext⟩
theorem FNx.of_below{τ:Own}{w w':World}(h:Below w.heap.size w w'):FNx τ w (fr τ w.heap.size) w':=⟨Ch.of_below h,fun _ hk=>fr_old hk⟩
theorem FNx.drew{τ τ':Own}{w w':World}(h:FNx τ w τ' w'):FNx τ w τ' w'.drew:=⟨h.ch.drew,h.ext⟩
def FabPost(τ:Own)(w:World)(b:Nat)(ns:List Nd)(cs:List Cb)(f':Fab)(w':World):Prop:=∃τ' L',FabM τ' w' b ns cs f' L'∧FNx τ w τ' w'
structure SmL(L L':FbL):Prop where
 e:L'={L with bxl:=L'.bxl,vl:=L'.vl}
theorem SmL.refl(L:FbL):SmL L L:=⟨rfl⟩
theorem SmL.trans{L L' L'':FbL}(h:SmL L L')(k:SmL L' L''):SmL L L'':=⟨by rw[k.e,h.e]⟩
def FabPostS(τ:Own)(w:World)(b:Nat)(ns:List Nd)(cs:List Cb)(L:FbL)(f':Fab)(w':World):Prop:=∃τ' L',FabM τ' w' b ns cs f' L'∧FNx τ w τ' w'∧SmL L L'
theorem FabPostS.then{τ τ1:Own}{w w1 w2:World}{b:Nat}{ns:List Nd}{cs:List Cb}{L L1:FbL}{f:Fab}(n:FNx τ w τ1 w1)(m:SmL L L1)(h:FabPostS τ1 w1 b ns cs L1 f w2):FabPostS τ w b ns cs L f w2:=by obtain⟨τ',L',h1,h2,h3⟩:=h;exact⟨τ',L',h1,n.trans h2,m.trans h3⟩
def NoFl(τ:Own)(k:Nat):Prop:=2≤(τ k).1∧¬((τ k).1=2∧3≤(τ k).2.1∧(τ k).2.1≤6)
structure FN4(τ:Own)(w:World)(τ':Own)(w':World):Prop where
 ch:Ch (NoFl τ) w w'
 ext:∀k,k<w.heap.size→τ' k=τ k
theorem FN4.x{τ τ':Own}{w w':World}(h:FN4 τ w τ' w'):FNx τ w τ' w':=⟨h.ch.mono fun k _ s=>s.1,h.ext⟩
theorem FN4.refl(τ:Own)(w:World):FN4 τ w τ w:=⟨Ch.refl _ _,fun _ _=>rfl⟩
theorem FN4.trans{τ τ' τ'':Own}{w w' w'':World}(h:FN4 τ w τ' w')(k:FN4 τ' w' τ'' w''):FN4 τ w τ'' w'':=
 ⟨h.ch.trans k.ch fun i hi s=>by unfold NoFl at s⊢;rw[h.ext i hi]at s;exact s,fun i hi=>(k.ext i (Nat.lt_of_lt_of_le hi h.ch.size)).trans (h.ext i hi)⟩
theorem FN4.of_nx{τ τ':Own}{w w':World}{o:Nat}(h:Nx τ o w τ' w')(ho:3≤o):FN4 τ w τ' w':=⟨h.ch.mono fun k _ s=>⟨by omega,fun q=>by omega⟩,h.ext⟩
theorem FN4.of_below{τ:Own}{w w':World}(h:Below w.heap.size w w'):FN4 τ w (fr τ w.heap.size) w':=⟨Ch.of_below h,fun _ hk=>fr_old hk⟩
theorem FN4.drew{τ τ':Own}{w w':World}(h:FN4 τ w τ' w'):FN4 τ w τ' w'.drew:=⟨h.ch.drew,h.ext⟩
def FabPost4(τ:Own)(w:World)(b:Nat)(ns:List Nd)(cs:List Cb)(L:FbL)(f':Fab)(w':World):Prop:=∃τ' L',FabM τ' w' b ns cs f' L'∧FN4 τ w τ' w'∧SmL L L'
theorem FabPost4.s{τ:Own}{w w':World}{b:Nat}{ns:List Nd}{cs:List Cb}{L:FbL}{f':Fab}(h:FabPost4 τ w b ns cs L f' w'):FabPostS τ w b ns cs L f' w':=by obtain⟨τ',L',h1,h2,h3⟩:=h;exact⟨τ',L',h1,h2.x,h3⟩
structure Sane(f:Fab):Prop where
 n1:f.bnow≤1000000000
 a0:0≤f.al0∧f.al0≤1000000000
 a1:0≤f.al1∧f.al1≤1000000000
 l1:f.lost.length≤1000000000
theorem alive_alv(f:Fab)(e:Int):f.alive e=alv f.bnow f.al0 f.al1 e:=rfl
theorem fremove_any(f:Fab)(e:Int)(bk:Nat)(w:World)(h:Bk w bk f.bnow f.al0 f.al1)(hs:Sane f)(h0:0≤e)(h1:e≤f.bnow):Calls Tryz.prog 97 #[.pointer (some ⟨bk,0,none⟩),.int .i64 e] w fun r w'=>(∃c:Int,r=.returned (.int .i64 c))∧Bk w' bk (f.rem e).bnow (f.rem e).al0 (f.rem e).al1∧Ch (· =bk) w w':=by
 have A0:=hs.a0;have A1:=hs.a1;have n1:=hs.n1;by_cases hz:f.alive e=0
 ·have e1:f.rem e=f:=by unfold Fab.rem;rw[if_pos hz]
  rw[e1];refine(remove_none bk f.bnow f.al0 f.al1 e w h (by omega) h0 h1 (by rw[←alive_alv];exact hz)).mono ?_;rintro r w' ⟨rfl,rfl⟩;exact⟨⟨_,rfl⟩,h,Ch.refl _ _⟩
 ·have h2:(f.bnow:Int)-1≤e:=by
   rcases Int.lt_or_le e ((f.bnow:Int)-1)with q|q
   ·exact absurd (by rw[alive_alv];exact alv_out (.inr (.inr q))) hz
   ·exact q
  have hp:0<alv f.bnow f.al0 f.al1 e:=by
   rw[alive_alv]at hz;unfold alv at hz⊢;rw[if_neg (by omega)]at hz⊢;split at hz
   ·rw[if_pos ‹_›];omega
   ·rw[if_neg ‹_›];omega
  refine(remove_ok bk f.bnow f.al0 f.al1 e w h (by omega) h0 h1 h2 hp A0.1 (by omega) A1.1 (by omega)).mono ?_;rintro r w' ⟨rfl,hb,hg⟩;refine⟨⟨_,rfl⟩,?_,⟨hg.os,hg.tape,hg.output,hg.size,fun k hk hn=>hg.block k hk fun q=>hn (by injection q)⟩⟩;unfold Fab.rem Fab.addAl;rw[if_neg hz];unfold upX upY at hb;by_cases hm:e%2=0
  ·rw[if_pos hm,if_pos hm]at hb;rw[if_pos hm];exact hb
  ·rw[if_neg hm,if_neg hm]at hb;rw[if_neg hm];exact hb
theorem rem_same(f:Fab)(e:Int):(f.rem e).classes=f.classes∧(f.rem e).rooms=f.rooms∧(f.rem e).boxes=f.boxes∧(f.rem e).up=f.up∧(f.rem e).rt0=f.rt0∧(f.rem e).rt1=f.rt1∧(f.rem e).bnow=f.bnow∧(f.rem e).pend=f.pend∧(f.rem e).now=f.now∧(f.rem e).last=f.last∧(f.rem e).fl=f.fl∧(f.rem e).lim=f.lim∧(f.rem e).came=f.came∧(f.rem e).gone=f.gone∧(f.rem e).lost=f.lost:=by
 unfold Fab.rem Fab.addAl;split
 ·exact⟨rfl,rfl,rfl,rfl,rfl,rfl,rfl,rfl,rfl,rfl,rfl,rfl,rfl,rfl,rfl⟩
 ·split<;>exact⟨rfl,rfl,rfl,rfl,rfl,rfl,rfl,rfl,rfl,rfl,rfl,rfl,rfl,rfl,rfl⟩
theorem FabM.book{τ τ':Own}{w w':World}{b:Nat}{ns:List Nd}{cs:List Cb}{f f':Fab}{L:FbL}(h:FabM τ w b ns cs f L)(hc:Ch (· =L.bk) w w')(he:∀k,k<w.heap.size→τ' k=τ k)(hb:Bk w' L.bk f'.bnow f'.al0 f'.al1)(e:f'={f with al0:=f'.al0,al1:=f'.al1}):FabM τ' w' b ns cs f' L:=by have g:=h.toG (fun k=>k=2) hc he fun k s=>.inr (by rw[s,h.bk.2];exact⟨rfl,rfl⟩);rw[e];exact⟨⟨g.root (by decide),g.rootT.1⟩,g.plan,g.rooms,g.cab,g.bxs,g.bx,g.up (by decide),g.r0,g.r1,⟨by rw[e]at hb;exact hb,g.bkT⟩,⟨g.fl (by decide) (by decide),g.flT⟩,⟨g.lim (by decide) (by decide),g.limT⟩,g.came (by decide),g.gone (by decide),g.lost (by decide)⟩
theorem rem_is(f:Fab)(e:Int):f.rem e={f with al0:=(f.rem e).al0,al1:=(f.rem e).al1}:=by
 unfold Fab.rem Fab.addAl;split
 ·rfl
 ·split<;>rfl
theorem FabM.r19{τ:Own}{w:World}{b:Nat}{ns:List Nd}{cs:List Cb}{f:Fab}{L:FbL}(h:FabM τ w b ns cs f L){i:Nat}:w.cell? ⟨b,i,none⟩=(fabC f L)[i]?:=h.root.1.cell i
theorem FabM.pushLost{τ:Own}{w w5:World}{b:Nat}{ns:List Nd}{cs:List Cb}{f:Fab}{L:FbL}{x:Fm}{o1:Obj}{ids:List Int}{v':Value}(h:FabM τ w b ns cs f L)(i1:w.ownsRow 0 3 1 L.vl ids.length (ids.flatMap cI))(i2:∀g,L.vl.ownBlock=some g→τ g=(2,9,0,0))(i3:ids.Perm (f.lost.map (·.id)))(own:w5.ownsRow 0 3 1 v' (ids.length+1) (ids.flatMap cI++[.int .i64 x.id]))(gr:(w.alloc o1).grownBy w5 L.vl.ownBlock)(loc:v'.ownBlock=L.vl.ownBlock∨v'.ownBlock=some (w.heap.size+1)):Blk w5 b 100 (fabC f L)∧∃τ',FabM τ' (w5.setCell ⟨b,19,none⟩ v') b ns cs {f with lost:=f.lost++[x]} {L with vl:=v'}∧FN4 τ w τ' (w5.setCell ⟨b,19,none⟩ v'):=by
 have nb:∀g,L.vl.ownBlock=some g→b≠g:=fun g hg e=>by have:=i2 g hg;rw[←e,h.root.2]at this;simp at this
 have b5:Blk w5 b 100 (fabC f L):=(h.root.1.alloc o1).grown gr fun e=>nb _ e.symm rfl;have hc:Ch (fun k=>k=b∨L.vl.ownBlock=some k) w (w5.setCell ⟨b,19,none⟩ v'):=(((Ch.refl _ w).alloc o1).grown gr fun g hg=>.inl (.inr hg)).setCell (p:=⟨b,19,none⟩) (.inl (.inl rfl)) v';obtain⟨τ',hτ⟩:∃τ':Own,τ'=fun k=>if v'.ownBlock=some k then(2,9,0,0)else fr τ w.heap.size k:=⟨_,rfl⟩
 have he:∀k,k<w.heap.size→τ' k=τ k:=fun k hk=>by
  rw[hτ];simp only;by_cases e:v'.ownBlock=some k
  ·rw[if_pos e];rcases loc with q|q
   ·rw[q]at e;exact(i2 k e).symm
   ·rw[q]at e;injection e with e;omega
  ·rw[if_neg e,fr_old hk]
 have g:=h.toG (fun k=>k=0∨k=9) hc he fun k s=>.inr (by
  rcases s with s|s
  ·rw[s,h.root.2];exact⟨rfl,.inl rfl⟩
  ·rw[i2 k s];exact⟨rfl,.inr rfl⟩)
 have bl:=own_blk own;refine⟨b5,τ',⟨⟨?_,g.rootT.1⟩,g.plan,g.rooms,g.cab,g.bxs,g.bx,g.up (by decide),g.r0,g.r1,⟨g.bk (by decide),g.bkT⟩,⟨g.fl (by decide) (by decide),g.flT⟩,⟨g.lim (by decide) (by decide),g.limT⟩,g.came (by decide),g.gone (by decide),?_⟩,⟨hc.mono fun k _ s=>?_,he⟩⟩
 ·have:=b5.set_ 19 v';exact this
 ·refine⟨ids++[x.id],?_,fun k hk=>?_,?_⟩
  ·have:=own_set own (p:=⟨b,19,none⟩) v' fun k hk e=>by
    obtain⟨cs',hb⟩:=bl k hk;exact Blk.ne_ b5 hb (by decide) (by rw[e])
   simpa[cI]using this
  ·rw[hτ];simp only;rw[if_pos hk]
  ·simp only[List.map_append,List.map_cons,List.map_nil];exact i3.append_right _
 ·unfold NoFl;rcases s with s|s
  ·rw[s,h.root.2];decide
  ·rw[i2 k s];decide
theorem flose4_any(f:Fab)(x:Fm)(v:Value)(b:Nat)(ns:List Nd)(cs:List Cb)(L:FbL)(τ:Own)(w:World)(h:FabM τ w b ns cs f L)(hs:Sane f)(h0:0≤x.ep)(h1:x.ep≤f.bnow)(hv:∃a n c,v=.slice a n c):Calls Tryz.prog 58 #[pt b,fmV x v] w fun e w'=>e=.returned (.tuple #[])∧FabPost4 τ w b ns cs L (f.lose x) w':=by
 obtain⟨va,vn,vc,rfl⟩:=hv;obtain⟨w1,hw1⟩:∃w1:World,w.alloc (.cells #[.int .i64 x.id,.int .i64 x.frm,.int .i64 x.to',.int .i64 x.cls,.int .i64 x.ep,.slice va vn vc] 59)=w1:=⟨_,rfl⟩;have B1:Hid (Below w.heap.size w w1):=by rw[←hw1];exact(Below.refl _ _).alloc (Nat.le_refl _) _
 have F1:Hid (Blk w1 w.heap.size 59 #[.int .i64 x.id,.int .i64 x.frm,.int .i64 x.to',.int .i64 x.cls,.int .i64 x.ep,.slice va vn vc]):=by rw[←hw1];exact Blk.new w _ _
 have H1:=Lib.hid (h.below B1.out);have S1:Hid (w1.heap.size=w.heap.size+1):=by rw[←hw1,Hid];simp
 have RM:=Lib.hid (fremove_any f x.ep L.bk w1.drew H1.out.bk.1 hs h0 h1);have HS:=Lib.hid hs;have k11:w1.cell? ⟨b,11,none⟩=some (.pointer (some ⟨L.bk,0,none⟩)):=H1.out.r19;have f4:w1.cell? ⟨w.heap.size,4,none⟩=some (.int .i64 x.ep):=F1.out.cell 4;have KM:Hid (∀w',Ch (· =L.bk) w1 w'→w'.cell? ⟨b,11,none⟩=some (.pointer (some ⟨L.bk,0,none⟩))∧w'.cell? ⟨w.heap.size,4,none⟩=some (.int .i64 x.ep)):=fun w' hc=>by
  refine⟨(hc.cell (p:=⟨b,11,none⟩) H1.out.root.1.lt (fun e=>?_)).trans k11,(hc.cell (p:=⟨w.heap.size,4,none⟩) F1.out.lt (fun e=>?_)).trans f4⟩
  ·have q1:=H1.out.root.2;have q2:=H1.out.bk.2;simp only at e;rw[e,q2]at q1;simp at q1
  ·have q2:=H1.out.bk.2;simp only at e;rw[←e,fr_new (Nat.le_refl _)]at q2;simp at q2
 clear h hs;generalize hP:FabPost4 τ w b ns cs L (f.lose x)=PP;have HP:=Lib.hid hP;clear hP;unfold fmV pt
 go_enter Tryz.func58,Tryz.ntmps58
 go_wp2_with fail
 clear hw1
 go_region_held3 (fun w'=>w'.cell? ⟨b,11,none⟩=some (.pointer (some ⟨L.bk,0,none⟩))∧w'.cell? ⟨w.heap.size,4,none⟩=some (.int .i64 x.ep))
  (first|exact⟨k11,f4⟩|exact KM.out _ (Ch.refl _ _).drew|exact KM.out _ CB.out)
  (first
   |(go_at_call 97;refine RM.out.mono ?_;rintro e w2 ⟨⟨c,rfl⟩,hb,cb⟩;have HB:=Lib.hid hb;have CB:Hid (Ch (· =L.bk) w1 w2):=(show Ch (· =L.bk) w1 w2 from⟨cb.os,cb.tape,cb.output,cb.size,cb.block⟩);clear hb cb))
 have H2:=Lib.hid (H1.out.book (f':=f.rem x.ep) (τ':=fr τ w.heap.size) CB.out (fun _ _=>rfl) HB.out (rem_is f x.ep));obtain⟨ids,i1,i2,i3⟩:=H2.out.lost;have LL:Hid (ids.length≤1000000000):=by have:=i3.length_eq;have h2:=HS.out.l1;rw[List.length_map,(rem_same f x.ep).2.2.2.2.2.2.2.2.2.2.2.2.2.2]at this;rw[Hid];omega
 obtain⟨la,lc,eL⟩:=own_formN i1;have c19:w2.cell? ⟨b,19,none⟩=some (.slice la ids.length lc):=by rw[←eL];exact H2.out.r19
 have F2:Hid (Blk w2 w.heap.size 59 #[.int .i64 x.id,.int .i64 x.frm,.int .i64 x.to',.int .i64 x.cls,.int .i64 x.ep,.slice va vn vc]):=F1.out.ch CB.out fun e=>by have q2:=H1.out.bk.2;rw[←e,fr_new (Nat.le_refl _)]at q2;simp at q2
 have f0:w2.cell? ⟨w.heap.size,0,none⟩=some (.int .i64 x.id):=F2.out.cell 0;have EL:=Lib.hid eL;have I1:Hid (w2.ownsRow 0 3 1 (.slice la ids.length lc) ids.length (ids.flatMap cI)):=by rw[←eL];exact i1
 have I2:=Lib.hid i2;have I3:=Lib.hid i3;have KA:Hid (∀w',Below w2.heap.size w2 w'→w'.cell? ⟨b,19,none⟩=some (.slice la ids.length lc)∧w'.cell? ⟨w.heap.size,0,none⟩=some (.int .i64 x.id)):=fun w' hb=>
  ⟨(hb.cell (p:=⟨b,19,none⟩) (World.block_lt_of_cell? _ _ c19)).trans c19,(hb.cell (p:=⟨w.heap.size,0,none⟩) F2.out.lt).trans f0⟩
 clear i1 i2 i3 eL c19 f0
 go_wp2_with fail
 refine wp_region_L 11 (fun w'=>w'.cell? ⟨b,19,none⟩=some (.slice la ids.length lc)∧w'.cell? ⟨w.heap.size,0,none⟩=some (.int .i64 x.id)) (by kernel_rfl) (KA.out _ ((Below.refl _ _).drew)) (fun hHeld=>?_);refine AnyL.tk 0 hHeld ?_
 try simp only[puts]
 refine AnyL.tk 1 hHeld ?_
 try simp only[puts]
 refine AnyL.tk 2 hHeld ?_
 try simp only[puts]
 refine AnyL.tk 3 hHeld ?_
 try simp only[puts]
 refine AnyL.tk 4 hHeld ?_
 try simp only[puts]
 refine AnyL.tk 5 hHeld ?_
 try simp only[puts]
 refine AnyL.tk 6 hHeld ?_
 try simp only[puts]
 obtain⟨j0,hj0,hy0,hy1,hy2⟩:=info_parts infoIntB;have BA:Hid (∀o,Below w2.heap.size w2 (w2.alloc o).drew):=fun o=>((Below.refl _ _).alloc (Nat.le_refl _) o).drew;have RN:Hid (Reads (w2.alloc (.cells #[.int .i64 x.id] 3)).drew (w2.heap.size+1) 1 (some ⟨w2.heap.size,0,none⟩) 1 [.int .i64 x.id]):=(reads_newN w2 3 [.int .i64 x.id] (n:=1) (size:=1) rfl).drew;have OW:Hid ((w2.alloc (.cells #[.int .i64 x.id] 3)).drew.ownsRow 0 3 1 (.slice la ids.length lc) ids.length (ids.flatMap cI)):=(I1.out.alloc (.cells #[.int .i64 x.id] 3));refine AnyL.one (i:=7) (by kernel_rfl) rfl (fun K hK=>?_);go_simp;refine hK.out _ _ (fun _=>KA.out _ (BA.out _)) (fun hHeld0=>?_);have hHeld:=hHeld0 (by decide);clear hK hHeld0
 try simp only[puts]
 refine AnyL.one (i:=8) (by kernel_rfl) rfl (fun K hK=>?_);refine step_append_any _ (by rfl) (.tmp 15) (.tmp 18) 26 (by rfl) 0 3 j0 _ 1 8 Tryz.underlying26 hj0 hy0 hy1 hy2 rfl (by decide) _ _ _ (by rfl) OW.out _ (some ⟨w2.heap.size,0,none⟩) 1 1 [.int .i64 x.id] (by rfl) RN.out ?_ ?_ ?_ ?_ ?_
 ·intro u hu;simp only[List.mem_cons,List.not_mem_nil,or_false]at hu;subst hu;rfl
 ·have:=LL.out;unfold maxLen;omega
 ·have:=LL.out;omega
 ·exact Nat.zero_le _
 intro v5 w5 own5 gr5 loc5;obtain⟨P1,τ5,P2,P3⟩:=H2.out.pushLost (x:=x) (by rw[EL.out];exact I1.out) I2.out I3.out own5 (by rw[EL.out];exact⟨gr5.os,gr5.tape,gr5.output,gr5.size,gr5.block⟩) (by rw[EL.out];simpa using loc5);have HP1:=Lib.hid P1;have HP2:=Lib.hid P2;have HP3:=Lib.hid P3;obtain⟨la5,lc5,rfl⟩:=own_formN own5;have c19:w5.cell? ⟨b,19,none⟩=some (.slice la ids.length lc):=by rw[HP1.out.cell,←EL.out];rfl
 have f19:=HP1.out.frozen 19;have f0:w5.cell? ⟨w.heap.size,0,none⟩=some (.int .i64 x.id):=by
  have gr5':(w2.alloc (.cells #[.int .i64 x.id] 3)).grownBy w5 (Value.slice la ids.length lc).ownBlock:=⟨gr5.os,gr5.tape,gr5.output,gr5.size,gr5.block⟩;have h1:=(F2.out.alloc (.cells #[.int .i64 x.id] 3)).grown gr5' fun e=>by obtain⟨cs',hb⟩:=own_blk I1.out _ e.symm;exact Blk.ne_ F2.out hb (by decide) rfl
  exact h1.cell 0
 clear own5 gr5 loc5 P1 P2 P3;refine hK.out _ _ (fun _=>⟨c19,f0⟩) (fun hHeld0=>?_);have hHeld:=hHeld0 (by decide);clear hK hHeld0
 try simp only[puts]
 refine AnyL.tk 9 hHeld ?_
 try simp only[puts]
 refine AnyL.tk 10 hHeld ?_
 try simp only[puts]
 refine AnyL.one (i:=11) (by kernel_rfl) rfl (fun K hK=>?_);go_simp;refine hK.out _ _ (fun h=>absurd rfl h) (fun _=>?_);clear hK;refine AnyL.done (by kernel_rfl) ?_ _
 try simp only[puts]
 clear c19 f19 f0;have FIN:Hid (PP (w5.setCell ⟨b,19,none⟩ (.slice la5 (ids.length+1) lc5))):=by rw[Hid,←HP.out];refine⟨τ5,_,HP2.out,?_,⟨rfl⟩⟩;exact((FN4.of_below B1.out).trans ⟨CB.out.mono fun k _ e=>by unfold NoFl;rw[e,H1.out.bk.2];decide,fun _ _=>rfl⟩).trans HP3.out
 go_wp2_with fail
 exact bodyPost_end (results_none rfl _ _ _) rfl ⟨rfl,FIN.out⟩
theorem flose_any(f:Fab)(x:Fm)(v:Value)(b:Nat)(ns:List Nd)(cs:List Cb)(L:FbL)(τ:Own)(w:World)(h:FabM τ w b ns cs f L)(hs:Sane f)(h0:0≤x.ep)(h1:x.ep≤f.bnow)(hv:∃a n c,v=.slice a n c):Calls Tryz.prog 58 #[pt b,fmV x v] w fun e w'=>e=.returned (.tuple #[])∧FabPostS τ w b ns cs L (f.lose x) w':=
 (flose4_any f x v b ns cs L τ w h hs h0 h1 hv).mono fun e w' k=>⟨k.1,k.2.s⟩
end Go.Proofs.YtnjjkgjdhljfnaaGreat
namespace Go.Proofs.YtnjjkgjdhljfnaaGreat
def dlF(cs:List Cb)(c:Nat):Nat:=(cs.getD (c/2) cb0).dl.toNat
structure FlOk(cs:List Cb)(f:Fab):Prop where
 nd:∀t,((f.fl t).map (·.1)).Nodup
 due:∀t x,x∈f.fl t→t≤f.now+dlF cs x.1
structure FlP(cs:List Cb)(P:Nat→Prop)(f:Fab):Prop where
 nd:∀t,((f.fl t).map (·.1)).Nodup
 due:∀t x,x∈f.fl t→t≤f.now+dlF cs x.1
 lt:∀t x,x∈f.fl t→P x.1→t<f.now+dlF cs x.1
section
variable{ns:List Nd}{cs:List Cb}{f g:Fab}{P Q:Nat→Prop}
theorem FlP.mono(h:FlP cs P f)(hq:∀c,Q c→P c):FlP cs Q f:=⟨h.nd,h.due,fun t x hx q=>h.lt t x hx (hq _ q)⟩
theorem FlP.same(h:FlP cs P f)(e1:g.fl=f.fl)(e2:g.now=f.now):FlP cs P g:=⟨by rw[e1];exact h.nd,by rw[e1,e2];exact h.due,by rw[e1,e2];exact h.lt⟩
theorem FlOk.same(h:FlOk cs f)(e1:g.fl=f.fl)(e2:g.now=f.now):FlOk cs g:=⟨by rw[e1];exact h.nd,by rw[e1,e2];exact h.due⟩
theorem FlP.toOk(h:FlP cs P f):FlOk cs f:=⟨h.nd,h.due⟩
theorem lose_fl(f:Fab)(x:Fm):(f.lose x).fl=f.fl∧(f.lose x).now=f.now:=by unfold Fab.lose;obtain⟨_,_,_,_,_,_,_,_,h9,_,h11,_⟩:=rem_same f x.ep;exact⟨h11,h9⟩
theorem PlF.chanPort(h:PlF ns cs){u k i:Nat}(hc:cableAt cs u k=some i):chanF cs i u<2*cs.length∧(endsF cs (chanF cs i u)).1=u∧(endsF cs (chanF cs i u)).2.1=k∧chanF cs i u/2=i:=by
 obtain⟨c1,c2⟩:=cableAt_some hc;obtain⟨h1,h2,h3⟩:=h.chan c1 c2;refine⟨h1,h3,?_,h2⟩;unfold cableAt at hc;have h4:=List.find?_some hc;simp only[Bool.or_eq_true,Bool.and_eq_true,beq_iff_eq]at h4;have ab:=h.ab _ c1;have C:=h.ap _ c1;have D:=h.bp _ c1;unfold chanF;by_cases e:(cs.getD i cb0).a=(u:Int)
 ·rw[if_pos e];unfold endsF;rw[if_pos (by omega),show 2*i/2=i by omega];simp only;rcases h4 with q|q
  ·omega
  ·omega
 ·rw[if_neg e];unfold endsF;rw[if_neg (by omega),show(2*i+1)/2=i by omega];simp only;rcases h4 with q|q
  ·omega
  ·omega
def Free(cs:List Cb)(u:Nat)(ks:List Nat)(c:Nat):Prop:=((endsF cs c).1=u∧(endsF cs c).2.1∈ks)∨u<(endsF cs c).1
theorem FlP.move1(hp:PlF ns cs){u:Nat}{m:Mv}{ks:List Nat}(h:FlP cs (Free cs u (outsOf [m]++ks)) f)(hn:(outsOf [m]++ks).Nodup):FlP cs (Free cs u ks) (f.move1 cs u m):=by
 unfold Fab.move1;have mo:FlP cs (Free cs u ks) f:=h.mono fun c q=>by
  rcases q with q|q
  ·exact .inl ⟨q.1,List.mem_append_right _ q.2⟩
  ·exact .inr q
 cases hm:m.2.2.1 with
 |none=>obtain⟨e1,e2⟩:=lose_fl f m.2.2.2;exact mo.same e1 e2
 |some k=>
  have eo:outsOf [m]=[k]:=by unfold outsOf;simp[hm]
  rw[eo]at h hn;rw[List.singleton_append,List.nodup_cons]at hn;dsimp only;cases e:cableAt cs u k with
  |none=>exact mo
  |some i=>
   obtain⟨p1,p2,p3,p4⟩:=hp.chanPort e;dsimp only;have ed:dlF cs (chanF cs i u)=(cs.getD i cb0).dl.toNat:=(by unfold dlF;rw[p4]);have fresh:∀x,x∈f.fl (f.now+(cs.getD i cb0).dl.toNat)→x.1≠chanF cs i u:=fun x hx q=>(by have:=h.lt _ x hx (by rw[q];exact .inl ⟨p2,by rw[p3];simp⟩);rw[q,ed]at this;omega);refine⟨fun t=>?_,fun t x hx=>?_,fun t x hx q=>?_⟩
   ·simp only;by_cases q:t=f.now+(cs.getD i cb0).dl.toNat
    ·rw[if_pos q,List.map_append,List.nodup_append];refine⟨h.nd t,by simp,fun a ha b hb=>?_⟩;obtain⟨x,hx,rfl⟩:=List.mem_map.1 ha;simp only[List.map_cons,List.map_nil,List.mem_singleton]at hb;rw[hb];exact fresh x (by rw[←q];exact hx)
    ·rw[if_neg q];exact h.nd t
   ·simp only at hx⊢;split at hx
    ·rename_i q;rcases List.mem_append.1 hx with hx|hx
     ·exact h.due t x hx
     ·rw[List.mem_singleton]at hx;subst hx;rw[ed,q];exact Nat.le_refl _
    ·exact h.due t x hx
   ·simp only at hx⊢;split at hx
    ·rename_i q';rcases List.mem_append.1 hx with hx|hx
     ·exact mo.lt t x hx q
     ·rw[List.mem_singleton]at hx;subst hx;exfalso;rcases q with q|q
      ·simp only at q;rw[p3]at q;exact hn.1 q.2
      ·simp only at q;rw[p2]at q;omega
    ·exact mo.lt t x hx q
theorem outsOf_cons(m:Mv)(ms:List Mv):outsOf (m::ms)=outsOf [m]++outsOf ms:=by unfold outsOf;rw[←List.filterMap_append];rfl
theorem FlP.moves(hp:PlF ns cs){u:Nat}:∀(ms:List Mv) {f:Fab},FlP cs (Free cs u (outsOf ms)) f→(outsOf ms).Nodup→FlP cs (Free cs u []) (ms.foldl (Fab.move1 cs u) f)
 |[],f,h,_=>h
 |m::ms,f,h,hn=>by rw[outsOf_cons]at h hn;rw[List.foldl_cons];exact FlP.moves hp ms (h.move1 hp hn) (List.nodup_append.1 hn).2.1
theorem FlP.stepN{N u:Nat}(hp:PlF ns cs)(hok:FabOk ns cs f N)(hu:u<ns.length)(h:FlP cs (fun c=>u≤(endsF cs c).1) f):FlP cs (fun c=>u+1≤(endsF cs c).1) (f.stepN ns cs u):=by
 unfold Fab.stepN;have nd:=(step_tr (f.boxes.getD u default) (fun port x=>(f.leave ns cs u port x).map fun c=>(endsF cs c).2.1) (hok.box u hu).1).2.1;refine(FlP.moves hp _ ((h.mono fun c q=>?_).same (g:={f with boxes:=f.boxes.set u ((f.boxes.getD u default).step fun port x=>(f.leave ns cs u port x).map fun c=>(endsF cs c).2.1).1}) rfl rfl) nd).mono fun c q=>.inr q;rcases q with q|q
 ·rw[q.1];exact Nat.le_refl _
 ·exact Nat.le_of_lt q
end
end Go.Proofs.YtnjjkgjdhljfnaaGreat
namespace Go.Proofs.YtnjjkgjdhljfnaaGreat
open Go.RowKit Go.Maps
attribute [local go_sem ↓] Go.wp_at_zero Go.wp_at_succ
theorem fclass_any(n cls k:Nat)(w:World)(hn:n≤1000000000000)(hk:1≤k∧k≤4)(hc:cls<k):Calls Tryz.prog 48 #[.int .i64 n,.int .i64 cls,.int .i64 k] w fun e w'=>e=.returned (.tuple #[.int .i64 ((cls+k*(n%2):Nat):Int),.int .i64 0])∧w=w':=by
 have k1:1≤(k:Int):=by omega
 have k4:(k:Int)≤4:=by omega
 have c0:0≤(cls:Int):=by omega
 have c1:(cls:Int)<(k:Int):=by omega
 have n0:0≤(n:Int):=by omega
 rcases(show n%2=0∨n%2=1 by omega)with h|h
 ·have hm:(n:Int)%2=0:=by omega
  have E:((cls+k*(n%2):Nat):Int)=(cls:Int):=by rw[h];simp
  rw[E];clear E h
  go_enter Tryz.func48,Tryz.ntmps48
  go_wp2_with fail
  go_ret2
  exact⟨by simp,rfl⟩
 ·have hm:(n:Int)%2=1:=by omega
  have E:((cls+k*(n%2):Nat):Int)=(cls:Int)+(k:Int):=by rw[h];push_cast;simp
  rw[E];clear E h
  go_enter Tryz.func48,Tryz.ntmps48
  go_wp2_with fail
  go_ret2
  exact⟨by simp,rfl⟩
theorem FabM.scal{τ τ':Own}{w w':World}{b:Nat}{ns:List Nd}{cs:List Cb}{f f':Fab}{L:FbL}(h:FabM τ w b ns cs f L)(hc:Ch (· =b) w w')(he:∀k,k<w.heap.size→τ' k=τ k)(hb:Blk w' b 100 (fabC f' L))(e:f'={f with pend:=f'.pend,now:=f'.now,last:=f'.last}):FabM τ' w' b ns cs f' L:=by have g:=h.toG (fun k=>k=0) hc he fun k s=>.inr (by rw[s,h.root.2];exact⟨rfl,rfl⟩);rw[e];exact⟨⟨by rw[e]at hb;exact hb,g.rootT.1⟩,g.plan,g.rooms,g.cab,g.bxs,g.bx,g.up (by decide),g.r0,g.r1,⟨g.bk (by decide),g.bkT⟩,⟨g.fl (by decide) (by decide),g.flT⟩,⟨g.lim (by decide) (by decide),g.limT⟩,g.came (by decide),g.gone (by decide),g.lost (by decide)⟩
theorem portsOf_eq(n:Nd):portsOf n=portsOfN n:=rfl
theorem FabOk.sane{ns:List Nd}{cs:List Cb}{f:Fab}{N:Nat}(h:FabOk ns cs f N)(hN:N≤1000000000):Sane f:=
 ⟨by have:=h.bn;have:=h.now;omega,by have:=h.a0;omega,by have:=h.a1;omega,by have:=h.ll;omega⟩
theorem end_spec{ns:List Nd}{x:Int}(h:endF ns x=true):∃k:Nat,x=k∧k<ns.length∧(ns.getD k nd0).sw=false:=by unfold endF isSw at h;simp only[Bool.and_eq_true,Bool.not_eq_true',decide_eq_true_eq]at h;exact⟨x.toNat,by omega,by omega,h.2⟩
theorem FabM.boxc{τ:Own}{w:World}{b:Nat}{ns:List Nd}{cs:List Cb}{f:Fab}{L:FbL}(h:FabM τ w b ns cs f L){i:Nat}(hi:i<ns.length):∃g c,L.vb=.slice (some ⟨g,0,none⟩) ns.length c∧w.cell? ⟨b,5,none⟩=some (.slice (some ⟨g,0,none⟩) ns.length c)∧w.cell? ⟨g,i,none⟩=some (pt (L.bx i))∧(τ g).1=1∧g<w.heap.size:=by
 obtain⟨g,c,e,h1,_,h5,h6⟩:=h.bxs.at_ (i:=i) (by simpa using hi);refine⟨g,c,e,?_,?_,h6,h5⟩
 ·rw[←e];exact h.r19
 ·rw[h1,List.getElem?_map,List.getElem?_range hi];rfl
theorem FabM.roomc{τ:Own}{w:World}{b:Nat}{ns:List Nd}{cs:List Cb}{f:Fab}{L:FbL}(h:FabM τ w b ns cs f L){i:Nat}(hi:i<f.rooms.length):∃g c,L.vr=.slice (some ⟨g,0,none⟩) f.rooms.length c∧w.cell? ⟨b,3,none⟩=some (.slice (some ⟨g,0,none⟩) f.rooms.length c)∧w.cell? ⟨g,i,none⟩=some (.int .i64 (f.rooms.getD i 0)):=by
 obtain⟨g,c,e,h1,_,_,_⟩:=h.rooms.at_ (i:=i) (by simpa using hi);refine⟨g,c,e,?_,?_⟩
 ·rw[←e];exact h.r19
 ·rw[h1,List.getElem?_map];simp[List.getD,hi]
def InjPost(τ:Own)(w:World)(b:Nat)(ns:List Nd)(cs:List Cb)(r:Fab×Int×Int)(e:Ending)(w':World):Prop:=e=.returned (.tuple #[.int .i64 r.2.1,.int .i64 r.2.2])∧FabPost τ w b ns cs r.1 w'
section
variable(f:Fab)(frm to' cls:Int)(data:List Int)(b:Nat)(ns:List Nd)(cs:List Cb)(L:FbL)(τ:Own)(w:World)(h:FabM τ w b ns cs f L)(hp:PlF ns cs)
include h hp
theorem finject_bad(a:Option Addr)(c:Nat)(hd:data.length≤1000000000)(hb:endF ns frm=false∨endF ns to'=false∨cls<0∨(f.classes:Int)≤cls∨64<data.length):Calls Tryz.prog 14 #[pt b,.int .i64 frm,.int .i64 to',.int .i64 cls,.slice a data.length c] w (InjPost τ w b ns cs (f.inject ns frm to' cls data)):=by
 have E:f.inject ns frm to' cls data=(f,0,2):=by
  unfold Fab.inject;rw[if_pos];simp only[Bool.or_eq_true,Bool.not_eq_true',decide_eq_true_eq];rcases hb with q|q|q|q|q
  ·exact .inl (.inl (.inl (.inl q)))
  ·exact .inl (.inl (.inl (.inr q)))
  ·exact .inl (.inl (.inr q))
  ·exact .inl (.inr q)
  ·exact .inr q
 rw[E];clear E;obtain⟨An,Ac,cn,cc,hS⟩:=h.toS;have C1:=Lib.hid (fend_any frm b ns cs An Ac cn cc w hS hp);have C2:=Lib.hid (fend_any to' b ns cs An Ac cn cc w hS hp);have c2:w.cell? ⟨b,0+2,none⟩=some (.int .i64 f.classes):=h.r19;have FIN:Hid (FabPost τ w b ns cs f w):=⟨τ,L,h,FNx.refl _ _⟩;clear h hp hS;unfold pt at *;cases hb1:endF ns frm with
 |false=>
  rw[hb1]at C1;clear hb1 hb
  go_enter Tryz.func14,Tryz.ntmps14
  go_wp2_with (first
   |(go_at_call 46;((with_reducible refine C1.out.mono ?_);rintro e w' ⟨rfl,rfl⟩))
   |(go_at_call 46;((with_reducible refine C2.out.mono ?_);rintro e w' ⟨rfl,rfl⟩)))
  go_ret2
  exact⟨rfl,FIN.out⟩
 |true=>
  rw[hb1]at C1;cases hb2:endF ns to' with
  |false=>
   rw[hb2]at C2;clear hb1 hb2 hb
   go_enter Tryz.func14,Tryz.ntmps14
   go_wp2_with (first
    |(go_at_call 46;((with_reducible refine C1.out.mono ?_);rintro e w' ⟨rfl,rfl⟩))
    |(go_at_call 46;((with_reducible refine C2.out.mono ?_);rintro e w' ⟨rfl,rfl⟩)))
   go_ret2
   exact⟨rfl,FIN.out⟩
  |true=>
   rw[hb2]at C2;have hb':cls<0∨(f.classes:Int)≤cls∨64<data.length:=by
    rcases hb with q|q|q
    ·rw[hb1]at q;cases q
    ·rw[hb2]at q;cases q
    ·exact q
   clear hb1 hb2 hb;by_cases k1:cls<0
   ·have d1:decide (cls<0)=true:=decide_eq_true k1;clear hb'
    go_enter Tryz.func14,Tryz.ntmps14
    go_wp2_with (first
     |(go_at_call 46;((with_reducible refine C1.out.mono ?_);rintro e w' ⟨rfl,rfl⟩))
     |(go_at_call 46;((with_reducible refine C2.out.mono ?_);rintro e w' ⟨rfl,rfl⟩)))
    go_ret2
    exact⟨rfl,FIN.out⟩
   ·have d1:decide (cls<0)=false:=decide_eq_false k1;by_cases k2:(f.classes:Int)≤cls
    ·have d2:decide ((f.classes:Int)≤cls)=true:=decide_eq_true k2;clear hb'
     go_enter Tryz.func14,Tryz.ntmps14
     go_wp2_with (first
      |(go_at_call 46;((with_reducible refine C1.out.mono ?_);rintro e w' ⟨rfl,rfl⟩))
      |(go_at_call 46;((with_reducible refine C2.out.mono ?_);rintro e w' ⟨rfl,rfl⟩)))
     go_ret2
     exact⟨rfl,FIN.out⟩
    ·have d2:decide ((f.classes:Int)≤cls)=false:=decide_eq_false k2;have k3:64<data.length:=by omega
     have d3:decide ((64:Int)<(data.length:Int))=true:=decide_eq_true (by omega);have d4:decide (64<data.length)=true:=decide_eq_true k3;clear hb'
     go_enter Tryz.func14,Tryz.ntmps14
     go_wp2_with (first
      |(go_at_call 46;((with_reducible refine C1.out.mono ?_);rintro e w' ⟨rfl,rfl⟩))
      |(go_at_call 46;((with_reducible refine C2.out.mono ?_);rintro e w' ⟨rfl,rfl⟩)))
     go_ret2
     exact⟨rfl,FIN.out⟩
end
theorem finject_any(f:Fab)(N:Nat)(frm to' cls:Int)(data:List Int)(b:Nat)(ns:List Nd)(cs:List Cb)(L:FbL)(τ:Own)(w:World)(h:FabM τ w b ns cs f L)(hp:PlF ns cs)(hok:FabOk ns cs f N)(hN:N≤800000000)(a:Option Addr)(c:Nat)(hd:data.length≤1000000000)(hdat:data.length≤64→IsDat τ w data (.slice a data.length c)):Calls Tryz.prog 14 #[pt b,.int .i64 frm,.int .i64 to',.int .i64 cls,.slice a data.length c] w (InjPost τ w b ns cs (f.inject ns frm to' cls data)):=by
 by_cases hbad:endF ns frm=false∨endF ns to'=false∨cls<0∨(f.classes:Int)≤cls∨64<data.length
 ·exact finject_bad f frm to' cls data b ns cs L τ w h hp a c hd hbad
 simp only[not_or,Bool.not_eq_false,Int.not_lt,Int.not_le]at hbad;obtain⟨e1,e2,k0,k1,k2⟩:=hbad;have hdat:=hdat (by omega);obtain⟨u,rfl,hu,su⟩:=end_spec e1;obtain⟨v,rfl,hv,sv⟩:=end_spec e2;obtain⟨kc,rfl⟩:∃n:Nat,cls=n:=⟨cls.toNat,by omega⟩;have EV:f.inject ns (u:Int) (v:Int) (kc:Int) data=if(u:Int)=(v:Int)then((f,0,12):Fab×Int×Int)else
  (let vc:=kc+f.classes*(f.bnow%2)
  if f.rooms.getD vc 0≤(get2 (f.boxes.getD u default).q 1 vc).length then(f,0,5)
  else
   let x:Fm:=⟨f.last+1,u,v,vc,f.bnow,data⟩;let r:=(f.boxes.getD u default).arrive 1 x
   if r.2 then({f.addAl f.bnow 1 with boxes:=f.boxes.set u r.1,last:=f.last+1},(f.last:Int)+1,0)else({f with boxes:=f.boxes.set u r.1},0,5)):=by
  unfold Fab.inject;rw[if_neg]
  ·simp only[Int.toNat_natCast]
  ·simp only[e1,e2,Bool.not_true,Bool.false_or,Bool.or_eq_true,decide_eq_true_eq];omega
 obtain⟨An,Ac,cn,cc,hS⟩:=h.toS;have C1:=Lib.hid (fend_any u b ns cs An Ac cn cc w hS hp);have C2:=Lib.hid (fend_any v b ns cs An Ac cn cc w hS hp);rw[e1]at C1;rw[e2]at C2;have c2:w.cell? ⟨b,0+2,none⟩=some (.int .i64 f.classes):=h.r19;have d1:decide ((kc:Int)<0)=false:=decide_eq_false (by omega);have d2:decide ((f.classes:Int)≤(kc:Int))=false:=decide_eq_false (by omega);have d3:decide ((64:Int)<(data.length:Int))=false:=decide_eq_false (by omega);have d4:decide (64<data.length)=false:=decide_eq_false (by omega);have H:=Lib.hid h;have OK:=Lib.hid hok;have PL:=Lib.hid hp;clear h hok hp hS e1 e2;by_cases huv:u=v
 ·subst huv;rw[EV,if_pos rfl];clear EV;have FIN:Hid (FabPost τ w b ns cs f w):=⟨τ,L,H.out,FNx.refl _ _⟩;unfold pt at *
  go_enter Tryz.func14,Tryz.ntmps14
  go_wp2_with (first|(go_at_call 46;((with_reducible refine C1.out.mono ?_);rintro e w' ⟨rfl,rfl⟩)))
  go_ret2
  exact⟨rfl,FIN.out⟩
 rw[EV,if_neg (by omega)];clear EV;obtain⟨vc,hvc⟩:∃vc,kc+f.classes*(f.bnow%2)=vc:=⟨_,rfl⟩;have vlt:vc<f.rooms.length:=by rw[OK.out.rl,←hvc];rcases(show f.bnow%2=0∨f.bnow%2=1 by omega)with q|q<;>rw[q]<;>omega
 have CLS:=Lib.hid (fclass_any f.bnow kc f.classes w (by have:=OK.out.bn;have:=OK.out.now;omega) ⟨OK.out.k0,OK.out.k1⟩ (by omega));have NOW:=Lib.hid (now_any L.bk f.bnow f.al0 f.al1 w H.out.bk.1);have c11:w.cell? ⟨b,11,none⟩=some (.pointer (some ⟨L.bk,0,none⟩)):=H.out.r19;simp only;rw[hvc]at CLS⊢;clear hvc;obtain⟨gb,cb,eb,c5,cbx,tgb,lgb⟩:=H.out.boxc hu;obtain⟨gr,cr,er,c3,crm⟩:=H.out.roomc vlt;unfold pt at cbx;have BXO:=OK.out.box u hu;have P2:portsOfN (ns.getD u nd0)=2:=by unfold portsOfN;rw[if_neg (by rw[su];simp)]
 have QC:Hid (∀w',Below w.heap.size w w'→Calls Tryz.prog 49 #[.pointer (some ⟨L.bx u,0,none⟩),.int .i64 1,.int .i64 vc] w' (QCopy (get2 (f.boxes.getD u default).q 1 vc) w')):=fun w' hb=>
  bqueue_any 1 vc N τ (3+u) w' (L.bx u) _ _ ((H.out.bx u hu).below hb) BXO.1 (by rw[BXO.2.1,P2];omega) (by rw[BXO.2.2];exact vlt)
 have KP:Hid (∀w',Below w.heap.size w w'→w'.cell? ⟨b,5,none⟩=some (.slice (some ⟨gb,0,none⟩) ns.length cb)∧w'.cell? ⟨gb,u,none⟩=some (.pointer (some ⟨L.bx u,0,none⟩))∧w'.cell? ⟨b,3,none⟩=some (.slice (some ⟨gr,0,none⟩) f.rooms.length cr)∧w'.cell? ⟨gr,vc,none⟩=some (.int .i64 (f.rooms.getD vc 0))):=fun w' hb=>
  ⟨(hb.cell (p:=⟨b,5,none⟩) (World.block_lt_of_cell? _ _ c5)).trans c5,(hb.cell (p:=⟨gb,u,none⟩) (World.block_lt_of_cell? _ _ cbx)).trans cbx,(hb.cell (p:=⟨b,3,none⟩) (World.block_lt_of_cell? _ _ c3)).trans c3,(hb.cell (p:=⟨gr,vc,none⟩) (World.block_lt_of_cell? _ _ crm)).trans crm⟩
 have u0:(0:Int)≤(u:Int):=by omega
 have u1:(u:Int)<(ns.length:Int):=by omega
 have v0:(0:Int)≤(vc:Int):=by omega
 have v1:(vc:Int)<(f.rooms.length:Int):=by omega
 have huv':((u:Int)==(v:Int))=false:=by rw[beq_eq_false_iff_ne];omega
 have huv2:¬(u:Int)=(v:Int):=by omega
 have QL:=Lib.hid (BXO.1.qlen (p:=1) (c:=vc) (by rw[BXO.2.1,P2];omega) (by rw[BXO.2.2];exact vlt));clear eb er c5 cbx c3 crm su sv BXO;by_cases hfull:f.rooms.getD vc 0≤((get2 (f.boxes.getD u default).q 1 vc).length:Int)
 ·rw[if_pos hfull];generalize get2 (f.boxes.getD u default).q 1 vc=q at *;generalize f.rooms.getD vc 0=rm at *;have FIN:Hid (∀w',Below w.heap.size w w'→FabPost τ w b ns cs f w'):=fun w' hb=>⟨_,L,H.out.below hb,FNx.of_below hb⟩;unfold pt at *
  go_enter Tryz.func14,Tryz.ntmps14
  go_wp2_with (first
   |(go_at_call 46;((with_reducible refine C1.out.mono ?_);rintro e w' ⟨rfl,rfl⟩))
   |(go_at_call 46;((with_reducible refine C2.out.mono ?_);rintro e w' ⟨rfl,rfl⟩))
   |(go_at_call 47;refine NOW.out.mono ?_;rintro e w' ⟨rfl,rfl⟩)
   |(go_at_call 48;refine CLS.out.mono ?_;rintro e w' ⟨rfl,rfl⟩))
  go_region_held3 (fun w'=>w'.cell? ⟨b,5,none⟩=some (.slice (some ⟨gb,0,none⟩) ns.length cb)∧w'.cell? ⟨gb,u,none⟩=some (.pointer (some ⟨L.bx u,0,none⟩))∧w'.cell? ⟨b,3,none⟩=some (.slice (some ⟨gr,0,none⟩) f.rooms.length cr)∧w'.cell? ⟨gr,vc,none⟩=some (.int .i64 rm))
   (first|exact KP.out _ (Below.refl _ _).drew|exact KP.out _ BQ.out)
   (first|(go_at_call 49;refine(QC.out _ (Below.refl _ _).drew).mono ?_;rintro e wq ⟨vq,Q,rfl,hQ,ow,bq⟩;have OW:=Lib.hid ow;have HQ:=Lib.hid hQ;have BQ:Hid (Below w.heap.size w wq):=(show Below w.heap.size w wq from⟨bq.os,bq.tape,bq.output,bq.size,bq.block⟩);obtain⟨qa,qc,rfl⟩:=own_formN ow;have d5:decide (rm≤(Q.length:Int))=true:=decide_eq_true (by have e:=congrArg List.length hQ;rw[List.length_map]at e;omega);clear bq ow hQ))
  go_wp2_with fail
  go_ret2
  exact⟨rfl,FIN.out _ BQ.out⟩
 ·rw[if_neg hfull];generalize get2 (f.boxes.getD u default).q 1 vc=q at *;generalize f.rooms.getD vc 0=rm at *;unfold pt at *;have c14:w.cell? ⟨b,14,none⟩=some (.int .i64 f.last):=H.out.r19;have KL:Hid (∀w',Below w.heap.size w w'→w'.cell? ⟨b,14,none⟩=some (.int .i64 f.last)):=fun w' hb=>(hb.cell (p:=⟨b,14,none⟩) (World.block_lt_of_cell? _ _ c14)).trans c14;have q1:IntKind.i64.wrap ((f.last:Int)+1)=(f.last:Int)+1:=IntWalk.i64_in _ (by have:=OK.out.last;omega);obtain⟨⟨X',ok⟩,hRA⟩:∃RA,(f.boxes.getD u default).arrive 1 ⟨(f.last:Int)+1,u,v,vc,f.bnow,data⟩=RA:=⟨_,rfl⟩;rw[hRA];have X7:Hid (∀w1,Below w.heap.size w w1→∀w2,Ch (fun k=>(fr τ w.heap.size k).1=3+u) w1 w2→w2.cell? ⟨b,5,none⟩=some (.slice (some ⟨gb,0,none⟩) ns.length cb)∧w2.cell? ⟨gb,u,none⟩=some (.pointer (some ⟨L.bx u,0,none⟩))):=fun w1 h1 w2 h2=>by
   have hb:=H.out.root;obtain⟨k1,k2,_⟩:=KP.out w1 h1;refine⟨(h2.cell (p:=⟨b,5,none⟩) (Nat.lt_of_lt_of_le hb.1.lt h1.size) (fun q=>by simp only at q;rw[fr_old hb.1.lt,hb.2]at q;simp at q;omega)).trans k1,(h2.cell (p:=⟨gb,u,none⟩) (Nat.lt_of_lt_of_le lgb h1.size) (fun q=>by simp only at q;rw[fr_old lgb,tgb]at q;omega)).trans k2⟩
  cases ok
  ·simp only[Bool.false_eq_true,if_false];generalize hPST:InjPost τ w b ns cs _=PST
   go_enter Tryz.func14,Tryz.ntmps14
   go_wp2_with (first
    |(go_at_call 46;((with_reducible refine C1.out.mono ?_);rintro e w' ⟨rfl,rfl⟩))
    |(go_at_call 46;((with_reducible refine C2.out.mono ?_);rintro e w' ⟨rfl,rfl⟩))
    |(go_at_call 47;refine NOW.out.mono ?_;rintro e w' ⟨rfl,rfl⟩)
    |(go_at_call 48;refine CLS.out.mono ?_;rintro e w' ⟨rfl,rfl⟩))
   go_region_held3 (fun w'=>w'.cell? ⟨b,5,none⟩=some (.slice (some ⟨gb,0,none⟩) ns.length cb)∧w'.cell? ⟨gb,u,none⟩=some (.pointer (some ⟨L.bx u,0,none⟩))∧w'.cell? ⟨b,3,none⟩=some (.slice (some ⟨gr,0,none⟩) f.rooms.length cr)∧w'.cell? ⟨gr,vc,none⟩=some (.int .i64 rm))
    (first|exact KP.out _ (Below.refl _ _).drew|exact KP.out _ BQ.out)
    (first|(go_at_call 49;refine(QC.out _ (Below.refl _ _).drew).mono ?_;rintro e wq ⟨vq,Q,rfl,hQ,ow,bq⟩;have OW:=Lib.hid ow;have HQ:=Lib.hid hQ;have BQ:Hid (Below w.heap.size w wq):=(show Below w.heap.size w wq from⟨bq.os,bq.tape,bq.output,bq.size,bq.block⟩);obtain⟨qa,qc,rfl⟩:=own_formN ow;have d5:decide (rm≤(Q.length:Int))=false:=decide_eq_false (by have e:=congrArg List.length hQ;rw[List.length_map]at e;omega);have ll:=KL.out _ BQ.out;clear bq ow hQ))
   clear C1 C2 NOW CLS QC c2 c11 c14 d1 d2 d3 d4;obtain⟨kp1,kp2,kp3,kp4⟩:=KP.out _ BQ.out
   go_wp2_with fail
   obtain⟨wf,hwf⟩:∃wf,wq.alloc (.cells #[.int .i64 ((f.last:Int)+1),.int .i64 u,.int .i64 v,.int .i64 vc,.int .i64 f.bnow,.slice a data.length c] 59)=wf:=⟨_,rfl⟩;rw[hwf];have BF:Hid (Below w.heap.size w wf):=(by rw[←hwf];exact BQ.out.alloc BQ.out.size _);have FB:Hid (Blk wf wq.heap.size 59 #[.int .i64 ((f.last:Int)+1),.int .i64 u,.int .i64 v,.int .i64 vc,.int .i64 f.bnow,.slice a data.length c]):=(by rw[←hwf];exact Blk.new wq _ _);have H1:Hid (FabM (fr τ w.heap.size) wf.drew b ns cs f L):=(H.out.below BF.out).drew;have DT:IsDat (fr τ w.heap.size) wf.drew data (.slice a data.length c):=(hdat.chE (Ch.of_below (S:=fun _=>False) BF.out.drew) (fun _ hk=>fr_old hk) (fun _ q=>q.elim));have BX:=OK.out.box u hu;have AC:Hid (Calls Tryz.prog 50 #[.pointer (some ⟨L.bx u,0,none⟩),.int .i64 1,.agg #[.int .i64 ((f.last:Int)+1),.int .i64 u,.int .i64 v,.int .i64 vc,.int .i64 f.bnow,.slice a data.length c]] wf.drew fun e w'=>e=.returned (.int .i64 5)∧BxPost (fr τ w.heap.size) (3+u) wf.drew (L.bx u) X' (L.bxl u) w'):=(by have h:=barrive_any 1 N ⟨(f.last:Int)+1,u,v,vc,f.bnow,data⟩ (.slice a data.length c) (fr τ w.heap.size) (3+u) wf.drew (L.bx u) _ _ (H1.out.bx u hu) (by omega) BX.1 (by omega) (by rw[BX.2.1,P2];omega) (by simp only;omega) (by rw[BX.2.2];simpa using vlt) DT;rw[hRA]at h;exact h);have KQ:Hid (∀w2,Ch (fun k=>(fr τ w.heap.size k).1=3+u) wf w2→w2.cell? ⟨b,5,none⟩=some (.slice (some ⟨gb,0,none⟩) ns.length cb)∧w2.cell? ⟨gb,u,none⟩=some (.pointer (some ⟨L.bx u,0,none⟩))∧w2.cell? ⟨wq.heap.size,0,none⟩=some (.int .i64 ((f.last:Int)+1))∧w2.cell? ⟨wq.heap.size,1,none⟩=some (.int .i64 u)∧w2.cell? ⟨wq.heap.size,2,none⟩=some (.int .i64 v)∧w2.cell? ⟨wq.heap.size,3,none⟩=some (.int .i64 vc)∧w2.cell? ⟨wq.heap.size,4,none⟩=some (.int .i64 f.bnow)∧w2.cell? ⟨wq.heap.size,5,none⟩=some (.slice a data.length c)):=fun w2 h2=>(by obtain⟨k1,k2⟩:=X7.out wf BF.out w2 h2;have k3:Blk w2 wq.heap.size 59 _:=FB.out.ch h2 fun q=>(by rw[fr_new BQ.out.size]at q;simp at q;omega);exact⟨k1,k2,k3.cell 0,k3.cell 1,k3.cell 2,k3.cell 3,k3.cell 4,k3.cell 5⟩);clear BX DT kp1 kp2 kp3 kp4 ll hwf
   go_region_held3 (fun w2=>w2.cell? ⟨b,5,none⟩=some (.slice (some ⟨gb,0,none⟩) ns.length cb)∧w2.cell? ⟨gb,u,none⟩=some (.pointer (some ⟨L.bx u,0,none⟩))∧w2.cell? ⟨wq.heap.size,0,none⟩=some (.int .i64 ((f.last:Int)+1))∧w2.cell? ⟨wq.heap.size,1,none⟩=some (.int .i64 u)∧w2.cell? ⟨wq.heap.size,2,none⟩=some (.int .i64 v)∧w2.cell? ⟨wq.heap.size,3,none⟩=some (.int .i64 vc)∧w2.cell? ⟨wq.heap.size,4,none⟩=some (.int .i64 f.bnow)∧w2.cell? ⟨wq.heap.size,5,none⟩=some (.slice a data.length c))
    (first|exact KQ.out _ (Ch.refl _ wf).drew|exact KQ.out _ ((Ch.refl _ wf).drew.trans N2.out.ch fun _ _ e=>e))
    (first|(go_at_call 50;refine AC.out.mono ?_;rintro e w2 ⟨rfl,τ2,L2,m2,n2⟩;have M2:=Lib.hid m2;have N2:=Lib.hid n2;clear m2 n2))
   have MB:=Lib.hid (H1.out.box hu OK.out.bl N2.out M2.out);have FN2:Hid (FNx τ w τ2 w2):=(FNx.of_below BF.out.drew).trans (FNx.of_nx N2.out (by omega));clear KQ AC X7 KP KL
   go_wp2_with fail
   rw[←hPST];exact⟨rfl,τ2,_,MB.out,FN2.out⟩
  ·simp only[if_true];generalize hPST:InjPost τ w b ns cs _=PST
   go_enter Tryz.func14,Tryz.ntmps14
   go_wp2_with (first
    |(go_at_call 46;((with_reducible refine C1.out.mono ?_);rintro e w' ⟨rfl,rfl⟩))
    |(go_at_call 46;((with_reducible refine C2.out.mono ?_);rintro e w' ⟨rfl,rfl⟩))
    |(go_at_call 47;refine NOW.out.mono ?_;rintro e w' ⟨rfl,rfl⟩)
    |(go_at_call 48;refine CLS.out.mono ?_;rintro e w' ⟨rfl,rfl⟩))
   go_region_held3 (fun w'=>w'.cell? ⟨b,5,none⟩=some (.slice (some ⟨gb,0,none⟩) ns.length cb)∧w'.cell? ⟨gb,u,none⟩=some (.pointer (some ⟨L.bx u,0,none⟩))∧w'.cell? ⟨b,3,none⟩=some (.slice (some ⟨gr,0,none⟩) f.rooms.length cr)∧w'.cell? ⟨gr,vc,none⟩=some (.int .i64 rm))
    (first|exact KP.out _ (Below.refl _ _).drew|exact KP.out _ BQ.out)
    (first|(go_at_call 49;refine(QC.out _ (Below.refl _ _).drew).mono ?_;rintro e wq ⟨vq,Q,rfl,hQ,ow,bq⟩;have OW:=Lib.hid ow;have HQ:=Lib.hid hQ;have BQ:Hid (Below w.heap.size w wq):=(show Below w.heap.size w wq from⟨bq.os,bq.tape,bq.output,bq.size,bq.block⟩);obtain⟨qa,qc,rfl⟩:=own_formN ow;have d5:decide (rm≤(Q.length:Int))=false:=decide_eq_false (by have e:=congrArg List.length hQ;rw[List.length_map]at e;omega);have ll:=KL.out _ BQ.out;clear bq ow hQ))
   clear C1 C2 NOW CLS QC c2 c11 c14 d1 d2 d3 d4;obtain⟨kp1,kp2,kp3,kp4⟩:=KP.out _ BQ.out
   go_wp2_with fail
   obtain⟨wf,hwf⟩:∃wf,wq.alloc (.cells #[.int .i64 ((f.last:Int)+1),.int .i64 u,.int .i64 v,.int .i64 vc,.int .i64 f.bnow,.slice a data.length c] 59)=wf:=⟨_,rfl⟩;rw[hwf];have BF:Hid (Below w.heap.size w wf):=(by rw[←hwf];exact BQ.out.alloc BQ.out.size _);have FB:Hid (Blk wf wq.heap.size 59 #[.int .i64 ((f.last:Int)+1),.int .i64 u,.int .i64 v,.int .i64 vc,.int .i64 f.bnow,.slice a data.length c]):=(by rw[←hwf];exact Blk.new wq _ _);have H1:Hid (FabM (fr τ w.heap.size) wf.drew b ns cs f L):=(H.out.below BF.out).drew;have DT:IsDat (fr τ w.heap.size) wf.drew data (.slice a data.length c):=(hdat.chE (Ch.of_below (S:=fun _=>False) BF.out.drew) (fun _ hk=>fr_old hk) (fun _ q=>q.elim));have BX:=OK.out.box u hu;have AC:Hid (Calls Tryz.prog 50 #[.pointer (some ⟨L.bx u,0,none⟩),.int .i64 1,.agg #[.int .i64 ((f.last:Int)+1),.int .i64 u,.int .i64 v,.int .i64 vc,.int .i64 f.bnow,.slice a data.length c]] wf.drew fun e w'=>e=.returned (.int .i64 0)∧BxPost (fr τ w.heap.size) (3+u) wf.drew (L.bx u) X' (L.bxl u) w'):=(by have h:=barrive_any 1 N ⟨(f.last:Int)+1,u,v,vc,f.bnow,data⟩ (.slice a data.length c) (fr τ w.heap.size) (3+u) wf.drew (L.bx u) _ _ (H1.out.bx u hu) (by omega) BX.1 (by omega) (by rw[BX.2.1,P2];omega) (by simp only;omega) (by rw[BX.2.2];simpa using vlt) DT;rw[hRA]at h;exact h);have KQ:Hid (∀w2,Ch (fun k=>(fr τ w.heap.size k).1=3+u) wf w2→w2.cell? ⟨b,5,none⟩=some (.slice (some ⟨gb,0,none⟩) ns.length cb)∧w2.cell? ⟨gb,u,none⟩=some (.pointer (some ⟨L.bx u,0,none⟩))∧w2.cell? ⟨wq.heap.size,0,none⟩=some (.int .i64 ((f.last:Int)+1))∧w2.cell? ⟨wq.heap.size,1,none⟩=some (.int .i64 u)∧w2.cell? ⟨wq.heap.size,2,none⟩=some (.int .i64 v)∧w2.cell? ⟨wq.heap.size,3,none⟩=some (.int .i64 vc)∧w2.cell? ⟨wq.heap.size,4,none⟩=some (.int .i64 f.bnow)∧w2.cell? ⟨wq.heap.size,5,none⟩=some (.slice a data.length c)):=fun w2 h2=>(by obtain⟨k1,k2⟩:=X7.out wf BF.out w2 h2;have k3:Blk w2 wq.heap.size 59 _:=FB.out.ch h2 fun q=>(by rw[fr_new BQ.out.size]at q;simp at q;omega);exact⟨k1,k2,k3.cell 0,k3.cell 1,k3.cell 2,k3.cell 3,k3.cell 4,k3.cell 5⟩);clear BX DT kp1 kp2 kp3 kp4 ll hwf
   go_region_held3 (fun w2=>w2.cell? ⟨b,5,none⟩=some (.slice (some ⟨gb,0,none⟩) ns.length cb)∧w2.cell? ⟨gb,u,none⟩=some (.pointer (some ⟨L.bx u,0,none⟩))∧w2.cell? ⟨wq.heap.size,0,none⟩=some (.int .i64 ((f.last:Int)+1))∧w2.cell? ⟨wq.heap.size,1,none⟩=some (.int .i64 u)∧w2.cell? ⟨wq.heap.size,2,none⟩=some (.int .i64 v)∧w2.cell? ⟨wq.heap.size,3,none⟩=some (.int .i64 vc)∧w2.cell? ⟨wq.heap.size,4,none⟩=some (.int .i64 f.bnow)∧w2.cell? ⟨wq.heap.size,5,none⟩=some (.slice a data.length c))
    (first|exact KQ.out _ (Ch.refl _ wf).drew|exact KQ.out _ ((Ch.refl _ wf).drew.trans N2.out.ch fun _ _ e=>e))
    (first|(go_at_call 50;refine AC.out.mono ?_;rintro e w2 ⟨rfl,τ2,L2,m2,n2⟩;have M2:=Lib.hid m2;have N2:=Lib.hid n2;clear m2 n2))
   have MB:=Lib.hid (H1.out.box hu OK.out.bl N2.out M2.out);have FN2:Hid (FNx τ w τ2 w2):=(FNx.of_below BF.out.drew).trans (FNx.of_nx N2.out (by omega));clear KQ AC X7 KP KL;have c11:w2.cell? ⟨b,11,none⟩=some (.pointer (some ⟨L.bk,0,none⟩)):=MB.out.r19;have IJ:=Lib.hid (inject_ok L.bk f.bnow f.al0 f.al1 w2 MB.out.bk.1 (by omega) (by have:=OK.out.a0;omega) (by have:=OK.out.a0;omega) (by have:=OK.out.a1;omega) (by have:=OK.out.a1;omega));have AA:∀w3,Bk w3 L.bk f.bnow (upX f.bnow f.al0 1) (upY f.bnow f.al1 1)→w2.grownBy w3 (some L.bk)→FabM τ2 w3 b ns cs {(f.addAl f.bnow 1)with boxes:=f.boxes.set u X'} {L with bxl:=fun j=>if j=u then L2 else L.bxl j}∧FNx τ2 w2 τ2 w3:=fun w3 hb hg=>by
    have hc:Ch (· =L.bk) w2 w3:=⟨hg.os,hg.tape,hg.output,hg.size,fun k hk hn=>hg.block k hk fun q=>hn (by injection q)⟩;refine⟨MB.out.book hc (fun _ _=>rfl) ?_ ?_,⟨hc.mono fun k _ e=>?_,fun _ _=>rfl⟩⟩
    ·unfold upX upY at hb;unfold Fab.addAl;by_cases hm:(f.bnow:Int)%2=0
     ·rw[if_pos hm,if_pos hm]at hb;rw[if_pos hm];exact hb
     ·rw[if_neg hm,if_neg hm]at hb;rw[if_neg hm];exact hb
    ·unfold Fab.addAl;split<;>rfl
    ·have:=MB.out.bk.2;simp only at this;rw[e,this];decide
   have AA:=Lib.hid AA;have SC:Hid (∀w3,Bk w3 L.bk f.bnow (upX f.bnow f.al0 1) (upY f.bnow f.al1 1)→w2.grownBy w3 (some L.bk)→w3.cell? ⟨b,14,none⟩=some (.int .i64 f.last)∧w3.frozen? ⟨b,14,none⟩=false∧(w3.setCell ⟨b,14,none⟩ (.int .i64 ((f.last:Int)+1))).cell? ⟨b,14,none⟩=some (.int .i64 ((f.last:Int)+1))∧FabPost τ w b ns cs {(f.addAl f.bnow 1)with boxes:=f.boxes.set u X',last:=f.last+1} (w3.setCell ⟨b,14,none⟩ (.int .i64 ((f.last:Int)+1)))):=fun w3 hb hg=>by
    obtain⟨m3,n3⟩:=AA.out w3 hb hg;have lst:(f.addAl (f.bnow:Int) 1).last=f.last:=by unfold Fab.addAl;split<;>rfl
    have r3:=m3.root.1;have ch:Ch (· =b) w3 (w3.setCell ⟨b,14,none⟩ (.int .i64 ((f.last:Int)+1))):=(Ch.refl (· =b) w3).setCell (p:=⟨b,14,none⟩) (.inl rfl) _;have r4:=r3.set_ 14 (.int .i64 ((f.last:Int)+1));refine⟨by have:=r3.cell 14;rw[this];simp[fabC,lst],r3.frozen 14,by have:=r4.cell 14;rw[this];simp[fabC],τ2,_,m3.scal ch (fun _ _=>rfl) ?_ ?_,(FN2.out.trans n3).trans ⟨ch.mono fun k _ e=>?_,fun _ _=>rfl⟩⟩
    ·have e:(fabC {(f.addAl f.bnow 1)with boxes:=f.boxes.set u X'} {L with bxl:=fun j=>if j=u then L2 else L.bxl j}).setIfInBounds 14 (.int .i64 ((f.last:Int)+1))=fabC {(f.addAl f.bnow 1)with boxes:=f.boxes.set u X',last:=f.last+1} {L with bxl:=fun j=>if j=u then L2 else L.bxl j}:=by
      unfold fabC;simp
     rw[←e];exact r4
    ·rfl
    ·rw[e,m3.root.2];decide
   go_wp2_with (first|(go_at_call 51;refine IJ.out.mono ?_;rintro e w3 ⟨rfl,hb3,hg3⟩;obtain⟨s1,s2,s3,s4⟩:=SC.out w3 hb3 hg3;have S4:=Lib.hid s4;clear s4 hb3 hg3))
   rw[←hPST];exact⟨rfl,S4.out⟩
end Go.Proofs.YtnjjkgjdhljfnaaGreat
namespace Go.Proofs.YtnjjkgjdhljfnaaGreat
open Go.RowKit Go.Maps
theorem nodup_lenF{α:Type}[DecidableEq α]{C S:List α}(h:C.Nodup)(hs:∀x∈C,x∈S):C.length≤S.length:=by
 induction C generalizing S with
 |nil=>simp
 |cons a C ih=>rw[List.nodup_cons]at h;have h1:=ih (S:=S.erase a) h.2 fun x hx=>(List.mem_erase_of_ne (fun e=>h.1 (by rw[←e];exact hx))).2 (hs x (List.mem_cons_of_mem _ hx));have h2:=List.length_erase_of_mem (hs a (List.mem_cons_self ..));have h3:=List.length_pos_of_mem (hs a (List.mem_cons_self ..));simp only[List.length_cons];omega
theorem OMap.tight{w:World}{b n H:Nat}{M:Lit→Option Value}(h:OMap w Tryz.prog 3 b n M)(hk:∀l v,M l=some v→∃t:Nat,l=.int .i64 t∧t≤H):OMap w Tryz.prog 3 b (H+1) M:=by
 obtain⟨D,h,h2⟩:=h;have sz:size D≤H+1:=by
  obtain⟨es,hD,hpw,hkl⟩:=h.entries (int_keyed Tryz.underlying3);subst hD;rw[size_eq];have nd:(es.map (·.1)).Nodup:=List.pairwise_map.2 hpw;have sub:∀l∈es.map (·.1),l∈(List.range (H+1)).map fun t:Nat=>(Lit.int .i64 (t:Int)):=fun l hl=>by have e1:has (.map es) l=true:=(by rw[has_eq,List.any_eq_true];obtain⟨p,hp,rfl⟩:=List.mem_map.1 hl;exact⟨p,hp,WideAt.sameKey_self (hkl p hp)⟩);rw[(h2 l).1]at e1;obtain⟨v,hv⟩:=Option.isSome_iff_exists.1 e1;obtain⟨t,rfl,ht⟩:=hk l v hv;exact List.mem_map.2 ⟨t,List.mem_range.2 (by omega),rfl⟩
  have:=@nodup_lenF Lit (fun a b=>Classical.propDecidable _) _ _ nd sub;simpa using this
 obtain⟨es,clock,hb,F,hs,hD⟩:=h;refine⟨D,⟨es,clock,hb,F,?_,hD⟩,h2⟩;have e1:=sz;rw[hD,size_eq,length_sorted,List.length_map,Array.length_toList]at e1;exact e1
def FabPostL(τ:Own)(w:World)(b:Nat)(ns:List Nd)(cs:List Cb)(L:FbL)(f':Fab)(w':World):Prop:=∃τ',FabM τ' w' b ns cs f' L∧FNx τ w τ' w'
def tickV(M:Lit→Option Value)(t:Nat):Value:=(M (.int .i64 (t:Nat))).getD (.slice none 0 0)
theorem lit_nat{t u:Nat}:(Lit.int .i64 (t:Int))=.int .i64 (u:Int)↔t=u:=by
 constructor
 ·intro h;injection h with _ h;omega
 ·rintro rfl;rfl
theorem TickM.put{α:Type}{w3:World}{bm n due:Nat}{fl fl':Nat→List α}{P':Nat→Value→List α→Prop}{M:Lit→Option Value}{v':Value}(h3:∀l v,M l=some v→∃t:Nat,l=.int .i64 t∧t≤900000000)(h4:∀t,M (.int .i64 (t:Nat))=none→fl t=[])(hd:due≤900000000)(om:OMap w3 Tryz.prog 3 bm n (putM M (.int .i64 due) v'))(hp:P' due v' (fl' due))(ho:∀t,t≠due→fl' t=fl t)(h5:∀t v,t≠due→M (.int .i64 (t:Nat))=some v→P' t v (fl t)):TickM w3 bm fl' P':=by
 have kl:WideAt.IsKeyLit (.int .i64 (due:Int)):=trivial;have p1:putM M (.int .i64 due) v' (.int .i64 due)=some v':=by unfold putM;rw[if_pos (WideAt.sameKey_self kl)]
 have p2:∀l,l≠.int .i64 (due:Nat)→putM M (.int .i64 due) v' l=M l:=fun l e=>by unfold putM;rw[if_neg (by rw[WideAt.sameKey_iff kl];exact e)]
 have h3':∀l v,putM M (.int .i64 due) v' l=some v→∃t:Nat,l=.int .i64 t∧t≤900000000:=fun l v hv=>by
  rcases Classical.em (l=.int .i64 (due:Nat))with e|e
  ·exact⟨due,e,hd⟩
  ·rw[p2 l e]at hv;exact h3 l v hv
 refine⟨900000000+1,_,om.tight h3',by omega,h3',fun t ht=>?_,fun t v hv=>?_⟩
 ·by_cases e:t=due
  ·subst e;rw[p1]at ht;cases ht
  ·rw[p2 _ (fun q=>e (lit_nat.1 q))]at ht;rw[ho t e];exact h4 t ht
 ·by_cases e:t=due
  ·subst e;rw[p1]at hv;injection hv with hv;subst hv;exact hp
  ·rw[p2 _ (fun q=>e (lit_nat.1 q))]at hv;rw[ho t e];exact h5 t v e hv
theorem ArrM.cellOf{τ:Own}{w:World}{t:TypeId}{T:Tg→Prop}{v:Value}{xs:List Value}{n g c i:Nat}(h:ArrM τ w t T v n xs)(e:v=.slice (some ⟨g,0,none⟩) n c)(hi:i<xs.length):w.cell? ⟨g,i,none⟩=xs[i]?:=by obtain⟨g',c',e',k,_⟩:=h.at_ hi;rw[e]at e';injection e' with e1;injection e1 with e1;injection e1 with e1;subst e1;exact k
theorem ArrM.atHead{τ:Own}{w:World}{t:TypeId}{T:Tg→Prop}{v:Value}{xs:List Value}{n:Nat}(h:ArrM τ w t T v n xs)(hi:0<xs.length):∃g c,v=.slice (some ⟨g,0,none⟩) n c:=by obtain⟨g,c,e,_⟩:=h.at_ hi;exact⟨g,c,e⟩
section
variable{τ:Own}{w:World}{b:Nat}{ns:List Nd}{cs:List Cb}{f:Fab}{L:FbL}
theorem FabM.limAt(h:FabM τ w b ns cs f L)(due:Nat):∃(n:Nat) (M:Lit→Option Value),OMap w Tryz.prog 3 L.ml n M∧n≤1000000000∧NotM w (tickV M due) (f.lim due)∧(∀g,(tickV M due).ownBlock=some g→τ g=(2,6,due,0))∧(∀(w' w2 w3:World) (o1:Obj) (x:Nat×Nat×Int) (v':Value),due≤900000000→Below w.heap.size w w'→w2.ownsRow 0 116 3 v' ((f.lim due).length+1) ((f.lim due).flatMap cNo++cNo x)→(w'.alloc o1).grownBy w2 (tickV M due).ownBlock→(v'.ownBlock=(tickV M due).ownBlock∨v'.ownBlock=some (w'.heap.size+1))→OMap w3 Tryz.prog 3 L.ml (n+1) (putM M (.int .i64 due) v')→w2.grownBy w3 (some L.ml)→FabPostL τ w b ns cs L {f with lim:=fun t=>if t=due then f.lim t++[x]else f.lim t} w3):=by
 obtain⟨⟨n,M,m1,m2,m3,m4,m5⟩,mT⟩:=h.lim;have own0:NotM w (tickV M due) (f.lim due)∧∀g,(tickV M due).ownBlock=some g→τ g=(2,6,due,0):=by
  unfold tickV;cases hm:M (.int .i64 (due:Nat))with
  |none=>rw[m4 due hm];exact⟨World.ownsRow_nil w 0 _ _,fun g e=>by simp[Value.ownBlock]at e⟩
  |some v=>exact m5 due v hm
 refine⟨n,M,m1,m2,own0.1,own0.2,fun w' w2 w3 o1 x v' hd hb own gr loc om g3=>?_⟩;obtain⟨i1,i2⟩:=own0;have hc:Ch (fun k=>k=L.ml∨(tickV M due).ownBlock=some k) w w3:=(((Ch.of_below (S:=fun k=>k=L.ml∨(tickV M due).ownBlock=some k) hb).alloc o1).grown gr fun g hg=>.inl (.inr hg)).grown g3 fun g hg=>.inl (.inl (by injection hg with hg;exact hg.symm));obtain⟨τ',hτ⟩:∃τ':Own,τ'=fun k=>if v'.ownBlock=some k then(2,6,due,0)else fr τ w.heap.size k:=⟨_,rfl⟩
 have he:∀k,k<w.heap.size→τ' k=τ k:=fun k hk=>by
  rw[hτ];simp only;by_cases e:v'.ownBlock=some k
  ·rw[if_pos e];rcases loc with q|q
   ·rw[q]at e;exact(i2 k e).symm
   ·rw[q]at e;injection e with e;have:=hb.size;omega
  ·rw[if_neg e,fr_old hk]
 have g:=h.toG (fun k=>k=5∨k=6) hc he fun k s=>.inr (by
  rcases s with s|s
  ·rw[s,mT];exact⟨rfl,.inl rfl⟩
  ·rw[i2 k s];exact⟨rfl,.inr rfl⟩)
 have mlv:∀k,v'.ownBlock=some k→¬k=L.ml:=fun k e e2=>by
  subst e2;rcases loc with q|q
  ·rw[q]at e;have:=i2 _ e;rw[mT]at this;simp at this
  ·rw[q]at e;injection e with e;have:=m1.ltb;have:=hb.size;omega
 refine⟨τ',⟨⟨g.root (by decide),g.rootT.1⟩,g.plan,g.rooms,g.cab,g.bxs,g.bx,g.up (by decide),g.r0,g.r1,⟨g.bk (by decide),g.bkT⟩,⟨g.fl (by decide) (by decide),g.flT⟩,⟨?_,by rw[he _ m1.ltb];exact mT⟩,g.came (by decide),g.gone (by decide),g.lost (by decide)⟩,⟨hc.mono fun k _ s=>?_,he⟩⟩
 ·refine TickM.put (M:=M) m3 m4 hd om ⟨?_,fun k hk=>?_⟩ (fun t e=>if_neg e) (fun t v e hv=>?_)
  ·have h1:=own_ch own ((Ch.refl (· =L.ml) w2).grown g3 fun g hg=>.inl (by injection hg with hg;exact hg.symm)) mlv;unfold NotM;simp only[if_true,List.length_append,List.length_cons,List.length_nil,List.flatMap_append,List.flatMap_cons,List.flatMap_nil,List.append_nil];exact h1
  ·rw[hτ];simp only;rw[if_pos hk]
  ·obtain⟨a1,a2⟩:=m5 t v hv;refine⟨own_ch a1 hc fun k hk s=>?_,fun k hk=>by rw[he _ (World.ownsRow.lt a1 k hk).2];exact a2 k hk⟩;have q1:=a2 k hk;rcases s with s|s
   ·rw[s,mT]at q1;simp at q1
   ·rw[i2 k s]at q1;simp at q1;exact e q1.symm
 ·rcases s with s|s
  ·rw[s,mT];decide
  ·rw[i2 k s];exact Nat.le_refl 2
theorem FabM.flAt(h:FabM τ w b ns cs f L)(due:Nat):∃(n:Nat) (M:Lit→Option Value) (Q:List ((Nat×Fm)×Value)),OMap w Tryz.prog 3 L.mf n M∧n≤1000000000∧Q.map (·.1)=f.fl due∧w.ownsRow 0 122 7 (tickV M due) Q.length (Q.flatMap cFl)∧(∀x∈Q,IsDat τ w x.1.2.data x.2)∧(∀g,(tickV M due).ownBlock=some g→τ g=(2,4,due,0))∧(∀(w' w2 w3:World) (o1:Obj) (x:Nat×Fm) (vx v':Value),due≤900000000→IsDat τ w x.2.data vx→Below w.heap.size w w'→w2.ownsRow 0 122 7 v' (Q.length+1) (Q.flatMap cFl++cFl (x,vx))→(w'.alloc o1).grownBy w2 (tickV M due).ownBlock→(v'.ownBlock=(tickV M due).ownBlock∨v'.ownBlock=some (w'.heap.size+1))→OMap w3 Tryz.prog 3 L.mf (n+1) (putM M (.int .i64 due) v')→w2.grownBy w3 (some L.mf)→FabPostL τ w b ns cs L {f with fl:=fun t=>if t=due then f.fl t++[x]else f.fl t} w3):=by
 obtain⟨⟨n,M,m1,m2,m3,m4,m5⟩,mT⟩:=h.fl;have own0:FliM τ w (tickV M due) (f.fl due)∧∀g,(tickV M due).ownBlock=some g→τ g=(2,4,due,0):=by
  unfold tickV;cases hm:M (.int .i64 (due:Nat))with
  |none=>rw[m4 due hm];exact⟨⟨[],rfl,World.ownsRow_nil w 0 _ _,fun x hx=>by cases hx⟩,fun g e=>by simp[Value.ownBlock]at e⟩
  |some v=>exact m5 due v hm
 obtain⟨⟨Q,q1,i1,q3⟩,i2⟩:=own0;refine⟨n,M,Q,m1,m2,q1,i1,q3,i2,fun w' w2 w3 o1 x vx v' hd hx hb own gr loc om g3=>?_⟩;have hc:Ch (fun k=>k=L.mf∨(tickV M due).ownBlock=some k) w w3:=(((Ch.of_below (S:=fun k=>k=L.mf∨(tickV M due).ownBlock=some k) hb).alloc o1).grown gr fun g hg=>.inl (.inr hg)).grown g3 fun g hg=>.inl (.inl (by injection hg with hg;exact hg.symm));obtain⟨τ',hτ⟩:∃τ':Own,τ'=fun k=>if v'.ownBlock=some k then(2,4,due,0)else fr τ w.heap.size k:=⟨_,rfl⟩
 have he:∀k,k<w.heap.size→τ' k=τ k:=fun k hk=>by
  rw[hτ];simp only;by_cases e:v'.ownBlock=some k
  ·rw[if_pos e];rcases loc with q|q
   ·rw[q]at e;exact(i2 k e).symm
   ·rw[q]at e;injection e with e;have:=hb.size;omega
  ·rw[if_neg e,fr_old hk]
 have g:=h.toG (fun k=>k=3∨k=4) hc he fun k s=>.inr (by
  rcases s with s|s
  ·rw[s,mT];exact⟨rfl,.inl rfl⟩
  ·rw[i2 k s];exact⟨rfl,.inr rfl⟩)
 have mlv:∀k,v'.ownBlock=some k→¬k=L.mf:=fun k e e2=>by
  subst e2;rcases loc with q|q
  ·rw[q]at e;have:=i2 _ e;rw[mT]at this;simp at this
  ·rw[q]at e;injection e with e;have:=m1.ltb;have:=hb.size;omega
 have s1:∀k,(k=L.mf∨(tickV M due).ownBlock=some k)→(τ k).1≠1:=fun k s=>by
  rcases s with s|s
  ·rw[s,mT];decide
  ·rw[i2 k s];simp
 refine⟨τ',⟨⟨g.root (by decide),g.rootT.1⟩,g.plan,g.rooms,g.cab,g.bxs,g.bx,g.up (by decide),g.r0,g.r1,⟨g.bk (by decide),g.bkT⟩,⟨?_,by rw[he _ m1.ltb];exact mT⟩,⟨g.lim (by decide) (by decide),g.limT⟩,g.came (by decide),g.gone (by decide),g.lost (by decide)⟩,⟨hc.mono fun k _ s=>?_,he⟩⟩
 ·refine TickM.put (M:=M) m3 m4 hd om ⟨?_,fun k hk=>?_⟩ (fun t e=>if_neg e) (fun t v e hv=>?_)
  ·have h1:=own_ch own ((Ch.refl (· =L.mf) w2).grown g3 fun g hg=>.inl (by injection hg with hg;exact hg.symm)) mlv;refine⟨Q++[(x,vx)],by simp[q1],by simpa using h1,fun y hy=>?_⟩;rcases List.mem_append.1 hy with hy|hy
   ·exact(q3 y hy).chE hc he s1
   ·rw[List.mem_singleton]at hy;subst hy;exact hx.chE hc he s1
  ·rw[hτ];simp only;rw[if_pos hk]
  ·obtain⟨a1,a2⟩:=m5 t v hv;refine⟨a1.chE hc he s1 fun k hk s=>?_,fun k hk=>by rw[he _ (a1.lt k hk)];exact a2 k hk⟩;have q1:=a2 k hk;rcases s with s|s
   ·rw[s,mT]at q1;simp at q1
   ·rw[i2 k s]at q1;simp at q1;exact e q1.symm
 ·rcases s with s|s
  ·rw[s,mT];decide
  ·rw[i2 k s];exact Nat.le_refl 2
end
end Go.Proofs.YtnjjkgjdhljfnaaGreat
namespace Go.Proofs.YtnjjkgjdhljfnaaGreat
open Go.RowKit Go.Maps
attribute [local go_sem ↓] Go.wp_at_zero Go.wp_at_succ
theorem zeroNotices(w:World):(zeroValue 114).run Tryz.prog w=.ok (.slice none 0 0) w:=by kernel_rfl
theorem infoNotice:(Tryz.prog.info? 116).map (fun i=>(i.zero,i.size,i.bytes))=some (some (.agg #[.int .i64 0,.int .i64 0,.int .i64 0]),3,24):=by kernel_rfl
section
variable(ns:List Nd)(cs:List Cb)
def tellR(f:Fab)(c v:Nat):Fab:=(List.range v).foldl (fun f v=>f.tell1 ns cs c v) f
def tellTo(f:Fab)(c:Nat):Fab:=(List.range c).foldl (fun f c=>if f.up.getD (c/2) false then(List.range f.rooms.length).foldl (fun f v=>f.tell1 ns cs c v) f else f) f
theorem tellR_succ(f:Fab)(c v:Nat):tellR ns cs f c (v+1)=(tellR ns cs f c v).tell1 ns cs c v:=by unfold tellR;rw[List.range_succ,List.foldl_append];rfl
theorem tellTo_succ(f:Fab)(c:Nat):tellTo ns cs f (c+1)=if(tellTo ns cs f c).up.getD (c/2) false then tellR ns cs (tellTo ns cs f c) c (tellTo ns cs f c).rooms.length else tellTo ns cs f c:=by unfold tellTo tellR;rw[List.range_succ,List.foldl_append];rfl
theorem tellR_same(f:Fab)(c v:Nat):tellR ns cs f c v={f with lim:=(tellR ns cs f c v).lim}:=by
 induction v with
 |zero=>rfl
 |succ v ih=>rw[tellR_succ];generalize tellR ns cs f c v=g at *;rw[ih];rfl
theorem tellTo_same(f:Fab)(c:Nat):tellTo ns cs f c={f with lim:=(tellTo ns cs f c).lim}:=by
 induction c with
 |zero=>rfl
 |succ c ih=>
  rw[tellTo_succ];generalize tellTo ns cs f c=g at *;split
  ·rw[tellR_same];generalize(tellR ns cs g c g.rooms.length).lim=l;rw[ih]
  ·exact ih
theorem get2_cell(l:List (List Int))(c v:Nat)(h:v<(l.getD c []).length):((l.getD c []).map fun x=>Value.int .i64 x)[v]?=some (.int .i64 (get2 l c v)):=by unfold get2;generalize l.getD c []=r at *;rw[List.getElem?_map,List.getElem?_eq_getElem h];simp[List.getD,h]
theorem tellR_len(f:Fab)(c v t:Nat):((tellR ns cs f c v).lim t).length≤(f.lim t).length+v:=by
 induction v with
 |zero=>exact Nat.le_refl _
 |succ v ih=>
  rw[tellR_succ];generalize tellR ns cs f c v=g at *;unfold Fab.tell1;simp only;split
  ·rw[List.length_append];simp only[List.length_cons,List.length_nil];omega
  ·omega
theorem tellTo_len(f:Fab)(c t:Nat)(hk:f.rooms.length≤8):((tellTo ns cs f c).lim t).length≤(f.lim t).length+c*8:=by
 induction c with
 |zero=>exact Nat.le_refl _
 |succ c ih=>
  rw[tellTo_succ];have e:(tellTo ns cs f c).rooms=f.rooms:=by rw[tellTo_same]
  rw[e];split
  ·have:=tellR_len ns cs (tellTo ns cs f c) c f.rooms.length t;omega
  ·omega
end
def RelTe1(τ:Own)(w:World)(b:Nat)(ns:List Nd)(cs:List Cb)(L:FbL)(f:Fab)(i:Value)(wr:World):Prop:=∃c:Nat,c≤2*cs.length∧i=.int .i64 c∧FabPostL τ w b ns cs L (tellTo ns cs f c) wr
def RelTe2(τ:Own)(w:World)(b:Nat)(ns:List Nd)(cs:List Cb)(L:FbL)(f:Fab)(c:Nat)(i:Value)(wr:World):Prop:=∃v:Nat,v≤f.rooms.length∧i=.int .i64 v∧FabPostL τ w b ns cs L (tellR ns cs f c v) wr
theorem FabPostL.below{τ:Own}{w w1 w2:World}{b:Nat}{ns:List Nd}{cs:List Cb}{L:FbL}{f:Fab}(h:FabPostL τ w b ns cs L f w1)(hb:Below w1.heap.size w1 w2):FabPostL τ w b ns cs L f w2:=by obtain⟨τ',m,n⟩:=h;exact⟨_,m.below hb,n.trans (FNx.of_below hb)⟩
theorem FabPostL.trans{τ τ1:Own}{w w1 w2:World}{b:Nat}{ns:List Nd}{cs:List Cb}{L:FbL}{f:Fab}(n:FNx τ w τ1 w1)(h:FabPostL τ1 w1 b ns cs L f w2):FabPostL τ w b ns cs L f w2:=by obtain⟨τ',m,n'⟩:=h;exact⟨_,m,n.trans n'⟩
theorem ftell_any(f:Fab)(N:Nat)(b:Nat)(ns:List Nd)(cs:List Cb)(L:FbL)(τ:Own)(w:World)(h:FabM τ w b ns cs f L)(hp:PlF ns cs)(hok:FabOk ns cs f N)(hN:N≤800000000):Calls Tryz.prog 57 #[pt b] w fun e w'=>e=.returned (.tuple #[])∧FabPostL τ w b ns cs L (f.tell ns cs) w':=by
 have PL:=Lib.hid hp;have OK:=Lib.hid hok;obtain⟨An,Ac,cn,cc,eN,eC,hIP,_,_⟩:=h.plan;have c1:w.cell? ⟨b,0+1,none⟩=some (.slice Ac cs.length cc):=by rw[←eC];exact h.r19
 have SM:Hid (∀(g:Fab) (lm:Nat→List (Nat×Nat×Int)) (τ':Own) (w':World),FabM τ' w' b ns cs {g with lim:=lm} L→FabS w' b ns cs An Ac cn cc):=fun g lm τ' w' m=>by obtain⟨An',Ac',cn',cc',e1,e2,hI,_,_⟩:=m.plan;rw[eN]at e1;rw[eC]at e2;injection e1 with a1 _ a2;injection e2 with a3 _ a4;subst a1;subst a2;subst a3;subst a4;exact⟨by rw[m.r19];show some L.vn=_;rw[eN],by rw[m.r19];show some L.vc=_;rw[eC],hI⟩
 have c32:=hp.c32;have H0:Hid (FabPostL τ w b ns cs L f w):=⟨τ,h,FNx.refl _ _⟩;have ET:Hid (f.tell ns cs=tellTo ns cs f (2*cs.length)):=rfl;have hN':=Lib.hid hN;have k0:0<f.rooms.length:=by have:=hok.rl;have:=hok.k0;omega
 have kl:f.rooms.length≤8:=by have:=hok.rl;have:=hok.k1;omega
 obtain⟨gr,cr,eR⟩:=h.rooms.atHead (by simpa using k0);have q2:IntKind.i64.wrap ((2:Int)*(cs.length:Int))=2*(cs.length:Int):=IntWalk.i64_in _ (by omega);clear h hp hok hIP hN;unfold pt
 go_enter Tryz.func57,Tryz.ntmps57
 go_wp2_with fail
 go_loopw [2,3,4,5,6,7,8,9,10,18,58] (fun _ _ _ _ _ _ _ _ _ i _ wr=>RelTe1 τ w b ns cs L f i wr) (fun _ _ _ _ _ _ _ _ _ i _ _=>2*cs.length-(RowKit.intOf i).toNat)
 case atStart=>exact⟨0,Nat.zero_le _,rfl,H0.out⟩
 case round=>
  obtain⟨c,hc,rfl,hP⟩:=hrel;have HP:=Lib.hid hP;clear hP;by_cases hcn:c<2*cs.length
  ·obtain⟨F,hFd⟩:∃F,tellTo ns cs f c=F:=⟨_,rfl⟩;have hF:F={f with lim:=F.lim}:=by rw[←hFd];exact tellTo_same ns cs f c
   have NXT:=Lib.hid (tellTo_succ ns cs f c);have TLN:Hid (∀t,(F.lim t).length≤(f.lim t).length+c*8):=fun t=>(by rw[←hFd];exact tellTo_len ns cs f c t kl);rw[hFd]at HP NXT;have FR:Hid (F.rooms=f.rooms):=(by rw[Hid,hF]);have FU:Hid (F.up=f.up):=(by rw[Hid,hF]);rw[FR.out,FU.out]at NXT;have HFE:=Lib.hid hF;obtain⟨τ1,m,n1⟩:=HP.out;have m':FabM τ1 wr b ns cs {f with lim:=F.lim} L:=(by rw[←hF];exact m);clear hF hFd;obtain⟨k,hk⟩:∃k,c/2=k:=⟨_,rfl⟩;have HK:=Lib.hid hk;rw[hk]at NXT;have hi:k<cs.length:=(by omega);have S:=SM.out f F.lim τ1 wr m';have mu:ArrM τ1 wr 4 (is2 1 0) L.vu f.up.length (f.up.map fun x=>.bool x):=m'.up;have ul:=OK.out.up;obtain⟨gu,cu,eU⟩:=mu.atHead (by simp;omega);have u1:wr.cell? ⟨b,6,none⟩=some (.slice (some ⟨gu,0,none⟩) cs.length cu):=(by rw[m'.r19];show some L.vu=_;rw[eU,ul]);have u2:wr.cell? ⟨gu,k,none⟩=some (.bool (f.up.getD (k) false)):=(by rw[mu.cellOf eU (by simp;omega)];simp[List.getD,ul,hi]);have dl:=PL.out.dl _ hi;obtain⟨bc,oc,ha,hbc,_,_,_,_,_,e4,_⟩:=cable_at S.plan.2 (k) hi;have c13:wr.cell? ⟨b,13,none⟩=some (.int .i64 f.now):=m'.r19;have c1w:=S.c1;rw[ha]at c1w;clear ha;obtain⟨d,hd⟩:∃d:Nat,(cs.getD (k) cb0).dl=(d:Int):=⟨(cs.getD (k) cb0).dl.toNat,by omega⟩;have dT:(cs.getD (k) cb0).dl.toNat=d:=(by omega);simp only at e4;rw[hd]at e4 dl;have hd2:(c:Int)/2=(k:Int):=(by omega);have hd0:(0:Int)≤(k:Int):=(by omega);have hd1:(k:Int)<(cs.length:Int):=(by omega);have hd3:(c:Int).tdiv 2=(k:Int):=(by rw[Int.tdiv_eq_ediv_of_nonneg (by omega)];exact hd2);have hd4:IntKind.i64.wrap (k:Int)=(k:Int):=IntWalk.i64_in _ (by omega);clear hk;have hc0:(0:Int)≤(c:Int):=(by omega);have hc1:(c:Int)≤100:=(by omega);have hclt:(c:Int)<2*(cs.length:Int):=(by omega);have nw:=OK.out.now;have hNN:=hN'.out;have q3:IntKind.i64.wrap ((f.now:Int)+(d:Int))=(f.now:Int)+(d:Int):=IntWalk.i64_in _ (by omega);have EN:=PL.out.ends hcn;have PT:Hid (∀X:Bx,X.ports=portsOfN (ns.getD (endsF cs c).2.2.1 nd0)→(endsF cs c).2.2.2<X.ports):=fun X hX=>(by rw[hX];exact PL.out.portLt EN.2.1 EN.2.2.2.1);have EC:Hid (∀w',Below wr.heap.size wr w'→Calls Tryz.prog 53 #[.pointer (some ⟨b,0,none⟩),.int .i64 c] w' (EndsPost cs c w')):=fun w' hb=>fends_any c b ns cs An Ac cn cc w' (S.below hb) PL.out hcn;have K3:Hid (∀w',Below wr.heap.size wr w'→w'.cell? ⟨b,3,none⟩=some (.slice (some ⟨gr,0,none⟩) f.rooms.length cr)):=fun w' hb=>(by have c3:wr.cell? ⟨b,3,none⟩=some (.slice (some ⟨gr,0,none⟩) f.rooms.length cr):=(by rw[m'.r19];show some L.vr=_;rw[eR]);exact(hb.cell (p:=⟨b,3,none⟩) (World.block_lt_of_cell? _ _ c3)).trans c3);have eul:=EN.2.1;obtain⟨⟨ea,eb,u,p⟩,hE⟩:∃e,endsF cs c=e:=⟨_,rfl⟩;unfold EndsPost at EC;rw[hE]at PT EC eul;simp only at PT EC eul;have HE:=Lib.hid hE;have HD:=Lib.hid dT;clear EN hE S mu eU m m' ul dT hd;cases hup:f.up.getD (k) false with
   |false=>
    rw[hup]at u2 NXT;have R:Hid (RelTe1 τ w b ns cs L f (.int .i64 ((c+1:Nat):Int)) wr):=⟨c+1,by omega,rfl,by rw[NXT.out];exact HP.out⟩;clear hup EC K3 c13 e4 c1w
    go_wp2_with fail
    exact⟨by simpa using R.out,by simp[RowKit.intOf];omega⟩
   |true=>
    rw[hup]at u2 NXT;clear hup;have CC:Hid (wr.cell? ⟨b,13,none⟩=some (.int .i64 f.now)∧wr.cell? ⟨b,0+1,none⟩=some (.slice (some ⟨bc,oc,none⟩) cs.length cc)∧wr.cell? ⟨bc,oc+k*6+4,none⟩=some (.int .i64 (d:Int))):=⟨c13,c1w,e4⟩
    go_wp2_with fail
    go_region_held3 (fun w'=>w'.cell? ⟨b,13,none⟩=some (.int .i64 f.now)∧w'.cell? ⟨b,0+1,none⟩=some (.slice (some ⟨bc,oc,none⟩) cs.length cc)∧w'.cell? ⟨bc,oc+k*6+4,none⟩=some (.int .i64 (d:Int)))
     (first|exact CC.out)
     (fail)
    clear c13 e4 c1w CC u1 u2
    go_wp2_with (first|(go_at_call 53;refine(EC.out _ (Below.refl _ _).drew).mono ?_;rintro e w5 ⟨rfl,hb⟩;have B5:Hid (Below wr.heap.size wr w5):=(show Below wr.heap.size wr w5 from⟨hb.os,hb.tape,hb.output,hb.size,hb.block⟩);have k3:=K3.out _ B5.out;clear hb))
    clear k3 K3 EC;have HP5:=Lib.hid (HP.out.below B5.out);clear HP n1;obtain⟨due,hdue⟩:∃due:Nat,f.now+d=due:=⟨_,rfl⟩;have hdI:(f.now:Int)+(d:Int)=(due:Int):=by omega
    rw[hdI]at *;obtain⟨wz,rfl⟩:∃wz:World,wz=wr:=⟨_,rfl⟩
    go_loopw [8,9,10,58] (fun _ _ _ i w'=>RelTe2 τ w b ns cs L F c i w') (fun _ _ _ i _=>f.rooms.length-(RowKit.intOf i).toNat)
    case atStart=>exact⟨0,Nat.zero_le _,rfl,HP5.out⟩
    case round=>
     obtain⟨v,hv,rfl,hP2⟩:=hrel;rw[FR.out]at hv;by_cases hvn:v<f.rooms.length
     ·obtain⟨τ2,m2,n2⟩:=hP2;have N2:=Lib.hid n2;obtain⟨G,hGd⟩:∃G,tellR ns cs F c v=G:=⟨_,rfl⟩;have hG:G={f with lim:=G.lim}:=(by rw[←hGd,tellR_same];generalize(tellR ns cs F c v).lim=l;rw[HFE.out]);rw[hGd]at m2;have m3:FabM τ2 wr b ns cs {f with lim:=G.lim} L:=(by rw[←hG];exact m2);obtain⟨n,M,om,hn,nm,tg,push⟩:=m2.limAt due;have OM:=Lib.hid om;have HN:=Lib.hid hn;have NM:=Lib.hid nm;have TG:=Lib.hid tg;have PU:=Lib.hid push;clear om hn nm tg push;have MT:Hid (τ2 L.ml=(2,5,0,0)):=m2.lim.2;have LL:Hid ((G.lim due).length≤810000000):=by
       have l1:=tellR_len ns cs F c v due;have l2:=TLN.out due;have l3:=OK.out.lil due;rw[hGd]at l1;rw[Hid];omega
      have gdim:(f.gone.getD c []).length=f.rooms.length:=OK.out.gn.row c hcn;have cdim:(f.came.getD u []).length=f.rooms.length:=OK.out.cm.row u eul;obtain⟨gg,cg,eG,kG,_,lG,tG⟩:=m3.gone.1.at_ (i:=c) (by simpa using hcn);obtain⟨gi,ci,eI,kI,_,lI,tI⟩:=(m3.gone.2 c hcn).at_ (i:=v) (by rw[List.length_map];simp only;omega);obtain⟨gc,cg2,eC2,kC,_⟩:=m3.came.1.at_ (i:=u) (by simpa using eul);obtain⟨gd,cd,eD,kD,_⟩:=(m3.came.2 u eul).at_ (i:=v) (by rw[List.length_map];simp only;omega);simp only at eG kG eI kI eC2 kC eD kD;rw[gdim]at eI;rw[cdim]at eD;have kG':wr.cell? ⟨gg,c,none⟩=some (.slice (some ⟨gi,0,none⟩) f.rooms.length ci):=(by rw[kG,List.getElem?_map,List.getElem?_range hcn,←eI];rfl);have kC':wr.cell? ⟨gc,u,none⟩=some (.slice (some ⟨gd,0,none⟩) f.rooms.length cd):=(by rw[kC,List.getElem?_map,List.getElem?_range eul,←eD];rfl);have kI':wr.cell? ⟨gi,v,none⟩=some (.int .i64 (get2 f.gone c v)):=(by have h1:v<(f.gone.getD c []).length:=(by omega);rw[kI];exact get2_cell f.gone c v h1);have kD':wr.cell? ⟨gd,v,none⟩=some (.int .i64 (get2 f.came u v)):=(by have h1:v<(f.came.getD u []).length:=(by omega);rw[kD];exact get2_cell f.came u v h1);have kR:wr.cell? ⟨gr,v,none⟩=some (.int .i64 (f.rooms.getD v 0)):=(by have h1:ArrM τ2 wr 3 never L.vr f.rooms.length (f.rooms.map fun x=>.int .i64 x):=m3.rooms;rw[h1.cellOf eR (by simpa using hvn),List.getElem?_map];simp[List.getD,hvn]);have c16:wr.cell? ⟨b,16,none⟩=some (.map (some L.ml)):=m3.r19;have c17:wr.cell? ⟨b,17,none⟩=some (.slice (some ⟨gc,0,none⟩) ns.length cg2):=(by rw[←eC2];exact m3.r19);have c18:wr.cell? ⟨b,18,none⟩=some (.slice (some ⟨gg,0,none⟩) (2*cs.length) cg):=(by rw[←eG];exact m3.r19);have K12:Hid (∀w',Below wr.heap.size wr w'→w'.cell? ⟨b,16,none⟩=some (.map (some L.ml))∧w'.cell? ⟨b,18,none⟩=some (.slice (some ⟨gg,0,none⟩) (2*cs.length) cg)∧w'.cell? ⟨gg,c,none⟩=some (.slice (some ⟨gi,0,none⟩) f.rooms.length ci)∧w'.cell? ⟨gi,v,none⟩=some (.int .i64 (get2 f.gone c v))):=fun w' hb=>
       ⟨(hb.cell (p:=⟨b,16,none⟩) (World.block_lt_of_cell? _ _ c16)).trans c16,(hb.cell (p:=⟨b,18,none⟩) (World.block_lt_of_cell? _ _ c18)).trans c18,(hb.cell (p:=⟨gg,c,none⟩) (World.block_lt_of_cell? _ _ kG')).trans kG',(hb.cell (p:=⟨gi,v,none⟩) (World.block_lt_of_cell? _ _ kI')).trans kI'⟩
      have TB:Hid (τ2 b=(2,0,0,0)∧never (τ2 gg)∧is2 8 c (τ2 gi)):=⟨m3.root.2,tG,tI⟩;have LT12:Hid (b<wr.heap.size∧gg<wr.heap.size∧gi<wr.heap.size):=⟨m3.root.1.lt,lG,lI⟩;have S2:=SM.out f G.lim τ2 wr m3;obtain⟨bn,on,hbn,_,_,_,e7,_⟩:=node_at S2.plan.1 u (by simpa using eul);have c0w:=S2.c0;rw[hbn]at c0w;clear hbn;simp only at e7;obtain⟨gb,cb,eB,c5,cbx,tgb,lgb⟩:=m3.boxc eul;unfold pt at cbx;have BXO:=OK.out.box u eul;have rmb:=OK.out.rv (f.rooms.getD v 0) (by simp[List.getD,hvn]);have cmb:=OK.out.cv u v eul hvn;have gnb:=OK.out.gv c v hcn hvn;have hpb:=PT.out _ BXO.2.1;have LIM:Hid (∀w',Below wr.heap.size wr w'→Calls Tryz.prog 100 #[.pointer (some ⟨L.bx u,0,none⟩),.int .i64 p,.int .i64 v] w' fun e w''=>e=.returned (.int .i64 (get2 (f.boxes.getD u default).gv p v).limit)∧Below w'.heap.size w' w''):=fun w' hb=>
       blimit_any p v N _ (3+u) w' (L.bx u) _ _ ((m3.bx u eul).below hb) BXO.1 (by omega) hpb (by rw[BXO.2.2];exact hvn)
      have lmb:0≤(get2 (f.boxes.getD u default).gv p v).limit∧(get2 (f.boxes.getD u default).gv p v).limit≤1000000000:=(by have h1:=BXO.1.g p v hpb (by rw[BXO.2.2];exact hvn);unfold Gv.limit;have:=h1.r0;have:=h1.r1;have:=h1.f0;have:=h1.f1;have:=h1.n1;omega);have G1:G.now=f.now:=(by rw[hG]);have G2:G.boxes=f.boxes:=(by rw[hG]);have G3:G.rooms=f.rooms:=(by rw[hG]);have G4:G.came=f.came:=(by rw[hG]);have G5:G.gone=f.gone:=(by rw[hG]);have TE0:Hid (tellR ns cs F c (v+1)={G with lim:=fun t=>if t=due then G.lim t++[(c,v,(if isSw ns u then(get2 (f.boxes.getD u default).gv p v).limit else f.rooms.getD v 0+get2 f.came u v)+get2 f.gone c v)]else G.lim t}):=(by rw[Hid,tellR_succ,hGd];unfold Fab.tell1;rw[HE.out];simp only;rw[HK.out,HD.out,G1,G2,G3,G4,G5,hdue]);unfold isSw at TE0;obtain⟨la,lc,eL⟩:=own_formN NM.out;have EL:=Lib.hid eL;have u0:(0:Int)≤(u:Int):=(by omega);have u1:(u:Int)<(ns.length:Int):=(by omega);have v0:(0:Int)≤(v:Int):=(by omega);have v1:(v:Int)<(f.rooms.length:Int):=(by omega);have dueb:due≤810000000:=(by omega);clear m2 m3 n2 eL kG kC kI kD S2 gdim cdim tG lG tI lI hG hGd G1 G2 G3 G4 G5 BXO hpb eB tgb lgb;generalize f.rooms.getD v 0=rm at *;generalize get2 f.came u v=cmv at *;generalize get2 f.gone c v=gv at *;generalize(get2 (f.boxes.getD u default).gv p v).limit=lb at *;have q4:IntKind.i64.wrap (rm+cmv)=rm+cmv:=IntWalk.i64_in _ (by omega);cases hsw:(ns.getD u nd0).sw with
      |true=>
       rw[hsw]at e7 TE0;obtain⟨lv,rfl⟩:∃lv,lv=lb:=⟨_,rfl⟩;have TE:Hid (tellR ns cs F c (v+1)={G with lim:=fun t=>if t=due then G.lim t++[(c,v,lv+gv)]else G.lim t}):=by rw[Hid,TE0.out];simp
       have q5:IntKind.i64.wrap (lv+gv)=lv+gv:=IntWalk.i64_in _ (by omega);clear TE0
       go_wp2_with (first|(go_at_call 100;refine(LIM.out _ (Below.refl _ _)).mono ?_;rintro e w3 ⟨rfl,hb⟩;have B3:Hid (Below wr.heap.size wr w3):=(show Below wr.heap.size wr w3 from⟨hb.os,hb.tape,hb.output,hb.size,hb.block⟩);clear hb))
       clear LIM c16 c17 c18 kG' kC' kI' kD' kR c0w e7 c5 cbx;have OM3:Hid (OMap w3 Tryz.prog 3 L.ml n M):=omap_ch OM.out (Ch.of_below (S:=fun _=>False) B3.out) (fun q=>q);have KS:Hid (∀w',Ch (fun k=>(tickV M due).ownBlock=some k) w3 w'→w'.cell? ⟨b,16,none⟩=some (.map (some L.ml))∧w'.cell? ⟨b,18,none⟩=some (.slice (some ⟨gg,0,none⟩) (2*cs.length) cg)∧w'.cell? ⟨gg,c,none⟩=some (.slice (some ⟨gi,0,none⟩) f.rooms.length ci)∧w'.cell? ⟨gi,v,none⟩=some (.int .i64 gv)∧(Instr.lookup 91 (.map (some L.ml)) (.int .i64 due) false).run Tryz.prog w'=.ok (.slice la (G.lim due).length lc) w'):=fun w' hc'=>by
        obtain⟨k1,k2,k3,k4⟩:=K12.out w3 B3.out;have lt:∀k,k<wr.heap.size→k<w3.heap.size:=fun k hk=>Nat.lt_of_lt_of_le hk B3.out.size;refine⟨(hc'.cell (p:=⟨b,16,none⟩) (lt _ (LT12.out).1) (fun q=>?_)).trans k1,(hc'.cell (p:=⟨b,18,none⟩) (lt _ (LT12.out).1) (fun q=>?_)).trans k2,(hc'.cell (p:=⟨gg,c,none⟩) (lt _ (LT12.out).2.1) (fun q=>?_)).trans k3,(hc'.cell (p:=⟨gi,v,none⟩) (lt _ (LT12.out).2.2) (fun q=>?_)).trans k4,?_⟩
        ·have q1:=TG.out _ q;rw[TB.out.1]at q1;simp at q1
        ·have q1:=TG.out _ q;rw[TB.out.1]at q1;simp at q1
        ·have q1:=TG.out _ q;have q2:=TB.out.2.1;unfold never at q2;rw[q1]at q2;simp at q2
        ·have q1:=TG.out _ q;have q2:=TB.out.2.2;unfold is2 at q2;rw[q1]at q2;simp at q2
        ·have o:=omap_ch OM3.out hc' (fun q=>by have q1:=TG.out _ q;rw[MT.out]at q1;simp at q1);rw[←EL.out];exact o.look (int_keyed Tryz.underlying3) Tryz.underlying91 (zeroNotices _) (keyOf_int_mk Tryz.underlying3 (wf_small (due:Int) (by omega) (by omega)))
       have OW3:Hid (w3.ownsRow 0 116 3 (.slice la (G.lim due).length lc) (G.lim due).length ((G.lim due).flatMap cNo)):=(by rw[←EL.out];exact own_ch NM.out (Ch.of_below (S:=fun _=>False) B3.out) (fun _ _ q=>q));obtain⟨j0,hj0,hy0,hy1,hy2⟩:=info_parts infoNotice;have RN:Hid (Reads (w3.alloc (.cells #[.int .i64 c,.int .i64 v,.int .i64 (lv+gv)] 116)).drew (w3.heap.size+1) 3 (some ⟨w3.heap.size,0,none⟩) 1 [.int .i64 c,.int .i64 v,.int .i64 (lv+gv)]):=(reads_newN w3 116 [.int .i64 c,.int .i64 v,.int .i64 (lv+gv)] (n:=1) (size:=3) rfl).drew;have OW:Hid ((w3.alloc (.cells #[.int .i64 c,.int .i64 v,.int .i64 (lv+gv)] 116)).drew.ownsRow 0 116 3 (.slice la (G.lim due).length lc) (G.lim due).length ((G.lim due).flatMap cNo)):=OW3.out.alloc (.cells #[.int .i64 c,.int .i64 v,.int .i64 (lv+gv)] 116);refine wp_region_L 28 (fun w'=>w'.cell? ⟨b,16,none⟩=some (.map (some L.ml))∧w'.cell? ⟨b,18,none⟩=some (.slice (some ⟨gg,0,none⟩) (2*cs.length) cg)∧w'.cell? ⟨gg,c,none⟩=some (.slice (some ⟨gi,0,none⟩) f.rooms.length ci)∧w'.cell? ⟨gi,v,none⟩=some (.int .i64 gv)∧(Instr.lookup 91 (.map (some L.ml)) (.int .i64 due) false).run Tryz.prog w'=.ok (.slice la (G.lim due).length lc) w') (by kernel_rfl) (KS.out _ (Ch.refl _ _).drew) (fun hHeld=>?_);refine AnyL.tk 0 hHeld ?_
       try simp only[puts]
       refine AnyL.tk 1 hHeld ?_
       try simp only[puts]
       refine AnyL.tk 2 hHeld ?_
       try simp only[puts]
       refine AnyL.tk 3 hHeld ?_
       try simp only[puts]
       refine AnyL.tk 4 hHeld ?_
       try simp only[puts]
       refine AnyL.tk 5 hHeld ?_
       try simp only[puts]
       refine AnyL.tk 6 hHeld ?_
       try simp only[puts]
       refine AnyL.tk 7 hHeld ?_
       try simp only[puts]
       refine AnyL.tk 8 hHeld ?_
       try simp only[puts]
       refine AnyL.tk 9 hHeld ?_
       try simp only[puts]
       refine AnyL.tk 10 hHeld ?_
       try simp only[puts]
       refine AnyL.tk 11 hHeld ?_
       try simp only[puts]
       refine AnyL.tk 12 hHeld ?_
       try simp only[puts]
       refine AnyL.tk 13 hHeld ?_
       try simp only[puts]
       refine AnyL.tk 14 hHeld ?_
       try simp only[puts]
       refine AnyL.tk 15 hHeld ?_
       try simp only[puts]
       refine AnyL.tk 16 hHeld ?_
       try simp only[puts]
       refine AnyL.tk 17 hHeld ?_
       try simp only[puts]
       refine AnyL.tk 18 hHeld ?_
       try simp only[puts]
       refine AnyL.tk 19 hHeld ?_
       try simp only[puts]
       refine AnyL.tk 20 hHeld ?_
       try simp only[puts]
       refine AnyL.tk 21 hHeld ?_
       try simp only[puts]
       refine AnyL.tk 22 hHeld ?_
       try simp only[puts]
       refine AnyL.tk 23 hHeld ?_
       try simp only[puts]
       refine AnyL.tk 24 hHeld ?_
       try simp only[puts]
       refine AnyL.tk 25 hHeld ?_
       try simp only[puts]
       refine AnyL.one (i:=26) (by kernel_rfl) rfl (fun K hK=>?_);go_simp;refine hK.out _ _ (fun _=>KS.out _ ((Ch.refl _ _).alloc _).drew) (fun hHeld0=>?_);have hHeld:=hHeld0 (by decide);clear hK hHeld0
       try simp only[puts]
       refine AnyL.one (i:=27) (by kernel_rfl) rfl (fun K hK=>?_);refine step_append_any _ (by rfl) (.tmp 104) (.tmp 120) 114 (by rfl) 0 116 j0 _ 3 24 Tryz.underlying114 hj0 hy0 hy1 hy2 rfl (by decide) _ _ _ (by rfl) OW.out _ (some ⟨w3.heap.size,0,none⟩) 1 1 [.int .i64 c,.int .i64 v,.int .i64 (lv+gv)] (by rfl) RN.out ?_ ?_ ?_ ?_ ?_
       ·intro u hu;simp only[List.mem_cons,List.not_mem_nil,or_false]at hu;rcases hu with rfl|rfl|rfl<;>rfl
       ·have:=LL.out;unfold maxLen;omega
       ·have:=LL.out;omega
       ·exact Nat.zero_le _
       intro v5 w5 own5 gr5 loc5;have gr5':(w3.alloc (.cells #[.int .i64 c,.int .i64 v,.int .i64 (lv+gv)] 116)).grownBy w5 (tickV M due).ownBlock:=by rw[EL.out];exact⟨gr5.os,gr5.tape,gr5.output,gr5.size,gr5.block⟩
       have om5:OMap w5 Tryz.prog 3 L.ml n M:=(OM3.out.alloc _).kept gr5' fun e=>(by have q1:=TG.out _ e.symm;rw[MT.out]at q1;simp at q1);obtain⟨w6,hrun,om6,g6⟩:=om5.store (t:=91) (int_keyed Tryz.underlying3) Tryz.underlying91 (by unfold maxLen;have:=HN.out;omega) (keyOf_int_mk Tryz.underlying3 (wf_small (due:Int) (by omega) (by omega))) v5;have R:Hid (RelTe2 τ w b ns cs L F c (.int .i64 ((v+1:Nat):Int)) w6):=(by refine⟨v+1,by rw[FR.out];omega,rfl,?_⟩;rw[TE.out];exact FabPostL.trans N2.out (PU.out w3 w5 w6 _ (c,v,lv+gv) v5 (by omega) B3.out (by simpa[cNo]using own5) gr5' (by rw[EL.out];simpa using loc5) om6 g6));have k16:=KS.out w5 ((((Ch.refl _ w3).alloc _).grown gr5' fun g hg=>.inl hg));clear own5 gr5 gr5' loc5 om5 om6 g6;refine hK.out _ _ (fun _=>k16) (fun hHeld0=>?_);have hHeld:=hHeld0 (by decide);clear hK hHeld0
       try simp only[puts]
       clear k16;refine AnyL.one (i:=28) (by kernel_rfl) rfl (fun K hK=>?_);go_simp;refine hK.out _ _ (fun h=>absurd rfl h) (fun _=>?_);clear hK;refine AnyL.done (by kernel_rfl) ?_ _
       try simp only[puts]
       go_wp2_with fail
       exact⟨by simpa using R.out,by simp[RowKit.intOf];omega⟩
      |false=>
       rw[hsw]at e7 TE0;obtain⟨lv,hlv⟩:∃lv,rm+cmv=lv:=⟨_,rfl⟩;have TE:Hid (tellR ns cs F c (v+1)={G with lim:=fun t=>if t=due then G.lim t++[(c,v,lv+gv)]else G.lim t}):=by rw[Hid,TE0.out];simp[hlv]
       have q5:IntKind.i64.wrap (lv+gv)=lv+gv:=IntWalk.i64_in _ (by omega);rw[hlv]at q4;clear TE0
       go_wp2_with fail
       clear LIM c16 c17 c18 kG' kC' kI' kD' kR c0w e7 c5 cbx;obtain⟨w3,hw3⟩:∃w3:World,w3=wr:=⟨_,rfl⟩;have B3:Hid (Below wr.heap.size wr w3):=by rw[hw3];exact Below.refl _ _
       rw[←hw3];clear hw3;have OM3:Hid (OMap w3 Tryz.prog 3 L.ml n M):=omap_ch OM.out (Ch.of_below (S:=fun _=>False) B3.out) (fun q=>q);have KS:Hid (∀w',Ch (fun k=>(tickV M due).ownBlock=some k) w3 w'→w'.cell? ⟨b,16,none⟩=some (.map (some L.ml))∧w'.cell? ⟨b,18,none⟩=some (.slice (some ⟨gg,0,none⟩) (2*cs.length) cg)∧w'.cell? ⟨gg,c,none⟩=some (.slice (some ⟨gi,0,none⟩) f.rooms.length ci)∧w'.cell? ⟨gi,v,none⟩=some (.int .i64 gv)∧(Instr.lookup 91 (.map (some L.ml)) (.int .i64 due) false).run Tryz.prog w'=.ok (.slice la (G.lim due).length lc) w'):=fun w' hc'=>by
        obtain⟨k1,k2,k3,k4⟩:=K12.out w3 B3.out;have lt:∀k,k<wr.heap.size→k<w3.heap.size:=fun k hk=>Nat.lt_of_lt_of_le hk B3.out.size;refine⟨(hc'.cell (p:=⟨b,16,none⟩) (lt _ (LT12.out).1) (fun q=>?_)).trans k1,(hc'.cell (p:=⟨b,18,none⟩) (lt _ (LT12.out).1) (fun q=>?_)).trans k2,(hc'.cell (p:=⟨gg,c,none⟩) (lt _ (LT12.out).2.1) (fun q=>?_)).trans k3,(hc'.cell (p:=⟨gi,v,none⟩) (lt _ (LT12.out).2.2) (fun q=>?_)).trans k4,?_⟩
        ·have q1:=TG.out _ q;rw[TB.out.1]at q1;simp at q1
        ·have q1:=TG.out _ q;rw[TB.out.1]at q1;simp at q1
        ·have q1:=TG.out _ q;have q2:=TB.out.2.1;unfold never at q2;rw[q1]at q2;simp at q2
        ·have q1:=TG.out _ q;have q2:=TB.out.2.2;unfold is2 at q2;rw[q1]at q2;simp at q2
        ·have o:=omap_ch OM3.out hc' (fun q=>by have q1:=TG.out _ q;rw[MT.out]at q1;simp at q1);rw[←EL.out];exact o.look (int_keyed Tryz.underlying3) Tryz.underlying91 (zeroNotices _) (keyOf_int_mk Tryz.underlying3 (wf_small (due:Int) (by omega) (by omega)))
       have OW3:Hid (w3.ownsRow 0 116 3 (.slice la (G.lim due).length lc) (G.lim due).length ((G.lim due).flatMap cNo)):=(by rw[←EL.out];exact own_ch NM.out (Ch.of_below (S:=fun _=>False) B3.out) (fun _ _ q=>q));obtain⟨j0,hj0,hy0,hy1,hy2⟩:=info_parts infoNotice;have RN:Hid (Reads (w3.alloc (.cells #[.int .i64 c,.int .i64 v,.int .i64 (lv+gv)] 116)).drew (w3.heap.size+1) 3 (some ⟨w3.heap.size,0,none⟩) 1 [.int .i64 c,.int .i64 v,.int .i64 (lv+gv)]):=(reads_newN w3 116 [.int .i64 c,.int .i64 v,.int .i64 (lv+gv)] (n:=1) (size:=3) rfl).drew;have OW:Hid ((w3.alloc (.cells #[.int .i64 c,.int .i64 v,.int .i64 (lv+gv)] 116)).drew.ownsRow 0 116 3 (.slice la (G.lim due).length lc) (G.lim due).length ((G.lim due).flatMap cNo)):=OW3.out.alloc (.cells #[.int .i64 c,.int .i64 v,.int .i64 (lv+gv)] 116);refine wp_region_L 28 (fun w'=>w'.cell? ⟨b,16,none⟩=some (.map (some L.ml))∧w'.cell? ⟨b,18,none⟩=some (.slice (some ⟨gg,0,none⟩) (2*cs.length) cg)∧w'.cell? ⟨gg,c,none⟩=some (.slice (some ⟨gi,0,none⟩) f.rooms.length ci)∧w'.cell? ⟨gi,v,none⟩=some (.int .i64 gv)∧(Instr.lookup 91 (.map (some L.ml)) (.int .i64 due) false).run Tryz.prog w'=.ok (.slice la (G.lim due).length lc) w') (by kernel_rfl) (KS.out _ (Ch.refl _ _).drew) (fun hHeld=>?_);refine AnyL.tk 0 hHeld ?_
       try simp only[puts]
       refine AnyL.tk 1 hHeld ?_
       try simp only[puts]
       refine AnyL.tk 2 hHeld ?_
       try simp only[puts]
       refine AnyL.tk 3 hHeld ?_
       try simp only[puts]
       refine AnyL.tk 4 hHeld ?_
       try simp only[puts]
       refine AnyL.tk 5 hHeld ?_
       try simp only[puts]
       refine AnyL.tk 6 hHeld ?_
       try simp only[puts]
       refine AnyL.tk 7 hHeld ?_
       try simp only[puts]
       refine AnyL.tk 8 hHeld ?_
       try simp only[puts]
       refine AnyL.tk 9 hHeld ?_
       try simp only[puts]
       refine AnyL.tk 10 hHeld ?_
       try simp only[puts]
       refine AnyL.tk 11 hHeld ?_
       try simp only[puts]
       refine AnyL.tk 12 hHeld ?_
       try simp only[puts]
       refine AnyL.tk 13 hHeld ?_
       try simp only[puts]
       refine AnyL.tk 14 hHeld ?_
       try simp only[puts]
       refine AnyL.tk 15 hHeld ?_
       try simp only[puts]
       refine AnyL.tk 16 hHeld ?_
       try simp only[puts]
       refine AnyL.tk 17 hHeld ?_
       try simp only[puts]
       refine AnyL.tk 18 hHeld ?_
       try simp only[puts]
       refine AnyL.tk 19 hHeld ?_
       try simp only[puts]
       refine AnyL.tk 20 hHeld ?_
       try simp only[puts]
       refine AnyL.tk 21 hHeld ?_
       try simp only[puts]
       refine AnyL.tk 22 hHeld ?_
       try simp only[puts]
       refine AnyL.tk 23 hHeld ?_
       try simp only[puts]
       refine AnyL.tk 24 hHeld ?_
       try simp only[puts]
       refine AnyL.tk 25 hHeld ?_
       try simp only[puts]
       refine AnyL.one (i:=26) (by kernel_rfl) rfl (fun K hK=>?_);go_simp;refine hK.out _ _ (fun _=>KS.out _ ((Ch.refl _ _).alloc _).drew) (fun hHeld0=>?_);have hHeld:=hHeld0 (by decide);clear hK hHeld0
       try simp only[puts]
       refine AnyL.one (i:=27) (by kernel_rfl) rfl (fun K hK=>?_);refine step_append_any _ (by rfl) (.tmp 104) (.tmp 120) 114 (by rfl) 0 116 j0 _ 3 24 Tryz.underlying114 hj0 hy0 hy1 hy2 rfl (by decide) _ _ _ (by rfl) OW.out _ (some ⟨w3.heap.size,0,none⟩) 1 1 [.int .i64 c,.int .i64 v,.int .i64 (lv+gv)] (by rfl) RN.out ?_ ?_ ?_ ?_ ?_
       ·intro u hu;simp only[List.mem_cons,List.not_mem_nil,or_false]at hu;rcases hu with rfl|rfl|rfl<;>rfl
       ·have:=LL.out;unfold maxLen;omega
       ·have:=LL.out;omega
       ·exact Nat.zero_le _
       intro v5 w5 own5 gr5 loc5;have gr5':(w3.alloc (.cells #[.int .i64 c,.int .i64 v,.int .i64 (lv+gv)] 116)).grownBy w5 (tickV M due).ownBlock:=by rw[EL.out];exact⟨gr5.os,gr5.tape,gr5.output,gr5.size,gr5.block⟩
       have om5:OMap w5 Tryz.prog 3 L.ml n M:=(OM3.out.alloc _).kept gr5' fun e=>(by have q1:=TG.out _ e.symm;rw[MT.out]at q1;simp at q1);obtain⟨w6,hrun,om6,g6⟩:=om5.store (t:=91) (int_keyed Tryz.underlying3) Tryz.underlying91 (by unfold maxLen;have:=HN.out;omega) (keyOf_int_mk Tryz.underlying3 (wf_small (due:Int) (by omega) (by omega))) v5;have R:Hid (RelTe2 τ w b ns cs L F c (.int .i64 ((v+1:Nat):Int)) w6):=(by refine⟨v+1,by rw[FR.out];omega,rfl,?_⟩;rw[TE.out];exact FabPostL.trans N2.out (PU.out w3 w5 w6 _ (c,v,lv+gv) v5 (by omega) B3.out (by simpa[cNo]using own5) gr5' (by rw[EL.out];simpa using loc5) om6 g6));have k16:=KS.out w5 ((((Ch.refl _ w3).alloc _).grown gr5' fun g hg=>.inl hg));clear own5 gr5 gr5' loc5 om5 om6 g6;refine hK.out _ _ (fun _=>k16) (fun hHeld0=>?_);have hHeld:=hHeld0 (by decide);clear hK hHeld0
       try simp only[puts]
       clear k16;refine AnyL.one (i:=28) (by kernel_rfl) rfl (fun K hK=>?_);go_simp;refine hK.out _ _ (fun h=>absurd rfl h) (fun _=>?_);clear hK;refine AnyL.done (by kernel_rfl) ?_ _
       try simp only[puts]
       go_wp2_with fail
       exact⟨by simpa using R.out,by simp[RowKit.intOf];omega⟩
     ·obtain rfl:f.rooms.length=v:=by omega
      have R:Hid (RelTe1 τ w b ns cs L f (.int .i64 ((c+1:Nat):Int)) wr):=⟨c+1,by omega,rfl,by rw[NXT.out];exact hP2⟩
      go_wp2_with fail
      exact⟨by simpa using R.out,by simp[RowKit.intOf];omega⟩
  ·have hce:c=2*cs.length:=by omega
   rw[hce,←ET.out]at HP;have hx:¬(c:Int)<2*(cs.length:Int):=by omega
   have hx2:decide ((c:Int)<2*(cs.length:Int))=false:=decide_eq_false hx;clear hce hcn hc
   go_wp2_with fail
   exact bodyPost_end (results_none rfl _ _ _) rfl ⟨rfl,HP.out⟩
end Go.Proofs.YtnjjkgjdhljfnaaGreat
namespace Go.Proofs.YtnjjkgjdhljfnaaGreat
open Go.RowKit Go.Maps
def NotOk(ns:List Nd)(cs:List Cb)(f:Fab)(x:Nat×Nat×Int):Prop:=x.1<2*cs.length∧x.2.1<f.rooms.length∧0≤x.2.2∧x.2.2≤1000000000000000
section
variable{ns:List Nd}{cs:List Cb}{f:Fab}{N:Nat}
theorem tell1_lim(h:FabOk ns cs f N)(hp:PlF ns cs)(hN:N≤1000000000){lm:Nat→List (Nat×Nat×Int)}{c v:Nat}(hc:c<2*cs.length)(hv:v<f.rooms.length)(hl:∀t x,x∈lm t→NotOk ns cs f x):∀t x,x∈((Fab.tell1 ns cs {f with lim:=lm} c v).lim t)→NotOk ns cs f x:=by
 intro t x hx;unfold Fab.tell1 at hx;simp only at hx;have EN:=hp.ends hc;have g1:=h.gv c v hc hv;have c1:=h.cv _ v EN.2.1 hv;have r1:=h.rv (f.rooms.getD v 0) (by simp[List.getD,hv]);have b1:=h.box _ EN.2.1;have pl:=hp.portLt EN.2.1 EN.2.2.2.1;have lb:0≤(get2 (f.boxes.getD (endsF cs c).2.2.1 default).gv (endsF cs c).2.2.2 v).limit∧(get2 (f.boxes.getD (endsF cs c).2.2.1 default).gv (endsF cs c).2.2.2 v).limit≤2000000000:=by have h1:=b1.1.g (endsF cs c).2.2.2 v (by rw[b1.2.1];exact pl) (by rw[b1.2.2];exact hv);unfold Gv.limit;have:=h1.r0;have:=h1.r1;have:=h1.f0;have:=h1.f1;have:=h1.n1;omega
 split at hx
 ·rcases List.mem_append.1 hx with hx|hx
  ·exact hl t x hx
  ·rw[List.mem_singleton]at hx;subst hx;refine⟨hc,hv,?_,?_⟩
   ·show 0≤_+_;split<;>omega
   ·show _+_≤(1000000000000000:Int);split<;>omega
 ·exact hl t x hx
theorem tellR_lim(h:FabOk ns cs f N)(hp:PlF ns cs)(hN:N≤1000000000){lm:Nat→List (Nat×Nat×Int)}{c v:Nat}(hc:c<2*cs.length)(hv:v≤f.rooms.length)(hl:∀t x,x∈lm t→NotOk ns cs f x):∀t x,x∈((tellR ns cs {f with lim:=lm} c v).lim t)→NotOk ns cs f x:=by
 induction v with
 |zero=>exact hl
 |succ v ih=>rw[tellR_succ,tellR_same];exact tell1_lim h hp hN hc (by omega) (ih (by omega))
theorem tellTo_lim(h:FabOk ns cs f N)(hp:PlF ns cs)(hN:N≤1000000000){c:Nat}(hc:c≤2*cs.length):∀t x,x∈((tellTo ns cs f c).lim t)→NotOk ns cs f x:=by
 induction c with
 |zero=>exact h.lim
 |succ c ih=>
  have ih:=ih (by omega);rw[tellTo_succ];have e:=tellTo_same ns cs f c;generalize tellTo ns cs f c=g at *;split
  ·rw[e];exact tellR_lim h hp hN (by omega) (Nat.le_refl _) ih
  ·exact ih
theorem tell_same(f:Fab):f.tell ns cs={f with lim:=(f.tell ns cs).lim}:=tellTo_same ns cs f (2*cs.length)
theorem tell_ok(h:FabOk ns cs f N)(hp:PlF ns cs)(hN:N≤1000000000):FabOk ns cs (f.tell ns cs) (N+512):=by
 have k:=h.mono (show N≤N+512 by omega);have hl:∀t x,x∈(f.tell ns cs).lim t→NotOk ns cs f x:=tellTo_lim h hp hN (Nat.le_refl _);have hn:∀t,((f.tell ns cs).lim t).length≤N+512:=fun t=>by have h1:=tellTo_len ns cs f (2*cs.length) t (by have:=h.rl;have:=h.k1;omega);have h2:=h.lil t;have h3:=hp.c32;show((tellTo ns cs f (2*cs.length)).lim t).length≤N+512;omega
 rw[tell_same];generalize(f.tell ns cs).lim=lm at *;exact{k0:=k.k0,k1:=k.k1,rl:=k.rl,rv:=k.rv,bl:=k.bl,box:=k.box,q:=fun i p c x a b d e=>by have q:=k.q i p c x a b d e;exact⟨q.c0,q.c1,q.e0,q.e1,q.t0,q.t1,q.d⟩,up:=k.up,r0:=k.r0,r1:=k.r1,bn:=k.bn,a0:=k.a0,a1:=k.a1,now:=k.now,last:=k.last,ll:=k.ll,cm:=k.cm,cv:=k.cv,gn:=k.gn,gv:=k.gv,fl:=fun t x hx=>by have q:=k.fl t x hx;exact⟨q.1,q.2.c0,q.2.c1,q.2.e0,q.2.e1,q.2.t0,q.2.t1,q.2.d⟩,lim:=hl,fll:=k.fll,lil:=hn}
end
theorem CntM.set_{τ:Own}{w:World}{k:Nat}{v:Value}{row:Nat→Value}{n:Nat}{l:List (List Int)}(h:CntM τ w k v row n l){i j g m c:Nat}(hi:i<n)(hl:l.length=n)(hj:j<(l.getD i []).length)(hm:(l.getD i []).length=m)(e:row i=.slice (some ⟨g,0,none⟩) m c)(x:Int):CntM τ (w.setCell ⟨g,j,none⟩ (.int .i64 x)) k v row n (set2 l i j x)∧τ g=(2,k,i,0)∧g<w.heap.size:=by
 obtain⟨h1,h2⟩:=h;subst hm;obtain⟨g',c',e',_,_,lg,tg⟩:=(h2 i hi).at_ (i:=j) (by simpa using hj);rw[e]at e';injection e' with e1;injection e1 with e1;injection e1 with e1;subst e1;unfold is2 at tg;have hc:Ch (fun k=>k=g) w (w.setCell ⟨g,j,none⟩ (.int .i64 x)):=(Ch.refl (fun k=>k=g) w).setCell (p:=⟨g,j,none⟩) (.inl rfl) _;refine⟨⟨h1.chE hc (fun _ _=>rfl) fun q s=>?_,fun q hq=>?_⟩,tg,lg⟩
 ·rw[s,tg];unfold never;simp
 ·by_cases hqi:q=i
  ·subst hqi;have u:=(h2 q hq).set_ (i:=j) (by simpa using hj) e (.int .i64 x);unfold set2;rw[getD_set_at _ _ _ (by omega),List.length_set,List.map_set];exact u
  ·have u:=(h2 q hq).chE hc (τ':=τ) (fun _ _=>rfl) fun p s=>by
    rw[s,tg];unfold is2;simp;exact fun q'=>hqi q'.symm
   unfold set2;rw[getD_set_far _ _ _ hqi];exact u
section
variable{τ:Own}{w:World}{b:Nat}{ns:List Nd}{cs:List Cb}{f:Fab}{L:FbL}
theorem FabM.cameSet(h:FabM τ w b ns cs f L){i j g m c:Nat}(hi:i<ns.length)(hl:f.came.length=ns.length)(hj:j<(f.came.getD i []).length)(hm:(f.came.getD i []).length=m)(e:L.cm i=.slice (some ⟨g,0,none⟩) m c)(x:Int):FabPostL τ w b ns cs L {f with came:=set2 f.came i j x} (w.setCell ⟨g,j,none⟩ (.int .i64 x)):=by obtain⟨k1,tg,lg⟩:=h.came.set_ hi hl hj hm e x;have hc:Ch (fun k=>k=g) w (w.setCell ⟨g,j,none⟩ (.int .i64 x)):=(Ch.refl (fun k=>k=g) w).setCell (p:=⟨g,j,none⟩) (.inl rfl) _;have g':=h.toG (fun k=>k=7) (τ':=τ) hc (fun _ _=>rfl) fun k s=>.inr (by rw[s,tg];exact⟨rfl,rfl⟩);exact⟨τ,⟨⟨g'.root (by decide),g'.rootT.1⟩,g'.plan,g'.rooms,g'.cab,g'.bxs,g'.bx,g'.up (by decide),g'.r0,g'.r1,⟨g'.bk (by decide),g'.bkT⟩,⟨g'.fl (by decide) (by decide),g'.flT⟩,⟨g'.lim (by decide) (by decide),g'.limT⟩,k1,g'.gone (by decide),g'.lost (by decide)⟩,⟨hc.mono fun k _ s=>by rw[s,tg];exact Nat.le_refl 2,fun _ _=>rfl⟩⟩
end
def delM(M:Lit→Option Value)(k:Lit):Lit→Option Value:=fun l=>if l.sameKey k then none else M l
theorem OMap.drop{w:World}{P:Program}{k t e:TypeId}{b n:Nat}{M:Lit→Option Value}(h:OMap w P k b n M)(K:Keyed P k)(ht:P.underlying t=some (.map k e)){key:Value}{kl:Lit}(hkey:keyOf P k key=some kl)(ty:TypeId):∃w',(Builtin.delete_ #[t,k] ty #[.map (some b),key]).run P w=.ok (.tuple #[]) w'∧OMap w' P k b n (delM M kl)∧w.grownBy w' (some b):=by
 obtain⟨D,h,h2⟩:=h;obtain⟨w',hrun,h3,hg⟩:=h.drop K ht hkey ty;refine⟨w',hrun,⟨_,h3,fun l=>?_⟩,hg.grown⟩;unfold delM;rcases Classical.em (l=kl)with hl|hl
 ·subst hl;rw[if_pos (WideAt.sameKey_self (K.key hkey))];exact⟨by rw[has_del_same];rfl,fun z=>by rw[atKey_del_same];rfl⟩
 ·rw[if_neg (by rw[WideAt.sameKey_iff (K.key hkey)];exact hl)];exact⟨by rw[has_del_other hl];exact(h2 l).1,fun z=>by rw[atKey_del_other hl];exact(h2 l).2 z⟩
theorem TickM.del{α:Type}{w3:World}{bm n now:Nat}{fl:Nat→List α}{P':Nat→Value→List α→Prop}{M:Lit→Option Value}(hn:n≤1000000000)(h3:∀l v,M l=some v→∃t:Nat,l=.int .i64 t∧t≤900000000)(h4:∀t,M (.int .i64 (t:Nat))=none→fl t=[])(om:OMap w3 Tryz.prog 3 bm n (delM M (.int .i64 now)))(h5:∀t v,t≠now→M (.int .i64 (t:Nat))=some v→P' t v (fl t)):TickM w3 bm (fun t=>if t=now then[]else fl t) P':=by
 have kl:WideAt.IsKeyLit (.int .i64 (now:Int)):=trivial;have p1:delM M (.int .i64 now) (.int .i64 now)=none:=by unfold delM;rw[if_pos (WideAt.sameKey_self kl)]
 have p2:∀l,l≠.int .i64 (now:Nat)→delM M (.int .i64 now) l=M l:=fun l e=>by unfold delM;rw[if_neg (by rw[WideAt.sameKey_iff kl];exact e)]
 refine⟨n,_,om,hn,fun l v hv=>?_,fun t ht=>?_,fun t v hv=>?_⟩
 ·rcases Classical.em (l=.int .i64 (now:Nat))with e|e
  ·rw[e,p1]at hv;cases hv
  ·rw[p2 l e]at hv;exact h3 l v hv
 ·by_cases e:t=now
  ·exact if_pos e
  ·rw[p2 _ (fun q=>e (lit_nat.1 q))]at ht;show(if t=now then[]else fl t)=[];rw[if_neg e];exact h4 t ht
 ·by_cases e:t=now
  ·subst e;rw[p1]at hv;cases hv
  ·rw[p2 _ (fun q=>e (lit_nat.1 q))]at hv;show P' t v (if t=now then[]else fl t);rw[if_neg e];exact h5 t v e hv
section
variable{τ:Own}{w:World}{b:Nat}{ns:List Nd}{cs:List Cb}{f:Fab}{L:FbL}
theorem FabM.limDel(h:FabM τ w b ns cs f L)(now:Nat)(hn:now≤900000000)(ty:TypeId):∃w',(Builtin.delete_ #[91,3] ty #[.map (some L.ml),.int .i64 now]).run Tryz.prog w=.ok (.tuple #[]) w'∧FabPostL τ w b ns cs L {f with lim:=fun t=>if t=now then[]else f.lim t} w':=by
 obtain⟨⟨n,M,m1,m2,m3,m4,m5⟩,mT⟩:=h.lim;obtain⟨w',hrun,om,g3⟩:=m1.drop (int_keyed Tryz.underlying3) Tryz.underlying91 (keyOf_int_mk Tryz.underlying3 (wf_small (now:Int) (by omega) (by omega))) ty;have hc:Ch (fun k=>k=L.ml) w w':=(Ch.refl (fun k=>k=L.ml) w).grown g3 fun g hg=>.inl (Option.some.inj hg).symm;have g:=h.toG (fun k=>k=5) (τ':=τ) hc (fun _ _=>rfl) fun k s=>.inr (by rw[s,mT];exact⟨rfl,rfl⟩);refine⟨w',hrun,τ,⟨⟨g.root (by decide),g.rootT.1⟩,g.plan,g.rooms,g.cab,g.bxs,g.bx,g.up (by decide),g.r0,g.r1,⟨g.bk (by decide),g.bkT⟩,⟨g.fl (by decide) (by decide),g.flT⟩,⟨?_,mT⟩,g.came (by decide),g.gone (by decide),g.lost (by decide)⟩,⟨hc.mono fun k _ s=>?_,fun _ _=>rfl⟩⟩
 ·refine TickM.del (M:=M) m2 m3 m4 om fun t v e hv=>?_;obtain⟨a1,a2⟩:=m5 t v hv;refine⟨own_ch a1 hc fun k hk s=>?_,fun k hk=>a2 k hk⟩;have q1:=a2 k hk;rw[s,mT]at q1;simp at q1
 ·rw[s,mT];decide
end
end Go.Proofs.YtnjjkgjdhljfnaaGreat
namespace Go.Proofs.YtnjjkgjdhljfnaaGreat
open Go.RowKit Go.Maps
attribute [local go_sem ↓] Go.wp_at_zero Go.wp_at_succ
theorem RtM.toS{τ:Own}{w:World}{b q:Nat}{ns:List Nd}{vn vf:Value}{r:Rt}(h:RtM τ w ns vn vf r){node port to':Nat}(hn:node<ns.length)(hpo:port<portsOf (ns.getD node nd0))(ht:to'<ns.length)(c7:w.cell? ⟨b,7+q*2,none⟩=some vn)(c8:w.cell? ⟨b,7+q*2+1,none⟩=some vf):RtS w b q ns.length (portsOf (ns.getD node nd0)) node port to' r:=by
 obtain⟨V,⟨a0,cap,e,h0⟩,hV⟩:=h.nx;obtain⟨U,hu,hU⟩:=h.fl;have ln:((List.range ns.length).flatMap fun i=>[V i 0,V i 1]).length=ns.length*2:=by
  induction ns.length with
  |zero=>rfl
  |succ n ih=>rw[List.range_succ,List.flatMap_append,List.length_append,ih];simp;omega
 obtain⟨g,C,rfl,hb,_,hx⟩:=h0 (by omega);refine⟨⟨g,cap,V node,by rw[c7,e],fun p hp=>?_,fun p hp=>?_⟩,?_⟩
 ·rw[hb.cell,hx _ (by omega),flatG_at (d:=0) (m:=2) (c:=fun i=>[V i 0,V i 1]) (fun _=>rfl) _ node p (by simpa using hn) hp];have e2:(List.range ns.length).getD node 0=node:=by simp[List.getD,hn]
  rw[e2];rcases(show p=0∨p=1 by omega)with rfl|rfl<;>rfl
 ·obtain⟨g2,c2,e2,k2,_⟩:=(hV node hn p hp).at_ (i:=to') (by simpa using ht);exact⟨g2,c2,e2,by rw[k2];simp[ht]⟩
 ·obtain⟨g,c,e1,k1,_⟩:=hu.at_ (i:=node) (by simpa using hn);obtain⟨g2,c2,e2,k2,_⟩:=(hU node hn).at_ (i:=port) (by simpa using hpo);exact⟨g,c,g2,c2,by rw[c8,e1],by rw[k1,←e2];simp[hn],by rw[k2,List.getElem?_map,List.getElem?_range hpo];rfl⟩
section
variable{τ:Own}{w:World}{b:Nat}{ns:List Nd}{cs:List Cb}{f:Fab}{L:FbL}{N:Nat}
theorem FabM.rtS(h:FabM τ w b ns cs f L){node port to':Nat}{ep:Int}(hn:node<ns.length)(hpo:port<portsOf (ns.getD node nd0))(ht:to'<ns.length)(h0:0≤ep)(h1:ep≤f.bnow):RtS w b (ep.toNat%2) ns.length (portsOf (ns.getD node nd0)) node port to' (f.rt ep):=by
 unfold Fab.rt;by_cases hm:ep%2=0
 ·rw[if_pos hm,show ep.toNat%2=0 by omega];exact h.r0.toS hn hpo ht h.r19 h.r19
 ·rw[if_neg hm,show ep.toNat%2=1 by omega];exact(h.r1 (by omega)).toS hn hpo ht h.r19 h.r19
theorem FabM.upS(h:FabM τ w b ns cs f L)(hl:f.up.length=cs.length):∃gu cu,0<cs.length→w.cell? ⟨b,6,none⟩=some (.slice (some ⟨gu,0,none⟩) cs.length cu)∧∀i,i<cs.length→w.cell? ⟨gu,i,none⟩=some (.bool (f.up.getD i false)):=by
 by_cases h0:0<cs.length
 ·obtain⟨a,cap,e,hx⟩:=h.up;obtain⟨g,C,rfl,hb,_,hx⟩:=hx (by simp;omega);refine⟨g,cap,fun _=>⟨by rw[h.r19 (i:=6)];show some L.vu=_;rw[e,hl],fun i hi=>?_⟩⟩;rw[hb.cell,hx i (by simp;omega)];simp[List.getD,hl,hi]
 ·exact⟨0,0,fun q=>absurd q h0⟩
theorem leave_lt(h:FabOk ns cs f N){x:Fm}{node port c:Nat}(hn:node<ns.length)(hx:FmOk ns f x)(hl:f.leave ns cs node port x=some c):c<2*cs.length:=by
 have hr:RtOk ns cs (f.rt x.ep):=by
  unfold Fab.rt;by_cases hm:x.ep%2=0
  ·rw[if_pos hm];exact h.r0
  ·rw[if_neg hm];exact h.r1 (by have:=hx.e0;have:=hx.e1;omega)
 have k:∀q,q<2→(f.rt x.ep).next node q x.to'.toNat<cs.length∧-2≤(f.rt x.ep).next node q x.to'.toNat:=fun q hq=>(hr node q x.to'.toNat hn hq (by have:=hx.t0;have:=hx.t1;omega)).1;unfold Fab.leave at hl;simp only at hl;have k2:=k (if isSw ns node&&(f.rt x.ep).falls node port then 1 else 0) (by split<;>omega);generalize(if isSw ns node&&(f.rt x.ep).falls node port then 1 else 0)=ph at *;generalize(f.rt x.ep).next node ph x.to'.toNat=cab at *;by_cases h1:cab<0
 ·rw[if_pos h1]at hl;cases hl
 ·rw[if_neg h1]at hl;by_cases h2:f.up.getD cab.toNat false=true
  ·rw[if_pos h2]at hl;injection hl with hl;rw[←hl];unfold chanF;split<;>omega
  ·rw[if_neg h2]at hl;cases hl
def routeF(ns:List Nd)(cs:List Cb)(f:Fab)(node port:Nat)(x:Fm):Option Nat:=(f.leave ns cs node port x).map fun c=>(endsF cs c).2.1
theorem fstep1_any(node p c1 c2:Nat)(x:Fm)(v:Value)(h:FabM τ w b ns cs f L)(hp:PlF ns cs)(hok:FabOk ns cs f N)(hn:node<ns.length)(hpo:p<portsOf (ns.getD node nd0))(hx:FmOk ns f x)(hv:∃a n c,v=.slice a n c)(h1:w.cell? ⟨c1,0,none⟩=some (pt b))(h2:w.cell? ⟨c2,0,none⟩=some (.int .i64 node)):Calls Tryz.prog 98 #[.int .i64 p,fmV x v,pt c1,pt c2] w fun e w'=>e=.returned (.int .i64 (optI (routeF ns cs f node p x)))∧Below w.heap.size w w':=by
 obtain⟨va,vn,vc,rfl⟩:=hv;obtain⟨An,Ac,cn,cc,hS⟩:=h.toS;obtain⟨gu,cu,hU⟩:=h.upS hok.up;have hr:RtOk ns cs (f.rt x.ep):=by
  unfold Fab.rt;by_cases hm:x.ep%2=0
  ·rw[if_pos hm];exact hok.r0
  ·rw[if_neg hm];exact hok.r1 (by have:=hx.e0;have:=hx.e1;omega)
 have t1:x.to'.toNat<ns.length:=by have:=hx.t0;have:=hx.t1;omega
 have LT:∀c,f.leave ns cs node p x=some c→c<2*cs.length:=fun c hc=>leave_lt hok hn hx hc;obtain⟨w1,hw1⟩:∃w1:World,w.alloc (.cells #[.int .i64 x.id,.int .i64 x.frm,.int .i64 x.to',.int .i64 x.cls,.int .i64 x.ep,.slice va vn vc] 59)=w1:=⟨_,rfl⟩;have BW:Hid (Below w.heap.size w w1):=by rw[←hw1];exact(Below.refl _ _).alloc (Nat.le_refl _) _
 have FB:Blk w1 w.heap.size 59 #[.int .i64 x.id,.int .i64 x.frm,.int .i64 x.to',.int .i64 x.cls,.int .i64 x.ep,.slice va vn vc]:=by rw[←hw1];exact Blk.new w _ _
 have f0:=FB.cell 0;have f1:=FB.cell 1;have f2:=FB.cell 2;have f3:=FB.cell 3;have f4:=FB.cell 4;have f5:=FB.cell 5;simp only[List.getElem?_toArray,List.getElem?_cons_zero,List.getElem?_cons_succ]at f0 f1 f2 f3 f4 f5;have S1:=hS.below BW.out;have M1:=h.below BW.out;have k1:w1.cell? ⟨c1,0,none⟩=some (pt b):=(BW.out.cell (p:=⟨c1,0,none⟩) (World.block_lt_of_cell? _ _ h1)).trans h1;have k2:w1.cell? ⟨c2,0,none⟩=some (.int .i64 node):=(BW.out.cell (p:=⟨c2,0,none⟩) (World.block_lt_of_cell? _ _ h2)).trans h2;have LV:=Lib.hid (fleave_any f node p b x (.slice va vn vc) ns cs An Ac cn cc gu cu w1 S1 hp hn hpo hx.e0 hx.t0 hx.t1 (M1.rtS hn hpo t1 hx.e0 hx.e1) (fun q hq=>(hr node q _ hn hq t1).1) hok.up
  (fun h0=>⟨(BW.out.cell (p:=⟨b,6,none⟩) (World.block_lt_of_cell? _ _ (hU h0).1)).trans (hU h0).1,fun i hi=>(BW.out.cell (p:=⟨gu,i,none⟩) (World.block_lt_of_cell? _ _ ((hU h0).2 i hi))).trans ((hU h0).2 i hi)⟩) ⟨va,vn,vc,rfl⟩)
 have K1:Hid (∀w2,Below w1.heap.size w1 w2→w2.cell? ⟨c1,0,none⟩=some (.pointer (some ⟨b,0,none⟩))):=fun w2 hb=>(hb.cell (p:=⟨c1,0,none⟩) (World.block_lt_of_cell? _ _ k1)).trans k1;have EN:Hid (∀c w2,c<2*cs.length→Below w1.heap.size w1 w2→Calls Tryz.prog 53 #[.pointer (some ⟨b,0,none⟩),.int .i64 c] w2 (EndsPost cs c w2)):=fun c w2 hc hb=>fends_any c b ns cs An Ac cn cc w2 (S1.below hb) hp hc;have FIN:Hid (∀w2,Below w1.heap.size w1 w2→Below w.heap.size w w2):=fun w2 hb=>BW.out.trans (hb.mono BW.out.size);clear S1 M1 hr t1 hU hS h hp hok h1 h2 FB hn hpo hx;obtain⟨xi,xf,xt,xc,xe,xd⟩:=x;unfold fmV pt at *;unfold routeF;simp only at *;generalize f.leave ns cs node p ⟨xi,xf,xt,xc,xe,xd⟩=r at *;cases r with
 |none=>
  simp only[Option.map_none];have o1:optI none=-1:=rfl;rw[o1]at LV⊢
  go_enter Tryz.func98,Tryz.ntmps98
  go_wp2_with (first|(go_at_call 66;((with_reducible refine LV.out.mono ?_);rintro e w2 ⟨rfl,hb⟩;have HB:=Lib.hid hb;clear hb)))
  go_ret
  exact⟨rfl,FIN.out _ HB.out⟩
 |some c=>
  simp only[Option.map_some];have o1:optI (some c)=c:=rfl;have o2:optI (some (endsF cs c).2.1)=((endsF cs c).2.1:Int):=rfl;rw[o1]at LV;rw[o2];have hc:=LT c rfl;have d1:decide ((c:Int)<0)=false:=decide_eq_false (by omega);clear LT
  go_enter Tryz.func98,Tryz.ntmps98
  go_wp2_with (first
   |(go_at_call 66;((with_reducible refine LV.out.mono ?_);rintro e w2 ⟨rfl,hb⟩;have HB:=Lib.hid hb;have kk:=K1.out _ hb;clear hb))
   |(go_at_call 53;refine(EN.out c w2 hc HB.out).mono ?_;rintro e w3 ⟨rfl,hb⟩;have HC:Hid (Below w1.heap.size w1 w3):=HB.out.trans (hb.mono HB.out.size);clear hb))
  go_ret
  exact⟨rfl,FIN.out _ HC.out⟩
end
end Go.Proofs.YtnjjkgjdhljfnaaGreat
namespace Go.Proofs.YtnjjkgjdhljfnaaGreat
open Go.RowKit Go.Maps
theorem own_cellG{α:Type}{d:α}{m:Nat}{c:α→List Value}(hc:∀x,(c x).length=m){w:World}{base:Nat}{e:TypeId}{n:Nat}{v:Value}{D:List α}(h:w.ownsRow base e m v n (D.flatMap c))(hn:D.length=n){i:Nat}(hi:i<n):∃g cap,v=.slice (some ⟨g,0,none⟩) n cap∧base≤g∧g<w.heap.size∧v.ownBlock=some g∧∀i,i<n→∀j,j<m→w.cell? ⟨g,i*m+j,none⟩=(c (D.getD i d))[j]?:=by
 obtain⟨h1,⟨rfl,h2⟩|⟨g,cap,cur,rfl,hb,hg,_,_,_,ht⟩⟩:=h
 ·omega
 ·have hB:Blk w g e cur:=hg;refine⟨g,cap,rfl,hb,hB.lt,rfl,fun i hi j hj=>?_⟩;have lt:i*m+j<n*m:=by
   have:(i+1)*m≤n*m:=Nat.mul_le_mul_right m (by omega);rw[Nat.succ_mul]at this;omega
  rw[hB.cell,←Array.getElem?_toList,←flatG_at (d:=d) (m:=m) (c:=c) hc D i j (by omega) hj,←ht,List.getElem?_take,if_pos lt]
theorem FNx.cell{τ τ':Own}{w w':World}(h:FNx τ w τ' w'){p:Addr}(hl:p.block<w.heap.size)(ht:(τ p.block).1<2):w'.cell? p=w.cell? p:=h.ch.cell hl (by omega)
section
variable(ns:List Nd)(cs:List Cb)
def stepsTo(f:Fab)(n:Nat):Fab:=(List.range n).foldl (Fab.stepN ns cs) f
theorem stepsTo_succ(f:Fab)(n:Nat):stepsTo ns cs f (n+1)=(stepsTo ns cs f n).stepN ns cs n:=by unfold stepsTo;rw[List.range_succ,List.foldl_append];rfl
end
def mv0:Mv:=(0,0,none,default)
def movesTo(cs:List Cb)(u:Nat)(F0:Fab)(ms:List Mv)(k:Nat):Fab:=(ms.take k).foldl (Fab.move1 cs u) F0
theorem movesTo_succ(cs:List Cb)(u:Nat)(F0:Fab)(ms:List Mv){k:Nat}(hk:k<ms.length):movesTo cs u F0 ms (k+1)=(movesTo cs u F0 ms k).move1 cs u (ms.getD k mv0):=by unfold movesTo;rw[take_snocG mv0 ms k hk,List.foldl_append];rfl
theorem movesTo_all(cs:List Cb)(u:Nat)(F0:Fab)(ms:List Mv):movesTo cs u F0 ms ms.length=ms.foldl (Fab.move1 cs u) F0:=by unfold movesTo;rw[List.take_length]
theorem Tr.outs{route:Nat→Fm→Option Nat}{b b1:Bx}{ms:List Mv}(h:Tr route b ms b1):∀m∈ms,∀k,m.2.2.1=some k→k<b.ports∧route m.1 m.2.2.2=some k:=by
 induction h with
 |nil b=>exact fun m hm=>by cases hm
 |cons mi _ ih=>
  intro m hm k e;have d:=mi.dims;rcases List.mem_cons.1 hm with q|q
  ·subst q;cases mi with
   |drop p c f l h1 h2 h3 h4=>cases e
   |move i c k' f l pt h1 h2 h3 h4 h5 h6 h7 h8=>injection e with e;subst e;exact⟨h3,h5⟩
  ·have:=ih m q k e;rw[d.1]at this;exact this
 |bar x hx _ ih=>exact fun m hm k e=>ih m hm k e
theorem cabI_some{cs:List Cb}{u k i:Nat}(h:cableAt cs u k=some i):cabI cs u k=(i:Int):=by unfold cabI;rw[h];rfl
theorem route_cable{ns:List Nd}{cs:List Cb}{f:Fab}{N u p k:Nat}{x:Fm}(hp:PlF ns cs)(h:FabOk ns cs f N)(hu:u<ns.length)(hx:FmOk ns f x)(hr:routeF ns cs f u p x=some k):∃i,cableAt cs u k=some i∧i<cs.length∧((cs.getD i cb0).a=(u:Int)∨(cs.getD i cb0).b=(u:Int))∧k<portsOf (ns.getD u nd0):=by
 unfold routeF at hr;cases hl:f.leave ns cs u p x with
 |none=>rw[hl]at hr;cases hr
 |some c=>
  rw[hl]at hr;injection hr with hr;have hr:(endsF cs c).2.1=k:=hr;have hrt:RtOk ns cs (f.rt x.ep):=by
   unfold Fab.rt;by_cases hm:x.ep%2=0
   ·rw[if_pos hm];exact h.r0
   ·rw[if_neg hm];exact h.r1 (by have:=hx.e0;have:=hx.e1;omega)
  have key:∀q,q<2→_:=fun q hq=>hrt u q x.to'.toNat hu hq (by have:=hx.t0;have:=hx.t1;omega);unfold Fab.leave at hl;simp only at hl;have k2:=key (if isSw ns u&&(f.rt x.ep).falls u p then 1 else 0) (by split<;>omega);generalize(if isSw ns u&&(f.rt x.ep).falls u p then 1 else 0)=ph at *;generalize(f.rt x.ep).next u ph x.to'.toNat=cab at *;by_cases h1:cab<0
  ·rw[if_pos h1]at hl;cases hl
  ·rw[if_neg h1]at hl;by_cases h2:f.up.getD cab.toNat false=true
   ·rw[if_pos h2]at hl;injection hl with hl;have hi:cab.toNat<cs.length:=(by have:=k2.1.1;omega);have ht:=k2.2 (by omega);obtain⟨c1,c2,c3⟩:=hp.chan hi ht;rw[hl]at c1 c2 c3;obtain⟨d1,d2⟩:=hp.cable c1;rw[c3,c2,hr]at d1;have EN:=hp.ends c1;have pl:=hp.portLt EN.1 EN.2.2.1;rw[c3,hr]at pl;exact⟨cab.toNat,d1,hi,ht,pl⟩
   ·rw[if_neg h2]at hl;cases hl
structure RowsM(τ:Own)(w:World)(ms:List Mv)(aM aF:Option Addr):Prop where
 mv:∀k,k<ms.length→∃g,aM=some ⟨g,0,none⟩∧(τ g).1<2∧g<w.heap.size∧∀j,j<3→w.cell? ⟨g,k*3+j,none⟩=(cM (ms.getD k mv0))[j]?
 fr:∀k,k<ms.length→∃g v,aF=some ⟨g,0,none⟩∧(τ g).1<2∧g<w.heap.size∧IsDat τ w (ms.getD k mv0).2.2.2.data v∧∀j,j<6→w.cell? ⟨g,k*6+j,none⟩=(cFm ((ms.getD k mv0).2.2.2,v))[j]?
theorem RowsM.fnx{τ τ':Own}{w w':World}{ms:List Mv}{aM aF:Option Addr}(h:RowsM τ w ms aM aF)(n:FNx τ w τ' w'):RowsM τ' w' ms aM aF where
 mv:=fun k hk=>by obtain⟨g,e,t,l,c⟩:=h.mv k hk;exact⟨g,e,by rw[n.ext _ l];exact t,Nat.lt_of_lt_of_le l n.ch.size,fun j hj=>(n.cell (p:=⟨g,k*3+j,none⟩) l t).trans (c j hj)⟩
 fr:=fun k hk=>by obtain⟨g,v,e,t,l,d,c⟩:=h.fr k hk;exact⟨g,v,e,by rw[n.ext _ l];exact t,Nat.lt_of_lt_of_le l n.ch.size,d.chE n.ch n.ext (fun k s=>by omega),fun j hj=>(n.cell (p:=⟨g,k*6+j,none⟩) l t).trans (c j hj)⟩
section
variable(ns:List Nd)(cs:List Cb)
def msF(F:Fab)(u:Nat):List Mv:=((F.boxes.getD u default).step (routeF ns cs F u)).2
def boxF(F:Fab)(u:Nat):Fab:={F with boxes:=F.boxes.set u ((F.boxes.getD u default).step (routeF ns cs F u)).1}
theorem stepN_is(F:Fab)(u:Nat):F.stepN ns cs u=movesTo cs u (boxF ns cs F u) (msF ns cs F u) (msF ns cs F u).length:=by rw[movesTo_all];rfl
end
def StepBPost(τ:Own)(w:World)(b:Nat)(ns:List Nd)(cs:List Cb)(F:Fab)(u:Nat)(L:FbL)(e:Ending)(w':World):Prop:=
 ∃aM kM aF kF,e=.returned (.tuple #[.slice aM (msF ns cs F u).length kM,.slice aF (msF ns cs F u).length kF])∧∃τ' L',FabM τ' w' b ns cs (boxF ns cs F u) L'∧FNx τ w τ' w'∧SmL L L'∧RowsM τ' w' (msF ns cs F u) aM aF
theorem fstepB{b u N bF bN:Nat}{ns:List Nd}{cs:List Cb}{F:Fab}{L:FbL}{τ:Own}{w:World}(m:FabM τ w b ns cs F L)(hp:PlF ns cs)(ok:FabOk ns cs F N)(hN:N≤999999999000)(hu:u<ns.length)(kF:w.cell? ⟨bF,0,none⟩=some (pt b))(kN:w.cell? ⟨bN,0,none⟩=some (.int .i64 u)):Calls Tryz.prog 99 #[pt (L.bx u),.func (.func 98) #[] #[pt bF,pt bN]] w (StepBPost τ w b ns cs F u L):=by
 have B:=ok.box u hu;have S:=bstep_any N (routeF ns cs F u) bF bN τ (3+u) w (L.bx u) (F.boxes.getD u default) (L.bxl u) (m.bx u hu) (by omega) B.1 hN
  (fun p x v w' hb hpX hq hv=>by
   obtain⟨c,hc,hx⟩:=hq;have hpo:p<portsOf (ns.getD u nd0):=(by rw[portsOf_eq,←B.2.1];exact hpX);have hcc:c<F.rooms.length:=(by rw[←B.2.2];exact hc);exact fstep1_any u p bF bN x v (m.below hb) hp ok hu hpo (ok.q u p c x hu hpo hcc hx) hv
    ((hb.cell (p:=⟨bF,0,none⟩) (World.block_lt_of_cell? _ _ kF)).trans kF) ((hb.cell (p:=⟨bN,0,none⟩) (World.block_lt_of_cell? _ _ kN)).trans kN))
 refine S.mono ?_;rintro e w3 ⟨vM,vF,Q,τ',LX,rfl,hbx,hnx,oM,oF,hq,hd,tM,tF⟩;obtain⟨aM,kM,eM⟩:=own_formN oM;have lq:Q.length=(msF ns cs F u).length:=by have:=congrArg List.length hq;simpa[msF]using this
 rw[lq]at oF;obtain⟨aF,kF',eF⟩:=own_formN oF;refine⟨aM,kM,aF,kF',by rw[eM,eF];rfl,τ',_,m.box hu (by rw[ok.bl]) hnx hbx,FNx.of_nx hnx (by omega),⟨rfl⟩,⟨fun k hk=>?_,fun k hk=>?_⟩⟩
 ·obtain⟨g,cap,e1,hb,hl,ho,hc⟩:=own_cellG (d:=mv0) cM_length oM rfl hk;refine⟨g,?_,by rw[tM g ho];omega,hl,fun j hj=>hc k hk j hj⟩;rw[eM]at e1;injection e1
 ·obtain⟨g,cap,e1,hb,hl,ho,hc⟩:=own_cellG (d:=((default:Fm),Value.slice none 0 0)) (c:=cFm) (m:=6) (fun _=>rfl) oF lq hk;have hk':k<Q.length:=by rw[lq];exact hk
  have eq1:(Q.getD k ((default:Fm),Value.slice none 0 0)).1=((msF ns cs F u).getD k mv0).2.2.2:=by have h1:(Q.map (·.1))[k]?=((msF ns cs F u).map (·.2.2.2))[k]?:=(by rw[hq];rfl);rw[List.getElem?_map,List.getElem?_map,List.getElem?_eq_getElem hk',List.getElem?_eq_getElem hk]at h1;simpa[List.getD,hk,hk']using h1
  have hm:Q.getD k ((default:Fm),Value.slice none 0 0)∈Q:=by simp[List.getD,hk']
  have hd1:=hd _ hm;refine⟨g,(Q.getD k ((default:Fm),Value.slice none 0 0)).2,?_,by rw[tF g ho];omega,hl,by rw[←eq1];exact hd1,fun j hj=>?_⟩
  ·rw[eF]at e1;injection e1
  ·rw[←eq1];exact hc k hk j hj
end Go.Proofs.YtnjjkgjdhljfnaaGreat
namespace Go.Proofs.YtnjjkgjdhljfnaaGreat
def keyC(x:Nat×Fm):Int:=x.1
theorem byChan_succ(n:Nat)(l:List (Nat×Fm)):byChan (n+1) l=byChan n l++l.filter (fun x=>x.1==n):=by unfold byChan;rw[List.range_succ,List.flatMap_append];simp
theorem byChan_mem{n:Nat}{l:List (Nat×Fm)}{x:Nat×Fm}(h:x∈byChan n l):x∈l∧x.1<n:=by
 unfold byChan at h;obtain⟨c,hc,h⟩:=List.mem_flatMap.1 h;rw[List.mem_filter]at h;have e:x.1=c:=by simpa using h.2
 exact⟨h.1,by rw[e];exact List.mem_range.1 hc⟩
theorem byChan_srt(n:Nat)(l:List (Nat×Fm)):SrtK keyC (byChan n l):=by
 induction n with
 |zero=>exact List.Pairwise.nil
 |succ n ih=>
  rw[byChan_succ];have key:∀x∈l.filter (fun x=>x.1==n),keyC x=(n:Int):=fun x hx=>by
   rw[List.mem_filter]at hx;have e:x.1=n:=by simpa using hx.2
   unfold keyC;rw[e]
  refine SrtK.app.2 ⟨ih,?_,fun x hx y hy=>?_⟩
  ·unfold SrtK;exact List.Pairwise.imp_of_mem (R:=fun _ _=>True) (fun{a b} ha hb _=>by rw[key a ha,key b hb];exact Int.le_refl _) (List.pairwise_of_forall (fun _ _=>trivial))
  ·rw[key y hy];have:=(byChan_mem hx).2;unfold keyC;omega
theorem byChan_filter(n:Nat)(l:List (Nat×Fm))(k:Int):(byChan n l).filter (fun x=>keyC x==k)=l.filter (fun x=>keyC x==k&&decide (x.1<n)):=by
 induction n with
 |zero=>
  have:l.filter (fun x=>keyC x==k&&decide (x.1<0))=[]:=by rw[List.filter_eq_nil_iff];intro x _;simp
  rw[this];rfl
 |succ n ih=>
  rw[byChan_succ,List.filter_append,ih];by_cases e:k=(n:Int)
  ·subst e;have h1:l.filter (fun x=>keyC x==(n:Int)&&decide (x.1<n))=[]:=by
    rw[List.filter_eq_nil_iff];intro x _;unfold keyC;simp only[Bool.and_eq_true,beq_iff_eq,decide_eq_true_eq];omega
   rw[h1,List.nil_append,List.filter_filter];apply List.filter_congr;intro x _;unfold keyC;rw[Bool.eq_iff_iff];simp only[Bool.and_eq_true,beq_iff_eq,decide_eq_true_eq];omega
  ·have h1:(l.filter (fun x=>x.1==n)).filter (fun x=>keyC x==k)=[]:=by
    rw[List.filter_eq_nil_iff];intro x hx;rw[List.mem_filter]at hx;have q:x.1=n:=by simpa using hx.2
    unfold keyC;simp only[beq_iff_eq];omega
   rw[h1,List.append_nil];apply List.filter_congr;intro x _;unfold keyC;rw[Bool.eq_iff_iff];simp only[Bool.and_eq_true,beq_iff_eq,decide_eq_true_eq];omega
theorem byChan_of{n:Nat}{S l:List (Nat×Fm)}(hl:∀x∈l,x.1<n)(hs:SrtK keyC S)(hb:Stb keyC l S):S=byChan n l:=by
 have e:Stb keyC l (byChan n l):=fun k=>by rw[byChan_filter];exact List.filter_congr fun x hx=>by simp[hl x hx]
 exact Stb.uniq hs (byChan_srt n l) (hb.symm.trans e)
section
variable(ns:List Nd)(cs:List Cb)
def arrTo(f0:Fab)(l:List (Nat×Fm))(k:Nat):Fab×List Dl:=(l.take k).foldl (Fab.arrive1 ns cs) (f0,[])
theorem arrTo_succ(f0:Fab)(l:List (Nat×Fm)){k:Nat}(hk:k<l.length):arrTo ns cs f0 l (k+1)=Fab.arrive1 ns cs (arrTo ns cs f0 l k) (l.getD k (0,default)):=by unfold arrTo;rw[take_snocG (0,default) l k hk,List.foldl_append];rfl
theorem arriveF_is(f:Fab):f.arriveF ns cs=arrTo ns cs {f with fl:=fun t=>if t=f.now then[]else f.fl t} (byChan (2*cs.length) (f.fl f.now)) (byChan (2*cs.length) (f.fl f.now)).length:=by unfold arrTo;rw[List.take_length];rfl
end
theorem FabOk.arrs{ns:List Nd}{cs:List Cb}(hp:PlF ns cs):∀(l:List (Nat×Fm)) {s:Fab×List Dl} {N:Nat},FabOk ns cs s.1 N→(∀x∈l,x.1<2*cs.length∧FmOk ns s.1 x.2)→FabOk ns cs (l.foldl (Fab.arrive1 ns cs) s).1 (N+2*l.length)∧(l.foldl (Fab.arrive1 ns cs) s).1.rooms=s.1.rooms∧(l.foldl (Fab.arrive1 ns cs) s).1.bnow=s.1.bnow∧(l.foldl (Fab.arrive1 ns cs) s).1.now=s.1.now
 |[],_,_,h,_=>⟨by simpa using h,rfl,rfl,rfl⟩
 |x::l,(f,D),N,h,hl=>by have k:=FabOk.arrive1 h hp (hl x (List.mem_cons_self ..)).1 (hl x (List.mem_cons_self ..)).2 D;have r:=FabOk.arrs hp l k.1 fun y hy=>⟨(hl y (List.mem_cons_of_mem _ hy)).1,(hl y (List.mem_cons_of_mem _ hy)).2.to_ k.2.1 (by rw[k.2.2.1];exact Nat.le_refl _)⟩;rw[List.foldl_cons];exact⟨r.1.mono (by rw[List.length_cons];omega),r.2.1.trans k.2.1,r.2.2.1.trans k.2.2.1,r.2.2.2.trans k.2.2.2⟩
theorem arrive1_fl(ns:List Nd)(cs:List Cb)(s:Fab×List Dl)(x:Nat×Fm):(Fab.arrive1 ns cs s x).1.fl=s.1.fl∧(Fab.arrive1 ns cs s x).1.now=s.1.now:=by
 unfold Fab.arrive1;dsimp only;split
 ·dsimp only;split
  ·exact⟨rfl,rfl⟩
  ·exact lose_fl _ _
 ·obtain⟨_,_,_,_,_,_,_,_,h9,_,h11,_⟩:=rem_same {s.1 with came:=set2 s.1.came (endsF cs x.1).2.2.1 x.2.cls.toNat (get2 s.1.came (endsF cs x.1).2.2.1 x.2.cls.toNat+1)} x.2.ep;exact⟨h11,h9⟩
theorem arrs_fl(ns:List Nd)(cs:List Cb):∀(l:List (Nat×Fm)) (s:Fab×List Dl),(l.foldl (Fab.arrive1 ns cs) s).1.fl=s.1.fl∧(l.foldl (Fab.arrive1 ns cs) s).1.now=s.1.now
 |[],s=>⟨rfl,rfl⟩
 |x::l,s=>by rw[List.foldl_cons];have h1:=arrs_fl ns cs l (Fab.arrive1 ns cs s x);have h2:=arrive1_fl ns cs s x;exact⟨h1.1.trans h2.1,h1.2.trans h2.2⟩
def Fab.advF(f:Fab)(nr:Rt):Fab:=if(f.bnow+1)%2=0 then{f with pend:=false,bnow:=f.bnow+1,rt0:=nr}else{f with pend:=false,bnow:=f.bnow+1,rt1:=nr}
def Fab.nowF(f:Fab):Fab:={f with now:=f.now+1}
def Fab.begF(f:Fab)(nr:Rt):Fab:=if f.nowF.pend&&f.nowF.mayAdv then f.nowF.advF nr else f.nowF
def Fab.raiseF(cs:List Cb)(f:Fab):Fab:=(f.lim f.now).foldl (Fab.raise1 cs) f
def Fab.limF(f:Fab):Fab:={f with lim:=fun t=>if t=f.now then[]else f.lim t}
theorem tick_is(ns:List Nd)(cs:List Cb)(f:Fab)(nr:Rt):f.tick ns cs nr=((stepsTo ns cs (((f.begF nr).raiseF cs).limF.arriveF ns cs).1 ns.length).tell ns cs,(((f.begF nr).raiseF cs).limF.arriveF ns cs).2):=rfl
section
variable{ns:List Nd}{cs:List Cb}{f:Fab}{N:Nat}{nr:Rt}
theorem FabOk.adv(h:FabOk ns cs f N)(hb:f.bnow+1≤f.now)(hr:RtOk ns cs nr):FabOk ns cs (f.advF nr) N:=by
 have k:=h;unfold Fab.advF;split
 ·exact{
   k0:=k.k0,k1:=k.k1,rl:=k.rl,rv:=k.rv,bl:=k.bl,box:=k.box,q:=fun i p c x hi hp' hc' hx=>(k.q i p c x hi hp' hc' hx).to_ rfl (Nat.le_succ _),up:=k.up,r0:=hr,r1:=fun _=>by rename_i e;exact k.r1 (by omega),bn:=hb,a0:=k.a0,a1:=k.a1,now:=k.now,last:=k.last,ll:=k.ll,cm:=k.cm,cv:=k.cv,gn:=k.gn,gv:=k.gv,fl:=fun t x hx=>⟨(k.fl t x hx).1,(k.fl t x hx).2.to_ rfl (Nat.le_succ _)⟩,lim:=k.lim,fll:=k.fll,lil:=k.lil}
 ·exact{
   k0:=k.k0,k1:=k.k1,rl:=k.rl,rv:=k.rv,bl:=k.bl,box:=k.box,q:=fun i p c x hi hp' hc' hx=>(k.q i p c x hi hp' hc' hx).to_ rfl (Nat.le_succ _),up:=k.up,r0:=k.r0,r1:=fun _=>hr,bn:=hb,a0:=k.a0,a1:=k.a1,now:=k.now,last:=k.last,ll:=k.ll,cm:=k.cm,cv:=k.cv,gn:=k.gn,gv:=k.gv,fl:=fun t x hx=>⟨(k.fl t x hx).1,(k.fl t x hx).2.to_ rfl (Nat.le_succ _)⟩,lim:=k.lim,fll:=k.fll,lil:=k.lil}
theorem FabOk.beg(h:FabOk ns cs f N)(hr:RtOk ns cs nr):FabOk ns cs (f.begF nr) (N+1):=by
 unfold Fab.begF;have h1:FabOk ns cs f.nowF (N+1):=h.nowInc;split
 ·exact h1.adv (by show f.bnow+1≤f.now+1;have:=h.bn;omega) hr
 ·exact h1
theorem adv_same(f:Fab)(nr:Rt):(f.advF nr).fl=f.fl∧(f.advF nr).now=f.now∧(f.advF nr).lim=f.lim∧(f.advF nr).rooms=f.rooms∧(f.advF nr).boxes=f.boxes∧(f.advF nr).up=f.up:=by unfold Fab.advF;split<;>exact⟨rfl,rfl,rfl,rfl,rfl,rfl⟩
theorem beg_same(f:Fab)(nr:Rt):(f.begF nr).fl=f.fl∧(f.begF nr).now=f.now+1∧(f.begF nr).lim=f.lim∧(f.begF nr).rooms=f.rooms∧(f.begF nr).boxes=f.boxes∧(f.begF nr).up=f.up:=by
 unfold Fab.begF;split
 ·exact adv_same f.nowF nr
 ·exact⟨rfl,rfl,rfl,rfl,rfl,rfl⟩
theorem raises_fl(cs:List Cb):∀(l:List (Nat×Nat×Int)) (f:Fab),(l.foldl (Fab.raise1 cs) f).fl=f.fl∧(l.foldl (Fab.raise1 cs) f).lim=f.lim
 |[],f=>⟨rfl,rfl⟩
 |x::l,f=>by rw[List.foldl_cons];exact raises_fl cs l (Fab.raise1 cs f x)
theorem FabOk.raiseF(h:FabOk ns cs f N)(hp:PlF ns cs):FabOk ns cs (f.raiseF cs) N∧(f.raiseF cs).rooms=f.rooms∧(f.raiseF cs).bnow=f.bnow∧(f.raiseF cs).now=f.now:=
 FabOk.raises hp _ h fun x hx=>⟨(h.lim _ x hx).1,(h.lim _ x hx).2.1⟩
theorem FabOk.mid(h:FabOk ns cs f N)(hp:PlF ns cs)(hr:RtOk ns cs nr):FabOk ns cs ((f.begF nr).raiseF cs).limF (N+1)∧((f.begF nr).raiseF cs).limF.now=f.now+1∧((f.begF nr).raiseF cs).limF.fl=f.fl:=by have h1:=(h.beg hr).raiseF hp;have h2:=h1.1.limDel ((f.begF nr).raiseF cs).now;refine⟨h2,h1.2.2.2.trans (beg_same f nr).2.1,?_⟩;show((f.begF nr).raiseF cs).fl=f.fl;unfold Fab.raiseF;rw[(raises_fl cs _ _).1,(beg_same f nr).1]
theorem FlOk.mid(h:FlOk cs f)(hp:PlF ns cs){g:Fab}(e1:g.fl=f.fl)(e2:g.now=f.now+1):FlP cs (fun _=>True) g:=by
 refine⟨by rw[e1];exact h.nd,fun t x hx=>?_,fun t x hx _=>?_⟩
 ·rw[e1]at hx;have:=h.due t x hx;rw[e2];omega
 ·rw[e1]at hx;have:=h.due t x hx;rw[e2];omega
theorem FabOk.arriveF(h:FabOk ns cs f N)(hp:PlF ns cs)(hnd:((f.fl f.now).map (·.1)).Nodup):FabOk ns cs (f.arriveF ns cs).1 (N+128)∧(f.arriveF ns cs).1.rooms=f.rooms∧(f.arriveF ns cs).1.bnow=f.bnow∧(f.arriveF ns cs).1.now=f.now:=by
 have hl:∀x∈byChan (2*cs.length) (f.fl f.now),x.1<2*cs.length∧FmOk ns f x.2:=fun x hx=>⟨(byChan_mem hx).2,(h.fl _ x (byChan_mem hx).1).2⟩;have r:=FabOk.arrs hp (byChan (2*cs.length) (f.fl f.now)) (s:=({f with fl:=fun t=>if t=f.now then[]else f.fl t},[])) (h.flDel f.now) fun x hx=>⟨(hl x hx).1,(hl x hx).2.to_ rfl (Nat.le_refl _)⟩;have len:(byChan (2*cs.length) (f.fl f.now)).length≤64:=by
  have e1:Stb keyC (f.fl f.now) (byChan (2*cs.length) (f.fl f.now)):=fun k=>by rw[byChan_filter];exact List.filter_congr fun x hx=>by simp[(h.fl _ x hx).1]
  rw[e1.length];have:=nodup_lenF (S:=List.range (2*cs.length)) hnd fun x hx=>by obtain⟨y,hy,rfl⟩:=List.mem_map.1 hx;exact List.mem_range.2 (h.fl _ y hy).1
  have:=hp.c32;simp only[List.length_map,List.length_range]at *;omega
 exact⟨r.1.mono (by omega),r.2⟩
theorem FlP.arriveF(h:FlP cs (fun _=>True) f):FlP cs (fun _=>True) (f.arriveF ns cs).1:=by
 have e:=arrs_fl ns cs (byChan (2*cs.length) (f.fl f.now)) ({f with fl:=fun t=>if t=f.now then[]else f.fl t},[]);have h2:FlP cs (fun _=>True) ({f with fl:=fun t=>if t=f.now then[]else f.fl t}:Fab):=by
  refine⟨fun t=>?_,fun t x hx=>?_,fun t x hx q=>?_⟩
  ·show((if t=f.now then[]else f.fl t).map (·.1)).Nodup;split
   ·exact List.nodup_nil
   ·exact h.nd t
  ·have hx:x∈(if t=f.now then[]else f.fl t):=hx;split at hx
   ·cases hx
   ·exact h.due t x hx
  ·have hx:x∈(if t=f.now then[]else f.fl t):=hx;split at hx
   ·cases hx
   ·exact h.lt t x hx q
 exact h2.same e.1 e.2
theorem FlP.stepsTo(hp:PlF ns cs)(h:FlP cs (fun _=>True) f)(hok:FabOk ns cs f N):∀n,n≤ns.length→FlP cs (fun c=>n≤(endsF cs c).1) (stepsTo ns cs f n)
 |0,_=>h.mono fun _ _=>trivial
 |n+1,hn=>by
  rw[stepsTo_succ];have os:=FabOk.steps hp (List.range n) hok fun x hx=>by have:=List.mem_range.1 hx;omega
  exact FlP.stepN hp os.1 (by omega) (FlP.stepsTo hp h hok n (by omega))
theorem tick_good(h:FabOk ns cs f N)(hf:FlOk cs f)(hp:PlF ns cs)(hr:RtOk ns cs nr)(hN:N≤700000000):FabOk ns cs (f.tick ns cs nr).1 (N+1000+ns.length*5000)∧FlOk cs (f.tick ns cs nr).1:=by rw[tick_is];obtain⟨m1,m2,m3⟩:=h.mid hp hr;have f1:=hf.mid hp m3 m2;have a1:=m1.arriveF hp (by rw[m3];exact hf.nd _);have f2:=f1.arriveF (ns:=ns);have s1:=FabOk.steps hp (List.range ns.length) a1.1 fun x hx=>List.mem_range.1 hx;rw[List.length_range]at s1;have f3:=FlP.stepsTo hp f2 a1.1 ns.length (Nat.le_refl _);have n16:=hp.n16;have t1:=tell_ok s1.1 hp (by omega);refine⟨t1.mono (by omega),?_⟩;have e:=tell_same (ns:=ns) (cs:=cs) (stepsTo ns cs (((f.begF nr).raiseF cs).limF.arriveF ns cs).1 ns.length);rw[e];exact f3.toOk.same rfl rfl
end
end Go.Proofs.YtnjjkgjdhljfnaaGreat
namespace Go.Proofs.YtnjjkgjdhljfnaaGreat
open Go.RowKit Go.Maps
attribute [local go_sem ↓] Go.wp_at_zero Go.wp_at_succ
theorem ninject(x y c:Int)(v:Value)(w:World):Calls Tryz.prog 14 #[.pointer none,.int .i64 x,.int .i64 y,.int .i64 c,v] w fun e w'=>e=.returned (.tuple #[.int .i64 0,.int .i64 1])∧w=w':=by
 go_enter Tryz.func14,Tryz.ntmps14
 go_wp2_with fail
 go_ret2
 exact⟨rfl,rfl⟩
theorem ntick(w:World):Calls Tryz.prog 15 #[.pointer none] w fun e w'=>e=.returned (.slice none 0 0)∧w=w':=by
 go_enter Tryz.func15,Tryz.ntmps15
 go_wp2_with fail
 go_ret
 exact⟨rfl,rfl⟩
theorem ncut(c:Int)(w:World):Calls Tryz.prog 16 #[.pointer none,.int .i64 c] w fun e w'=>e=.returned (.int .i64 1)∧Below w.heap.size w w':=by
 go_enter Tryz.func16,Tryz.ntmps16
 go_wp2_with fail
 go_ret
 exact⟨rfl,(Below.refl _ _).alloc (Nat.le_refl _) _⟩
theorem nmend(c:Int)(w:World):Calls Tryz.prog 17 #[.pointer none,.int .i64 c] w fun e w'=>e=.returned (.int .i64 1)∧w=w':=by
 go_enter Tryz.func17,Tryz.ntmps17
 go_wp2_with fail
 go_ret
 exact⟨rfl,rfl⟩
theorem ninside(w:World):Calls Tryz.prog 18 #[.pointer none] w fun e w'=>e=.returned (.int .i64 0)∧w=w':=by
 go_enter Tryz.func18,Tryz.ntmps18
 go_wp2_with fail
 go_ret
 exact⟨rfl,rfl⟩
theorem nlost(w:World):Calls Tryz.prog 19 #[.pointer none] w fun e w'=>e=.returned (.slice none 0 0)∧w=w':=by
 go_enter Tryz.func19,Tryz.ntmps19
 go_wp2_with fail
 go_ret
 exact⟨rfl,rfl⟩
theorem nover(w:World):Calls Tryz.prog 20 #[.pointer none] w fun e w'=>e=.returned (.int .i64 0)∧w=w':=by
 go_enter Tryz.func20,Tryz.ntmps20
 go_wp2_with fail
 go_ret
 exact⟨rfl,rfl⟩
theorem nholds(w:World):Calls Tryz.prog 21 #[.pointer none] w fun e w'=>e=.returned (.slice none 0 0)∧w=w':=by
 go_enter Tryz.func21,Tryz.ntmps21
 go_wp2_with fail
 go_ret
 exact⟨rfl,rfl⟩
theorem nepoch(w:World):Calls Tryz.prog 22 #[.pointer none] w fun e w'=>e=.returned (.int .i64 0)∧w=w':=by
 go_enter Tryz.func22,Tryz.ntmps22
 go_wp2_with fail
 go_ret
 exact⟨rfl,rfl⟩
section
variable{f:Fab}{b:Nat}{ns:List Nd}{cs:List Cb}{L:FbL}{τ:Own}{w:World}
def Fab.insideF(f:Fab):Int:=if 0<f.bnow then f.alive f.bnow+f.alive ((f.bnow:Int)-1)else f.alive f.bnow
theorem finside_any(h:FabM τ w b ns cs f L)(hs:Sane f):Calls Tryz.prog 18 #[pt b] w fun e w'=>e=.returned (.int .i64 f.insideF)∧w=w':=by
 have A0:=hs.a0;have A1:=hs.a1;have n1:=hs.n1;have NOW:=Lib.hid (now_any L.bk f.bnow f.al0 f.al1 w h.bk.1);have AL:=Lib.hid (alive_any L.bk f.bnow f.al0 f.al1 f.bnow w h.bk.1 (by omega) (by omega));have AM:=Lib.hid (alive_any L.bk f.bnow f.al0 f.al1 ((f.bnow:Int)-1) w h.bk.1 (by omega) (by omega));have c11:w.cell? ⟨b,11,none⟩=some (.pointer (some ⟨L.bk,0,none⟩)):=h.r19;have bd:∀e,0≤f.alive e∧f.alive e≤1000000000:=fun e=>by
  unfold Fab.alive;split
  ·omega
  ·split<;>omega
 have b1:=bd f.bnow;have b2:=bd ((f.bnow:Int)-1);rw[←alive_alv]at AL AM;unfold Fab.insideF;generalize f.alive f.bnow=x at *;generalize f.alive ((f.bnow:Int)-1)=y at *;have q1:IntKind.i64.wrap (x+y)=x+y:=IntWalk.i64_in _ (by omega);have q2:IntKind.i64.wrap ((f.bnow:Int)-1)=(f.bnow:Int)-1:=IntWalk.i64_in _ (by omega);clear h hs bd A0 A1;unfold pt;by_cases h0:0<f.bnow
 ·rw[if_pos h0];have h0':decide (0<(f.bnow:Int))=true:=decide_eq_true (by omega)
  go_enter Tryz.func18,Tryz.ntmps18
  go_wp2_with (first
   |(go_at_call 47;refine NOW.out.mono ?_;rintro e w' ⟨rfl,rfl⟩)
   |(go_at_call 61;((with_reducible refine AL.out.mono ?_);rintro e w' ⟨rfl,rfl⟩))
   |(go_at_call 61;((with_reducible refine AM.out.mono ?_);rintro e w' ⟨rfl,rfl⟩)))
  go_ret
  exact⟨rfl,rfl⟩
 ·rw[if_neg h0];have h0':decide (0<(f.bnow:Int))=false:=decide_eq_false (by omega)
  go_enter Tryz.func18,Tryz.ntmps18
  go_wp2_with (first
   |(go_at_call 47;refine NOW.out.mono ?_;rintro e w' ⟨rfl,rfl⟩)
   |(go_at_call 61;((with_reducible refine AL.out.mono ?_);rintro e w' ⟨rfl,rfl⟩)))
  go_ret
  exact⟨rfl,rfl⟩
end
end Go.Proofs.YtnjjkgjdhljfnaaGreat
