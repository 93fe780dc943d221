/- Part 24 of the proof of fabricErrors.proved: FbAx. Several texts in one, blanks struck, what is not used left out. -/
import Derived.Laws.BytesArg
import Derived.Lib.SlBytesConst
import Derived.Test.YtnjjkgjdhljfnaaGreatPk12
import Derived.Test.YtnjjkgjdhljfnaaGreatPk21
import Derived.Test.YtnjjkgjdhljfnaaGreatPk23
set_option maxRecDepth 100000
set_option maxHeartbeats 16000000
set_option linter.unusedVariables false
set_option linter.unusedSimpArgs false
namespace Go.Proofs.YtnjjkgjdhljfnaaGreat
open Go.RowKit Go.Maps
attribute [local go_sem ↓] Go.wp_at_zero Go.wp_at_succ
theorem isRec_lit{α:Type}{m:Nat}{c:α→List Value}{d:α}(w:World)(t:TypeId)(xs:List α)(hm:0<m)(hc:∀x,(c x).length=m)(hx:0<xs.length):IsRec m c d (w.alloc (.cells (xs.flatMap c).toArray t)) (some ⟨w.heap.size,0,none⟩) xs.length xs:=by refine⟨rfl,fun h0=>⟨w.heap.size,0,rfl,by simp,fun i j hi hj=>?_⟩⟩;rw[(Blk.new w t _).cell];rw[Nat.zero_add,←flatG_at hc xs i j hi hj];simp
theorem wfP_ln:WfP ⟨lnNs,lnCs⟩:=by
 refine⟨?_,?_⟩
 ·intro x hx;simp only[lnNs,List.mem_cons,List.not_mem_nil,or_false]at hx;rcases hx with rfl|rfl|rfl<;>exact⟨by decide,by decide⟩
 ·intro x hx;simp only[lnCs,List.mem_cons,List.not_mem_nil,or_false]at hx;rcases hx with rfl|rfl<;>exact⟨by decide,by decide,by decide,by decide,by decide,by decide⟩
def LinePost(w:World)(e:Ending)(w':World):Prop:=∃An Ac,e=.returned (.agg #[.slice An 3 3,.slice Ac 2 2])∧IsPlan w' An Ac ⟨lnNs,lnCs⟩∧Below w.heap.size w w'
theorem line_any(w:World):Calls Tryz.prog 34 #[] w (LinePost w):=by
 go_enter Tryz.func34,Tryz.ntmps34
 go_wp2_with fail
 refine bodyPost_ret (v:=.agg #[.slice (some ⟨w.heap.size+1,0,none⟩) 3 3,.slice (some ⟨w.heap.size+1+1,0,none⟩) 2 2]) (by simp[results,Tryz.results34,go_sem]) rfl ?_;refine⟨_,_,rfl,⟨?_,?_⟩,(((Below.refl _ _).alloc (Nat.le_refl _) _).alloc (by simp) _).alloc (by simp;omega) _⟩
 ·have h:=isRec_lit (m:=3) (c:=cN) (d:=nd0) (w.alloc (.cells #[.slice (some ⟨w.heap.size+1,0,none⟩) 3 3,.slice (some ⟨w.heap.size+1+1,0,none⟩) 2 2] 25)) 83 lnNs (by decide) (fun _=>rfl) (by decide);have e:(w.alloc (.cells #[.slice (some ⟨w.heap.size+1,0,none⟩) 3 3,.slice (some ⟨w.heap.size+1+1,0,none⟩) 2 2] 25)).heap.size=w.heap.size+1:=by simp
  rw[e]at h;exact h.alloc _
 ·have h:=isRec_lit (m:=6) (c:=cC) (d:=cb0) ((w.alloc (.cells #[.slice (some ⟨w.heap.size+1,0,none⟩) 3 3,.slice (some ⟨w.heap.size+1+1,0,none⟩) 2 2] 25)).alloc (.cells (lnNs.flatMap cN).toArray 83)) 86 lnCs (by decide) (fun _=>rfl) (by decide);have e:((w.alloc (.cells #[.slice (some ⟨w.heap.size+1,0,none⟩) 3 3,.slice (some ⟨w.heap.size+1+1,0,none⟩) 2 2] 25)).alloc (.cells (lnNs.flatMap cN).toArray 83)).heap.size=w.heap.size+1+1:=by simp
  rw[e]at h;exact h
theorem ln_new:newErr ⟨lnNs,lnCs⟩ [1]=0:=by decide+kernel
structure AwS(w0:World)(b:Nat)(F:Fab)(N:Nat)(w:World):Prop where
 m:∃τ L,FabM τ w b lnNs lnCs F L∧(∀k,k<w0.heap.size→(τ k).1=1)
 ok:FabOk lnNs lnCs F N
 fl:FlOk lnCs F
 up:F.up.length=lnCs.length
 be:Below w0.heap.size w0 w
theorem AwS.tick{w0 w:World}{b N:Nat}{F:Fab}(h:AwS w0 b F N w)(hN:N≤600000000):Calls Tryz.prog 15 #[pt b] w fun e w'=>∃nr v τ',e=.returned v∧AwS w0 b (F.tick lnNs lnCs nr).1 (N+1000+lnNs.length*5000) w'∧DelM τ' w.heap.size w' v (F.tick lnNs lnCs nr).2:=by obtain⟨τ,L,m,t1⟩:=h.m;have hp:=plan_of ln_valid;refine(ftick_any F N b lnNs lnCs L τ w m hp h.ok h.fl (by decide) ln_valid wfP_ln h.up hN).mono ?_;rintro e w' ⟨nr,ro,_,v,rfl,τ',L',m',n,d⟩;have g:=tick_good h.ok h.fl hp ro (by omega);refine⟨nr,v,τ',rfl,⟨⟨τ',L',m',fun k hk=>by rw[n.ext k (Nat.lt_of_lt_of_le hk h.be.size)];exact t1 k hk⟩,g.1,g.2,g.1.up,?_⟩,d⟩;have:=(Ch.of_below (S:=fun k=>2≤(τ k).1) h.be).trans n.ch fun i _ s=>s;exact⟨this.os,this.tape,this.output,this.size,fun k hk=>this.block k hk fun s=>by have:=t1 k hk;omega⟩
theorem inject_same(f:Fab)(ns:List Nd)(frm to' cls:Int)(data:List Int):(f.inject ns frm to' cls data).1.fl=f.fl∧(f.inject ns frm to' cls data).1.now=f.now∧(f.inject ns frm to' cls data).1.up=f.up:=by
 unfold Fab.inject;split
 ·exact⟨rfl,rfl,rfl⟩
 ·split
  ·exact⟨rfl,rfl,rfl⟩
  ·simp only;split
   ·exact⟨rfl,rfl,rfl⟩
   ·split
    ·refine⟨?_,?_,?_⟩<;>(unfold Fab.addAl;split<;>rfl)
    ·exact⟨rfl,rfl,rfl⟩
theorem AwS.inj{w0 w:World}{b N:Nat}{F:Fab}(h:AwS w0 b F N w)(hN:N≤600000000):Calls Tryz.prog 14 #[pt b,.int .i64 0,.int .i64 2,.int .i64 0,.slice (some ⟨w.heap.size,0,none⟩) 1 1] (w.alloc (.cells #[.int .u8 120] 5 (1,2))) fun e w'=>e=.returned (.tuple #[.int .i64 (F.inject lnNs 0 2 0 [120]).2.1,.int .i64 (F.inject lnNs 0 2 0 [120]).2.2])∧AwS w0 b (F.inject lnNs 0 2 0 [120]).1 (N+1) w':=by
 obtain⟨τ,L,m,t1⟩:=h.m;have hp:=plan_of ln_valid;obtain⟨w1,hw1⟩:∃w1:World,w.alloc (.cells #[.int .u8 120] 5 (1,2))=w1:=⟨_,rfl⟩;have B1:Below w.heap.size w w1:=by rw[←hw1];exact(Below.refl _ _).alloc (Nat.le_refl _) _
 have s1:w1.heap.size=w.heap.size+1:=by rw[←hw1];simp
 obtain⟨τ1,hτ⟩:∃τ1:Own,τ1=fun k=>if k<w.heap.size then τ k else(1,0,0,0):=⟨_,rfl⟩
 have e1:∀k,k<w.heap.size→τ1 k=τ k:=fun k hk=>by rw[hτ];exact if_pos hk
 have m1:FabM τ1 w1 b lnNs lnCs F L:=m.chE (S:=fun _=>False) (Ch.of_below B1) e1 (fun _ s=>s.elim);have dat:IsDat τ1 w1 [120] (.slice (some ⟨w.heap.size,0,none⟩) 1 1):=by
  refine⟨_,1,rfl,?_,fun p hp=>?_,by decide⟩
  ·rw[←hw1];refine⟨rfl,fun _=>⟨w.heap.size,0,rfl,by simp,fun i j hi hj=>?_⟩⟩;obtain rfl:i=0:=(by have hi:i<1:=hi;omega);obtain rfl:j=0:=(by omega);exact World.cell?_alloc_mark w _ _ _ _
  ·injection hp with hp;subst hp;refine⟨?_,by show w.heap.size<_;omega⟩;rw[hτ];show(if w.heap.size<w.heap.size then τ w.heap.size else((1,0,0,0):Tg)).1=1;rw[if_neg (Nat.lt_irrefl _)]
 rw[hw1];have sm:=inject_same F lnNs 0 2 0 [120];refine(finject_any F N 0 2 0 [120] b lnNs lnCs L τ1 w1 m1 hp h.ok (by omega) (some ⟨w.heap.size,0,none⟩) 1 (by decide) (fun _=>dat)).mono ?_;rintro e w' ⟨rfl,τ',L',m',n⟩;have t2:∀k,k<w0.heap.size→(τ1 k).1=1:=fun k hk=>by rw[e1 k (Nat.lt_of_lt_of_le hk h.be.size)];exact t1 k hk
 have be1:=h.be.trans (B1.mono h.be.size);refine⟨rfl,⟨τ',L',m',fun k hk=>by rw[n.ext k (Nat.lt_of_lt_of_le hk be1.size)];exact t2 k hk⟩,h.ok.inject 0 2 0 [120],h.fl.same sm.1 sm.2.1,by rw[sm.2.2];exact h.up,?_⟩;have:=(Ch.of_below (S:=fun k=>2≤(τ1 k).1) be1).trans n.ch fun i _ s=>s;exact⟨this.os,this.tape,this.output,this.size,fun k hk=>this.block k hk fun s=>by have:=t2 k hk;omega⟩
theorem AwS.start{w0 w:World}{b:Nat}{r:Rt}{τ:Own}{L:FbL}(hr:IsRt lnNs lnCs [true,true] r)(m:FabM τ w b lnNs lnCs (newFab lnNs lnCs [1] r) L)(t:∀k,k<w0.heap.size→τ k=(1,0,0,0))(be:Below w0.heap.size w0 w):AwS w0 b (newFab lnNs lnCs [1] r) 0 w:=by
 have ro:RtOk lnNs lnCs r:=by obtain⟨PS,LL,G,hn⟩:=hr;exact hn.ok ln_valid
 exact⟨⟨τ,L,m,fun k hk=>by rw[t k hk]⟩,FabOk.new (plan_of ln_valid) (by decide) (by decide) (by decide) ro,FlOk.new _ _ _ _,rfl,be⟩
theorem DelM.nil_form{τ:Own}{base:Nat}{w:World}{v:Value}(h:DelM τ base w v []):∃a c,v=.slice a 0 c:=by obtain⟨Q,h1,h2,_,_⟩:=h;have:Q=[]:=List.map_eq_nil_iff.1 h1;subst this;exact own_formN h2
theorem DelM.one_form{τ:Own}{base:Nat}{w:World}{v:Value}{t u:Nat}{x:Fm}(h:DelM τ base w v [(t,u,x)]):∃g c vd,v=.slice (some ⟨g,0,none⟩) 1 c∧w.cell? ⟨g,0,none⟩=some (.int .i64 (t:Int))∧w.cell? ⟨g,1,none⟩=some (.int .i64 (u:Int))∧w.cell? ⟨g,7,none⟩=some vd∧IsDat τ w x.data vd:=by
 obtain⟨Q,h1,h2,h3,_⟩:=h;have hl:Q.length=1:=by have:=congrArg List.length h1;simpa using this
 obtain⟨y,rfl⟩:=List.length_eq_one_iff.1 hl;have hy:y.1=(t,u,x):=by simpa using h1
 obtain⟨g,c,e,_,_,_,hc⟩:=own_cellG (d:=((0,0,default),Value.slice none 0 0)) (m:=8) (c:=cDl) (fun _=>rfl) h2 rfl (i:=0) (by simp);have k:=fun j hj=>hc 0 (by simp) j hj;have d:=h3 y (List.mem_singleton.2 rfl);rw[hy]at d;obtain⟨⟨y1,y2,y3⟩,yv⟩:=y;simp only[Prod.mk.injEq]at hy;obtain⟨rfl,rfl,rfl⟩:=hy;exact⟨g,c,yv,e,k 0 (by decide),k 1 (by decide),k 7 (by decide),d⟩
section
variable{w0 w:World}{b:Nat}{r n1 n2 n3 n4:Rt}
theorem aw_inj(h:AwS w0 b (newFab lnNs lnCs [1] r) 0 w)(hr:IsRt lnNs lnCs [true,true] r):Calls Tryz.prog 14 #[.pointer (some ⟨b,0,none⟩),.int .i64 0,.int .i64 2,.int .i64 0,.slice (some ⟨w.heap.size,0,none⟩) 1 1] (w.alloc (.cells #[.int .u8 120] 5 (1,2))) fun e w'=>e=.returned (.tuple #[.int .i64 1,.int .i64 0])∧AwS w0 b (awF1 r) 1 w':=by refine(h.inj (by decide)).mono fun e w' q=>⟨?_,q.2⟩;rw[q.1,(aw_ok hr r r r r).a]
theorem aw_t1(h:AwS w0 b (awF1 r) 1 w)(hr:IsRt lnNs lnCs [true,true] r):Calls Tryz.prog 15 #[.pointer (some ⟨b,0,none⟩)] w fun e w'=>∃n1 a c,e=.returned (.slice a 0 c)∧AwS w0 b (awF2 r n1) 100000 w':=by refine(h.tick (by decide)).mono fun e w' q=>?_;obtain⟨n1,v,τ,rfl,s,d⟩:=q;rw[(aw_ok hr n1 n1 n1 n1).t1]at d;obtain⟨a,c,rfl⟩:=d.nil_form;exact⟨n1,a,c,rfl,s.m,s.ok.mono (by decide),s.fl,s.up,s.be⟩
theorem aw_t2(h:AwS w0 b (awF2 r n1) 100000 w)(hr:IsRt lnNs lnCs [true,true] r):Calls Tryz.prog 15 #[.pointer (some ⟨b,0,none⟩)] w fun e w'=>∃n2 a c,e=.returned (.slice a 0 c)∧AwS w0 b (awF3 r n1 n2) 200000 w':=by refine(h.tick (by decide)).mono fun e w' q=>?_;obtain⟨n2,v,τ,rfl,s,d⟩:=q;rw[(aw_ok hr n1 n2 n2 n2).t2]at d;obtain⟨a,c,rfl⟩:=d.nil_form;exact⟨n2,a,c,rfl,s.m,s.ok.mono (by decide),s.fl,s.up,s.be⟩
theorem aw_t3(h:AwS w0 b (awF3 r n1 n2) 200000 w)(hr:IsRt lnNs lnCs [true,true] r):Calls Tryz.prog 15 #[.pointer (some ⟨b,0,none⟩)] w fun e w'=>∃n3 a c,e=.returned (.slice a 0 c)∧AwS w0 b (awF4 r n1 n2 n3) 300000 w':=by refine(h.tick (by decide)).mono fun e w' q=>?_;obtain⟨n3,v,τ,rfl,s,d⟩:=q;rw[(aw_ok hr n1 n2 n3 n3).t3]at d;obtain⟨a,c,rfl⟩:=d.nil_form;exact⟨n3,a,c,rfl,s.m,s.ok.mono (by decide),s.fl,s.up,s.be⟩
def AwEnd(w0:World)(b:Nat)(e:Ending)(w':World):Prop:=∃g c a k,e=.returned (.slice (some ⟨g,0,none⟩) 1 c)∧w'.cell? ⟨g,0,none⟩=some (.int .i64 4)∧w'.cell? ⟨g,1,none⟩=some (.int .i64 2)∧w'.cell? ⟨g,7,none⟩=some (.slice a 1 k)∧
 (convert 27 9 (.slice a 1 k)).run Tryz.prog w'=.ok (.string ⟨#[120]⟩) w'∧Calls Tryz.prog 18 #[.pointer (some ⟨b,0,none⟩)] w' (fun e w''=>e=.returned (.int .i64 0)∧w'=w'')∧Below w0.heap.size w0 w'
theorem aw_t4(h:AwS w0 b (awF4 r n1 n2 n3) 300000 w)(hr:IsRt lnNs lnCs [true,true] r):Calls Tryz.prog 15 #[.pointer (some ⟨b,0,none⟩)] w (AwEnd w0 b):=by
 refine(h.tick (by decide)).mono fun e w' q=>?_;obtain⟨n4,v,τ,rfl,s,d⟩:=q;have A:=aw_ok hr n1 n2 n3 n4;rw[A.t4]at d;obtain⟨g,c,vd,rfl,c0,c1,c7,dat⟩:=d.one_form;obtain⟨a,k,rfl,hrec,_,_⟩:=dat;obtain⟨τ',L,m,_⟩:=s.m;have ins:=finside_any m (s.ok.sane (by decide));have e0:((awF4 r n1 n2 n3).tick lnNs lnCs n4).1.insideF=0:=by unfold Fab.insideF Fab.alive;rw[A.b,A.a0];simp
 rw[e0]at ins;obtain⟨gb,go,rfl,_,hc⟩:=hrec.2 (by decide);have cb:=hc 0 0 (by decide) (by decide);refine⟨g,c,_,k,rfl,c0,c1,c7,?_,ins,s.be⟩;have:=run_convert_bytes_arg (P:=Tryz.prog) w' 27 5 Tryz.underlying27 Tryz.underlying5 gb go 1 k [120] rfl (fun i hi=>by
  obtain rfl:i=0:=by omega
  exact cb)
 exact this 9 Tryz.underlying9
end
theorem awake_any(w:World):Calls Tryz.prog 10 #[] w fun e w'=>e=.returned (.bool true)∧Below w.heap.size w w':=by
 have LN:=Lib.hid (line_any w)
 go_enter Tryz.func10,Tryz.ntmps10
 go_wp2_with (first
  |(go_at_call 34;((with_reducible refine LN.out.mono ?_);rintro e w1 ⟨An,Ac,rfl,hpl,hb1⟩;have B1:=Lib.hid hb1;have PL1:=Lib.hid (hpl.alloc (.cells #[.int .i64 1] 3));have R1:=Lib.hid (isRec_lit (m:=1) (c:=cI) (d:=(0:Int)) w1 3 [1] (by decide) (fun _=>rfl) (by decide));clear hb1 hpl))
  |(go_at_call 11;refine(fnew_any lnNs lnCs [1] An Ac (some ⟨w1.heap.size,0,none⟩) 3 2 1 _ (by decide) (by decide) (by decide) wfP_ln (by intro x hx;simp at hx;subst hx;decide) PL1.out R1.out).mono ?_;rintro e w2 hq;rcases hq with⟨hq,_⟩|⟨_,b,r,τ,L,rfl,hr,hm,ht,hb2⟩;exact absurd ln_new hq;have CV:=Lib.run_convert_bytes_const (P:=Tryz.prog) w2 27 5 #[.int .u8 120] 1 1 Tryz.underlying27 Tryz.underlying5;have S0:=Lib.hid (AwS.start (w0:=w) hr hm (fun k hk=>ht k (by have:=B1.out.size;simp;omega)) ((B1.out.alloc B1.out.size _).trans (hb2.mono (by have:=B1.out.size;simp;omega))));have IJ:=Lib.hid (aw_inj S0.out hr);have HR:=Lib.hid hr;clear hm ht hb2 S0 hr)
  |(go_at_call 14;((with_reducible refine IJ.out.mono ?_);rintro e w3 ⟨rfl,h3⟩;have T1:=Lib.hid (aw_t1 h3 HR.out);clear h3 IJ))
  |(go_at_call 15;((with_reducible refine T4.out.mono ?_);rintro e w7 ⟨g,c,a,k,rfl,c0,c1,c7,cv,hin,hb7⟩;have B7:=Lib.hid hb7;have IN:=Lib.hid hin;clear hb7 hin T4))
  |(go_at_call 15;((with_reducible refine T3.out.mono ?_);rintro e w6 ⟨n3,a3,c3,rfl,h6⟩;have T4:=Lib.hid (aw_t4 h6 HR.out);clear h6 T3))
  |(go_at_call 15;((with_reducible refine T2.out.mono ?_);rintro e w5 ⟨n2,a2,c2,rfl,h5⟩;have T3:=Lib.hid (aw_t3 h5 HR.out);clear h5 T2))
  |(go_at_call 15;((with_reducible refine T1.out.mono ?_);rintro e w4 ⟨n1,a1,c1,rfl,h4⟩;have T2:=Lib.hid (aw_t2 h4 HR.out);clear h4 T1))
  |(go_at_call 18;((with_reducible refine IN.out.mono ?_);rintro e w8 ⟨rfl,rfl⟩)))
 go_ret
 exact⟨rfl,B7.out⟩
end Go.Proofs.YtnjjkgjdhljfnaaGreat
