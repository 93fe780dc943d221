/- Part 24. -/
import Derived.Laws.BytesArg
import Derived.Lib.SlBytesConst
import Derived.Test.YtnjjkgjdhljfnaaGreatPk23
open Go.Proofs.Tryz
open Go renaming Calls->di,World->aG
open Go.Ending renaming returned->ax
open Go.IntKind renaming i64->ag
open Go.Lib renaming hid->aA
open Go.Obj renaming cells->af
open Go.Proofs.Tryz renaming prog->aH
open Go.RowKit renaming Below->aO,intOf->aK
open Go.RowKit.Below renaming refl->aS
open Go.Value renaming int->ah,pointer->au,slice->ay
open List renaming getD->bS,mem_cons->dM,not_mem_nil->dZ
open Nat renaming le_refl->aC,lt_of_lt_of_le->bY
open Option renaming none->aj,some->az
set_option maxRecDepth 100000
set_option maxHeartbeats 16000000
set_option linter.unusedVariables false
set_option linter.unusedSimpArgs false
namespace Go.Proofs.YtnjjkgjdhljfnaaGreat
open Go.RowKit Go.Maps
attribute [local go_sem ↓] Go.wp_at_zero Go.wp_at_succ
theorem Ml{α:Type}{m:Nat}{c:α->List Value}{d:α}(w:aG)(t:TypeId)(xs:List α)(hm:0<m)(hc:∀x,(c x).length=m)(hx:0<xs.length):gH m c d (w.alloc (af (xs.flatMap c).toArray t)) (az ⟨w.heap.size,0,aj⟩) xs.length xs:=by refine⟨rfl,fun h0=>⟨w.heap.size,0,rfl,by simp,fun i j hi hj=>?_⟩⟩;rw[(dG.new w t _).cell];rw[Nat.zero_add,<-yz hc xs i j hi hj];simp
theorem agd:QJ ⟨oP,oK⟩:=by
 refine⟨?_,?_⟩
 ·intro x hx;simp only[oP,dM,dZ,or_false]at hx;rcases hx with rfl|rfl|rfl<;>exact⟨by decide,by decide⟩
 ·intro x hx;simp only[oK,dM,dZ,or_false]at hx;rcases hx with rfl|rfl<;>exact⟨by decide,by decide,by decide,by decide,by decide,by decide⟩
def adx(w:aG)(e:Ending)(w':aG):Prop:=∃An Ac,e=ax (.agg #[ay An 3 3,ay Ac 2 2])/\jB w' An Ac ⟨oP,oK⟩/\aO w.heap.size w w'
theorem afo(w:aG):di aH 34 #[] w (adx w):=by
 go_enter func34,ntmps34;go_wp2_with fail
 refine bodyPost_ret (v:=.agg #[ay (az ⟨w.heap.size+1,0,aj⟩) 3 3,ay (az ⟨w.heap.size+1+1,0,aj⟩) 2 2]) (by simp[results,Tryz.results34,go_sem]) rfl ?_;refine⟨_,_,rfl,⟨?_,?_⟩,(((aS _ _).alloc (aC _) _).alloc (by simp) _).alloc (by simp;omega) _⟩
 ·have h:=Ml (m:=3) (c:=cN) (d:=iZ) (w.alloc (af #[ay (az ⟨w.heap.size+1,0,aj⟩) 3 3,ay (az ⟨w.heap.size+1+1,0,aj⟩) 2 2] 25)) 83 oP (by decide) (fun _=>rfl) (by decide);have e:(w.alloc (af #[ay (az ⟨w.heap.size+1,0,aj⟩) 3 3,ay (az ⟨w.heap.size+1+1,0,aj⟩) 2 2] 25)).heap.size=w.heap.size+1:=by simp
  rw[e]at h;exact h.alloc _
 ·have h:=Ml (m:=6) (c:=cC) (d:=gV) ((w.alloc (af #[ay (az ⟨w.heap.size+1,0,aj⟩) 3 3,ay (az ⟨w.heap.size+1+1,0,aj⟩) 2 2] 25)).alloc (af (oP.flatMap cN).toArray 83)) 86 oK (by decide) (fun _=>rfl) (by decide);have e:((w.alloc (af #[ay (az ⟨w.heap.size+1,0,aj⟩) 3 3,ay (az ⟨w.heap.size+1+1,0,aj⟩) 2 2] 25)).alloc (af (oP.flatMap cN).toArray 83)).heap.size=w.heap.size+1+1:=by simp
  rw[e]at h;exact h
theorem amq:Ae ⟨oP,oK⟩ [1]=0:=by decide+kernel
structure Ut(w0:aG)(b:Nat)(F:dB)(N:Nat)(w:aG):Prop where
 m:∃Z L,gz Z w b oP oK F L/\(∀k,k<w0.heap.size->(Z k).1=1)
 ok:dH oP oK F N
 fl:yJ oK F
 up:F.up.length=oK.length
 be:aO w0.heap.size w0 w
theorem Ut.tick{w0 w:aG}{b N:Nat}{F:dB}(h:Ut w0 b F N w)(hN:N<=600000000):di aH 15 #[pt b] w fun e w'=>∃nr v dV,e=ax v/\Ut w0 b (F.tick oP oK nr).1 (N+1000+oP.length*5000) w'/\Aw dV w.heap.size w' v (F.tick oP oK nr).2:=by obtain⟨Z,L,m,t1⟩:=h.m;have hp:=GK Cx;refine(RZ F N b oP oK L Z w m hp h.ok h.fl (by decide) Cx agd h.up hN).mono ?_;rintro e w' ⟨nr,ro,_,v,rfl,dV,L',m',n,d⟩;have g:=SF h.ok h.fl hp ro (by omega);refine⟨nr,v,dV,rfl,⟨⟨dV,L',m',fun k hk=>by rw[n.ext k (bY hk h.be.size)];exact t1 k hk⟩,g.1,g.2,g.1.up,?_⟩,d⟩;have:=(Ch.dw (S:=fun k=>2<=(Z k).1) h.be).trans n.ch fun i _ s=>s;exact⟨this.os,this.tape,this.output,this.size,fun k hk=>this.block k hk fun s=>by have:=t1 k hk;omega⟩
theorem VO(f:dB)(ns:List Nd)(iN jl cls:Int)(data:List Int):(f.iF ns iN jl cls data).1.fl=f.fl/\(f.iF ns iN jl cls data).1.now=f.now/\(f.iF ns iN jl cls data).1.up=f.up:=by
 unfold dB.iF;split
 ·exact⟨rfl,rfl,rfl⟩
 ·split
  ·exact⟨rfl,rfl,rfl⟩
  ·simp only;split
   ·exact⟨rfl,rfl,rfl⟩
   ·split
    ·refine⟨?_,?_,?_⟩<;>(unfold dB.gQ;split<;>rfl)
    ·exact⟨rfl,rfl,rfl⟩
theorem Ut.inj{w0 w:aG}{b N:Nat}{F:dB}(h:Ut w0 b F N w)(hN:N<=600000000):di aH 14 #[pt b,ah ag 0,ah ag 2,ah ag 0,ay (az ⟨w.heap.size,0,aj⟩) 1 1] (w.alloc (af #[.int .u8 120] 5 (1,2))) fun e w'=>e=ax (.tuple #[ah ag (F.iF oP 0 2 0 [120]).2.1,ah ag (F.iF oP 0 2 0 [120]).2.2])/\Ut w0 b (F.iF oP 0 2 0 [120]).1 (N+1) w':=by
 obtain⟨Z,L,m,t1⟩:=h.m;have hp:=GK Cx;obtain⟨w1,gK⟩:∃w1:aG,w.alloc (af #[.int .u8 120] 5 (1,2))=w1:=⟨_,rfl⟩;have B1:aO w.heap.size w w1:=by rw[<-gK];exact(aS _ _).alloc (aC _) _
 have s1:w1.heap.size=w.heap.size+1:=by rw[<-gK];simp
 obtain⟨vP,QX⟩:∃vP:Own,vP=fun k=>if k<w.heap.size then Z k else(1,0,0,0):=⟨_,rfl⟩
 have e1:∀k,k<w.heap.size->vP k=Z k:=fun k hk=>by rw[QX];exact if_pos hk
 have m1:gz vP w1 b oP oK F L:=m.jM (S:=fun _=>False) (Ch.dw B1) e1 (fun _ s=>s.elim);have QK:iX vP w1 [120] (ay (az ⟨w.heap.size,0,aj⟩) 1 1):=by
  refine⟨_,1,rfl,?_,fun _ p hp=>?_,by decide⟩
  ·rw[<-gK];refine⟨rfl,fun _=>⟨w.heap.size,0,rfl,by simp,fun i j hi hj=>?_⟩⟩;obtain rfl:i=0:=(by have hi:i<1:=hi;omega);obtain rfl:j=0:=(by omega);exact World.cell?_alloc_mark w _ _ _ _
  ·injection hp with hp;subst hp;refine⟨?_,by show w.heap.size<_;omega⟩;rw[QX];show(if w.heap.size<w.heap.size then Z w.heap.size else((1,0,0,0):Tg)).1=1;rw[if_neg (Nat.lt_irrefl _)]
 rw[gK];have sm:=VO F oP 0 2 0 [120];refine(Na F N 0 2 0 [120] b oP oK L vP w1 m1 hp h.ok (by omega) (az ⟨w.heap.size,0,aj⟩) 1 (by decide) (fun _=>QK)).mono ?_;rintro e w' ⟨rfl,dV,L',m',n⟩;have t2:∀k,k<w0.heap.size->(vP k).1=1:=fun k hk=>by rw[e1 k (bY hk h.be.size)];exact t1 k hk
 have be1:=h.be.trans (B1.mono h.be.size);refine⟨rfl,⟨dV,L',m',fun k hk=>by rw[n.ext k (bY hk be1.size)];exact t2 k hk⟩,h.ok.iF 0 2 0 [120],h.fl.same sm.1 sm.2.1,by rw[sm.2.2];exact h.up,?_⟩;have:=(Ch.dw (S:=fun k=>2<=(vP k).1) be1).trans n.ch fun i _ s=>s;exact⟨this.os,this.tape,this.output,this.size,fun k hk=>this.block k hk fun s=>by have:=t2 k hk;omega⟩
theorem Ut.start{w0 w:aG}{b:Nat}{r:Rt}{Z:Own}{L:rY}(hr:Az oP oK [true,true] r)(m:gz Z w b oP oK (iq oP oK [1] r) L)(t:∀k,k<w0.heap.size->Z k=(1,0,0,0))(be:aO w0.heap.size w0 w):Ut w0 b (iq oP oK [1] r) 0 w:=by
 have ro:AV oP oK r:=by obtain⟨PS,LL,G,hn⟩:=hr;exact hn.ok Cx
 exact⟨⟨Z,L,m,fun k hk=>by rw[t k hk]⟩,dH.new (GK Cx) (by decide) (by decide) (by decide) ro,yJ.new _ _ _ _,rfl,be⟩
theorem Aw.Qh{Z:Own}{base:Nat}{w:aG}{v:Value}(h:Aw Z base w v []):∃a c,v=ay a 0 c:=by obtain⟨Q,h1,h2,_,_⟩:=h;have:Q=[]:=List.map_eq_nil_iff.1 h1;subst this;exact dX h2
theorem Aw.afA{Z:Own}{base:Nat}{w:aG}{v:Value}{t u:Nat}{x:Fm}(h:Aw Z base w v [(t,u,x)]):∃g c vd,v=ay (az ⟨g,0,aj⟩) 1 c/\w.cell? ⟨g,0,aj⟩=az (ah ag (t:Int))/\w.cell? ⟨g,1,aj⟩=az (ah ag (u:Int))/\w.cell? ⟨g,7,aj⟩=az vd/\iX Z w x.data vd:=by
 obtain⟨Q,h1,h2,h3,_⟩:=h;have hl:Q.length=1:=by have:=congrArg List.length h1;simpa using this
 obtain⟨y,rfl⟩:=List.length_eq_one_iff.1 hl;have hy:y.1=(t,u,x):=by simpa using h1
 obtain⟨g,c,e,_,_,_,hc⟩:=qf (d:=((0,0,default),ay aj 0 0)) (m:=8) (c:=ZH) (fun _=>rfl) h2 rfl (i:=0) (by simp);have k:=fun j hj=>hc 0 (by simp) j hj;have d:=h3 y (List.mem_singleton.2 rfl);rw[hy]at d;obtain⟨⟨y1,y2,y3⟩,yv⟩:=y;simp only[Prod.mk.injEq]at hy;obtain⟨rfl,rfl,rfl⟩:=hy;exact⟨g,c,yv,e,k 0 (by decide),k 1 (by decide),k 7 (by decide),d⟩
section
variable{w0 w:aG}{b:Nat}{r n1 n2 n3 n4:Rt}
theorem alc(h:Ut w0 b (iq oP oK [1] r) 0 w)(hr:Az oP oK [true,true] r):di aH 14 #[au (az ⟨b,0,aj⟩),ah ag 0,ah ag 2,ah ag 0,ay (az ⟨w.heap.size,0,aj⟩) 1 1] (w.alloc (af #[.int .u8 120] 5 (1,2))) fun e w'=>e=ax (.tuple #[ah ag 1,ah ag 0])/\Ut w0 b (ahl r) 1 w':=by refine(h.inj (by decide)).mono fun e w' q=>⟨?_,q.2⟩;rw[q.1,(UY hr r r r r).a]
theorem apW(h:Ut w0 b (ahl r) 1 w)(hr:Az oP oK [true,true] r):di aH 15 #[au (az ⟨b,0,aj⟩)] w fun e w'=>∃n1 a c,e=ax (ay a 0 c)/\Ut w0 b (ahm r n1) 100000 w':=by refine(h.tick (by decide)).mono fun e w' q=>?_;obtain⟨n1,v,Z,rfl,s,d⟩:=q;rw[(UY hr n1 n1 n1 n1).t1]at d;obtain⟨a,c,rfl⟩:=d.Qh;exact⟨n1,a,c,rfl,s.m,s.ok.mono (by decide),s.fl,s.up,s.be⟩
theorem apX(h:Ut w0 b (ahm r n1) 100000 w)(hr:Az oP oK [true,true] r):di aH 15 #[au (az ⟨b,0,aj⟩)] w fun e w'=>∃n2 a c,e=ax (ay a 0 c)/\Ut w0 b (ahn r n1 n2) 200000 w':=by refine(h.tick (by decide)).mono fun e w' q=>?_;obtain⟨n2,v,Z,rfl,s,d⟩:=q;rw[(UY hr n1 n2 n2 n2).t2]at d;obtain⟨a,c,rfl⟩:=d.Qh;exact⟨n2,a,c,rfl,s.m,s.ok.mono (by decide),s.fl,s.up,s.be⟩
theorem apY(h:Ut w0 b (ahn r n1 n2) 200000 w)(hr:Az oP oK [true,true] r):di aH 15 #[au (az ⟨b,0,aj⟩)] w fun e w'=>∃n3 a c,e=ax (ay a 0 c)/\Ut w0 b (aaO r n1 n2 n3) 300000 w':=by refine(h.tick (by decide)).mono fun e w' q=>?_;obtain⟨n3,v,Z,rfl,s,d⟩:=q;rw[(UY hr n1 n2 n3 n3).t3]at d;obtain⟨a,c,rfl⟩:=d.Qh;exact⟨n3,a,c,rfl,s.m,s.ok.mono (by decide),s.fl,s.up,s.be⟩
def aog(w0:aG)(b:Nat)(e:Ending)(w':aG):Prop:=∃g c a k,e=ax (ay (az ⟨g,0,aj⟩) 1 c)/\w'.cell? ⟨g,0,aj⟩=az (ah ag 4)/\w'.cell? ⟨g,1,aj⟩=az (ah ag 2)/\w'.cell? ⟨g,7,aj⟩=az (ay a 1 k)/\
 (convert 27 9 (ay a 1 k)).run aH w'=.ok (.string ⟨#[120]⟩) w'/\di aH 18 #[au (az ⟨b,0,aj⟩)] w' (fun e w''=>e=ax (ah ag 0)/\w'=w'')/\aO w0.heap.size w0 w'
theorem apZ(h:Ut w0 b (aaO r n1 n2 n3) 300000 w)(hr:Az oP oK [true,true] r):di aH 15 #[au (az ⟨b,0,aj⟩)] w (aog w0 b):=by
 refine(h.tick (by decide)).mono fun e w' q=>?_;obtain⟨n4,v,Z,rfl,s,d⟩:=q;have A:=UY hr n1 n2 n3 n4;rw[A.t4]at d;obtain⟨g,c,vd,rfl,c0,c1,c7,QK⟩:=d.afA;obtain⟨a,k,rfl,hrec,_,_⟩:=QK;obtain⟨dV,L,m,_⟩:=s.m;have ins:=Vw m (s.ok.afR (by decide));have e0:((aaO r n1 n2 n3).tick oP oK n4).1.Oh=0:=by unfold dB.Oh dB.alive;rw[A.b,A.a0];simp
 rw[e0]at ins;obtain⟨gb,go,rfl,_,hc⟩:=hrec.2 (by decide);have cb:=hc 0 0 (by decide) (by decide);refine⟨g,c,_,k,rfl,c0,c1,c7,?_,ins,s.be⟩;have:=run_convert_bytes_arg (P:=aH) w' 27 5 underlying27 underlying5 gb go 1 k [120] rfl (fun i hi=>by
  obtain rfl:i=0:=by omega
  exact cb)
 exact this 9 underlying9
end
theorem aaP(w:aG):di aH 10 #[] w fun e w'=>e=ax (.bool true)/\aO w.heap.size w w':=by
 have LN:=aA (afo w);go_enter func10,ntmps10;go_wp2_with (first
  |(go_at_call 34;(with_reducible refine LN.o.mono ?_);rintro e w1 ⟨An,Ac,rfl,hpl,hb1⟩;have B1:=aA hb1;have PL1:=aA (hpl.alloc (af #[ah ag 1] 3));have R1:=aA (Ml (m:=1) (c:=cI) (d:=(0:Int)) w1 3 [1] (by decide) (fun _=>rfl) (by decide));clear hb1 hpl)
  |(go_at_call 11;refine(Vz oP oK [1] An Ac (az ⟨w1.heap.size,0,aj⟩) 3 2 1 _ (by decide) (by decide) (by decide) agd (by intro x hx;simp at hx;subst hx;decide) PL1.o R1.o).mono ?_;rintro e w2 hq;rcases hq with⟨hq,_⟩|⟨_,b,r,Z,L,rfl,hr,hm,ht,uy⟩;exact absurd amq hq;have CV:=Lib.run_convert_bytes_const (P:=aH) w2 27 5 #[.int .u8 120] 1 1 underlying27 underlying5;have S0:=aA (Ut.start (w0:=w) hr hm (fun k hk=>ht k (by have:=B1.o.size;simp;omega)) ((B1.o.alloc B1.o.size _).trans (uy.mono (by have:=B1.o.size;simp;omega))));have IJ:=aA (alc S0.o hr);have HR:=aA hr;clear hm ht uy S0 hr)
  |(go_at_call 14;(with_reducible refine IJ.o.mono ?_);rintro e w3 ⟨rfl,h3⟩;have T1:=aA (apW h3 HR.o);clear h3 IJ)
  |(go_at_call 15;(with_reducible refine T4.o.mono ?_);rintro e w7 ⟨g,c,a,k,rfl,c0,c1,c7,cv,Gr,Uy⟩;have B7:=aA Uy;have IN:=aA Gr;clear Uy Gr T4)
  |(go_at_call 15;(with_reducible refine T3.o.mono ?_);rintro e w6 ⟨n3,a3,c3,rfl,h6⟩;have T4:=aA (apZ h6 HR.o);clear h6 T3)
  |(go_at_call 15;(with_reducible refine T2.o.mono ?_);rintro e w5 ⟨n2,a2,c2,rfl,h5⟩;have T3:=aA (apY h5 HR.o);clear h5 T2)
  |(go_at_call 15;(with_reducible refine T1.o.mono ?_);rintro e w4 ⟨n1,a1,c1,rfl,h4⟩;have T2:=aA (apX h4 HR.o);clear h4 T1)
  |(go_at_call 18;(with_reducible refine IN.o.mono ?_);rintro e w8 ⟨rfl,rfl⟩))
 go_ret;exact⟨rfl,B7.o⟩
def akU(aI:List Int)(w1:aG)(i:Value)(wr:aG):Prop:=∃k:Nat,k<=aI.length/\i=ah ag k/\w1=wr/\(aI.take k).all zb=true
theorem WL(aI:List Int)(A:Option Addr)(c:Nat)(w:aG)(h:gH 1 cI 0 w A aI.length aI):di aH 13 #[ay A aI.length c] w fun e w'=>e=ax (.bool (pK aI))/\w=w':=by
 by_cases h0:aI.length<1
 ·have e:pK aI=false:=by unfold pK;simp;omega
  rw[e];go_enter func13,ntmps13;go_wp2_with fail;go_ret;exact⟨rfl,rfl⟩
 ·by_cases h1:4<aI.length
  ·have e:pK aI=false:=by unfold pK;simp;omega
   rw[e];have i1:(4:Int)<(aI.length:Int):=by omega
   have i2:(1:Int)<=(aI.length:Int):=(by omega);go_enter func13,ntmps13;go_wp2_with fail;go_ret;exact⟨rfl,rfl⟩
  ·have i1:(aI.length:Int)<=(4:Int):=by omega
   have i2:(1:Int)<=(aI.length:Int):=(by omega);have R:=aA h;have RB:Hid (pK aI=aI.all zb):=(by unfold pK;rw[Hid,decide_eq_true (by omega:1<=aI.length),decide_eq_true (by omega:aI.length<=4)];simp);clear h;generalize pK aI=rb at *;go_enter func13,ntmps13;go_wp2_with fail;go_loopw [2,3,12,13,14,15,16,17,18,19,20,21,22,23,24,25,26,27,28,29] (fun _ i _ _ _ _ _ _ _ _ _ _ _ _ _ _ _ _ _ _ wr=>akU aI w i wr) (fun _ i _ _ _ _ _ _ _ _ _ _ _ _ _ _ _ _ _ _ _=>aI.length-(aK i).toNat);case atStart=>exact⟨0,Nat.zero_le _,rfl,rfl,rfl⟩
   case round=>
    obtain⟨k,hk,rfl,rfl,hall⟩:=hrel;by_cases nH:k<aI.length
    ·obtain⟨b0,o0,rfl,_,hc⟩:=oD R.o k nH;have BK:Hid ((aI.getD k 0<1\/64<aI.getD k 0)->rb=false):=fun hb=>by
      rw[RB.o,List.all_eq_false];have hm:aI.getD k 0∈aI:=by simp[bS,nH]
      generalize aI.getD k 0=r at *;exact⟨r,hm,by unfold zb;simp;omega⟩
     have TK:Hid (zb (aI.getD k 0)=true->(aI.take (k+1)).all zb=true):=fun q=>(by rw[List.take_add_one,List.all_append,hall];simp[bS,nH]at q|-;exact q);have hkc:(k:Int)<(aI.length:Int):=(by omega);have NU:(0:Int)<=(k:Int):=(by omega);generalize aI.getD k 0=r at *;clear hall;by_cases r1:r<1
     ·have e:=BK.o (.inl r1);subst e;go_wp2_with fail;go_ret;exact⟨rfl,rfl⟩
     ·have r1':1<=r:=by omega
      by_cases r2:64<r
      ·have e:=BK.o (.inr r2);subst e;go_wp2_with fail;go_ret;exact⟨rfl,rfl⟩
      ·have r2':r<=64:=by omega
       have T:=aA (TK.o (by unfold zb;simp;omega));go_wp2_with fail;exact⟨⟨k+1,by omega,by congr 1,rfl,T.o⟩,by simp[aK];omega⟩
    ·obtain rfl:aI.length=k:=by omega
     rw[List.take_length]at hall;have e:rb=true:=by rw[RB.o];exact hall
     subst e;go_wp2_with fail;go_ret;exact⟨rfl,rfl⟩
end Go.Proofs.YtnjjkgjdhljfnaaGreat
