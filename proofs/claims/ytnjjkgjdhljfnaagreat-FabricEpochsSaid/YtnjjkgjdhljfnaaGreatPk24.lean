/- Part 24. -/
import Derived.Laws.BytesArg
import Derived.Lib.SlBytesConst
import Derived.Test.YtnjjkgjdhljfnaaGreatPk23
open Go.Proofs.Tryz
open Go renaming Calls->bZ,World->aG
open Go.Ending renaming returned->ax
open Go.IntKind renaming i64->ag
open Go.Lib renaming hid->aA
open Go.Obj renaming cells->af
open Go.Proofs.Tryz renaming prog->aH
open Go.RowKit renaming Below->aN,intOf->aJ
open Go.RowKit.Below renaming refl->aQ
open Go.Value renaming int->ah,pointer->au,slice->ay
open List renaming getD->bJ,mem_cons->dG,not_mem_nil->dP
open Nat renaming le_refl->aC,lt_of_lt_of_le->bW
open Option renaming none->aj,some->az
set_option maxRecDepth 100000
set_option maxHeartbeats 16000000
set_option linter.unusedVariables false
set_option linter.unusedSimpArgs false
namespace Go.Proofs.YtnjjkgjdhljfnaaGreat
open Go.RowKit Go.Maps
attribute [local go_sem ↓] Go.wp_at_zero Go.wp_at_succ
theorem Md{α:Type}{m:Nat}{c:α->List Value}{d:α}(w:aG)(t:TypeId)(xs:List α)(hm:0<m)(hc:∀x,(c x).length=m)(hx:0<xs.length):gI m c d (w.alloc (af (xs.flatMap c).toArray t)) (az ⟨w.heap.size,0,aj⟩) xs.length xs:=by refine⟨rfl,fun h0=>⟨w.heap.size,0,rfl,by simp,fun i j hi hj=>?_⟩⟩;rw[(dh.new w t _).cell];rw[Nat.zero_add,<-yf hc xs i j hi hj];simp
theorem agc:QI ⟨oK,oI⟩:=by
 refine⟨?_,?_⟩
 ·intro x hx;simp only[oK,dG,dP,or_false]at hx;rcases hx with rfl|rfl|rfl<;>exact⟨by decide,by decide⟩
 ·intro x hx;simp only[oI,dG,dP,or_false]at hx;rcases hx with rfl|rfl<;>exact⟨by decide,by decide,by decide,by decide,by decide,by decide⟩
def adu(w:aG)(e:Ending)(w':aG):Prop:=∃An Ac,e=ax (.agg #[ay An 3 3,ay Ac 2 2])/\jw w' An Ac ⟨oK,oI⟩/\aN w.heap.size w w'
theorem afn(w:aG):bZ aH 34 #[] w (adu w):=by
 go_enter func34,ntmps34;go_wp2_with fail
 refine bodyPost_ret (v:=.agg #[ay (az ⟨w.heap.size+1,0,aj⟩) 3 3,ay (az ⟨w.heap.size+1+1,0,aj⟩) 2 2]) (by simp[results,Tryz.results34,go_sem]) rfl ?_;refine⟨_,_,rfl,⟨?_,?_⟩,(((aQ _ _).alloc (aC _) _).alloc (by simp) _).alloc (by simp;omega) _⟩
 ·have h:=Md (m:=3) (c:=cN) (d:=jk) (w.alloc (af #[ay (az ⟨w.heap.size+1,0,aj⟩) 3 3,ay (az ⟨w.heap.size+1+1,0,aj⟩) 2 2] 25)) 83 oK (by decide) (fun _=>rfl) (by decide);have e:(w.alloc (af #[ay (az ⟨w.heap.size+1,0,aj⟩) 3 3,ay (az ⟨w.heap.size+1+1,0,aj⟩) 2 2] 25)).heap.size=w.heap.size+1:=by simp
  rw[e]at h;exact h.alloc _
 ·have h:=Md (m:=6) (c:=cC) (d:=gX) ((w.alloc (af #[ay (az ⟨w.heap.size+1,0,aj⟩) 3 3,ay (az ⟨w.heap.size+1+1,0,aj⟩) 2 2] 25)).alloc (af (oK.flatMap cN).toArray 83)) 86 oI (by decide) (fun _=>rfl) (by decide);have e:((w.alloc (af #[ay (az ⟨w.heap.size+1,0,aj⟩) 3 3,ay (az ⟨w.heap.size+1+1,0,aj⟩) 2 2] 25)).alloc (af (oK.flatMap cN).toArray 83)).heap.size=w.heap.size+1+1:=by simp
  rw[e]at h;exact h
theorem amn:zS ⟨oK,oI⟩ [1]=0:=by decide+kernel
structure Ul(w0:aG)(b:Nat)(F:dx)(N:Nat)(w:aG):Prop where
 m:∃Z L,gy Z w b oK oI F L/\(∀k,k<w0.heap.size->(Z k).1=1)
 ok:dK oK oI F N
 fl:Be oI F
 up:F.up.length=oI.length
 be:aN w0.heap.size w0 w
theorem Ul.tick{w0 w:aG}{b N:Nat}{F:dx}(h:Ul w0 b F N w)(hN:N<=600000000):bZ aH 15 #[pt b] w fun e w'=>∃nr v dN,e=ax v/\Ul w0 b (F.tick oK oI nr).1 (N+1000+oK.length*5000) w'/\Af dN w.heap.size w' v (F.tick oK oI nr).2:=by obtain⟨Z,L,m,t1⟩:=h.m;have hp:=Gq Cm;refine(Rz F N b oK oI L Z w m hp h.ok h.fl (by decide) Cm agc h.up hN).mono ?_;rintro e w' ⟨nr,ro,_,v,rfl,dN,L',m',n,d⟩;have g:=Sm h.ok h.fl hp ro (by omega);refine⟨nr,v,dN,rfl,⟨⟨dN,L',m',fun k hk=>by rw[n.ext k (bW hk h.be.size)];exact t1 k hk⟩,g.1,g.2,g.1.up,?_⟩,d⟩;have:=(Ch.bY (S:=fun k=>2<=(Z k).1) h.be).trans n.ch fun i _ s=>s;exact⟨this.os,this.tape,this.output,this.size,fun k hk=>this.block k hk fun s=>by have:=t1 k hk;omega⟩
theorem VQ(f:dx)(ns:List Nd)(jR kU cls:Int)(data:List Int):(f.iL ns jR kU cls data).1.fl=f.fl/\(f.iL ns jR kU cls data).1.now=f.now/\(f.iL ns jR kU cls data).1.up=f.up:=by
 unfold dx.iL;split
 ·exact⟨rfl,rfl,rfl⟩
 ·split
  ·exact⟨rfl,rfl,rfl⟩
  ·simp only;split
   ·exact⟨rfl,rfl,rfl⟩
   ·split
    ·refine⟨?_,?_,?_⟩<;>(unfold dx.iC;split<;>rfl)
    ·exact⟨rfl,rfl,rfl⟩
theorem Ul.inj{w0 w:aG}{b N:Nat}{F:dx}(h:Ul w0 b F N w)(hN:N<=600000000):bZ aH 14 #[pt b,ah ag 0,ah ag 2,ah ag 0,ay (az ⟨w.heap.size,0,aj⟩) 1 1] (w.alloc (af #[.int .u8 120] 5 (1,2))) fun e w'=>e=ax (.tuple #[ah ag (F.iL oK 0 2 0 [120]).2.1,ah ag (F.iL oK 0 2 0 [120]).2.2])/\Ul w0 b (F.iL oK 0 2 0 [120]).1 (N+1) w':=by
 obtain⟨Z,L,m,t1⟩:=h.m;have hp:=Gq Cm;obtain⟨w1,gK⟩:∃w1:aG,w.alloc (af #[.int .u8 120] 5 (1,2))=w1:=⟨_,rfl⟩;have B1:aN w.heap.size w w1:=by rw[<-gK];exact(aQ _ _).alloc (aC _) _
 have s1:w1.heap.size=w.heap.size+1:=by rw[<-gK];simp
 obtain⟨vB,QU⟩:∃vB:Own,vB=fun k=>if k<w.heap.size then Z k else(1,0,0,0):=⟨_,rfl⟩
 have e1:∀k,k<w.heap.size->vB k=Z k:=fun k hk=>by rw[QU];exact if_pos hk
 have m1:gy vB w1 b oK oI F L:=m.jD (S:=fun _=>False) (Ch.bY B1) e1 (fun _ s=>s.elim);have Qz:iQ vB w1 [120] (ay (az ⟨w.heap.size,0,aj⟩) 1 1):=by
  refine⟨_,1,rfl,?_,fun _ p hp=>?_,by decide⟩
  ·rw[<-gK];refine⟨rfl,fun _=>⟨w.heap.size,0,rfl,by simp,fun i j hi hj=>?_⟩⟩;obtain rfl:i=0:=(by have hi:i<1:=hi;omega);obtain rfl:j=0:=(by omega);exact World.cell?_alloc_mark w _ _ _ _
  ·injection hp with hp;subst hp;refine⟨?_,by show w.heap.size<_;omega⟩;rw[QU];show(if w.heap.size<w.heap.size then Z w.heap.size else((1,0,0,0):Tg)).1=1;rw[if_neg (Nat.lt_irrefl _)]
 rw[gK];have sm:=VQ F oK 0 2 0 [120];refine(MR F N 0 2 0 [120] b oK oI L vB w1 m1 hp h.ok (by omega) (az ⟨w.heap.size,0,aj⟩) 1 (by decide) (fun _=>Qz)).mono ?_;rintro e w' ⟨rfl,dN,L',m',n⟩;have t2:∀k,k<w0.heap.size->(vB k).1=1:=fun k hk=>by rw[e1 k (bW hk h.be.size)];exact t1 k hk
 have be1:=h.be.trans (B1.mono h.be.size);refine⟨rfl,⟨dN,L',m',fun k hk=>by rw[n.ext k (bW hk be1.size)];exact t2 k hk⟩,h.ok.iL 0 2 0 [120],h.fl.same sm.1 sm.2.1,by rw[sm.2.2];exact h.up,?_⟩;have:=(Ch.bY (S:=fun k=>2<=(vB k).1) be1).trans n.ch fun i _ s=>s;exact⟨this.os,this.tape,this.output,this.size,fun k hk=>this.block k hk fun s=>by have:=t2 k hk;omega⟩
theorem Ul.start{w0 w:aG}{b:Nat}{r:Rt}{Z:Own}{L:rY}(hr:Bz oK oI [true,true] r)(m:gy Z w b oK oI (jM oK oI [1] r) L)(t:∀k,k<w0.heap.size->Z k=(1,0,0,0))(be:aN w0.heap.size w0 w):Ul w0 b (jM oK oI [1] r) 0 w:=by
 have ro:Ef oK oI r:=by obtain⟨PS,LL,G,hn⟩:=hr;exact hn.ok Cm
 exact⟨⟨Z,L,m,fun k hk=>by rw[t k hk]⟩,dK.new (Gq Cm) (by decide) (by decide) (by decide) ro,Be.new _ _ _ _,rfl,be⟩
theorem Af.Qe{Z:Own}{base:Nat}{w:aG}{v:Value}(h:Af Z base w v []):∃a c,v=ay a 0 c:=by obtain⟨Q,h1,h2,_,_⟩:=h;have:Q=[]:=List.map_eq_nil_iff.1 h1;subst this;exact dO h2
theorem Af.afA{Z:Own}{base:Nat}{w:aG}{v:Value}{t u:Nat}{x:Fm}(h:Af Z base w v [(t,u,x)]):∃g c vd,v=ay (az ⟨g,0,aj⟩) 1 c/\w.cell? ⟨g,0,aj⟩=az (ah ag (t:Int))/\w.cell? ⟨g,1,aj⟩=az (ah ag (u:Int))/\w.cell? ⟨g,7,aj⟩=az vd/\iQ Z w x.data vd:=by
 obtain⟨Q,h1,h2,h3,_⟩:=h;have hl:Q.length=1:=by have:=congrArg List.length h1;simpa using this
 obtain⟨y,rfl⟩:=List.length_eq_one_iff.1 hl;have hy:y.1=(t,u,x):=by simpa using h1
 obtain⟨g,c,e,_,_,_,hc⟩:=nH (d:=((0,0,default),ay aj 0 0)) (m:=8) (c:=Xa) (fun _=>rfl) h2 rfl (i:=0) (by simp);have k:=fun j hj=>hc 0 (by simp) j hj;have d:=h3 y (List.mem_singleton.2 rfl);rw[hy]at d;obtain⟨⟨y1,y2,y3⟩,yv⟩:=y;simp only[Prod.mk.injEq]at hy;obtain⟨rfl,rfl,rfl⟩:=hy;exact⟨g,c,yv,e,k 0 (by decide),k 1 (by decide),k 7 (by decide),d⟩
section
variable{w0 w:aG}{b:Nat}{r n1 n2 n3 n4:Rt}
theorem ald(h:Ul w0 b (jM oK oI [1] r) 0 w)(hr:Bz oK oI [true,true] r):bZ aH 14 #[au (az ⟨b,0,aj⟩),ah ag 0,ah ag 2,ah ag 0,ay (az ⟨w.heap.size,0,aj⟩) 1 1] (w.alloc (af #[.int .u8 120] 5 (1,2))) fun e w'=>e=ax (.tuple #[ah ag 1,ah ag 0])/\Ul w0 b (ahg r) 1 w':=by refine(h.inj (by decide)).mono fun e w' q=>⟨?_,q.2⟩;rw[q.1,(UY hr r r r r).a]
theorem aqd(h:Ul w0 b (ahg r) 1 w)(hr:Bz oK oI [true,true] r):bZ aH 15 #[au (az ⟨b,0,aj⟩)] w fun e w'=>∃n1 a c,e=ax (ay a 0 c)/\Ul w0 b (ahh r n1) 100000 w':=by refine(h.tick (by decide)).mono fun e w' q=>?_;obtain⟨n1,v,Z,rfl,s,d⟩:=q;rw[(UY hr n1 n1 n1 n1).t1]at d;obtain⟨a,c,rfl⟩:=d.Qe;exact⟨n1,a,c,rfl,s.m,s.ok.mono (by decide),s.fl,s.up,s.be⟩
theorem aqe(h:Ul w0 b (ahh r n1) 100000 w)(hr:Bz oK oI [true,true] r):bZ aH 15 #[au (az ⟨b,0,aj⟩)] w fun e w'=>∃n2 a c,e=ax (ay a 0 c)/\Ul w0 b (ahi r n1 n2) 200000 w':=by refine(h.tick (by decide)).mono fun e w' q=>?_;obtain⟨n2,v,Z,rfl,s,d⟩:=q;rw[(UY hr n1 n2 n2 n2).t2]at d;obtain⟨a,c,rfl⟩:=d.Qe;exact⟨n2,a,c,rfl,s.m,s.ok.mono (by decide),s.fl,s.up,s.be⟩
theorem aqf(h:Ul w0 b (ahi r n1 n2) 200000 w)(hr:Bz oK oI [true,true] r):bZ aH 15 #[au (az ⟨b,0,aj⟩)] w fun e w'=>∃n3 a c,e=ax (ay a 0 c)/\Ul w0 b (aaM r n1 n2 n3) 300000 w':=by refine(h.tick (by decide)).mono fun e w' q=>?_;obtain⟨n3,v,Z,rfl,s,d⟩:=q;rw[(UY hr n1 n2 n3 n3).t3]at d;obtain⟨a,c,rfl⟩:=d.Qe;exact⟨n3,a,c,rfl,s.m,s.ok.mono (by decide),s.fl,s.up,s.be⟩
def aom(w0:aG)(b:Nat)(e:Ending)(w':aG):Prop:=∃g c a k,e=ax (ay (az ⟨g,0,aj⟩) 1 c)/\w'.cell? ⟨g,0,aj⟩=az (ah ag 4)/\w'.cell? ⟨g,1,aj⟩=az (ah ag 2)/\w'.cell? ⟨g,7,aj⟩=az (ay a 1 k)/\
 (convert 27 9 (ay a 1 k)).run aH w'=.ok (.string ⟨#[120]⟩) w'/\bZ aH 18 #[au (az ⟨b,0,aj⟩)] w' (fun e w''=>e=ax (ah ag 0)/\w'=w'')/\aN w0.heap.size w0 w'
theorem aqg(h:Ul w0 b (aaM r n1 n2 n3) 300000 w)(hr:Bz oK oI [true,true] r):bZ aH 15 #[au (az ⟨b,0,aj⟩)] w (aom w0 b):=by
 refine(h.tick (by decide)).mono fun e w' q=>?_;obtain⟨n4,v,Z,rfl,s,d⟩:=q;have A:=UY hr n1 n2 n3 n4;rw[A.t4]at d;obtain⟨g,c,vd,rfl,c0,c1,c7,Qz⟩:=d.afA;obtain⟨a,k,rfl,hrec,_,_⟩:=Qz;obtain⟨dN,L,m,_⟩:=s.m;have ins:=Vw m (s.ok.afQ (by decide));have e0:((aaM r n1 n2 n3).tick oK oI n4).1.Od=0:=by unfold dx.Od dx.alive;rw[A.b,A.a0];simp
 rw[e0]at ins;obtain⟨gb,go,rfl,_,hc⟩:=hrec.2 (by decide);have cb:=hc 0 0 (by decide) (by decide);refine⟨g,c,_,k,rfl,c0,c1,c7,?_,ins,s.be⟩;have:=run_convert_bytes_arg (P:=aH) w' 27 5 underlying27 underlying5 gb go 1 k [120] rfl (fun i hi=>by
  obtain rfl:i=0:=by omega
  exact cb)
 exact this 9 underlying9
end
theorem aaN(w:aG):bZ aH 10 #[] w fun e w'=>e=ax (.bool true)/\aN w.heap.size w w':=by
 have LN:=aA (afn w);go_enter func10,ntmps10;go_wp2_with (first
  |(go_at_call 34;(with_reducible refine LN.o.mono ?_);rintro e w1 ⟨An,Ac,rfl,hpl,hb1⟩;have B1:=aA hb1;have PL1:=aA (hpl.alloc (af #[ah ag 1] 3));have R1:=aA (Md (m:=1) (c:=cI) (d:=(0:Int)) w1 3 [1] (by decide) (fun _=>rfl) (by decide));clear hb1 hpl)
  |(go_at_call 11;refine(Vz oK oI [1] An Ac (az ⟨w1.heap.size,0,aj⟩) 3 2 1 _ (by decide) (by decide) (by decide) agc (by intro x hx;simp at hx;subst hx;decide) PL1.o R1.o).mono ?_;rintro e w2 hq;rcases hq with⟨hq,_⟩|⟨_,b,r,Z,L,rfl,hr,hm,ht,uu⟩;exact absurd amn hq;have CV:=Lib.run_convert_bytes_const (P:=aH) w2 27 5 #[.int .u8 120] 1 1 underlying27 underlying5;have S0:=aA (Ul.start (w0:=w) hr hm (fun k hk=>ht k (by have:=B1.o.size;simp;omega)) ((B1.o.alloc B1.o.size _).trans (uu.mono (by have:=B1.o.size;simp;omega))));have IJ:=aA (ald S0.o hr);have HR:=aA hr;clear hm ht uu S0 hr)
  |(go_at_call 14;(with_reducible refine IJ.o.mono ?_);rintro e w3 ⟨rfl,h3⟩;have T1:=aA (aqd h3 HR.o);clear h3 IJ)
  |(go_at_call 15;(with_reducible refine T4.o.mono ?_);rintro e w7 ⟨g,c,a,k,rfl,c0,c1,c7,cv,Gb,VJ⟩;have B7:=aA VJ;have IN:=aA Gb;clear VJ Gb T4)
  |(go_at_call 15;(with_reducible refine T3.o.mono ?_);rintro e w6 ⟨n3,a3,c3,rfl,h6⟩;have T4:=aA (aqg h6 HR.o);clear h6 T3)
  |(go_at_call 15;(with_reducible refine T2.o.mono ?_);rintro e w5 ⟨n2,a2,c2,rfl,h5⟩;have T3:=aA (aqf h5 HR.o);clear h5 T2)
  |(go_at_call 15;(with_reducible refine T1.o.mono ?_);rintro e w4 ⟨n1,a1,c1,rfl,h4⟩;have T2:=aA (aqe h4 HR.o);clear h4 T1)
  |(go_at_call 18;(with_reducible refine IN.o.mono ?_);rintro e w8 ⟨rfl,rfl⟩))
 go_ret;exact⟨rfl,B7.o⟩
def akV(aK:List Int)(w1:aG)(i:Value)(wr:aG):Prop:=∃k:Nat,k<=aK.length/\i=ah ag k/\w1=wr/\(aK.take k).all yK=true
theorem WN(aK:List Int)(A:Option Addr)(c:Nat)(w:aG)(h:gI 1 cI 0 w A aK.length aK):bZ aH 13 #[ay A aK.length c] w fun e w'=>e=ax (.bool (pU aK))/\w=w':=by
 by_cases h0:aK.length<1
 ·have e:pU aK=false:=by unfold pU;simp;omega
  rw[e];go_enter func13,ntmps13;go_wp2_with fail;go_ret;exact⟨rfl,rfl⟩
 ·by_cases h1:4<aK.length
  ·have e:pU aK=false:=by unfold pU;simp;omega
   rw[e];have i1:(4:Int)<(aK.length:Int):=by omega
   have i2:(1:Int)<=(aK.length:Int):=(by omega);go_enter func13,ntmps13;go_wp2_with fail;go_ret;exact⟨rfl,rfl⟩
  ·have i1:(aK.length:Int)<=(4:Int):=by omega
   have i2:(1:Int)<=(aK.length:Int):=(by omega);have R:=aA h;have RB:Hid (pU aK=aK.all yK):=(by unfold pU;rw[Hid,decide_eq_true (by omega:1<=aK.length),decide_eq_true (by omega:aK.length<=4)];simp);clear h;generalize pU aK=rb at *;go_enter func13,ntmps13;go_wp2_with fail;go_loopw [2,3,12,13,14,15,16,17,18,19,20,21,22,23,24,25,26,27,28,29] (fun _ i _ _ _ _ _ _ _ _ _ _ _ _ _ _ _ _ _ _ wr=>akV aK w i wr) (fun _ i _ _ _ _ _ _ _ _ _ _ _ _ _ _ _ _ _ _ _=>aK.length-(aJ i).toNat);case atStart=>exact⟨0,Nat.zero_le _,rfl,rfl,rfl⟩
   case round=>
    obtain⟨k,hk,rfl,rfl,hall⟩:=hrel;by_cases nI:k<aK.length
    ·obtain⟨b0,o0,rfl,_,hc⟩:=oC R.o k nI;have BK:Hid ((aK.getD k 0<1\/64<aK.getD k 0)->rb=false):=fun hb=>by
      rw[RB.o,List.all_eq_false];have hm:aK.getD k 0∈aK:=by simp[bJ,nI]
      generalize aK.getD k 0=r at *;exact⟨r,hm,by unfold yK;simp;omega⟩
     have TK:Hid (yK (aK.getD k 0)=true->(aK.take (k+1)).all yK=true):=fun q=>(by rw[List.take_add_one,List.all_append,hall];simp[bJ,nI]at q|-;exact q);have hkc:(k:Int)<(aK.length:Int):=(by omega);have NJ:(0:Int)<=(k:Int):=(by omega);generalize aK.getD k 0=r at *;clear hall;by_cases r1:r<1
     ·have e:=BK.o (.inl r1);subst e;go_wp2_with fail;go_ret;exact⟨rfl,rfl⟩
     ·have r1':1<=r:=by omega
      by_cases r2:64<r
      ·have e:=BK.o (.inr r2);subst e;go_wp2_with fail;go_ret;exact⟨rfl,rfl⟩
      ·have r2':r<=64:=by omega
       have T:=aA (TK.o (by unfold yK;simp;omega));go_wp2_with fail;exact⟨⟨k+1,by omega,by congr 1,rfl,T.o⟩,by simp[aJ];omega⟩
    ·obtain rfl:aK.length=k:=by omega
     rw[List.take_length]at hall;have e:rb=true:=by rw[RB.o];exact hall
     subst e;go_wp2_with fail;go_ret;exact⟨rfl,rfl⟩
end Go.Proofs.YtnjjkgjdhljfnaaGreat
