/- Part 30. -/
import Derived.Test.YtnjjkgjdhljfnaaGreatPk28
import Derived.Test.YtnjjkgjdhljfnaaGreatPk29
open Go.Proofs.Tryz
open Go renaming Calls->di,World->aG
open Go.Ending renaming returned->ax
open Go.IntKind renaming i64->ag
open Go.Lib renaming hid->aA
open Go.Obj renaming cells->af
open Go.Proofs.Tryz renaming prog->aH
open Go.RowKit renaming Below->aO,Hid->aZ,intOf->aK
open Go.RowKit.Below renaming refl->aS
open Go.Value renaming int->ah,pointer->au,slice->ay
open List renaming length_map->dW
open Nat renaming le_refl->aC
open Option renaming none->aj,some->az
open Option.some renaming inj->mg
set_option maxRecDepth 100000
set_option maxHeartbeats 16000000
set_option linter.unusedVariables false
set_option linter.unusedSimpArgs false
namespace Go.Proofs.YtnjjkgjdhljfnaaGreat.fabricRoomW
open Go.RowKit Go.Maps
attribute [local go_sem ↓] Go.wp_at_zero Go.wp_at_succ
def Ro(l:List qg)(B0:Nat)(w0:aG)(g0 b Bd:Nat)(ns:List Nd)(cs:List Cb)(cv i:Value)(wr:aG):Prop:=
 ∃k:Nat,k<=l.length/\i=ah ag k/\∃s Z L vi vo cut,cv=.bool cut/\pE B0 Z wr g0 b ns cs L vi vo s.f.now s/\NI ns cs Bd k s cut/\(∀q,q<B0->Z q=(1,0,0,0))/\aO B0 w0 wr
section
variable{l:List qg}{B0 g0 b Bd k:Nat}{w0 w w' w2:aG}{ns:List Nd}{cs:List Cb}{t:Oa}{Z dV:Own}{L:rY}{vi vo:Value}
theorem afB{f:dB}{N:Nat}(h:gz Z w b ns cs f L)(hp:nW ns cs)(qX:dH ns cs f N)(h0:Qm f ns.length=0)(hN:N<=1000000000):di aH 20 #[au (az ⟨b,0,aj⟩)] w fun e w'=>e=ax (ah ag 0)/\w=w':=by have:=abF h hp qX hN;rw[h0]at this;exact this
theorem arB{f:dB}(h:gz Z w b ns cs f L)(h0:f.lost=[]):di aH 19 #[au (az ⟨b,0,aj⟩)] w fun e w'=>∃a c,e=ax (ay a 0 c)/\aO w.heap.size w w':=by refine(abC h (by rw[h0];decide)).mono ?_;rintro e w' ⟨v,rfl,own,hb⟩;obtain⟨a,c,rfl⟩:=dX own;rw[h0];exact⟨a,c,rfl,hb⟩
theorem acT(n:NK Z w dV w')(hB:B0<=w.heap.size)(t1:∀q,q<B0->Z q=(1,0,0,0)):aO B0 w w':=
 n.ch.below hB fun q hq=>by
  rcases Nat.lt_or_ge q B0 with h|h
  ·unfold WS at hq;rw[t1 q h]at hq;rcases hq with e|e
   ·exact absurd e (by decide)
   ·exact absurd e (by decide)
  ·exact h
theorem Ro.next{cut:Bool}(hk:k<l.length)(ok:NI ns cs Bd (k+1) t cut)(M:pE B0 dV w' g0 b ns cs L vi vo t.f.now t)(n:NK Z w dV w')(be:aO B0 w0 w)(hB:B0<=w.heap.size)(t1:∀q,q<B0->Z q=(1,0,0,0))(hb:aO w'.heap.size w' w2):Ro l B0 w0 g0 b Bd ns cs (.bool cut) (ah ag ((k:Int)+1)) w2:=
 have sz:=n.ch.size
 ⟨k+1,hk,by congr 1,t,fr dV w'.heap.size,L,vi,vo,cut,rfl,M.below hb,ok,fun q hq=>by rw[iD (by omega),n.ext _ (by omega)];exact t1 q hq,(be.trans (acT n hB t1)).trans (hb.mono (by omega))⟩
end
theorem walk(An Ac:Option Addr)(cn cc:Nat)(p:Pl)(Ar:Option Addr)(cr:Nat)(aI:List Int)(Al:Option Addr)(cl:Nat)(l:List qg)(w:aG)(h:jB w An Ac p)(sN:QJ p)(hr:gH 1 cI 0 w Ar aI.length aI)(hwr:WfI aI)(ha:Bw w Al l):di aH 6 #[.agg #[ay An p.ns.length cn,ay Ac p.cs.length cc],ay Ar aI.length cr,ay Al l.length cl] w fun e w'=>e=ax (.bool true)/\aO w.heap.size w w':=by
 obtain⟨ns,cs⟩:=p;simp only at h|-;obtain⟨w1,gK⟩:∃w1:aG,w.alloc (af #[ay An ns.length cn,ay Ac cs.length cc] 25)=w1:=⟨_,rfl⟩;have B1:aZ (aO w.heap.size w w1):=by rw[<-gK];exact(aS _ _).alloc (aC _) _
 have P1:aZ (dG w1 w.heap.size 25 #[ay An ns.length cn,ay Ac cs.length cc]):=by rw[<-gK];exact dG.new w _ _
 have AW:=aA (aaP w1);have SM:aZ (∀w',aO w.heap.size w w'->di aH 23 #[.agg #[ay An ns.length cn,ay Ac cs.length cc],ay Ar aI.length cr] w' fun e w''=>e=ax (.bool (Cf ns cs aI))/\aO w'.heap.size w' w''):=fun w' hb=>
  Wx ns cs aI An Ac Ar cn cc cr w' (h.below (aC _) hb) (hr.below (aC _) hb)
 have LO:aZ (∀w',aO w.heap.size w w'->di aH 24 #[ay Al l.length cl] w' fun e w''=>e=ax (.bool (Ni l))/\aO w'.heap.size w' w''):=fun w' hb=>
  YC l Al cl w' (ha.below (aC _) hb)
 have KP:aZ (∀w',aO w1.heap.size w1 w'->w'.cell? ⟨w.heap.size,0,aj⟩=az (ay An ns.length cn)/\w'.cell? ⟨w.heap.size,1,aj⟩=az (ay Ac cs.length cc)):=fun w' hb=>by have q:=P1.o.below hb P1.o.lt;exact⟨q.cell 0,q.cell 1⟩
 cases hs:Cf ns cs aI with
 |false=>rw[hs]at SM;clear h hr ha LO sN hwr;go_enter func6,ntmps6;go_wp2_with (first|(go_at_call 10;(with_reducible refine AW.o.mono ?_);rintro e w2 ⟨rfl,uy⟩;have B2:=aA (B1.o.trans (uy.mono B1.o.size));obtain⟨k0,k1⟩:=KP.o w2 uy;clear uy)|(go_at_call 23;(with_reducible refine(SM.o w2 B2.o).mono ?_);rintro e w3 ⟨rfl,Pt⟩;have B3:=aA (B2.o.trans (Pt.mono B2.o.size));clear Pt));go_ret;exact⟨rfl,B3.o⟩
 |true=>
 cases hl:Ni l with
 |true=>rw[hs]at SM;rw[hl]at LO;clear h hr ha sN hwr;go_enter func6,ntmps6;go_wp2_with (first|(go_at_call 10;(with_reducible refine AW.o.mono ?_);rintro e w2 ⟨rfl,uy⟩;have B2:=aA (B1.o.trans (uy.mono B1.o.size));obtain⟨k0,k1⟩:=KP.o w2 uy;clear uy)|(go_at_call 23;(with_reducible refine(SM.o w2 B2.o).mono ?_);rintro e w3 ⟨rfl,Pt⟩;have B3:=aA (B2.o.trans (Pt.mono B2.o.size));clear Pt)|(go_at_call 24;(with_reducible refine(LO.o w3 B3.o).mono ?_);rintro e w4 ⟨rfl,hb4⟩;have B4:=aA (B3.o.trans (hb4.mono B3.o.size));clear hb4));go_ret;exact⟨rfl,B4.o⟩
 |false=>
  have hsm:ns.length<=8/\cs.length<=10/\fQ ⟨ns,cs⟩=0/\pK aI=true:=by unfold Cf at hs;simp only[Bool.and_eq_true,decide_eq_true_eq]at hs;exact⟨hs.1,hs.2.1,hs.2.2.1,hs.2.2.2.1⟩
  obtain⟨h8,h10,hv,hrm⟩:=hsm;have hlg:l.length<=80/\∀x∈l,x.data.length<=100:=by unfold Ni at hl;simp only[Bool.or_eq_false_iff,decide_eq_false_iff_not,List.any_eq_false]at hl;exact⟨by omega,fun x hx=>by have:=hl.2 x hx;unfold Hm at this;simp at this;omega⟩
  obtain⟨l80,arx⟩:=hlg;have hp:=GK hv;have rl:aI.length<=1000000:=by unfold pK at hrm;simp at hrm;omega
  have ST:aZ (∀w',aO w.heap.size w w'->di aH 25 #[.agg #[ay An ns.length cn,ay Ac cs.length cc],ay Ar aI.length cr] w' (Lv w' ns cs aI)):=fun w' hb=>
   WA ns cs aI An Ac Ar cn cc cr w' (by omega) (by omega) rl sN hwr (h.below (aC _) hb) (hr.below (aC _) hb) (by unfold Ae;rw[if_pos hv,if_pos hrm])
  unfold Lv pt at ST;have AL:aZ (∀w':aG,di aH 26 #[.agg #[ay An ns.length cn,ay Ac cs.length cc]] w' fun e w''=>∃g,e=ax (ay (az ⟨g,0,aj⟩) cs.length cs.length)/\w'.heap.size<=g/\dG w'' g 4 (qI cs.length cs.length)/\aO w'.heap.size w' w''):=fun w'=>
   aaN ns.length cs.length An Ac cn cc w' (by omega)
  have CO:aZ (∀w' gU,aO w.heap.size w w'->dG w' gU 4 (qI cs.length cs.length)->di aH 30 #[.agg #[ay An ns.length cn,ay Ac cs.length cc],ay (az ⟨gU,0,aj⟩) cs.length cs.length] w' fun e w''=>∃q:Bool,e=ax (.bool q)/\(q=true->∀u t,u<ns.length->t<ns.length->Jn cs (cs.map fun _=>true) u t)/\aO w'.heap.size w' w''):=fun w' gU hb hU=>by have e:(cs.map fun _=>true)=List.replicate cs.length true:=(by rw[List.map_const']);have k:=aez ns cs (cs.map fun _=>true) An Ac (az ⟨gU,0,aj⟩) cn cc cs.length w' hv (by simp) sN (h.below (aC _) hb) (by rw[dW,e];exact afh hU);rw[dW]at k;refine k.mono ?_;rintro e w'' ⟨sn,PS,rfl,hp,hb⟩;exact⟨_,rfl,fun q=>acn hp (by have:=of_decide_eq_true q;omega),hb⟩
  have aoI:=aA ha;have HWF:=aA sN;have HPL:=aA hp;have HRM:=aA hrm;have HVV:=aA hv;have avP:=aA arx;rw[hs]at SM;rw[hl]at LO;clear h hr ha sN hwr hs hl hp hrm hv arx rl;go_enter func6,ntmps6;go_wp2_with (first|(go_at_call 10;(with_reducible refine AW.o.mono ?_);rintro e w2 ⟨rfl,uy⟩;have C2:=aA uy;have B2:=aA (B1.o.trans (uy.mono B1.o.size));obtain⟨k0,k1⟩:=KP.o w2 uy;clear uy)|(go_at_call 23;(with_reducible refine(SM.o w2 B2.o).mono ?_);rintro e w3 ⟨rfl,Pt⟩;have C3:=aA (C2.o.trans (Pt.mono C2.o.size));have B3:=aA (B2.o.trans (Pt.mono B2.o.size));clear Pt)|(go_at_call 24;(with_reducible refine(LO.o w3 B3.o).mono ?_);rintro e w4 ⟨rfl,hb4⟩;have C4:=aA (C3.o.trans (hb4.mono C3.o.size));have B4:=aA (B3.o.trans (hb4.mono B3.o.size));obtain⟨k40,k41⟩:=KP.o w4 C4.o;clear hb4)|(go_at_call 25;(with_reducible refine(ST.o w4 B4.o).mono ?_);rintro e w5 ⟨g0,b,r,Z,L,rfl,hr5,hm5,ht5,hb5⟩;have R5:=aA hr5;have M5:=aA hm5;have T5:=aA ht5;have B5:=aA hb5;obtain⟨k50,k51⟩:=KP.o w5 (C4.o.trans (hb5.mono C4.o.size));clear hr5 hm5 ht5 hb5));obtain⟨B0,hB0⟩:∃B0,w4.heap.size=B0:=⟨_,rfl⟩;rw[hB0]at M5 T5 B5;have C5:aZ (aO w1.heap.size w1 w5):=C4.o.trans (B5.o.mono (by rw[<-hB0];exact C4.o.size));have D5:aZ (aO w.heap.size w w5):=B4.o.trans (B5.o.mono (by rw[<-hB0];exact B4.o.size));have s5:=B5.o.size;have jm:aZ (∀wr,aO B0 w4 wr->aO w.heap.size w wr):=fun wr hb=>B4.o.trans (hb.mono (by rw[<-hB0];exact B4.o.size));have ACT:aZ (∀wr,aO B0 w4 wr->Bw wr Al l):=fun wr hb=>aoI.out.below (aC _) (jm.out wr hb);have WB:aZ (w.heap.size<=B0):=by rw[aZ,<-hB0];exact B4.o.size
  clear k0 k1 k40 k41;go_region_held3 (fun wq=>wq.cell? ⟨w.heap.size,0,aj⟩=az (ay An ns.length cn)/\wq.cell? ⟨w.heap.size,1,aj⟩=az (ay Ac cs.length cc))
   (first|exact KP.o _ C5.o|exact KP.o _ C5.o.drew|exact KP.o _ C6.o|exact KP.o _ C7.o)
   (first|(go_at_call 26;(with_reducible refine(AL.o _).mono ?_);rintro e w6 ⟨gU,rfl,hg6,hu6,hb6⟩;have U6:=aA hu6;have B6:=aA hb6;have C6:=aA (C5.o.drew.trans (hb6.mono C5.o.size));have D6:=aA (D5.o.drew.trans (hb6.mono D5.o.size));clear hg6 hu6 hb6)|(go_at_call 30;(with_reducible refine(CO.o _ _ D6.o U6.o).mono ?_);rintro e w7 ⟨q7,rfl,hj,Uy⟩;have J7:=aA hj;have B7:=aA Uy;have C7:=aA (C6.o.trans (Uy.mono C6.o.size));clear hj Uy))
  have ST0:aZ (Ro l B0 w4 g0 b 10000 ns cs (.bool (!q7)) (ah ag 0) w7):=by have b67:aO w5.heap.size w5 w7:=(aS _ w5).drew.trans (B6.o.trans (B7.o.mono B6.o.size));refine⟨0,Nat.zero_le _,rfl,⟨iq ns cs aI r,[],[]⟩,fr Z w5.heap.size,L,_,_,!q7,rfl,M5.o.below b67,NI.new HPL.o HVV.o HRM.o R5.o 10000 (fun q=>J7.o (by simpa using q)),fun q hq=>?_,B5.o.trans (b67.mono (by omega))⟩;rw[iD (by omega)];exact T5.o q hq
  clear U6 R5 M5 T5 s5 B6 B7 C6 C7 D6 D5 C5 J7 CO AL;go_wp2_with fail;go_loopw [8,10,33] (fun cv _ i wr=>Ro l B0 w4 g0 b 10000 ns cs cv i wr) (fun _ _ i _=>l.length-(aK i).toNat);case atStart=>exact ST0.o
  case round=>
   clear ST0;obtain⟨k,hk,rfl,s,vP,L1,vi,vo,cut,rfl,m1,ok1,t1,be1⟩:=hrel;by_cases hkl:k<l.length
   ·obtain⟨bl,ol,aD,cD,eA,hbl,mI,_,hdr,c0,c1,c2,c3,c4,c5⟩:=Xt (ACT.o wr be1) k hkl;obtain⟨bl',ol',aD',cD',eA',aqU,_,_,hdr',_,_,_,_,_,c5'⟩:=Xt aoI.out k hkl;have DB:0<(l.getD k default).data.length->∃b off,aD=az ⟨b,off,aj⟩/\b<B0:=fun h0=>by
     obtain⟨b2,o2,e2,l2,_⟩:=hdr'.2 h0;rw[eA]at eA';injection eA' with eA';injection eA' with e3 e4;subst e3 e4;have c6:=((jm.out wr be1).cell (p:=⟨bl,ol+k*6+5,aj⟩) aqU).trans c5';rw[c5]at c6;have e5:=(Value.slice.inj (mg c6)).1;exact⟨b2,o2,by rw[e5,e2],Nat.lt_of_lt_of_le l2 WB.o⟩
    clear c5' hdr' aqU eA';subst eA;have dl:=avP.out _ mI;have kk0:(0:Int)<=(k:Int):=by omega
    have kk1:(k:Int)<(l.length:Int):=(by omega);have NX:aZ (∀t,Rp ns cs s (l.getD k default) t->NI ns cs 10000 (k+1) t (cut||(l.getD k default).k==2)):=fun t ht=>ok1.step HPL.o HVV.o h8 ht (by omega) (by omega);have HKL:=aA hkl;generalize l.getD k default=a at *;obtain⟨ak,aa,ab,ac,ai,ad⟩:=a;simp only at c0 c1 c2 c3 c4 c5 dl hdr DB;have axL:B0<=wr.heap.size:=(by have h1:=be1.size;have h2:=B5.o.size;omega);obtain⟨gA,hgA⟩:∃gA,wr.heap.size=gA:=⟨_,rfl⟩;obtain⟨wa,Mk⟩:∃wa:aG,wr.alloc (af #[ah ag ak,ah ag aa,ah ag ab,ah ag ac,ah ag ai,ay aD ad.length cD] 29)=wa:=⟨_,rfl⟩;have BA:aO wr.heap.size wr wa:=(by rw[<-Mk];exact(aS _ _).alloc (aC _) _);have PA:dG wa wr.heap.size 29 #[ah ag ak,ah ag aa,ah ag ab,ah ag ac,ah ag ai,ay aD ad.length cD]:=(by rw[<-Mk];exact dG.new wr _ _);rw[hgA]at PA;have MA:=m1.below BA;have TA:aZ (∀q,q<B0->(fr vP wr.heap.size) q=(1,0,0,0)):=fun q hq=>(by rw[iD (by omega)];exact t1 q hq);have BW:aZ (aO B0 w4 wa/\B0<=wa.heap.size):=⟨be1.trans (BA.mono axL),by have:=BA.size;omega⟩;have DA:ad.length<=64->iX (fr vP wr.heap.size) wa ad (ay aD ad.length cD):=fun q=>by
     refine⟨aD,cD,rfl,hdr.below (aC _) BA,fun h0 p hp=>?_,q⟩;obtain⟨b2,o2,e2,l2⟩:=DB h0;rw[e2]at hp;injection hp with hp;subst hp;refine⟨?_,?_⟩
     ·show(fr vP wr.heap.size b2).1=1;rw[iD (by omega),t1 b2 l2]
     ·show b2<wa.heap.size;have:=BA.size;omega
    have agI:=aA (aaM B0 (fr vP wr.heap.size) wa g0 b ns cs L1 _ _ s ⟨ak,aa,ab,ac,ai,ad⟩ aD cD MA BW.o.2 HPL.o h8 h10 HVV.o HWF.o ok1.ok (by omega) (by omega) (by show ad.length<=_;omega) DA);unfold vQ pt at agI;have NR:aZ (∀t dV w' L vi vo w2,Rp ns cs s ⟨ak,aa,ab,ac,ai,ad⟩ t->pE B0 dV w' g0 b ns cs L vi vo t.f.now t->NK (fr vP wr.heap.size) wa dV w'->aO w'.heap.size w' w2->Ro l B0 w4 g0 b 10000 ns cs (.bool (cut||ak==2)) (ah ag ((k:Int)+1)) w2):=fun t dV w' L vi vo w2 h1 h2 h3 h4=>
     Ro.next HKL.o (NX.o t h1) h2 h3 BW.o.1 BW.o.2 TA.o h4
    have y0:=PA.cell 0;have y1:=PA.cell 1;have y2:=PA.cell 2;have y3:=PA.cell 3;have y4:=PA.cell 4;have y5:=PA.cell 5;have kk2:k<=80:=(by omega);have KT:aZ (∀t,Rp ns cs s ⟨ak,aa,ab,ac,ai,ad⟩ t->dH ns cs t.f ((k+1)*42000)/\Qm t.f ns.length=0/\((cut||ak==2)=false->t.f.lost=[])):=fun t ht=>(by have q:=NX.o t ht;exact⟨q.ok.ok,q.over _ (aC _),fun e=>(q.nc e).1⟩);clear m1 ok1 t1 be1 MA PA BA hdr mI TA BW DA NX DB;cases cut with
    |true=>rw[Bool.true_or]at NR;go_wp2_with (first|(go_at_call 27;(with_reducible refine agI.out.mono ?_);rintro e w9 ⟨rfl,t,τ9,L9,vi9,vo9,Cv,m9,n9⟩;obtain⟨fo,ov,lo⟩:=KT.o t Cv;have OV:=aA (afB m9.TU HPL.o fo ov (by omega));have n0:w9.cell? ⟨g0,0,aj⟩=az (au (az ⟨b,0,aj⟩)):=m9.root.cell 0;have R:=aA (fun w2 hb=>NR.o t τ9 w9 L9 vi9 vo9 w2 Cv m9 n9 hb);clear Cv m9 n9 fo ov lo)|(go_at_call 20;(with_reducible refine OV.o.mono ?_);rintro e wz ⟨rfl,rfl⟩));exact⟨R.o _ (aS _ _),by simp[aK];omega⟩
    |false=>
     rw[Bool.false_or]at NR KT;by_cases k2:ak=2
     ·subst k2;rw[show((2:Int)==2)=true from rfl]at NR;go_wp2_with (first|(go_at_call 27;(with_reducible refine agI.out.mono ?_);rintro e w9 ⟨rfl,t,τ9,L9,vi9,vo9,Cv,m9,n9⟩;obtain⟨fo,ov,lo⟩:=KT.o t Cv;have OV:=aA (afB m9.TU HPL.o fo ov (by omega));have n0:w9.cell? ⟨g0,0,aj⟩=az (au (az ⟨b,0,aj⟩)):=m9.root.cell 0;have R:=aA (fun w2 hb=>NR.o t τ9 w9 L9 vi9 vo9 w2 Cv m9 n9 hb);clear Cv m9 n9 fo ov lo)|(go_at_call 20;(with_reducible refine OV.o.mono ?_);rintro e wz ⟨rfl,rfl⟩));exact⟨R.o _ (aS _ _),by simp[aK];omega⟩
     ·rw[show(ak==2)=false by simpa using k2]at KT;go_wp2_with (first|(go_at_call 27;(with_reducible refine agI.out.mono ?_);rintro e w9 ⟨rfl,t,τ9,L9,vi9,vo9,Cv,m9,n9⟩;obtain⟨fo,ov,lo⟩:=KT.o t Cv;have OV:=aA (afB m9.TU HPL.o fo ov (by omega));have n0:w9.cell? ⟨g0,0,aj⟩=az (au (az ⟨b,0,aj⟩)):=m9.root.cell 0;have R:=aA (fun w2 hb=>NR.o t τ9 w9 L9 vi9 vo9 w2 Cv m9 n9 hb);have LO:=aA (arB m9.TU (lo rfl));clear Cv m9 n9 fo ov lo)|(go_at_call 20;(with_reducible refine OV.o.mono ?_);rintro e wz ⟨rfl,rfl⟩)|(go_at_call 19;(with_reducible refine LO.o.mono ?_);rintro e w8 ⟨a8,c8,rfl,hb8⟩;have B8:=aA hb8;clear hb8));exact⟨R.o _ B8.o,by simp[aK];omega⟩
   ·obtain rfl:k=l.length:=by omega
    have FF:=aA (jm.out wr be1);clear m1 ok1 t1 be1;go_wp2_with fail;go_ret;exact⟨rfl,FF.o⟩
end Go.Proofs.YtnjjkgjdhljfnaaGreat.fabricRoomW
