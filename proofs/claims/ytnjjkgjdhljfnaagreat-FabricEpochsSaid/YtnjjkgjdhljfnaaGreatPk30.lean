/- Part 30. -/
import Derived.Test.YtnjjkgjdhljfnaaGreatPk28
import Derived.Test.YtnjjkgjdhljfnaaGreatPk29
open Go.Proofs.Tryz
open Bool renaming false_and->zo
open Go renaming Calls->bZ,World->aG
open Go.Ending renaming returned->ax
open Go.IntKind renaming i64->ag
open Go.Lib renaming hid->aA
open Go.Obj renaming cells->af
open Go.Proofs.Tryz renaming prog->aH
open Go.RowKit renaming Below->aN,Hid->aY,intOf->aJ
open Go.RowKit.Below renaming refl->aQ
open Go.Value renaming bool->iN,int->ah,pointer->au,slice->ay
open List renaming getD->bJ,getElem?_cons_succ->fC,getElem?_cons_zero->dD,length_filter_le->lJ,length_map->dE,take_length->dY
open Nat renaming add_zero->jA,le_of_lt->wh,le_refl->aC,le_trans->dZ,zero_le->bS
open Option renaming none->aj,some->az
open Option.some renaming inj->je
set_option maxRecDepth 100000
set_option maxHeartbeats 16000000
set_option linter.unusedVariables false
set_option linter.unusedSimpArgs false
namespace Go.Proofs.YtnjjkgjdhljfnaaGreat.fabricEpochsW
open Go.RowKit Go.Maps
attribute [local go_sem ↓] Go.wp_at_zero Go.wp_at_succ
def DC(l:List nY)(B0:Nat)(w0:aG)(g0 b gU Bd:Nat)(ns:List Nd)(cs:List Cb)(i pv:Value)(wr:aG):Prop:=
 ∃k:Nat,k<=l.length/\i=ah ag k/\∃s Z L vi vo,pv=.bool s.f.kJ/\pg B0 Z wr g0 b ns cs L vi vo s.f.now s/\NY ns cs Bd k s/\dh wr gU 4 (s.f.up.map (fun x=>iN x)).toArray/\Z gU=(0,0,0,0)/\(∀q,q<B0->Z q=(1,0,0,0))/\aN B0 w0 wr
section
variable{l:List nY}{B0 g0 b gU Bd k:Nat}{w0 w w':aG}{ns:List Nd}{cs:List Cb}{t:Iz}{Z dN:Own}{L:rY}{vi vo:Value}
theorem Sw(n:MG Z w dN w')(hB:B0<=w.heap.size)(t1:∀q,q<B0->Z q=(1,0,0,0)):aN B0 w w':=
 n.ch.below hB fun q hq=>by
  rcases Nat.lt_or_ge q B0 with h|h
  ·unfold WS at hq;rw[t1 q h]at hq;rcases hq with e|e
   ·exact absurd e (by decide)
   ·exact absurd e (by decide)
  ·exact h
theorem asI{a:nY}{up:List Bool}(h2:a.k≠2)(h3:a.k≠3):qN a up=false:=by unfold qN;rw[show(a.k==2)=false by simpa using h2,show(a.k==3)=false by simpa using h3];rfl
theorem aga{a:nY}{up:List Bool}(h:¬(0<=a.i/\a.i<up.length)):qN a up=false:=by
 unfold qN;by_cases h0:0<=a.i
 ·rw[show decide (a.i<(up.length:Int))=false from decide_eq_false fun q=>h ⟨h0,q⟩,Bool.and_false,zo]
 ·rw[show decide (0<=a.i)=false from decide_eq_false h0,Bool.and_false,zo,zo]
theorem aao{a:nY}{up:List Bool}{j:Nat}{u v:Bool}(hk:a.k=2\/a.k=3)(hi:a.i=(j:Int))(hj:j<up.length)(hu:up.getD j false=u)(hv:(a.k==3)=v):qN a up=(u !=v):=by
 unfold qN;rw[hv,hi,show decide ((0:Int)<=(j:Int))=true from decide_eq_true (by omega),show decide ((j:Int)<(up.length:Int))=true from decide_eq_true (by omega),Int.toNat_natCast,hu];rcases hk with e|e
 ·rw[e];simp
 ·have v1:v=true:=by rw[<-hv,e];rfl
  rw[v1];simp
theorem DC.next{w2:aG}(hk:k<l.length)(ok:NY ns cs Bd (k+1) t)(M:pg B0 dN w' g0 b ns cs L vi vo t.f.now t)(n:MG Z w dN w')(be:aN B0 w0 w)(hB:B0<=w.heap.size)(uL:gU<w.heap.size)(tU:Z gU=(0,0,0,0))(t1:∀q,q<B0->Z q=(1,0,0,0))(U:dh w' gU 4 (t.f.up.map (fun x=>iN x)).toArray)(hb:aN w'.heap.size w' w2):DC l B0 w0 g0 b gU Bd ns cs (ah ag ((k:Int)+1)) (.bool t.f.kJ) w2:=
 have sz:=n.ch.size
 ⟨k+1,hk,by congr 1,t,fr dN w'.heap.size,L,vi,vo,rfl,M.below hb,ok,U.below hb U.lt,by rw[gL U.lt,n.ext _ uL];exact tU,fun q hq=>by rw[gL (by omega),n.ext _ (by omega)];exact t1 q hq,(be.trans (Sw n hB t1)).trans (hb.mono (by omega))⟩
theorem DC.set{w2:aG}(hk:k<l.length)(ok:NY ns cs Bd (k+1) t)(M:pg B0 dN w' g0 b ns cs L vi vo t.f.now t)(n:MG Z w dN w')(be:aN B0 w0 w)(hB:B0<=w.heap.size)(uL:gU<w.heap.size)(tU:Z gU=(0,0,0,0))(t1:∀q,q<B0->Z q=(1,0,0,0))(gB:B0<=gU){up:List Bool}(U:dh w' gU 4 (up.map (fun x=>iN x)).toArray){i:Nat}{v:Bool}(e:t.f.up=up.set i v)(hb:aN w'.heap.size w' w2):DC l B0 w0 g0 b gU Bd ns cs (ah ag ((k:Int)+1)) (.bool t.f.kJ) (w2.setCell ⟨gU,i,aj⟩ (.bool v)):=by
 have sz:=n.ch.size;have uL':gU<w'.heap.size:=U.lt;have tU':fr dN w'.heap.size gU=(0,0,0,0):=by rw[gL uL',n.ext _ uL];exact tU
 have U2:=U.below hb U.lt;have M2:=M.below hb;have c:=Oa (w:=w2) (g:=gU) (j:=i) (v:=.bool v);refine⟨k+1,hk,by congr 1,t,fr dN w'.heap.size,L,vi,vo,rfl,M2.jD c (fun _ _=>rfl) (fun q hq=>?_),ok,?_,tU',fun q hq=>by rw[gL (by omega),n.ext _ (by omega)];exact t1 q hq,((be.trans (Sw n hB t1)).trans (hb.mono (by omega))).trans (c.below (by have:=hb.size;omega) fun q hq=>by have hq:q=gU:=hq;omega)⟩
 ·have hq:q=gU:=hq;rw[hq,tU'];exact⟨rfl,by decide⟩
 ·have:=U2.jd i (.bool v);rw[e,List.map_set];simpa using this
end
theorem walk(An Ac:Option Addr)(cn cc:Nat)(p:Pl)(Ar:Option Addr)(cr:Nat)(aK:List Int)(Al:Option Addr)(cl:Nat)(l:List nY)(w:aG)(h:jw w An Ac p)(tu:QI p)(hr:gI 1 cI 0 w Ar aK.length aK)(hwr:WfI aK)(ha:Bg w Al l):bZ aH 4 #[.agg #[ay An p.ns.length cn,ay Ac p.cs.length cc],ay Ar aK.length cr,ay Al l.length cl] w fun e w'=>e=ax (.bool true)/\aN w.heap.size w w':=by
 obtain⟨ns,cs⟩:=p;simp only at h|-;obtain⟨w1,gK⟩:∃w1:aG,w.alloc (af #[ay An ns.length cn,ay Ac cs.length cc] 25)=w1:=⟨_,rfl⟩;have B1:aY (aN w.heap.size w w1):=by rw[<-gK];exact(aQ _ _).alloc (aC _) _
 have P1:aY (dh w1 w.heap.size 25 #[ay An ns.length cn,ay Ac cs.length cc]):=by rw[<-gK];exact dh.new w _ _
 have AW:=aA (aaN w1);have SM:aY (∀w',aN w.heap.size w w'->bZ aH 23 #[.agg #[ay An ns.length cn,ay Ac cs.length cc],ay Ar aK.length cr] w' fun e w''=>e=ax (.bool (Bt ns cs aK))/\aN w'.heap.size w' w''):=fun w' hb=>
  Wz ns cs aK An Ac Ar cn cc cr w' (h.below (aC _) hb) (hr.below (aC _) hb)
 have LO:aY (∀w',aN w.heap.size w w'->bZ aH 24 #[ay Al l.length cl] w' fun e w''=>e=ax (.bool (Nf l))/\aN w'.heap.size w' w''):=fun w' hb=>
  YE l Al cl w' (ha.below (aC _) hb)
 have KP:aY (∀w',aN w1.heap.size w1 w'->w'.cell? ⟨w.heap.size,0,aj⟩=az (ay An ns.length cn)/\w'.cell? ⟨w.heap.size,1,aj⟩=az (ay Ac cs.length cc)):=fun w' hb=>by have q:=P1.o.below hb P1.o.lt;exact⟨q.cell 0,q.cell 1⟩
 cases hs:Bt ns cs aK with
 |false=>rw[hs]at SM;clear h hr ha LO tu hwr;go_enter func4,ntmps4;go_wp2_with (first|(go_at_call 10;(with_reducible refine AW.o.mono ?_);rintro e w2 ⟨rfl,uu⟩;have B2:=aA (B1.o.trans (uu.mono B1.o.size));obtain⟨k0,k1⟩:=KP.o w2 uu;clear uu)|(go_at_call 23;(with_reducible refine(SM.o w2 B2.o).mono ?_);rintro e w3 ⟨rfl,Pp⟩;have B3:=aA (B2.o.trans (Pp.mono B2.o.size));clear Pp));go_ret;exact⟨rfl,B3.o⟩
 |true=>
 cases hl:Nf l with
 |true=>rw[hs]at SM;rw[hl]at LO;clear h hr ha tu hwr;go_enter func4,ntmps4;go_wp2_with (first|(go_at_call 10;(with_reducible refine AW.o.mono ?_);rintro e w2 ⟨rfl,uu⟩;have B2:=aA (B1.o.trans (uu.mono B1.o.size));obtain⟨k0,k1⟩:=KP.o w2 uu;clear uu)|(go_at_call 23;(with_reducible refine(SM.o w2 B2.o).mono ?_);rintro e w3 ⟨rfl,Pp⟩;have B3:=aA (B2.o.trans (Pp.mono B2.o.size));clear Pp)|(go_at_call 24;(with_reducible refine(LO.o w3 B3.o).mono ?_);rintro e w4 ⟨rfl,hb4⟩;have B4:=aA (B3.o.trans (hb4.mono B3.o.size));clear hb4));go_ret;exact⟨rfl,B4.o⟩
 |false=>
  have hsm:ns.length<=8/\cs.length<=10/\fT ⟨ns,cs⟩=0/\pU aK=true:=by unfold Bt at hs;simp only[Bool.and_eq_true,decide_eq_true_eq]at hs;exact⟨hs.1,hs.2.1,hs.2.2.1,hs.2.2.2.1⟩
  obtain⟨h8,h10,hv,hrm⟩:=hsm;have hlg:l.length<=80/\∀x∈l,x.data.length<=100:=by unfold Nf at hl;simp only[Bool.or_eq_false_iff,decide_eq_false_iff_not,List.any_eq_false]at hl;exact⟨by omega,fun x hx=>by have:=hl.2 x hx;unfold GK at this;simp at this;omega⟩
  obtain⟨l80,arE⟩:=hlg;have hp:=Gq hv;have rl:aK.length<=1000000:=by unfold pU at hrm;simp at hrm;omega
  have ST:aY (∀w',aN w.heap.size w w'->bZ aH 25 #[.agg #[ay An ns.length cn,ay Ac cs.length cc],ay Ar aK.length cr] w' (Lp w' ns cs aK)):=fun w' hb=>
   WE ns cs aK An Ac Ar cn cc cr w' (by omega) (by omega) rl tu hwr (h.below (aC _) hb) (hr.below (aC _) hb) (by unfold zS;rw[if_pos hv,if_pos hrm])
  unfold Lp pt at ST;have AL:aY (∀w':aG,bZ aH 26 #[.agg #[ay An ns.length cn,ay Ac cs.length cc]] w' fun e w''=>∃g,e=ax (ay (az ⟨g,0,aj⟩) cs.length cs.length)/\w'.heap.size<=g/\dh w'' g 4 (rE cs.length cs.length)/\aN w'.heap.size w' w''):=fun w'=>
   aaL ns.length cs.length An Ac cn cc w' (by omega)
  have akC:=aA ha;have HWF:=aA tu;have HPL:=aA hp;have HRM:=aA hrm;have HVV:=aA hv;have awc:=aA arE;rw[hs]at SM;rw[hl]at LO;clear h hr ha tu hwr hs hl hp hrm hv arE rl;go_enter func4,ntmps4;go_wp2_with (first|(go_at_call 10;(with_reducible refine AW.o.mono ?_);rintro e w2 ⟨rfl,uu⟩;have C2:=aA uu;have B2:=aA (B1.o.trans (uu.mono B1.o.size));obtain⟨k0,k1⟩:=KP.o w2 uu;clear uu)|(go_at_call 23;(with_reducible refine(SM.o w2 B2.o).mono ?_);rintro e w3 ⟨rfl,Pp⟩;have C3:=aA (C2.o.trans (Pp.mono C2.o.size));have B3:=aA (B2.o.trans (Pp.mono B2.o.size));clear Pp)|(go_at_call 24;(with_reducible refine(LO.o w3 B3.o).mono ?_);rintro e w4 ⟨rfl,hb4⟩;have C4:=aA (C3.o.trans (hb4.mono C3.o.size));have B4:=aA (B3.o.trans (hb4.mono B3.o.size));obtain⟨k40,k41⟩:=KP.o w4 C4.o;clear hb4)|(go_at_call 25;(with_reducible refine(ST.o w4 B4.o).mono ?_);rintro e w5 ⟨g0,b,r,Z,L,rfl,hr5,hm5,ht5,hb5⟩;have R5:=aA hr5;have M5:=aA hm5;have T5:=aA ht5;have B5:=aA hb5;obtain⟨k50,k51⟩:=KP.o w5 (C4.o.trans (hb5.mono C4.o.size));clear hr5 hm5 ht5 hb5)|(go_at_call 26;(with_reducible refine(AL.o w5).mono ?_);rintro e w6 ⟨gU,rfl,hg6,hu6,hb6⟩;have G6:=aA hg6;have U6:=aA hu6;have B6:=aA hb6;clear hg6 hu6 hb6));obtain⟨B0,hB0⟩:∃B0,w4.heap.size=B0:=⟨_,rfl⟩;rw[hB0]at M5 T5 B5;have s5:=B5.o.size;have ST0:aY (DC l B0 w4 g0 b gU 10000 ns cs (ah ag 0) (.bool false) w6):=by
   refine⟨0,bS _,rfl,⟨jM ns cs aK r,[],[]⟩,fr Z w5.heap.size,L,_,_,rfl,M5.o.below B6.o,NY.new HPL.o HVV.o HRM.o R5.o 10000,?_,lL G6.o,fun q hq=>?_,B5.o.trans (B6.o.mono (by omega))⟩
   ·have e:rE cs.length cs.length=((jM ns cs aK r).up.map (fun x=>iN x)).toArray:=by
     unfold rE jM;congr 1;apply List.ext_getElem
     ·simp
     ·intro i h1 h2;simp at h1|-;exact h1
    rw[<-e];exact U6.o
   ·rw[gL (by omega)];exact T5.o q hq
  have iZ:aY (∀wr,aN B0 w4 wr->aN w.heap.size w wr):=fun wr hb=>B4.o.trans (hb.mono (by rw[<-hB0];exact B4.o.size));have ACT:aY (∀wr,aN B0 w4 wr->Bg wr Al l):=fun wr hb=>akC.out.below (aC _) (iZ.out wr hb);have WB:aY (w.heap.size<=B0):=by rw[aY,<-hB0];exact B4.o.size
  have GU:aY (B0<=gU):=by have:=G6.o;rw[aY];omega
  clear U6 R5 M5 T5 s5 G6 k0 k1 k40 k41 k50 k51;go_loopw [9,11,12,13,14,16,18,19,20,21,41,57,69,83] (fun pv _ _ _ _ _ _ _ _ _ i _ _ _ wr=>DC l B0 w4 g0 b gU 10000 ns cs i pv wr) (fun _ _ _ _ _ _ _ _ _ _ i _ _ _ _=>l.length-(aJ i).toNat);case atStart=>exact ST0.o
  case round=>
   clear ST0;obtain⟨k,hk,rfl,s,vB,L1,vi,vo,rfl,m1,ok1,up1,tu1,t1,be1⟩:=hrel;by_cases hkl:k<l.length
   ·obtain⟨bl,ol,aD,cD,eA,hbl,mE,_,hdr,c0,c1,c2,c3,c4,c5⟩:=Xw (ACT.o wr be1) k hkl;obtain⟨bl',ol',aD',cD',eA',arc,_,_,hdr',_,_,_,_,_,c5'⟩:=Xw akC.out k hkl;have DB:0<(l.getD k default).data.length->∃b off,aD=az ⟨b,off,aj⟩/\b<B0:=fun h0=>by
     obtain⟨b2,o2,e2,l2,_⟩:=hdr'.2 h0;rw[eA]at eA';injection eA' with eA';injection eA' with e3 e4;subst e3 e4;have c6:=((iZ.out wr be1).cell (p:=⟨bl,ol+k*6+5,aj⟩) arc).trans c5';rw[c5]at c6;have e5:=(Value.slice.inj (je c6)).1;exact⟨b2,o2,by rw[e5,e2],Nat.lt_of_lt_of_le l2 WB.o⟩
    clear c5' hdr' arc eA';subst eA;have dl:=awc.out _ mE;have HKL:=aA hkl;have kk0:(0:Int)<=(k:Int):=by omega
    have kk1:(k:Int)<(l.length:Int):=(by omega);have NX:aY (∀t,UO ns cs s (l.getD k default) t->NY ns cs 10000 (k+1) t/\Xe s (l.getD k default) t):=fun t ht=>⟨ok1.step HPL.o h8 ht (by omega) (by omega),ahw ok1 ht⟩;generalize l.getD k default=a at *;obtain⟨ak,aa,ab,ac,ai,ad⟩:=a;simp only at c0 c1 c2 c3 c4 c5 dl hdr DB;have axY:B0<=wr.heap.size:=(by have h1:=be1.size;have h2:=B5.o.size;omega);obtain⟨gA,hgA⟩:∃gA,wr.heap.size=gA:=⟨_,rfl⟩;obtain⟨wa,Lg⟩:∃wa:aG,wr.alloc (af #[ah ag ak,ah ag aa,ah ag ab,ah ag ac,ah ag ai,ay aD ad.length cD] 29)=wa:=⟨_,rfl⟩;have BA:aN wr.heap.size wr wa:=(by rw[<-Lg];exact(aQ _ _).alloc (aC _) _);have PA:dh wa wr.heap.size 29 #[ah ag ak,ah ag aa,ah ag ab,ah ag ac,ah ag ai,ay aD ad.length cD]:=(by rw[<-Lg];exact dh.new wr _ _);rw[hgA]at PA;have MA:=m1.below BA;have UA:=up1.below BA up1.lt;have sA:wa.heap.size=gA+1:=(by rw[<-Lg,<-hgA];simp);have TA:aY ((fr vB wr.heap.size) gU=(0,0,0,0)/\(fr vB wr.heap.size) gA=(0,0,0,0)/\∀q,q<B0->(fr vB wr.heap.size) q=(1,0,0,0)):=⟨by rw[gL up1.lt];exact tu1,lL (by omega),fun q hq=>by rw[gL (by omega)];exact t1 q hq⟩;have BW:aY (aN B0 w4 wa/\B0<=wa.heap.size):=⟨be1.trans (BA.mono axY),by omega⟩;have DA:aY (ad.length<=64->iQ (fr vB wr.heap.size) wa ad (ay aD ad.length cD)):=fun q=>by
     refine⟨aD,cD,rfl,hdr.below (aC _) BA,fun h0 p hp=>?_,q⟩;obtain⟨b2,o2,e2,l2⟩:=DB h0;rw[e2]at hp;injection hp with hp;subst hp;refine⟨?_,?_⟩
     ·show(fr vB wr.heap.size b2).1=1;rw[gL (by omega),t1 b2 l2]
     ·show b2<wa.heap.size;omega
    have KA:aY (∀wx,aN wa.heap.size wa wx->wx.cell? ⟨g0,0,aj⟩=az (au (az ⟨b,0,aj⟩))/\wx.cell? ⟨g0,1,aj⟩=az vi/\wx.cell? ⟨g0,2,aj⟩=az vo):=fun wx hb=>(by have q:=(MA.below hb).root;exact⟨q.cell 0,q.cell 1,q.cell 2⟩);obtain⟨τa,ayF⟩:∃τa,fr vB wr.heap.size=τa:=⟨_,rfl⟩;rw[ayF]at MA TA DA;have EP:=aA (IG MA.Us);have MAP:=zD.made wa;have BB:aN wa.heap.size wa (wa.alloc (.map #[] 0)):=(aQ _ _).alloc (aC _) _;have hmm:=@run_makeMap aH;obtain⟨gM,hgM⟩:∃gM,wa.heap.size=gM:=⟨_,rfl⟩;obtain⟨wb,Nb⟩:∃wb,wa.alloc (.map #[] 0)=wb:=⟨_,rfl⟩;rw[Nb]at MAP BB;rw[hgM]at MAP;have akJ:=aA (abz (MA.below BB).Us (by have h1:=ok1.ac.len;have h2:=ok1.il;have h3:=ok1.la;omega));obtain⟨r0,r1,r2⟩:=KA.o wa (aQ _ _);obtain⟨q0,_,_⟩:=KA.o wb BB;obtain⟨bn,hbn⟩:∃bn,s.f.dm=bn:=⟨_,rfl⟩;rw[hbn]at EP;unfold pt at EP akJ;have Uo:=aA ok1;have MAH:=aA MA;have UAH:=aA UA;have PAH:=aA PA;have BBH:=aA BB;have MPH:=aA MAP;have SA:aY (gA<gM/\wa.heap.size=gM/\gM<wb.heap.size/\g0<gM/\gU<gM):=(by have h1:=MAP.lt;have h2:=MA.root.lt;have h3:=UA.lt;rw[aY];omega);clear ok1 m1 up1 tu1 t1 be1 MA UA PA BB MAP hdr mE BA sA;go_wp2_with (first|(go_at_call 22;(with_reducible refine EP.o.mono ?_);rintro e wz ⟨rfl,rfl⟩)|(go_at_call 19;(with_reducible refine akJ.out.mono ?_);rintro e w7 ⟨v7,rfl,Ku,VJ⟩;have OW7:=aA Ku;have B7:=aA VJ;obtain⟨a7,c7,eV7⟩:=dO Ku;subst eV7;clear Ku VJ));obtain⟨ids,ahH⟩:∃ids,(s.f.lost.map (·.id)).mergeSort leI=ids:=⟨_,rfl⟩;have IDB:=aA Uo.o.idb;have IDM:aY (∀q:Int,q∈ids↔∃x∈s.f.lost,x.id=q):=fun q=>(by rw[<-ahH,List.mem_mergeSort,List.mem_map]);have IL:s.f.lost.length=ids.length:=(by rw[<-ahH,List.length_mergeSort,dE]);have LK1:aY (ids.length<=80):=(by have h1:=Uo.o.ac.len;have h2:=Uo.o.il;have h3:=Uo.o.la;rw[aY,<-IL];omega);rw[ahH,IL]at OW7;rw[IL];clear ahH IL;have S7:aY (wb.heap.size<=w7.heap.size/\gM<w7.heap.size):=(by have h1:=B7.o.size;have h2:=SA.o;rw[aY];omega);have IN1:aY (UG w7 gM ids (ah ag 0) w7):=⟨0,bS _,rfl,MPH.o.below B7.o SA.o.2.2.1,Ch.refl _ _⟩;have apy:aY (∀wx,Ch (· =gM) w7 wx->∀j,j<ids.length->∃g,a7=az ⟨g,0,aj⟩/\wx.cell? ⟨g,j,aj⟩=az (ah ag (ids.getD j 0))):=fun wx hc j hj=>(by obtain⟨g,cap,e1,hb,hl,ho,hcl⟩:=nH (d:=(0:Int)) qK OW7.o rfl hj;injection e1 with e1;refine⟨g,e1,?_⟩;have h1:=hcl j hj 0 (by omega);rw[Nat.mul_one,jA]at h1;exact(hc.cell (p:=⟨g,j,aj⟩) hl fun e=>by have e:g=gM:=e;have:=SA.o;omega).trans h1);go_loopw [16,57] (fun _ i wx=>UG w7 gM ids i wx) (fun _ i _=>ids.length-(aJ i).toNat);case atStart=>exact IN1.o
    case round=>
     obtain⟨j,hj,rfl,sm,hc⟩:=hrel;by_cases hjl:j<ids.length
     ·obtain⟨g,eg,cg⟩:=apy.out wr hc j hjl;have hm:ids.getD j 0∈ids:=by simp[bJ,hjl]
      obtain⟨x,hx,ex⟩:=(IDM.o _).1 hm;have bx:=IDB.o.2.1 x hx;rw[ex]at bx;obtain⟨w',run,sm',gr⟩:=sm.put (by have:=LK1.o;unfold maxLen;omega) (ids.getD j 0) (ny _ (by omega) (by omega));have R:=aA (UG.next hjl hc sm' gr);have j0:(0:Int)<=(j:Int):=(by omega);have j1:(j:Int)<(ids.length:Int):=(by omega);have j2:j<=80:=(by have:=LK1.o;omega);subst eg;generalize ids.getD j 0=idv at *;clear sm sm' gr hc hm ex bx IN1;go_wp2_with fail;exact⟨R.o,by simp[aJ];omega⟩
     ·obtain rfl:j=ids.length:=by omega
      clear IN1;obtain⟨Q,q1,own,dq,_⟩:=MAH.o.outs.1;have DQ:aY (∀j,j<Q.length->∃a c,(Q.getD j ((0,0,default),undef)).2=ay a (Q.getD j ((0,0,default),undef)).1.2.2.data.length c):=fun j hj=>by obtain⟨a,c,e,_⟩:=dq (Q.getD j ((0,0,default),undef)) (by simp[bJ,hj]);exact⟨a,c,e⟩
      clear dq;have hQ1:aY (∀j,j<s.outs.length->(Q.getD j ((0,0,default),undef)).1=s.outs.getD j (0,0,default)):=fun j hj=>by have h1:j<Q.length:=(by rw[<-q1,dE]at hj;exact hj);rw[<-q1];simp[bJ,h1]
      have lQ:Q.length=s.outs.length:=(by rw[<-q1,dE]);rw[lQ]at own;have OWO:=aA own;have LQ:=aA lQ;obtain⟨a8,c8,eV8⟩:=dO own;subst eV8;have BM:aN gM wa wr:=(by have h1:aN gM wa w7:=(by have h2:=BBH.o;have h3:=B7.o;have h4:=SA.o;rw[<-h4.2.1];exact h2.trans (h3.mono (by rw[h4.2.1];exact wh h4.2.2.1)));exact h1.trans (hc.below (wh S7.o.2) fun k e=>by have e:k=gM:=e;omega));have KA2:aY (∀wx,aN gM wa wx->wx.cell? ⟨g0,0,aj⟩=az (au (az ⟨b,0,aj⟩))/\wx.cell? ⟨g0,1,aj⟩=az vi/\wx.cell? ⟨g0,2,aj⟩=az (ay a8 s.outs.length c8)):=fun wx hb=>KA.o wx (by rw[SA.o.2.1];exact hb);have v2:=(KA2.o wr BM).2.2;have IN2:aY (adH wa gM ids.length ids s.outs (ah ag 0) wr):=⟨0,bS _,rfl,sm.congr fun q=>by rw[dY];simp,BM⟩;have apz:aY (∀wx,aN gM wa wx->∀j,j<s.outs.length->∃g,a8=az ⟨g,0,aj⟩/\∀m,m<8->wx.cell? ⟨g,j*8+m,aj⟩=(Xa (Q.getD j ((0,0,default),undef)))[m]?):=fun wx hb j hj=>(by obtain⟨g,cap,e1,_,hl,ho,hcl⟩:=nH (d:=(((0,0,default):Dl),undef)) OZ OWO.o LQ.o hj;injection e1 with e1;exact⟨g,e1,fun m hm=>(hb.cell (p:=⟨g,j*8+m,aj⟩) (by have:=SA.o;show g<gM;omega)).trans (hcl j hj m hm)⟩);have LK2:aY (s.outs.length<=80):=(by have h1:=Uo.o.ac.len;have h2:=Uo.o.il;have h3:=Uo.o.la;rw[dE]at h1;rw[aY];omega);clear sm hc own q1 lQ BM apy OW7 S7;go_wp2_with fail;go_loopw [18,69] (fun _ i wx=>adH wa gM ids.length ids s.outs i wx) (fun _ i _=>s.outs.length-(aJ i).toNat);case atStart=>exact IN2.o
      case round=>
       clear IN2;obtain⟨j,hj,rfl,sm,bm⟩:=hrel;by_cases hjl:j<s.outs.length
       ·obtain⟨g,eg,cg⟩:=apz.out wr bm j hjl;have e1:=hQ1.out j hjl;obtain⟨va,vc,ev⟩:=DQ.o j (by rw[LQ.o];exact hjl);have hm:s.outs.getD j (0,0,default)∈s.outs:=(by simp[bJ,hjl]);have NX2:aY (∀w',zD w' gM (ids.length+j+1) (fun q=>(ids.any (fun x=>q==x)||(s.outs.take j).any fun d=>q==d.2.2.id)||q==(s.outs.getD j (0,0,default)).2.2.id)->aN gM wa w'->adH wa gM ids.length ids s.outs (ah ag ((j:Int)+1)) w'):=fun w' h1 h2=>
         ⟨j+1,hjl,by congr 1,h1.congr fun q=>by rw[UW (0,0,default) s.outs (fun d=>q==d.2.2.id) hjl,Bool.or_assoc],h2⟩
        have bx:=IDB.o.2.2 _ hm;generalize s.outs.getD j (0,0,default)=d at *;generalize Q.getD j ((0,0,default),undef)=x at *;obtain⟨⟨dt,du,⟨xi,xf,xt,xl,xe,xd⟩⟩,xv⟩:=x;simp only at e1 ev;subst e1;subst ev;simp only at bx NX2;have m0:=cg 0 (by omega);have m1:=cg 1 (by omega);have m2:=cg 2 (by omega);have m3:=cg 3 (by omega);have m4:=cg 4 (by omega);have m5:=cg 5 (by omega);have m6:=cg 6 (by omega);have m7:=cg 7 (by omega);simp only[Xa,Cx,jA,dD,fC]at m0 m1 m2 m3 m4 m5 m6 m7;subst eg;have hD:aN wr.heap.size wr (wr.alloc (af #[ah ag (dt:Int),ah ag (du:Int),ah ag xi,ah ag xf,ah ag xt,ah ag xl,ah ag xe,ay va xd.length vc] 61)):=(aQ _ _).alloc (aC _) _;have PD:=dh.new wr 61 #[ah ag (dt:Int),ah ag (du:Int),ah ag xi,ah ag xf,ah ag xt,ah ag xl,ah ag xe,ay va xd.length vc];obtain⟨wd,hwd⟩:∃wd,wr.alloc (af #[ah ag (dt:Int),ah ag (du:Int),ah ag xi,ah ag xf,ah ag xt,ah ag xl,ah ag xe,ay va xd.length vc] 61)=wd:=⟨_,rfl⟩;rw[hwd]at hD PD;have p2:=PD.cell 2;have smd:=sm.below hD sm.lt;have hle:gM<=wr.heap.size:=wh sm.lt;obtain⟨w',run,sm',gr⟩:=smd.put (by have h1:=LK1.o;have h2:=LK2.o;unfold maxLen;omega) xi (ny _ (by omega) (by omega));have R:=aA (NX2.o w' sm' ((bm.trans (hD.mono hle)).grown gr (by have:=hD.size;omega) fun k e=>Nat.le_of_eq (je e)));have j0:(0:Int)<=(j:Int):=(by omega);have j1:(j:Int)<(s.outs.length:Int):=(by omega);have j2:j<=80:=(by have:=LK2.o;omega);clear cg sm sm' smd gr hD PD bm NX2 hm bx;go_wp2_with fail;exact⟨R.o,by simp[aJ];omega⟩
       ·obtain rfl:j=s.outs.length:=by omega
        rw[dY]at sm;have smG:=sm.congr (ahA s IDM.o);clear sm;obtain⟨Q3,q3,Jh,dq3,_⟩:=MAH.o.ins;have lQ3:Q3.length=s.ins.length:=by rw[<-q3,dE]
        have DQ3:aY (∀j,j<s.ins.length->(Q3.getD j (default,undef)).1=s.ins.getD j default/\∃a c,(Q3.getD j (default,undef)).2=ay a (Q3.getD j (default,undef)).1.data.length c):=fun j hj=>(by have h1:j<Q3.length:=(by rw[lQ3];exact hj);obtain⟨a,c,e,_⟩:=dq3 (Q3.getD j (default,undef)) (by simp[bJ,h1]);exact⟨by rw[<-q3];simp[bJ,h1],a,c,e⟩);rw[lQ3]at Jh;have OWI:=aA Jh;have LQ3:=aA lQ3;obtain⟨a9,c9,eV9⟩:=dO Jh;subst eV9;have v1:=(KA2.o wr bm).2.1;have IN3:aY (OC wa gM (ids.length+s.outs.length) s (ah ag 0) (ah ag 0) wr):=⟨0,bS _,rfl,by rw[List.take_zero];rfl,smG,bm⟩;have apA:aY (∀wx,aN gM wa wx->∀j,j<s.ins.length->∃g,a9=az ⟨g,0,aj⟩/\∀m,m<5->wx.cell? ⟨g,j*5+m,aj⟩=(cSn s.f.aX (Q3.getD j (default,undef)))[m]?):=fun wx hb j hj=>(by obtain⟨g,cap,e1,_,hl,ho,hcl⟩:=nH (d:=((default:Fm),undef)) (XT s.f.aX) OWI.o LQ3.o hj;injection e1 with e1;exact⟨g,e1,fun m hm=>(hb.cell (p:=⟨g,j*5+m,aj⟩) (by have:=SA.o;show g<gM;omega)).trans (hcl j hj m hm)⟩);have LK3:aY (s.ins.length<=80/\bn<=80):=(by have h2:=Uo.o.il;have h3:=Uo.o.la;have h4:=Uo.o.ok.bn;have h5:=Uo.o.nw;rw[aY,<-hbn];omega);have BNH:=aA hbn;clear bm smG Jh dq3 q3 lQ3 apz DQ hQ1;go_wp2_with fail;go_loopw [13,19,20,83] (fun c _ _ i wx=>OC wa gM (ids.length+s.outs.length) s c i wx) (fun _ _ _ i _=>s.ins.length-(aJ i).toNat);case atStart=>exact IN3.o
        case round=>
         clear IN3;obtain⟨j,hj,rfl,rfl,sm,bm⟩:=hrel;by_cases hjl:j<s.ins.length
         ·obtain⟨g,eg,cg⟩:=apA.out wr bm j hjl;obtain⟨e1,va,vc,ev⟩:=DQ3.o j hjl;have idj:=Uo.o.id j hjl;have bx:=IDB.o.1 (s.ins.getD j default) (by simp[bJ,hjl]);have NX3:aY (∀w' c,zD w' gM (ids.length+s.outs.length) (zL s)->aN gM wa w'->c=((((s.ins.take j).filter (yS s)).length:Nat):Int)+(if yS s (s.ins.getD j default)then 1 else 0)->OC wa gM (ids.length+s.outs.length) s (ah ag c) (ah ag ((j:Int)+1)) w'):=fun w' c h1 h2 h3=>OC.next hjl rfl h1 h2 h3;have e1':=e1.symm;have OB:aY (∀x,yS s x=(decide (x.ep=(bn:Int)-1)&&!zL s x.id)):=fun x=>(by unfold yS;rw[BNH.o]);rw[e1']at idj NX3;generalize s.ins.getD j default=d at *;generalize Q3.getD j (default,undef)=x at *;obtain⟨⟨xi,xf,xt,xl,xe,xd⟩,xv⟩:=x;simp only at ev idj;subst ev;subst idj;have m0:=cg 0 (by omega);have m1:=cg 1 (by omega);have m2:=cg 2 (by omega);have m3:=cg 3 (by omega);have m4:=cg 4 (by omega);simp only[cSn,jA,dD,fC]at m0 m1 m2 m3 m4;subst eg;have hD:aN wr.heap.size wr (wr.alloc (af #[ah ag xf,ah ag xt,ah ag (xl-(s.f.aX:Int)*(xe%2)),ah ag xe,ay va xd.length vc] 63)):=(aQ _ _).alloc (aC _) _;have PD:=dh.new wr 63 #[ah ag xf,ah ag xt,ah ag (xl-(s.f.aX:Int)*(xe%2)),ah ag xe,ay va xd.length vc];obtain⟨wd,hwd⟩:∃wd,wr.alloc (af #[ah ag xf,ah ag xt,ah ag (xl-(s.f.aX:Int)*(xe%2)),ah ag xe,ay va xd.length vc] 63)=wd:=⟨_,rfl⟩;rw[hwd]at hD PD;have p3:=PD.cell 3;have hle:gM<=wr.heap.size:=wh sm.lt;have smd:=sm.below hD sm.lt;have LOOK:=smd.look (((j+1:Nat):Int)) (ny _ (by omega) (by have:=LK3.o;omega));rw[show(((j+1:Nat):Int))=(j:Int)+1 from rfl]at LOOK;have NX4:aY (∀c,c=((((s.ins.take j).filter (yS s)).length:Nat):Int)+(if(decide (xe=(bn:Int)-1)&&!zL s ((j:Int)+1))=true then 1 else 0)->OC wa gM (ids.length+s.outs.length) s (ah ag c) (ah ag ((j:Int)+1)) wd):=fun c hc=>
           NX3.o wd c smd (bm.trans (hD.mono hle)) (by rw[OB.o];exact hc)
          have CY:((s.ins.take j).filter (yS s)).length<=80:=(by have h1:=lJ (yS s) (s.ins.take j);have h2:=LK3.o;rw[List.length_take]at h1;omega);generalize((s.ins.take j).filter (yS s)).length=cn0 at *;have j0:(0:Int)<=(j:Int):=(by omega);have j1:(j:Int)<(s.ins.length:Int):=(by omega);have j2:j<=80:=(by have:=LK3.o;omega);have b2:bn<=80:=LK3.o.2;clear cg sm smd hD PD bm NX3 bx OB hle;by_cases he:xe=(bn:Int)-1
          ·subst he;cases hg:zL s ((j:Int)+1)with
           |true=>rw[hg]at LOOK NX4;have R:=aA (NX4.o (cn0:Int) (by simp));clear NX4;go_wp2_with fail;exact⟨R.o,by simp[aJ];omega⟩
           |false=>rw[hg]at LOOK NX4;have R:=aA (NX4.o ((cn0:Int)+1) (by simp));clear NX4;go_wp2_with fail;exact⟨R.o,by simp[aJ];omega⟩
          ·have R:=aA (NX4.o (cn0:Int) (by simp[he]));clear NX4 LOOK;go_wp2_with fail;exact⟨R.o,by simp[aJ];omega⟩
         ·obtain rfl:j=s.ins.length:=by omega
          rw[dY];have hbz:aN wa.heap.size wa wr:=by rw[SA.o.2.1];exact bm
          have MZ:=MAH.o.below hbz;have DZ:ad.length<=64->iQ (fr τa wa.heap.size) wr ad (ay aD ad.length cD):=fun q=>(DA.o q).jD (S:=fun _=>False) (Ch.bY hbz) (fun _ hk=>gL hk) fun _ q=>q.elim;have akl:=aA (aaK B0 (fr τa wa.heap.size) wr g0 b ns cs L1 _ _ s ⟨ak,aa,ab,ac,ai,ad⟩ aD cD MZ (dZ BW.o.2 hbz.size) HPL.o h8 h10 HVV.o HWF.o Uo.o (by omega) (by omega) (by show ad.length<=_;omega) DZ);unfold vP pt at akl;have PZ:=PAH.o.below hbz PAH.o.lt;have UZ:=UAH.o.below hbz UAH.o.lt;have y0:=PZ.cell 0;have y1:=PZ.cell 1;have y2:=PZ.cell 2;have y3:=PZ.cell 3;have y4:=PZ.cell 4;have y5:=PZ.cell 5;have BZ:=aA hbz;have PZH:=aA PZ;have UZH:=aA UZ;have NWA:aY (¬WS (fr τa wa.heap.size) gA):=(by show ¬(_\/_);rw[gL (by have:=SA.o;omega),TA.o.2.1];decide);have NWU:aY (¬WS (fr τa wa.heap.size) gU):=(by show ¬(_\/_);rw[gL (by have:=SA.o;omega),TA.o.1];decide);have NR:aY (∀t dN w' L vi vo w2,UO ns cs s ⟨ak,aa,ab,ac,ai,ad⟩ t->pg B0 dN w' g0 b ns cs L vi vo t.f.now t->MG (fr τa wa.heap.size) wr dN w'->Xe s ⟨ak,aa,ab,ac,ai,ad⟩ t/\
           (dh w' gU 4 (t.f.up.map (fun x=>iN x)).toArray->aN w'.heap.size w' w2->DC l B0 w4 g0 b gU 10000 ns cs (ah ag ((k:Int)+1)) (.bool t.f.kJ) w2)/\
           (∀i v,t.f.up=s.f.up.set i v->dh w' gU 4 (s.f.up.map (fun x=>iN x)).toArray->aN w'.heap.size w' w2->DC l B0 w4 g0 b gU 10000 ns cs (ah ag ((k:Int)+1)) (.bool t.f.kJ) (w2.setCell ⟨gU,i,aj⟩ (.bool v)))):=fun t dN w' L vi vo w2 h1 h2 h3=>by
           obtain⟨q1,q2⟩:=NX.o t h1;have be:=BW.o.1.trans (hbz.mono BW.o.2);have hB:=dZ BW.o.2 hbz.size;have uL:gU<wr.heap.size:=UZ.lt;have tU:(fr τa wa.heap.size) gU=(0,0,0,0):=(by rw[gL (by have:=SA.o;omega)];exact TA.o.1);have t1:∀q,q<B0->(fr τa wa.heap.size) q=(1,0,0,0):=fun q hq=>(by rw[gL (by have:=BW.o.2;omega)];exact TA.o.2.2 q hq);exact⟨q2,fun U hb=>DC.next HKL.o q1 h2 h3 be hB uL tU t1 U hb,fun i v e U hb=>DC.set HKL.o q1 h2 h3 be hB uL tU t1 GU.o U e hb⟩
          obtain⟨on,hon⟩:∃on,(s.ins.filter (yS s)).length=on:=⟨_,rfl⟩;have HON:aY (QX s=on):=hon;have LK4:aY (on<=80):=(by have h1:=lJ (yS s) s.ins;have h2:=LK3.o;rw[aY];omega);have UPL:aY (s.f.up.length=cs.length):=Uo.o.ok.up;rw[hon];have kk2:k<=80:=(by omega);clear MZ DZ PZ UZ hbz sm bm apA DQ3 IDB IDM OWI OWO LQ LQ3 v1 v2 hon NX TA DA BW;generalize s.ins.length=il at *;go_upto_region 33 with(first|(go_at_call 27;(with_reducible refine akl.out.mono ?_);rintro e w9 ⟨rfl,t,τ9,L9,vi9,vo9,Ic,m9,n9⟩;have HST:=aA Ic;have M9:=aA m9;have N9:=aA n9;clear Ic m9 n9));have ep:=(NR.o t τ9 w9 L9 vi9 vo9 w9 HST.o M9.o N9.o).1;have nx:=fun w2=>(NR.o t τ9 w9 L9 vi9 vo9 w2 HST.o M9.o N9.o).2.1;have amu:=fun w2=>(NR.o t τ9 w9 L9 vi9 vo9 w2 HST.o M9.o N9.o).2.2;have Um:=aA (IG M9.o.Us);unfold pt at Um;have P9:=PZH.o.ch N9.o.ch NWA.o;have U9:=UZH.o.ch N9.o.ch NWU.o;have U9d:aY (dh w9 gU 4 (s.f.up.map (fun x=>iN x)).toArray):=U9;have d0:w9.cell? ⟨gA,0,aj⟩=az (ah ag ak):=P9.cell 0;have d4:w9.cell? ⟨gA,4,aj⟩=az (ah ag ai):=P9.cell 4;have n0:w9.cell? ⟨g0,0,aj⟩=az (au (az ⟨b,0,aj⟩)):=M9.o.root.cell 0;have UC:aY (∀j,j<s.f.up.length->w9.cell? ⟨gU,j,aj⟩=az (.bool (s.f.up.getD j false))/\w9.frozen? ⟨gU,j,aj⟩=false):=fun j hj=>⟨by rw[U9.cell];simp[bJ,hj],U9.frozen j⟩;obtain⟨eb,TD,eu⟩:=ep;simp only at eb TD eu;rw[HON.o,BNH.o]at eb;rw[HON.o]at TD;clear P9 U9 NR HST N9 PZH UZH BZ akl NWA NWU M9 HON BNH UAH PAH MAH SA LK4;have b2:bn<=80:=LK3.o.2;clear c0 c1 c2 c3 c4 c5 y0 y1 y2 y3 y4 y5 r0 r1 r2 q0 DB KA KA2 akJ EP MPH BBH Uo B7 LO akC ACT SM AW ST AL KP C2 C3 C4 hmm dl;generalize s.f.kJ=pd at *;by_cases k0:ak=0
          ·subst k0;have us:qN ⟨0,aa,ab,ac,ai,ad⟩ s.f.up=false:=by simp[qN]
           rw[us]at TD eu;rw[if_neg (by decide)]at TD eu;have R0:∀n,_:=fun n=>nx (w9.drewN n) (by rw[eu];exact U9d.o) (below_drewN (aQ _ _) n);clear nx amu U9d us eu UC;cases pd with
           |false=>rw[if_neg (by simp)]at eb;rw[if_neg (by simp)]at TD;rw[eb]at Um;rw[TD]at R0;have R:=aA R0;clear R0 eb TD;go_wp2_with (first|(go_at_call 22;(with_reducible refine Um.o.mono ?_);rintro e wz ⟨rfl,rfl⟩));go_quiet (fail);go_wp2_with fail;exact⟨R.o _,by simp[aJ];omega⟩
           |true=>
            by_cases z:on=0
            ·subst z;rw[if_pos (by simp)]at eb;rw[if_pos (by simp)]at TD;rw[eb]at Um;rw[TD]at R0;have R:=aA R0;clear R0 eb TD;have c1:(((bn+1:Nat):Int))=(bn:Int)+1:=rfl;rw[c1]at Um;go_wp2_with (first|(go_at_call 22;(with_reducible refine Um.o.mono ?_);rintro e wz ⟨rfl,rfl⟩));go_quiet (fail);go_wp2_with fail;exact⟨R.o _,by simp[aJ];omega⟩
            ·have z1:¬((on:Int)=0):=by omega
             rw[if_neg (by simp[z])]at eb;rw[if_neg (by simp[z])]at TD;rw[eb]at Um;rw[TD]at R0;have R:=aA R0;clear R0 eb TD;go_wp2_with (first|(go_at_call 22;(with_reducible refine Um.o.mono ?_);rintro e wz ⟨rfl,rfl⟩));go_quiet (fail);go_wp2_with fail;exact⟨R.o _,by simp[aJ];omega⟩
          ·have z0:(ak==0)=false:=by simpa using k0
           simp only[z0,zo,Bool.false_eq_true,if_false]at eb TD;rw[eb]at Um;clear z0 eb;have NO:qN ⟨ak,aa,ab,ac,ai,ad⟩ s.f.up=false->aY (∀n,DC l B0 w4 g0 b gU 10000 ns cs (ah ag ((k:Int)+1)) (.bool pd) (w9.drewN n)):=fun us=>by rw[us,if_neg (by decide)]at TD eu;have R0:∀n,_:=fun n=>nx (w9.drewN n) (by rw[eu];exact U9d.o) (below_drewN (aQ _ _) n);rw[TD]at R0;exact R0
           have YES:∀j:Nat,ai=(j:Int)->qN ⟨ak,aa,ab,ac,ai,ad⟩ s.f.up=true->aY (∀n,DC l B0 w4 g0 b gU 10000 ns cs (ah ag ((k:Int)+1)) (.bool true) ((w9.drewN n).setCell ⟨gU,j,aj⟩ (.bool (ak==3)))):=fun j ej us=>(by rw[us,if_pos rfl]at TD eu;have R0:∀n,_:=fun n=>amu (w9.drewN n) j (ak==3) (by rw[eu,ej];rfl) U9d.o (below_drewN (aQ _ _) n);rw[TD]at R0;exact R0);clear nx amu TD eu U9d;have UPL:=UPL.o;by_cases hk2:ak=2\/ak=3
           ·by_cases hi0:0<=ai
            ·by_cases hi1:ai<(cs.length:Int)
             ·obtain⟨j,rfl⟩:∃j:Nat,ai=(j:Int):=⟨ai.toNat,by omega⟩;have jl:j<s.f.up.length:=by omega
              obtain⟨du,df⟩:=UC.o j jl;have j0:(0:Int)<=(j:Int):=(by omega);generalize hu:s.f.up.getD j false=uj at *;rcases hk2 with rfl|rfl
              ·cases uj with
               |false=>have R:=NO (aao (j:=j) (by first|exact .inl rfl|exact .inr rfl) rfl jl hu rfl);clear NO YES UC hu UPL;go_wp2_with (first|(go_at_call 22;(with_reducible refine Um.o.mono ?_);rintro e wz ⟨rfl,rfl⟩));go_quiet (fail);go_wp2_with fail;exact⟨R.o _,by simp[aJ];omega⟩
               |true=>have R:=YES j rfl (aao (j:=j) (by first|exact .inl rfl|exact .inr rfl) rfl jl hu rfl);have eb:((2:Int)==3)=false:=rfl;rw[eb]at R;clear eb;clear NO YES UC hu UPL;go_wp2_with (first|(go_at_call 22;(with_reducible refine Um.o.mono ?_);rintro e wz ⟨rfl,rfl⟩));go_quiet (fail);go_wp2_with fail;exact⟨R.o _,by simp[aJ];omega⟩
              ·cases uj with
               |false=>have R:=YES j rfl (aao (j:=j) (by first|exact .inl rfl|exact .inr rfl) rfl jl hu rfl);have eb:((3:Int)==3)=true:=rfl;rw[eb]at R;clear eb;clear NO YES UC hu UPL;go_wp2_with (first|(go_at_call 22;(with_reducible refine Um.o.mono ?_);rintro e wz ⟨rfl,rfl⟩));go_quiet (fail);go_wp2_with fail;exact⟨R.o _,by simp[aJ];omega⟩
               |true=>have R:=NO (aao (j:=j) (by first|exact .inl rfl|exact .inr rfl) rfl jl hu rfl);clear NO YES UC hu UPL;go_wp2_with (first|(go_at_call 22;(with_reducible refine Um.o.mono ?_);rintro e wz ⟨rfl,rfl⟩));go_quiet (fail);go_wp2_with fail;exact⟨R.o _,by simp[aJ];omega⟩
             ·have R:=NO (aga fun q=>by have q1:0<=ai:=q.1;have q2:ai<(s.f.up.length:Int):=q.2;omega);clear NO YES UC UPL;rcases hk2 with rfl|rfl
              ·go_wp2_with (first|(go_at_call 22;(with_reducible refine Um.o.mono ?_);rintro e wz ⟨rfl,rfl⟩));have e1:decide (ai<(cs.length:Int))=false:=decide_eq_false (by omega)
               go_quiet (fail);go_wp2_with fail
               exact⟨R.o _,by simp[aJ];omega⟩
              ·go_wp2_with (first|(go_at_call 22;(with_reducible refine Um.o.mono ?_);rintro e wz ⟨rfl,rfl⟩));have e1:decide (ai<(cs.length:Int))=false:=decide_eq_false (by omega)
               go_quiet (fail);go_wp2_with fail
               exact⟨R.o _,by simp[aJ];omega⟩
            ·have R:=NO (aga fun q=>by have q1:0<=ai:=q.1;have q2:ai<(s.f.up.length:Int):=q.2;omega);clear NO YES UC UPL;rcases hk2 with rfl|rfl
             ·go_wp2_with (first|(go_at_call 22;(with_reducible refine Um.o.mono ?_);rintro e wz ⟨rfl,rfl⟩));have e1:decide ((0:Int)<=ai)=false:=decide_eq_false (by omega)
              go_quiet (fail);go_wp2_with fail
              exact⟨R.o _,by simp[aJ];omega⟩
             ·go_wp2_with (first|(go_at_call 22;(with_reducible refine Um.o.mono ?_);rintro e wz ⟨rfl,rfl⟩));have e1:decide ((0:Int)<=ai)=false:=decide_eq_false (by omega)
              go_quiet (fail);go_wp2_with fail
              exact⟨R.o _,by simp[aJ];omega⟩
           ·have k2:¬ak=2:=fun e=>hk2 (.inl e);have k3:¬ak=3:=fun e=>hk2 (.inr e);have R:=NO (asI k2 k3);clear NO YES UC UPL hk2;have e0:(ak==0)=false:=(by simpa using k0);have e1:(ak==2)=false:=(by simpa using k2);have e2:(ak==3)=false:=(by simpa using k3);go_wp2_with (first|(go_at_call 22;(with_reducible refine Um.o.mono ?_);rintro e wz ⟨rfl,rfl⟩));go_quiet (fail);go_wp2_with fail;exact⟨R.o _,by simp[aJ];omega⟩
   ·obtain rfl:k=l.length:=by omega
    have FF:=aA (iZ.out wr be1);clear m1 ok1 up1 tu1 t1 be1;go_wp2_with fail;go_ret;exact⟨rfl,FF.o⟩
end Go.Proofs.YtnjjkgjdhljfnaaGreat.fabricEpochsW
