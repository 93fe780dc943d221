/- Part 25. -/
import Derived.Test.YtnjjkgjdhljfnaaGreatPk4
import Derived.Test.YtnjjkgjdhljfnaaGreatPk24
open Go.Proofs.Tryz
open Go renaming Addr->fA,Calls->bZ,Value->aI,World->aG,madeCells->dS,wp_at_succ->fH,wp_at_zero->fJ
open Go.DataW renaming trod_int->jV
open Go.Ending renaming returned->ax
open Go.IntKind renaming i64->ag
open Go.Lib renaming hid->aA
open Go.Obj renaming cells->af
open Go.Proofs.Tryz renaming prog->aH
open Go.RowKit renaming Below->aN,Hid->aY,intOf->aJ
open Go.RowKit.Below renaming refl->aQ
open Go.Value renaming int->ah,slice->ay
open List renaming any_eq_false->sN,any_eq_true->iD,ext_getElem->qH,getD->bJ,length_map->dE,mem_append->eZ,mem_singleton->dz,take_length->dY
open Nat renaming le_refl->aC,zero_le->bS
open Option renaming none->aj,some->az
set_option maxRecDepth 100000
set_option maxHeartbeats 16000000
set_option linter.unusedVariables false
set_option linter.unusedSimpArgs false
namespace Go.Proofs.YtnjjkgjdhljfnaaGreat
section
open Go.RowKit Go.Maps
attribute [local go_sem ↓] fJ fH
def yL(x:Cb):Bool:=decide (5<x.dl)
theorem afT(x:Cb)(w:aG):bZ aH 72 #[.agg #[ah ag x.a,ah ag x.ap,ah ag x.b,ah ag x.bp,ah ag x.dl,ah ag x.cp]] w fun e w'=>e=ax (.bool (yL x))/\aN w.heap.size w w':=by have BW:aY (aN w.heap.size w (w.alloc (af #[ah ag x.a,ah ag x.ap,ah ag x.b,ah ag x.bp,ah ag x.dl,ah ag x.cp] 86))):=(aQ _ _).alloc (aC _) _;obtain⟨a,ap,b,bp,dl,cp⟩:=x;show bZ _ _ _ _ fun e w'=>e=ax (.bool (decide (5<dl)))/\_;go_enter func72,ntmps72;go_wp2_with fail;go_ret;exact⟨by congr 2,BW.o⟩
def adK(p:Cb->Bool)(l:List Cb)(w0:aG)(i:aI)(wr:aG):Prop:=∃k:Nat,k<=l.length/\i=ah ag k/\(∀q∈l.take k,p q=false)/\aN w0.heap.size w0 wr
theorem Yv(l:List Cb)(a:Option fA)(c:Nat)(w:aG)(hl:l.length<=1000000)(h:gI 6 cC gX w a l.length l):bZ aH 108 #[ay a l.length c,.func (.func 72) #[] #[]] w fun e w'=>(∃n:Int,e=ax (ah ag n)/\decide (0<=n)=l.any yL)/\aN w.heap.size w w':=by
 have H:=aA h;clear h;go_enter func108,ntmps108;go_wp2_with fail;go_loopw [8] (fun i wr=>adK yL l w i wr) (fun i _=>l.length-(aJ i).toNat);case atStart=>exact⟨0,bS _,rfl,by simp,aQ _ _⟩
 case round=>
  obtain⟨k,hk,rfl,hall,gm⟩:=hrel;have HA:=aA hall;have BE:=aA gm;clear hall;by_cases nI:k<l.length
  ·obtain⟨b1,o1,ha1,hb1,Ps,e0,e1,e2,e3,e4,e5⟩:=mq (H.o.below (aC _) gm) k nI;have HS:aY (yL (l.getD k gX)=false->∀w',aN w.heap.size w w'->adK yL l w (ah ag ((k+1:Nat):Int)) w'):=fun hx w' hb=>⟨k+1,by omega,rfl,fun q hq=>by
    rw[ji gX l k nI,eZ,dz]at hq;rcases hq with hq|rfl
    ·exact HA.o q hq
    ·exact hx,hb⟩
   have HY:aY (yL (l.getD k gX)=true->l.any yL=true):=fun hx=>iD.2 ⟨_,Ps,hx⟩;have HC:=aA (afT (l.getD k gX) wr);generalize l.getD k gX=d at *;subst ha1;obtain⟨x0,x1,x2,x3,x4,x5⟩:=d;simp only at e0 e1 e2 e3 e4 e5 HC;have i2:(k:Int)<(l.length:Int):=(by omega);clear Ps gm;go_wp2_with fail;refine HC.o.mono ?_;rintro e w2 ⟨rfl,wN⟩;have B2:aY (aN w.heap.size w w2):=BE.o.trans (wN.mono BE.o.size);clear wN e0 e1 e2 e3 e4 e5 HC;cases hq:yL ⟨x0,x1,x2,x3,x4,x5⟩with
   |true=>have F:aY (decide ((0:Int)<=(k:Int))=l.any yL):=(by rw[aY,HY.o hq];simp);clear HS HY hq;go_wp2_with fail;go_ret;exact⟨⟨_,rfl,F.o⟩,B2.o⟩
   |false=>have R:=aA (HS.o hq w2 B2.o);clear HS HY hq;go_wp2_with fail;exact⟨by simpa using R.o,by simp[aJ];omega⟩
  ·obtain rfl:k=l.length:=by omega
   have F:aY (decide ((0:Int)<=-1)=l.any yL):=(by have h1:=HA.o;rw[dY]at h1;have:l.any yL=false:=(by rw[sN];intro q hq;rw[h1 q hq];simp);rw[aY,this];rfl);clear gm;go_wp2_with fail;go_ret;exact⟨⟨_,rfl,F.o⟩,BE.o⟩
theorem Yb(l:List Cb)(a:Option fA)(c:Nat)(w:aG)(hl:l.length<=1000000)(h:gI 6 cC gX w a l.length l):bZ aH 71 #[ay a l.length c,.func (.func 72) #[] #[]] w fun e w'=>e=ax (.bool (l.any yL))/\aN w.heap.size w w':=by have HC:=aA (Yv l a c w hl h);clear h;go_enter func71,ntmps71;go_wp2_with fail;refine HC.o.mono ?_;rintro e w2 ⟨⟨n,rfl,hn⟩,gm⟩;have HN:=aA hn;have BE:=aA gm;clear hn gm;go_wp2_with fail;go_ret;exact⟨by rw[<-HN.o];rfl,BE.o⟩
def Bt(ns:List Nd)(cs:List Cb)(aK:List Int):Bool:=decide (ns.length<=8)&&(decide (cs.length<=10)&&(decide (fT ⟨ns,cs⟩=0)&&(pU aK&&!cs.any yL)))
theorem Wz(ns:List Nd)(cs:List Cb)(aK:List Int)(An Ac Ar:Option fA)(cn cc cr:Nat)(w:aG)(h:jw w An Ac ⟨ns,cs⟩)(hR:gI 1 cI 0 w Ar aK.length aK):bZ aH 23 #[.agg #[ay An ns.length cn,ay Ac cs.length cc],ay Ar aK.length cr] w fun e w'=>e=ax (.bool (Bt ns cs aK))/\aN w.heap.size w w':=by
 obtain⟨w1,gK⟩:∃w1:aG,w.alloc (af #[ay An ns.length cn,ay Ac cs.length cc] 25)=w1:=⟨_,rfl⟩;have B1:aY (aN w.heap.size w w1):=by rw[<-gK];exact(aQ _ _).alloc (aC _) _
 have P1:aY (dh w1 w.heap.size 25 #[ay An ns.length cn,ay Ac cs.length cc]):=by rw[<-gK];exact dh.new w _ _
 by_cases q1:8<ns.length
 ·have e:Bt ns cs aK=false:=by unfold Bt;rw[decide_eq_false (by omega)];rfl
  rw[e];have i1:(8:Int)<(ns.length:Int):=by omega
  have k0:=P1.o.cell 0;go_enter func23,ntmps23;go_wp2_with fail;go_ret;exact⟨rfl,B1.o⟩
 have i1:(ns.length:Int)<=8:=by omega
 by_cases q2:10<cs.length
 ·have e:Bt ns cs aK=false:=by unfold Bt;rw[decide_eq_false (by omega:¬cs.length<=10)];simp
  rw[e];have i2:(10:Int)<(cs.length:Int):=by omega
  have k0:=P1.o.cell 0;have k1:=P1.o.cell 1;go_enter func23,ntmps23;go_wp2_with fail;go_ret;exact⟨rfl,B1.o⟩
 have i2:(cs.length:Int)<=10:=by omega
 have VAL:aY (∀w',aN w.heap.size w w'->bZ aH 12 #[.agg #[ay An ns.length cn,ay Ac cs.length cc]] w' fun e w''=>e=ax (ah ag (fT ⟨ns,cs⟩))/\aN w'.heap.size w' w''):=fun w' hb=>
  Ue ⟨ns,cs⟩ An Ac cn cc w' (by show ns.length<=_;omega) (by show cs.length<=_;omega) (h.below (aC _) hb)
 have V28:aY (∀w',aN w.heap.size w w'->bZ aH 13 #[ay Ar aK.length cr] w' fun e w''=>e=ax (.bool (pU aK))/\w'=w''):=fun w' hb=>
  WN aK Ar cr w' (hR.below (aC _) hb)
 have CF:aY (∀w',aN w.heap.size w w'->bZ aH 71 #[ay Ac cs.length cc,.func (.func 72) #[] #[]] w' fun e w''=>e=ax (.bool (cs.any yL))/\aN w'.heap.size w' w''):=fun w' hb=>
  Yb cs Ac cc w' (by omega) (h.2.below (aC _) hb)
 clear h hR;have e0:Bt ns cs aK=(decide (fT ⟨ns,cs⟩=0)&&(pU aK&&!cs.any yL)):=by unfold Bt;rw[decide_eq_true (by omega:ns.length<=8),decide_eq_true (by omega:cs.length<=10)];rfl
 rw[e0];generalize fT ⟨ns,cs⟩=v at *;generalize pU aK=rb at *;generalize cs.any yL=sb at *;clear e0;by_cases q3:v=0
 ·subst q3;cases rb with
  |false=>clear CF;have k0:=P1.o.cell 0;have k1:=P1.o.cell 1;go_enter func23,ntmps23;go_wp2_with (first|(go_at_call 12;(with_reducible refine(VAL.o w1 B1.o).mono ?_);rintro e w2 ⟨rfl,uu⟩;have B2:=aA (B1.o.trans (uu.mono B1.o.size));clear uu)|(go_at_call 13;(with_reducible refine(V28.o w2 B2.o).mono ?_);rintro e w3 ⟨rfl,rfl⟩));go_ret;exact⟨rfl,B2.o⟩
  |true=>have k0:=P1.o.cell 0;have k1:=P1.o.cell 1;go_enter func23,ntmps23;go_wp2_with (first|(go_at_call 12;(with_reducible refine(VAL.o w1 B1.o).mono ?_);rintro e w2 ⟨rfl,uu⟩;have B2:=aA (B1.o.trans (uu.mono B1.o.size));have p2:=P1.o.below uu P1.o.lt;have m1:=p2.cell 1;clear uu p2)|(go_at_call 13;(with_reducible refine(V28.o w2 B2.o).mono ?_);rintro e w3 ⟨rfl,rfl⟩)|(go_at_call 71;(with_reducible refine(CF.o w2 B2.o).mono ?_);rintro e w4 ⟨rfl,hb4⟩;have B4:=aA (B2.o.trans (hb4.mono B2.o.size));clear hb4));go_ret;exact⟨by simp,B4.o⟩
 ·rw[decide_eq_false q3];clear V28 CF;have k0:=P1.o.cell 0;have k1:=P1.o.cell 1;go_enter func23,ntmps23;go_wp2_with (first|(go_at_call 12;(with_reducible refine(VAL.o w1 B1.o).mono ?_);rintro e w2 ⟨rfl,uu⟩;have B2:=aA (B1.o.trans (uu.mono B1.o.size));clear uu));go_ret;exact⟨rfl,B2.o⟩
def aiP(w:aG)(vs:List aI)(x:nY):Prop:=∃(aD:Option fA) (cD:Nat),vs=[ah ag x.k,ah ag x.a,ah ag x.b,ah ag x.c,ah ag x.i,ay aD x.data.length cD]/\gI 1 Rq 0 w aD x.data.length x.data/\ajk x
def aqn(q:List aI×nY):List aI:=q.1
def qa0:List aI×nY:=([],default)
def Bg(w:aG)(A:Option fA)(l:List nY):Prop:=∃L:List (List aI×nY),L.map (·.2)=l/\gI 6 aqn qa0 w A l.length L/\∀q∈L,aiP w q.1 q.2
theorem Bg.below{w w':aG}{B:Nat}{A:Option fA}{l:List nY}(h:Bg w A l)(hB:w.heap.size<=B)(hb:aN B w w'):Bg w' A l:=by obtain⟨L,h1,h2,h3⟩:=h;refine⟨L,h1,h2.below hB hb,fun q hq=>?_⟩;obtain⟨aD,cD,e,hr,hw⟩:=h3 q hq;exact⟨aD,cD,e,hr.below hB hb,hw⟩
theorem Xw{w:aG}{A:Option fA}{l:List nY}(h:Bg w A l)(k:Nat)(hk:k<l.length):∃(b off:Nat) (aD:Option fA) (cD:Nat),A=az ⟨b,off,aj⟩/\b<w.heap.size/\l.getD k default∈l/\ajk (l.getD k default)/\gI 1 Rq 0 w aD (l.getD k default).data.length (l.getD k default).data/\w.cell? ⟨b,off+k*6,aj⟩=az (ah ag (l.getD k default).k)/\w.cell? ⟨b,off+k*6+1,aj⟩=az (ah ag (l.getD k default).a)/\w.cell? ⟨b,off+k*6+2,aj⟩=az (ah ag (l.getD k default).b)/\w.cell? ⟨b,off+k*6+3,aj⟩=az (ah ag (l.getD k default).c)/\w.cell? ⟨b,off+k*6+4,aj⟩=az (ah ag (l.getD k default).i)/\w.cell? ⟨b,off+k*6+5,aj⟩=az (ay aD (l.getD k default).data.length cD):=by
 obtain⟨L,rfl,h2,h3⟩:=h;simp only[dE]at hk h2;obtain⟨b,off,ha,hb,hc⟩:=h2.2 (by omega);have e:(L.map (·.2)).getD k default=(L.getD k qa0).2:=by simp[bJ,hk]
 have hm:L.getD k qa0∈L:=by simp[bJ,hk]
 obtain⟨aD,cD,e1,hr,hw⟩:=h3 _ hm;have qB:∀j,j<6->w.cell? ⟨b,off+k*6+j,aj⟩=(L.getD k qa0).1[j]?:=fun j hj=>hc k j hk hj;rw[e1]at qB;rw[e];exact⟨b,off,aD,cD,ha,hb,List.mem_map.2 ⟨_,hm,rfl⟩,hw,hr,qB 0 (by omega),qB 1 (by omega),qB 2 (by omega),qB 3 (by omega),qB 4 (by omega),qB 5 (by omega)⟩
def GK(x:nY):Bool:=decide (100<x.data.length)
theorem ahl(x:nY)(aD:Option fA)(cD:Nat)(w:aG):bZ aH 74 #[.agg #[ah ag x.k,ah ag x.a,ah ag x.b,ah ag x.c,ah ag x.i,ay aD x.data.length cD]] w fun e w'=>e=ax (.bool (GK x))/\aN w.heap.size w w':=by
 have BW:aY (aN w.heap.size w (w.alloc (af #[ah ag x.k,ah ag x.a,ah ag x.b,ah ag x.c,ah ag x.i,ay aD x.data.length cD] 29))):=(aQ _ _).alloc (aC _) _;have e:GK x=decide ((100:Int)<(x.data.length:Int)):=by unfold GK;congr 1;simp;omega
 rw[e];obtain⟨k,a,b,c,i,data⟩:=x;simp only at BW|-;go_enter func74,ntmps74;go_wp2_with fail;go_ret;exact⟨by congr 2,BW.o⟩
def adJ(l:List nY)(w0:aG)(i:aI)(wr:aG):Prop:=∃k:Nat,k<=l.length/\i=ah ag k/\(∀q∈l.take k,GK q=false)/\aN w0.heap.size w0 wr
theorem abK(l:List nY)(a:Option fA)(c:Nat)(w:aG)(hl:l.length<=1000000)(h:Bg w a l):bZ aH 109 #[ay a l.length c,.func (.func 74) #[] #[]] w fun e w'=>(∃n:Int,e=ax (ah ag n)/\decide (0<=n)=l.any GK)/\aN w.heap.size w w':=by
 have H:=aA h;clear h;go_enter func109,ntmps109;go_wp2_with fail;go_loopw [8] (fun i wr=>adJ l w i wr) (fun i _=>l.length-(aJ i).toNat);case atStart=>exact⟨0,bS _,rfl,by simp,aQ _ _⟩
 case round=>
  obtain⟨k,hk,rfl,hall,gm⟩:=hrel;have HA:=aA hall;have BE:=aA gm;clear hall;by_cases nI:k<l.length
  ·obtain⟨b1,o1,aD,cD,ha1,hb1,Ps,_,_,e0,e1,e2,e3,e4,e5⟩:=Xw (H.o.below (aC _) gm) k nI;have HS:aY (GK (l.getD k default)=false->∀w',aN w.heap.size w w'->adJ l w (ah ag ((k+1:Nat):Int)) w'):=fun hx w' hb=>⟨k+1,by omega,rfl,fun q hq=>by
    rw[ji default l k nI,eZ,dz]at hq;rcases hq with hq|rfl
    ·exact HA.o q hq
    ·exact hx,hb⟩
   have HY:aY (GK (l.getD k default)=true->l.any GK=true):=fun hx=>iD.2 ⟨_,Ps,hx⟩;have HC:=aA (ahl (l.getD k default) aD cD wr);generalize l.getD k default=d at *;subst ha1;have i2:(k:Int)<(l.length:Int):=(by omega);clear Ps gm;go_wp2_with fail;refine HC.o.mono ?_;rintro e w2 ⟨rfl,wN⟩;have B2:aY (aN w.heap.size w w2):=BE.o.trans (wN.mono BE.o.size);clear wN e0 e1 e2 e3 e4 e5 HC;cases hq:GK d with
   |true=>have F:aY (decide ((0:Int)<=(k:Int))=l.any GK):=(by rw[aY,HY.o hq];simp);clear HS HY hq;go_wp2_with fail;go_ret;exact⟨⟨_,rfl,F.o⟩,B2.o⟩
   |false=>have R:=aA (HS.o hq w2 B2.o);clear HS HY hq;go_wp2_with fail;exact⟨by simpa using R.o,by simp[aJ];omega⟩
  ·obtain rfl:k=l.length:=by omega
   have F:aY (decide ((0:Int)<=-1)=l.any GK):=(by have h1:=HA.o;rw[dY]at h1;have:l.any GK=false:=(by rw[sN];intro q hq;rw[h1 q hq];simp);rw[aY,this];rfl);clear gm;go_wp2_with fail;go_ret;exact⟨⟨_,rfl,F.o⟩,BE.o⟩
theorem Ya(l:List nY)(a:Option fA)(c:Nat)(w:aG)(hl:l.length<=1000000)(h:Bg w a l):bZ aH 73 #[ay a l.length c,.func (.func 74) #[] #[]] w fun e w'=>e=ax (.bool (l.any GK))/\aN w.heap.size w w':=by have HC:=aA (abK l a c w hl h);clear h;go_enter func73,ntmps73;go_wp2_with fail;refine HC.o.mono ?_;rintro e w2 ⟨⟨n,rfl,hn⟩,gm⟩;have HN:=aA hn;have BE:=aA gm;clear hn gm;go_wp2_with fail;go_ret;exact⟨by rw[<-HN.o];rfl,BE.o⟩
def Nf(l:List nY):Bool:=decide (80<l.length)||l.any GK
theorem YE(l:List nY)(a:Option fA)(c:Nat)(w:aG)(h:Bg w a l):bZ aH 24 #[ay a l.length c] w fun e w'=>e=ax (.bool (Nf l))/\aN w.heap.size w w':=by
 by_cases q1:80<l.length
 ·have e:Nf l=true:=by unfold Nf;rw[decide_eq_true q1];rfl
  rw[e];have i1:(80:Int)<(l.length:Int):=by omega
  go_enter func24,ntmps24;go_wp2_with fail
  go_ret;exact⟨rfl,aQ _ _⟩
 ·have e:Nf l=l.any GK:=by unfold Nf;rw[decide_eq_false q1];rfl
  rw[e];have i1:(l.length:Int)<=80:=by omega
  have HC:=aA (Ya l a c w (by omega) h);clear h;go_enter func24,ntmps24;go_wp2_with fail;refine HC.o.mono ?_;rintro e w2 ⟨rfl,gm⟩;have BE:=aA gm;clear gm;go_wp2_with fail;go_ret;exact⟨by simp[show ¬(80:Int)<(l.length:Int) by omega],BE.o⟩
end
section
open Go.ChangeShapes Go.WideShapes Go.ChangeAt Go.RowKit Go.Deep
theorem azG{α:Type}{l:List α}(h:l.length=6):∃c0 c1 c2 c3 c4 c5,l=[c0,c1,c2,c3,c4,c5]:=by
 match l,h with
 |[c0,c1,c2,c3,c4,c5],_=>exact⟨c0,c1,c2,c3,c4,c5,rfl⟩
section
variable{H:Type}{enc:TypeId×aI->H}{w:aG}{base:Nat}{spare:Nat->Bool}{held:Bool}
theorem abS{fuel:Nat}{v:aI}{y:DataW H×List MemPlace}(h:DataW.trod enc aH w base (fun _=>true) held fuel 47 [v]=az y):∃(a:Option fA) (cap:Nat) (xs:List nY),v=ay a xs.length cap/\Bg w a xs:=by
 obtain⟨a,len,cap,rfl⟩:=Cu underlying47 h;obtain⟨L,hl,h1,h2,hm⟩:=PQ (c:=aqn) (d:=qa0) (Wf:=fun q=>aiP w q.1 q.2) (m:=6) underlying47 underlying29 (by kernel_rfl) (by kernel_rfl) (by decide) (by decide) (fun vs hvs hr=>by obtain⟨c0,c1,c2,c3,c4,c5,rfl⟩:=azG hvs;obtain⟨v0,n0,y0,e0,h0⟩:=hr 0 _ rfl;obtain⟨v1,n1,y1,e1,h1⟩:=hr 1 _ rfl;obtain⟨v2,n2,y2,e2,h2⟩:=hr 2 _ rfl;obtain⟨v3,n3,y3,e3,h3⟩:=hr 3 _ rfl;obtain⟨v4,n4,y4,e4,h4⟩:=hr 4 _ rfl;obtain⟨v5,n5,y5,e5,h5⟩:=hr 5 _ rfl;simp at e0 e1 e2 e3 e4 e5;subst e0;subst e1;subst e2;subst e3;subst e4;subst e5;obtain⟨i0,e0,_,w0⟩:=jV underlying3 h0;obtain⟨i1,e1,_,w1⟩:=jV underlying3 h1;obtain⟨i2,e2,_,w2⟩:=jV underlying3 h2;obtain⟨i3,e3,_,w3⟩:=jV underlying3 h3;obtain⟨i4,e4,_,w4⟩:=jV underlying3 h4;simp at e0 e1 e2 e3 e4;subst e0;subst e1;subst e2;subst e3;subst e4;obtain⟨aD,lD,cD,rfl⟩:=Cu underlying27 h5;obtain⟨zs,hz⟩:∃zs,Ox .u8 w aD lD zs:=RU underlying27 underlying5 (by kernel_rfl) (⟨n5,h5⟩:DataW.Trod enc aH w base (fun _=>true) held 27 (ay aD lD cD) y5.1 y5.2);obtain rfl:zs.length=lD:=hz.2.1;exact⟨([ah ag i0,ah ag i1,ah ag i2,ah ag i3,ah ag i4,ay aD zs.length cD],⟨i0,i1,i2,i3,i4,zs⟩),rfl,aD,cD,rfl,abU hz,w0,w1,w2,w3,w4⟩) h;have e:(L.map (·.2)).length=len:=by rw[dE,hl]
 exact⟨a,cap,L.map (·.2),by rw[e],L,rfl,by rw[e];exact h1,h2⟩
end
end
section
open Go.RowKit Go.Maps
attribute [local go_sem ↓] fJ fH
def rE(k n:Nat):Array aI:=((List.range n).map fun i=>Value.bool (decide (i<k))).toArray
theorem Tw(n:Nat):dS #[.bool false] n=rE 0 n:=by
 apply Array.ext';unfold rE;apply qH
 ·simp[dS,Nat.mul_comm]
 ·intro i h1 h2;simp[dS,Nat.mod_one]at h1|-
theorem Vi(k n:Nat)(hk:k<n):(rE k n).setIfInBounds k (.bool true)=rE (k+1) n:=by
 unfold rE;rw[List.setIfInBounds_toArray];congr 1;apply qH
 ·simp
 ·intro i h1 h2;simp only[List.getElem_set,List.getElem_map,List.getElem_range];by_cases e:k=i
  ·subst e;simp
  ·rw[if_neg e];congr 1;simp;omega
theorem XU(k n:Nat)(hk:k<n):(rE k n)[k]?=az (.bool false):=by unfold rE;simp[hk]
def Zx(n:Nat)(w1:aG)(i:aI)(wr:aG):Prop:=∃k:Nat,k<=n/\i=ah ag k/\aN w1.heap.size w1 wr/\dh wr w1.heap.size 4 (rE k n)
theorem aaL(n nc:Nat)(An Ac:Option fA)(cn cc:Nat)(w:aG)(hc:nc<=1000000):bZ aH 26 #[.agg #[ay An n cn,ay Ac nc cc]] w fun e w'=>∃g,e=ax (ay (az ⟨g,0,aj⟩) nc nc)/\w.heap.size<=g/\dh w' g 4 (rE nc nc)/\aN w.heap.size w w':=by
 obtain⟨b0,hb0,wC,uX,wK⟩:=info_parts Fp;have ahJ:∀W:aG,Sem.run aH (Instr.makeSlice 52 (ah ag (nc:Int)) (ah ag (nc:Int))) W=.ok (ay (az ⟨W.heap.size,0,aj⟩) nc nc) (W.alloc (af (rE 0 nc) 4)):=fun W=>by have:=run_make (P:=aH) W 52 4 b0 (.bool false) underlying52 hb0 wC .i64 .i64 (nc:Int) (nc:Int) (by omega) (Int.le_refl _) (by rw[wK];omega) (by omega);rw[uX]at this;simp only[Int.toNat_natCast,Nat.mul_one]at this;rw[<-Tw];exact this
 obtain⟨w1,gK⟩:∃w1:aG,w.alloc (af #[ay An n cn,ay Ac nc cc] 25)=w1:=⟨_,rfl⟩;have B1:aY (aN w.heap.size w w1):=by rw[<-gK];exact(aQ _ _).alloc (aC _) _
 have P1:aY (dh w1 w.heap.size 25 #[ay An n cn,ay Ac nc cc]):=by rw[<-gK];exact dh.new w _ _
 have k1:=P1.o.cell 1;obtain⟨w2,Ld⟩:∃w2:aG,w1.alloc (af (rE 0 nc) 4)=w2:=⟨_,rfl⟩;have R2:aY (Zx nc w1 (ah ag (0:Nat)) w2):=⟨0,bS _,rfl,by rw[<-Ld];exact(aQ _ _).alloc (aC _) _,by rw[<-Ld];exact dh.new _ _ _⟩;clear hb0 wC uX wK;go_enter func26,ntmps26;go_wp2_with fail;go_loopw [4,11,12,13,14,15,16,17] (fun _ i _ _ _ _ _ _ wr=>Zx nc w1 i wr) (fun _ i _ _ _ _ _ _ _=>nc-(aJ i).toNat);case atStart=>exact R2.o
 case round=>
  obtain⟨k,hk,rfl,gm,JA⟩:=hrel;by_cases nI:k<nc
  ·have i2:(k:Int)<(nc:Int):=by omega
   have fz:=JA.frozen k;have cz:=JA.cell k;rw[XU k nc nI]at cz;have B:=aA gm;have N:aY (dh (wr.setCell ⟨w1.heap.size,k,aj⟩ (.bool true)) w1.heap.size 4 (rE (k+1) nc)):=(by rw[aY,<-Vi k nc nI];exact JA.jd k _);clear gm JA;go_wp2_with fail;exact⟨⟨k+1,by omega,by congr 1,B.o.setCell (aC _) _,N.o⟩,by simp[aJ];omega⟩
  ·obtain rfl:k=nc:=by omega
   have B:=aA gm;have N:=aA JA;clear gm JA;go_wp2_with fail;go_ret;exact⟨_,rfl,B1.o.size,N.o,B1.o.trans (B.o.mono B1.o.size)⟩
end
end Go.Proofs.YtnjjkgjdhljfnaaGreat
