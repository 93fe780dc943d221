/- Part 25. -/
import Derived.Test.YtnjjkgjdhljfnaaGreatPk4
import Derived.Test.YtnjjkgjdhljfnaaGreatPk24
open Go.Proofs.Tryz
open Go renaming Addr->fE,Calls->di,Value->aJ,World->aG,madeCells->eH,wp_at_succ->fK,wp_at_zero->fM
open Go.DataW renaming trod_int->kg
open Go.Ending renaming returned->ax
open Go.IntKind renaming i64->ag
open Go.Lib renaming hid->aA
open Go.Obj renaming cells->af
open Go.Proofs.Tryz renaming prog->aH
open Go.RowKit renaming Below->aO,Hid->aZ,intOf->aK
open Go.RowKit.Below renaming refl->aS
open Go.Value renaming int->ah,slice->ay
open List renaming any_eq_false->Be,any_eq_true->jv,ext_getElem->tQ,getD->bS,length_map->dW,mem_append->dU,mem_singleton->dh,take_length->fB
open Nat renaming le_refl->aC,zero_le->bJ
open Option renaming none->aj,some->az
set_option maxRecDepth 100000
set_option maxHeartbeats 16000000
set_option linter.unusedVariables false
set_option linter.unusedSimpArgs false
namespace Go.Proofs.YtnjjkgjdhljfnaaGreat
section
open Go.RowKit Go.Maps
attribute [local go_sem ↓] fM fK
def zg(x:Cb):Bool:=decide (5<x.dl)
theorem afU(x:Cb)(w:aG):di aH 72 #[.agg #[ah ag x.a,ah ag x.ap,ah ag x.b,ah ag x.bp,ah ag x.dl,ah ag x.cp]] w fun e w'=>e=ax (.bool (zg x))/\aO w.heap.size w w':=by have BW:aZ (aO w.heap.size w (w.alloc (af #[ah ag x.a,ah ag x.ap,ah ag x.b,ah ag x.bp,ah ag x.dl,ah ag x.cp] 86))):=(aS _ _).alloc (aC _) _;obtain⟨a,ap,b,bp,dl,cp⟩:=x;show di _ _ _ _ fun e w'=>e=ax (.bool (decide (5<dl)))/\_;go_enter func72,ntmps72;go_wp2_with fail;go_ret;exact⟨by congr 2,BW.o⟩
def adL(p:Cb->Bool)(l:List Cb)(w0:aG)(i:aJ)(wr:aG):Prop:=∃k:Nat,k<=l.length/\i=ah ag k/\(∀q∈l.take k,p q=false)/\aO w0.heap.size w0 wr
theorem Yt(l:List Cb)(a:Option fE)(c:Nat)(w:aG)(hl:l.length<=1000000)(h:gH 6 cC gV w a l.length l):di aH 108 #[ay a l.length c,.func (.func 72) #[] #[]] w fun e w'=>(∃n:Int,e=ax (ah ag n)/\decide (0<=n)=l.any zg)/\aO w.heap.size w w':=by
 have H:=aA h;clear h;go_enter func108,ntmps108;go_wp2_with fail;go_loopw [8] (fun i wr=>adL zg l w i wr) (fun i _=>l.length-(aK i).toNat);case atStart=>exact⟨0,bJ _,rfl,by simp,aS _ _⟩
 case round=>
  obtain⟨k,hk,rfl,hall,gB⟩:=hrel;have HA:=aA hall;have BE:=aA gB;clear hall;by_cases nH:k<l.length
  ·obtain⟨b1,o1,ha1,hb1,Pw,e0,e1,e2,e3,e4,e5⟩:=mE (H.o.below (aC _) gB) k nH;have HS:aZ (zg (l.getD k gV)=false->∀w',aO w.heap.size w w'->adL zg l w (ah ag ((k+1:Nat):Int)) w'):=fun hx w' hb=>⟨k+1,by omega,rfl,fun q hq=>by
    rw[jU gV l k nH,dU,dh]at hq;rcases hq with hq|rfl
    ·exact HA.o q hq
    ·exact hx,hb⟩
   have HY:aZ (zg (l.getD k gV)=true->l.any zg=true):=fun hx=>jv.2 ⟨_,Pw,hx⟩;have HC:=aA (afU (l.getD k gV) wr);generalize l.getD k gV=d at *;subst ha1;obtain⟨x0,x1,x2,x3,x4,x5⟩:=d;simp only at e0 e1 e2 e3 e4 e5 HC;have i2:(k:Int)<(l.length:Int):=(by omega);clear Pw gB;go_wp2_with fail;refine HC.o.mono ?_;rintro e w2 ⟨rfl,wR⟩;have B2:aZ (aO w.heap.size w w2):=BE.o.trans (wR.mono BE.o.size);clear wR e0 e1 e2 e3 e4 e5 HC;cases hq:zg ⟨x0,x1,x2,x3,x4,x5⟩with
   |true=>have F:aZ (decide ((0:Int)<=(k:Int))=l.any zg):=(by rw[aZ,HY.o hq];simp);clear HS HY hq;go_wp2_with fail;go_ret;exact⟨⟨_,rfl,F.o⟩,B2.o⟩
   |false=>have R:=aA (HS.o hq w2 B2.o);clear HS HY hq;go_wp2_with fail;exact⟨by simpa using R.o,by simp[aK];omega⟩
  ·obtain rfl:k=l.length:=by omega
   have F:aZ (decide ((0:Int)<=-1)=l.any zg):=(by have h1:=HA.o;rw[fB]at h1;have:l.any zg=false:=(by rw[Be];intro q hq;rw[h1 q hq];simp);rw[aZ,this];rfl);clear gB;go_wp2_with fail;go_ret;exact⟨⟨_,rfl,F.o⟩,BE.o⟩
theorem XY(l:List Cb)(a:Option fE)(c:Nat)(w:aG)(hl:l.length<=1000000)(h:gH 6 cC gV w a l.length l):di aH 71 #[ay a l.length c,.func (.func 72) #[] #[]] w fun e w'=>e=ax (.bool (l.any zg))/\aO w.heap.size w w':=by have HC:=aA (Yt l a c w hl h);clear h;go_enter func71,ntmps71;go_wp2_with fail;refine HC.o.mono ?_;rintro e w2 ⟨⟨n,rfl,hn⟩,gB⟩;have HN:=aA hn;have BE:=aA gB;clear hn gB;go_wp2_with fail;go_ret;exact⟨by rw[<-HN.o];rfl,BE.o⟩
def Cf(ns:List Nd)(cs:List Cb)(aI:List Int):Bool:=decide (ns.length<=8)&&(decide (cs.length<=10)&&(decide (fQ ⟨ns,cs⟩=0)&&(pK aI&&!cs.any zg)))
theorem Wx(ns:List Nd)(cs:List Cb)(aI:List Int)(An Ac Ar:Option fE)(cn cc cr:Nat)(w:aG)(h:jB w An Ac ⟨ns,cs⟩)(hR:gH 1 cI 0 w Ar aI.length aI):di aH 23 #[.agg #[ay An ns.length cn,ay Ac cs.length cc],ay Ar aI.length cr] w fun e w'=>e=ax (.bool (Cf ns cs aI))/\aO w.heap.size w w':=by
 obtain⟨w1,gK⟩:∃w1:aG,w.alloc (af #[ay An ns.length cn,ay Ac cs.length cc] 25)=w1:=⟨_,rfl⟩;have B1:aZ (aO w.heap.size w w1):=by rw[<-gK];exact(aS _ _).alloc (aC _) _
 have P1:aZ (dG w1 w.heap.size 25 #[ay An ns.length cn,ay Ac cs.length cc]):=by rw[<-gK];exact dG.new w _ _
 by_cases q1:8<ns.length
 ·have e:Cf ns cs aI=false:=by unfold Cf;rw[decide_eq_false (by omega)];rfl
  rw[e];have i1:(8:Int)<(ns.length:Int):=by omega
  have k0:=P1.o.cell 0;go_enter func23,ntmps23;go_wp2_with fail;go_ret;exact⟨rfl,B1.o⟩
 have i1:(ns.length:Int)<=8:=by omega
 by_cases q2:10<cs.length
 ·have e:Cf ns cs aI=false:=by unfold Cf;rw[decide_eq_false (by omega:¬cs.length<=10)];simp
  rw[e];have i2:(10:Int)<(cs.length:Int):=by omega
  have k0:=P1.o.cell 0;have k1:=P1.o.cell 1;go_enter func23,ntmps23;go_wp2_with fail;go_ret;exact⟨rfl,B1.o⟩
 have i2:(cs.length:Int)<=10:=by omega
 have VAL:aZ (∀w',aO w.heap.size w w'->di aH 12 #[.agg #[ay An ns.length cn,ay Ac cs.length cc]] w' fun e w''=>e=ax (ah ag (fQ ⟨ns,cs⟩))/\aO w'.heap.size w' w''):=fun w' hb=>
  Um ⟨ns,cs⟩ An Ac cn cc w' (by show ns.length<=_;omega) (by show cs.length<=_;omega) (h.below (aC _) hb)
 have V28:aZ (∀w',aO w.heap.size w w'->di aH 13 #[ay Ar aI.length cr] w' fun e w''=>e=ax (.bool (pK aI))/\w'=w''):=fun w' hb=>
  WL aI Ar cr w' (hR.below (aC _) hb)
 have CF:aZ (∀w',aO w.heap.size w w'->di aH 71 #[ay Ac cs.length cc,.func (.func 72) #[] #[]] w' fun e w''=>e=ax (.bool (cs.any zg))/\aO w'.heap.size w' w''):=fun w' hb=>
  XY cs Ac cc w' (by omega) (h.2.below (aC _) hb)
 clear h hR;have e0:Cf ns cs aI=(decide (fQ ⟨ns,cs⟩=0)&&(pK aI&&!cs.any zg)):=by unfold Cf;rw[decide_eq_true (by omega:ns.length<=8),decide_eq_true (by omega:cs.length<=10)];rfl
 rw[e0];generalize fQ ⟨ns,cs⟩=v at *;generalize pK aI=rb at *;generalize cs.any zg=sb at *;clear e0;by_cases q3:v=0
 ·subst q3;cases rb with
  |false=>clear CF;have k0:=P1.o.cell 0;have k1:=P1.o.cell 1;go_enter func23,ntmps23;go_wp2_with (first|(go_at_call 12;(with_reducible refine(VAL.o w1 B1.o).mono ?_);rintro e w2 ⟨rfl,uy⟩;have B2:=aA (B1.o.trans (uy.mono B1.o.size));clear uy)|(go_at_call 13;(with_reducible refine(V28.o w2 B2.o).mono ?_);rintro e w3 ⟨rfl,rfl⟩));go_ret;exact⟨rfl,B2.o⟩
  |true=>have k0:=P1.o.cell 0;have k1:=P1.o.cell 1;go_enter func23,ntmps23;go_wp2_with (first|(go_at_call 12;(with_reducible refine(VAL.o w1 B1.o).mono ?_);rintro e w2 ⟨rfl,uy⟩;have B2:=aA (B1.o.trans (uy.mono B1.o.size));have p2:=P1.o.below uy P1.o.lt;have m1:=p2.cell 1;clear uy p2)|(go_at_call 13;(with_reducible refine(V28.o w2 B2.o).mono ?_);rintro e w3 ⟨rfl,rfl⟩)|(go_at_call 71;(with_reducible refine(CF.o w2 B2.o).mono ?_);rintro e w4 ⟨rfl,hb4⟩;have B4:=aA (B2.o.trans (hb4.mono B2.o.size));clear hb4));go_ret;exact⟨by simp,B4.o⟩
 ·rw[decide_eq_false q3];clear V28 CF;have k0:=P1.o.cell 0;have k1:=P1.o.cell 1;go_enter func23,ntmps23;go_wp2_with (first|(go_at_call 12;(with_reducible refine(VAL.o w1 B1.o).mono ?_);rintro e w2 ⟨rfl,uy⟩;have B2:=aA (B1.o.trans (uy.mono B1.o.size));clear uy));go_ret;exact⟨rfl,B2.o⟩
def aiT(w:aG)(vs:List aJ)(x:qg):Prop:=∃(aD:Option fE) (cD:Nat),vs=[ah ag x.k,ah ag x.a,ah ag x.b,ah ag x.c,ah ag x.i,ay aD x.data.length cD]/\gH 1 Ry 0 w aD x.data.length x.data/\ajn x
def aqg(q:List aJ×qg):List aJ:=q.1
def qa0:List aJ×qg:=([],default)
def Bw(w:aG)(A:Option fE)(l:List qg):Prop:=∃L:List (List aJ×qg),L.map (·.2)=l/\gH 6 aqg qa0 w A l.length L/\∀q∈L,aiT w q.1 q.2
theorem Bw.below{w w':aG}{B:Nat}{A:Option fE}{l:List qg}(h:Bw w A l)(hB:w.heap.size<=B)(hb:aO B w w'):Bw w' A l:=by obtain⟨L,h1,h2,h3⟩:=h;refine⟨L,h1,h2.below hB hb,fun q hq=>?_⟩;obtain⟨aD,cD,e,hr,hw⟩:=h3 q hq;exact⟨aD,cD,e,hr.below hB hb,hw⟩
theorem Xt{w:aG}{A:Option fE}{l:List qg}(h:Bw w A l)(k:Nat)(hk:k<l.length):∃(b off:Nat) (aD:Option fE) (cD:Nat),A=az ⟨b,off,aj⟩/\b<w.heap.size/\l.getD k default∈l/\ajn (l.getD k default)/\gH 1 Ry 0 w aD (l.getD k default).data.length (l.getD k default).data/\w.cell? ⟨b,off+k*6,aj⟩=az (ah ag (l.getD k default).k)/\w.cell? ⟨b,off+k*6+1,aj⟩=az (ah ag (l.getD k default).a)/\w.cell? ⟨b,off+k*6+2,aj⟩=az (ah ag (l.getD k default).b)/\w.cell? ⟨b,off+k*6+3,aj⟩=az (ah ag (l.getD k default).c)/\w.cell? ⟨b,off+k*6+4,aj⟩=az (ah ag (l.getD k default).i)/\w.cell? ⟨b,off+k*6+5,aj⟩=az (ay aD (l.getD k default).data.length cD):=by
 obtain⟨L,rfl,h2,h3⟩:=h;simp only[dW]at hk h2;obtain⟨b,off,ha,hb,hc⟩:=h2.2 (by omega);have e:(L.map (·.2)).getD k default=(L.getD k qa0).2:=by simp[bS,hk]
 have hm:L.getD k qa0∈L:=by simp[bS,hk]
 obtain⟨aD,cD,e1,hr,hw⟩:=h3 _ hm;have qG:∀j,j<6->w.cell? ⟨b,off+k*6+j,aj⟩=(L.getD k qa0).1[j]?:=fun j hj=>hc k j hk hj;rw[e1]at qG;rw[e];exact⟨b,off,aD,cD,ha,hb,List.mem_map.2 ⟨_,hm,rfl⟩,hw,hr,qG 0 (by omega),qG 1 (by omega),qG 2 (by omega),qG 3 (by omega),qG 4 (by omega),qG 5 (by omega)⟩
def Hm(x:qg):Bool:=decide (100<x.data.length)
theorem ahq(x:qg)(aD:Option fE)(cD:Nat)(w:aG):di aH 74 #[.agg #[ah ag x.k,ah ag x.a,ah ag x.b,ah ag x.c,ah ag x.i,ay aD x.data.length cD]] w fun e w'=>e=ax (.bool (Hm x))/\aO w.heap.size w w':=by
 have BW:aZ (aO w.heap.size w (w.alloc (af #[ah ag x.k,ah ag x.a,ah ag x.b,ah ag x.c,ah ag x.i,ay aD x.data.length cD] 29))):=(aS _ _).alloc (aC _) _;have e:Hm x=decide ((100:Int)<(x.data.length:Int)):=by unfold Hm;congr 1;simp;omega
 rw[e];obtain⟨k,a,b,c,i,data⟩:=x;simp only at BW|-;go_enter func74,ntmps74;go_wp2_with fail;go_ret;exact⟨by congr 2,BW.o⟩
def adK(l:List qg)(w0:aG)(i:aJ)(wr:aG):Prop:=∃k:Nat,k<=l.length/\i=ah ag k/\(∀q∈l.take k,Hm q=false)/\aO w0.heap.size w0 wr
theorem abO(l:List qg)(a:Option fE)(c:Nat)(w:aG)(hl:l.length<=1000000)(h:Bw w a l):di aH 109 #[ay a l.length c,.func (.func 74) #[] #[]] w fun e w'=>(∃n:Int,e=ax (ah ag n)/\decide (0<=n)=l.any Hm)/\aO w.heap.size w w':=by
 have H:=aA h;clear h;go_enter func109,ntmps109;go_wp2_with fail;go_loopw [8] (fun i wr=>adK l w i wr) (fun i _=>l.length-(aK i).toNat);case atStart=>exact⟨0,bJ _,rfl,by simp,aS _ _⟩
 case round=>
  obtain⟨k,hk,rfl,hall,gB⟩:=hrel;have HA:=aA hall;have BE:=aA gB;clear hall;by_cases nH:k<l.length
  ·obtain⟨b1,o1,aD,cD,ha1,hb1,Pw,_,_,e0,e1,e2,e3,e4,e5⟩:=Xt (H.o.below (aC _) gB) k nH;have HS:aZ (Hm (l.getD k default)=false->∀w',aO w.heap.size w w'->adK l w (ah ag ((k+1:Nat):Int)) w'):=fun hx w' hb=>⟨k+1,by omega,rfl,fun q hq=>by
    rw[jU default l k nH,dU,dh]at hq;rcases hq with hq|rfl
    ·exact HA.o q hq
    ·exact hx,hb⟩
   have HY:aZ (Hm (l.getD k default)=true->l.any Hm=true):=fun hx=>jv.2 ⟨_,Pw,hx⟩;have HC:=aA (ahq (l.getD k default) aD cD wr);generalize l.getD k default=d at *;subst ha1;have i2:(k:Int)<(l.length:Int):=(by omega);clear Pw gB;go_wp2_with fail;refine HC.o.mono ?_;rintro e w2 ⟨rfl,wR⟩;have B2:aZ (aO w.heap.size w w2):=BE.o.trans (wR.mono BE.o.size);clear wR e0 e1 e2 e3 e4 e5 HC;cases hq:Hm d with
   |true=>have F:aZ (decide ((0:Int)<=(k:Int))=l.any Hm):=(by rw[aZ,HY.o hq];simp);clear HS HY hq;go_wp2_with fail;go_ret;exact⟨⟨_,rfl,F.o⟩,B2.o⟩
   |false=>have R:=aA (HS.o hq w2 B2.o);clear HS HY hq;go_wp2_with fail;exact⟨by simpa using R.o,by simp[aK];omega⟩
  ·obtain rfl:k=l.length:=by omega
   have F:aZ (decide ((0:Int)<=-1)=l.any Hm):=(by have h1:=HA.o;rw[fB]at h1;have:l.any Hm=false:=(by rw[Be];intro q hq;rw[h1 q hq];simp);rw[aZ,this];rfl);clear gB;go_wp2_with fail;go_ret;exact⟨⟨_,rfl,F.o⟩,BE.o⟩
theorem XX(l:List qg)(a:Option fE)(c:Nat)(w:aG)(hl:l.length<=1000000)(h:Bw w a l):di aH 73 #[ay a l.length c,.func (.func 74) #[] #[]] w fun e w'=>e=ax (.bool (l.any Hm))/\aO w.heap.size w w':=by have HC:=aA (abO l a c w hl h);clear h;go_enter func73,ntmps73;go_wp2_with fail;refine HC.o.mono ?_;rintro e w2 ⟨⟨n,rfl,hn⟩,gB⟩;have HN:=aA hn;have BE:=aA gB;clear hn gB;go_wp2_with fail;go_ret;exact⟨by rw[<-HN.o];rfl,BE.o⟩
def Ni(l:List qg):Bool:=decide (80<l.length)||l.any Hm
theorem YC(l:List qg)(a:Option fE)(c:Nat)(w:aG)(h:Bw w a l):di aH 24 #[ay a l.length c] w fun e w'=>e=ax (.bool (Ni l))/\aO w.heap.size w w':=by
 by_cases q1:80<l.length
 ·have e:Ni l=true:=by unfold Ni;rw[decide_eq_true q1];rfl
  rw[e];have i1:(80:Int)<(l.length:Int):=by omega
  go_enter func24,ntmps24;go_wp2_with fail
  go_ret;exact⟨rfl,aS _ _⟩
 ·have e:Ni l=l.any Hm:=by unfold Ni;rw[decide_eq_false q1];rfl
  rw[e];have i1:(l.length:Int)<=80:=by omega
  have HC:=aA (XX l a c w (by omega) h);clear h;go_enter func24,ntmps24;go_wp2_with fail;refine HC.o.mono ?_;rintro e w2 ⟨rfl,gB⟩;have BE:=aA gB;clear gB;go_wp2_with fail;go_ret;exact⟨by simp[show ¬(80:Int)<(l.length:Int) by omega],BE.o⟩
end
section
open Go.ChangeShapes Go.WideShapes Go.ChangeAt Go.RowKit Go.Deep
theorem azr{α:Type}{l:List α}(h:l.length=6):∃c0 c1 c2 c3 c4 c5,l=[c0,c1,c2,c3,c4,c5]:=by
 match l,h with
 |[c0,c1,c2,c3,c4,c5],_=>exact⟨c0,c1,c2,c3,c4,c5,rfl⟩
section
variable{H:Type}{enc:TypeId×aJ->H}{w:aG}{base:Nat}{spare:Nat->Bool}{held:Bool}
theorem abV{fuel:Nat}{v:aJ}{y:DataW H×List MemPlace}(h:DataW.trod enc aH w base (fun _=>true) held fuel 47 [v]=az y):∃(a:Option fE) (cap:Nat) (xs:List qg),v=ay a xs.length cap/\Bw w a xs:=by
 obtain⟨a,len,cap,rfl⟩:=Da underlying47 h;obtain⟨L,hl,h1,h2,hm⟩:=PX (c:=aqg) (d:=qa0) (Wf:=fun q=>aiT w q.1 q.2) (m:=6) underlying47 underlying29 (by kernel_rfl) (by kernel_rfl) (by decide) (by decide) (fun vs hvs hr=>by obtain⟨c0,c1,c2,c3,c4,c5,rfl⟩:=azr hvs;obtain⟨v0,n0,y0,e0,h0⟩:=hr 0 _ rfl;obtain⟨v1,n1,y1,e1,h1⟩:=hr 1 _ rfl;obtain⟨v2,n2,y2,e2,h2⟩:=hr 2 _ rfl;obtain⟨v3,n3,y3,e3,h3⟩:=hr 3 _ rfl;obtain⟨v4,n4,y4,e4,h4⟩:=hr 4 _ rfl;obtain⟨v5,n5,y5,e5,h5⟩:=hr 5 _ rfl;simp at e0 e1 e2 e3 e4 e5;subst e0;subst e1;subst e2;subst e3;subst e4;subst e5;obtain⟨i0,e0,_,w0⟩:=kg underlying3 h0;obtain⟨i1,e1,_,w1⟩:=kg underlying3 h1;obtain⟨i2,e2,_,w2⟩:=kg underlying3 h2;obtain⟨i3,e3,_,w3⟩:=kg underlying3 h3;obtain⟨i4,e4,_,w4⟩:=kg underlying3 h4;simp at e0 e1 e2 e3 e4;subst e0;subst e1;subst e2;subst e3;subst e4;obtain⟨aD,lD,cD,rfl⟩:=Da underlying27 h5;obtain⟨zs,hz⟩:∃zs,Oz .u8 w aD lD zs:=Sd underlying27 underlying5 (by kernel_rfl) (⟨n5,h5⟩:DataW.Trod enc aH w base (fun _=>true) held 27 (ay aD lD cD) y5.1 y5.2);obtain rfl:zs.length=lD:=hz.2.1;exact⟨([ah ag i0,ah ag i1,ah ag i2,ah ag i3,ah ag i4,ay aD zs.length cD],⟨i0,i1,i2,i3,i4,zs⟩),rfl,aD,cD,rfl,abX hz,w0,w1,w2,w3,w4⟩) h;have e:(L.map (·.2)).length=len:=by rw[dW,hl]
 exact⟨a,cap,L.map (·.2),by rw[e],L,rfl,by rw[e];exact h1,h2⟩
end
end
section
open Go.RowKit Go.Maps
attribute [local go_sem ↓] fM fK
def qI(k n:Nat):Array aJ:=((List.range n).map fun i=>Value.bool (decide (i<k))).toArray
theorem TJ(n:Nat):eH #[.bool false] n=qI 0 n:=by
 apply Array.ext';unfold qI;apply tQ
 ·simp[eH,Nat.mul_comm]
 ·intro i h1 h2;simp[eH,Nat.mod_one]at h1|-
theorem Vh(k n:Nat)(hk:k<n):(qI k n).setIfInBounds k (.bool true)=qI (k+1) n:=by
 unfold qI;rw[List.setIfInBounds_toArray];congr 1;apply tQ
 ·simp
 ·intro i h1 h2;simp only[List.getElem_set,List.getElem_map,List.getElem_range];by_cases e:k=i
  ·subst e;simp
  ·rw[if_neg e];congr 1;simp;omega
theorem XQ(k n:Nat)(hk:k<n):(qI k n)[k]?=az (.bool false):=by unfold qI;simp[hk]
def Zx(n:Nat)(w1:aG)(i:aJ)(wr:aG):Prop:=∃k:Nat,k<=n/\i=ah ag k/\aO w1.heap.size w1 wr/\dG wr w1.heap.size 4 (qI k n)
theorem aaN(n nc:Nat)(An Ac:Option fE)(cn cc:Nat)(w:aG)(hc:nc<=1000000):di aH 26 #[.agg #[ay An n cn,ay Ac nc cc]] w fun e w'=>∃g,e=ax (ay (az ⟨g,0,aj⟩) nc nc)/\w.heap.size<=g/\dG w' g 4 (qI nc nc)/\aO w.heap.size w w':=by
 obtain⟨b0,hb0,wE,uY,wN⟩:=info_parts FO;have ahM:∀W:aG,Sem.run aH (Instr.makeSlice 52 (ah ag (nc:Int)) (ah ag (nc:Int))) W=.ok (ay (az ⟨W.heap.size,0,aj⟩) nc nc) (W.alloc (af (qI 0 nc) 4)):=fun W=>by have:=run_make (P:=aH) W 52 4 b0 (.bool false) underlying52 hb0 wE .i64 .i64 (nc:Int) (nc:Int) (by omega) (Int.le_refl _) (by rw[wN];omega) (by omega);rw[uY]at this;simp only[Int.toNat_natCast,Nat.mul_one]at this;rw[<-TJ];exact this
 obtain⟨w1,gK⟩:∃w1:aG,w.alloc (af #[ay An n cn,ay Ac nc cc] 25)=w1:=⟨_,rfl⟩;have B1:aZ (aO w.heap.size w w1):=by rw[<-gK];exact(aS _ _).alloc (aC _) _
 have P1:aZ (dG w1 w.heap.size 25 #[ay An n cn,ay Ac nc cc]):=by rw[<-gK];exact dG.new w _ _
 have k1:=P1.o.cell 1;obtain⟨w2,Lp⟩:∃w2:aG,w1.alloc (af (qI 0 nc) 4)=w2:=⟨_,rfl⟩;have R2:aZ (Zx nc w1 (ah ag (0:Nat)) w2):=⟨0,bJ _,rfl,by rw[<-Lp];exact(aS _ _).alloc (aC _) _,by rw[<-Lp];exact dG.new _ _ _⟩;clear hb0 wE uY wN;go_enter func26,ntmps26;go_wp2_with fail;go_loopw [4,11,12,13,14,15,16,17] (fun _ i _ _ _ _ _ _ wr=>Zx nc w1 i wr) (fun _ i _ _ _ _ _ _ _=>nc-(aK i).toNat);case atStart=>exact R2.o
 case round=>
  obtain⟨k,hk,rfl,gB,JF⟩:=hrel;by_cases nH:k<nc
  ·have i2:(k:Int)<(nc:Int):=by omega
   have fz:=JF.frozen k;have cz:=JF.cell k;rw[XQ k nc nH]at cz;have B:=aA gB;have N:aZ (dG (wr.setCell ⟨w1.heap.size,k,aj⟩ (.bool true)) w1.heap.size 4 (qI (k+1) nc)):=(by rw[aZ,<-Vh k nc nH];exact JF.jy k _);clear gB JF;go_wp2_with fail;exact⟨⟨k+1,by omega,by congr 1,B.o.setCell (aC _) _,N.o⟩,by simp[aK];omega⟩
  ·obtain rfl:k=nc:=by omega
   have B:=aA gB;have N:=aA JF;clear gB JF;go_wp2_with fail;go_ret;exact⟨_,rfl,B1.o.size,N.o,B1.o.trans (B.o.mono B1.o.size)⟩
theorem afh{w:aG}{g n:Nat}(h:dG w g 4 (qI n n)):gH 1 cB false w (az ⟨g,0,aj⟩) n (List.replicate n true):=by
 refine⟨List.length_replicate,fun h0=>⟨g,0,rfl,h.lt,fun i j hi hj=>?_⟩⟩;obtain rfl:j=0:=by omega
 have c:=h.cell i;rw[show(0:Nat)+i*1+0=i by omega,c];unfold qI;simp[cB,bS,hi]
theorem Sg{n r:Nat}{cs:List Cb}{us:List Bool}{l:List Int}(h:Ib n cs us r l):∀(d j:Nat),j<n->l.getD j 0=(d:Int)->Jn cs us r j
 |0,j,hj,e=>by
  rcases Classical.em (j=r)with rfl|nJ
  ·exact Jn.refl _
  ·rcases h.lv.pos j hj nJ with q|q<;>omega
 |d+1,j,hj,e=>by obtain⟨i,k,hi,hu,hk,ht,hl⟩:=h.led j hj (by omega);exact(Sg h d k hk (by omega)).step hi hu (GU ht)
theorem acn{n:Nat}{cs:List Cb}{us:List Bool}{sn:Nat->Bool}{PS:List (List Nat)}(h:Xi n cs us n sn PS)(h1:PS.length=1):∀u t,u<n->t<n->Jn cs us u t:=by
 obtain⟨P,rfl⟩:∃P,PS=[P]:=by
  match PS,h1 with
  |[P],_=>exact⟨P,rfl⟩
 obtain⟨r,l,hl,rfl⟩:=h.ok P (List.mem_cons_self ..);have one:∀j,j<n->Jn cs us r j:=fun j hj=>by obtain⟨Q,hQ,hm⟩:=(h.seen j hj).1 (h.all j hj);rw[dh]at hQ;subst hQ;have:=(rW.1 hm).2;exact Sg hl (l.getD j 0).toNat j hj (by omega)
 exact fun u t hu ht=>(one u hu).symm.trans (one t ht)
theorem aez(ns:List Nd)(cs:List Cb)(us:List Bool)(An Ac Au:Option fE)(cn cc cu:Nat)(w:aG)(hv:fQ ⟨ns,cs⟩=0)(Bn:us.length=cs.length)(sN:QJ ⟨ns,cs⟩)(h:jB w An Ac ⟨ns,cs⟩)(h2:gH 1 cB false w Au us.length us):di aH 30 #[.agg #[ay An ns.length cn,ay Ac cs.length cc],ay Au us.length cu] w fun e w'=>∃sn PS,e=ax (.bool (decide ((PS.length:Int)=1)))/\Xi ns.length cs us ns.length sn PS/\aO w.heap.size w w':=by
 obtain⟨w1,gK⟩:∃w1:aG,w.alloc (af #[ay An ns.length cn,ay Ac cs.length cc] 25)=w1:=⟨_,rfl⟩;have B1:aZ (aO w.heap.size w w1):=by rw[<-gK];exact(aS _ _).alloc (aC _) _
 have P1:aZ (dG w1 w.heap.size 25 #[ay An ns.length cn,ay Ac cs.length cc]):=by rw[<-gK];exact dG.new w _ _
 have PA:=aA (Sn ns cs us An Ac Au cn cc cu w1 hv Bn sN (h.below (aC _) B1.o) (h2.below (aC _) B1.o));have k0:w1.cell? ⟨w.heap.size,0,aj⟩=az (ay An ns.length cn):=P1.o.cell 0;have k1:w1.cell? ⟨w.heap.size,1,aj⟩=az (ay Ac cs.length cc):=P1.o.cell 1;obtain⟨n16,_⟩:=nV hv;clear h h2 sN hv Bn;go_enter func30,ntmps30;go_wp2_with (first|(go_at_call 77;(with_reducible refine PA.o.mono ?_);rintro e w2 ⟨v,sn,PS,rfl,hp,hm,hb⟩;have HP:=aA hp;have B2:=aA (B1.o.trans (hb.mono B1.o.size));have pl:PS.length<=16:=Nat.le_trans hp.len n16;obtain⟨V,own,_⟩:=hm;obtain⟨a,c,eV⟩:=dX own;subst eV;clear own hp hb));go_ret;exact⟨sn,PS,rfl,HP.o,B2.o⟩
end
end Go.Proofs.YtnjjkgjdhljfnaaGreat
