/- Part 17. -/
import Derived.Deep.Cut
import Derived.Deep.CutRange
import Derived.Laws.Cover4
import Derived.Laws.Runes
import Derived.Test.YtnjjkgjdhljfnaaGreatPk6
open Go.Proofs.Tryz
open Bool renaming and_eq_true->cZ
open Go renaming Addr->fA,Value->aI,World->aG
open Go.Ending renaming returned->ax
open Go.Instr renaming index->xO
open Go.IntKind renaming i64->ag
open Go.Lib renaming hid->aA
open Go.Obj renaming cells->af
open Go.Proofs.Tryz renaming prog->aH
open Go.RowKit renaming Below->aN,Hid->aY
open Go.RowKit.Below renaming refl->aQ
open Go.Value renaming int->ah,ownBlock->dV,pointer->au,slice->ay
open List renaming getD->bJ,map_congr_left->fU
open Nat renaming le_refl->aC,le_trans->dZ
open Option renaming none->aj,some->az
set_option maxRecDepth 100000
set_option maxHeartbeats 16000000
set_option linter.unusedVariables false
set_option linter.unusedSimpArgs false
namespace Go.Proofs.YtnjjkgjdhljfnaaGreat
open Go.RowKit Go.Maps
section
theorem Qi{p:Pl}{lv:List Int}(h:oD p lv=true):fT p=0/\lv.length=p.ns.length:=by unfold oD at h;simp only[cZ,decide_eq_true_eq]at h;exact⟨h.1.1.1.1,h.1.1.1.2⟩
theorem RL:(Tryz.prog.info? 176).map (fun i=>(i.zero,i.size,i.bytes))=az (az (.agg #[ay aj 0 0,ay aj 0 0]),2,48):=by kernel_rfl
theorem Sg(w:aG)(t:TypeId)(cs:Array aI){n size:Nat}(h:cs.size=n*size):Reads (w.alloc (.cells cs t)) (w.heap.size+1) size (az ⟨w.heap.size,0,aj⟩) n cs.toList:=
 ⟨by simpa using h,fun _=>⟨_,rfl,by simp,fun q u hu=>World.news_of_block (cs:=cs) (t:=t) (fr:=(0,0)) (heap_alloc_new w _) q u hu⟩⟩
end
section
abbrev GT:=Nat->Nat->Nat->Int
def Jp(G:GT)(i p m:Nat):List Int:=(List.range m).map (G i p)
def Eo{α:Type}(V:Nat->Nat->α)(i p:Nat)(x:α):Nat->Nat->α:=fun a b=>if a=i/\b=p then x else V a b
def WL(G:GT)(i p t:Nat)(x:Int):GT:=fun a b c=>if a=i/\b=p/\c=t then x else G a b c
theorem rX{α:Type}(V:Nat->Nat->α)(i p:Nat)(x:α):Eo V i p x i p=x:=by unfold Eo;rw[if_pos ⟨rfl,rfl⟩]
theorem mU{α:Type}(V:Nat->Nat->α){i p a b:Nat}(x:α)(h:¬(a=i/\b=p)):Eo V i p x a b=V a b:=by unfold Eo;rw[if_neg h]
theorem Sr(G:GT)(i p t:Nat)(x:Int):WL G i p t x i p t=x:=by unfold WL;rw[if_pos ⟨rfl,rfl,rfl⟩]
theorem Aa(G:GT){i p t a b c:Nat}(x:Int)(h:¬(a=i/\b=p/\c=t)):WL G i p t x a b c=G a b c:=by unfold WL;rw[if_neg h]
theorem acC(G:GT)(i p m:Nat)(x:Int):Jp (WL G i p m x) i p (m+1)=Jp G i p m++[x]:=by unfold Jp;rw[List.range_succ,List.map_append,List.map_singleton,Sr];congr 1;refine fU fun c hc=>Aa G x (fun h=>?_);have:=List.mem_range.1 hc;omega
theorem YW(G:GT){i p t a b m:Nat}(x:Int)(h:¬(a=i/\b=p)):Jp (WL G i p t x) a b m=Jp G a b m:=by unfold Jp;exact fU fun c hc=>Aa G x (fun h2=>h ⟨h2.1,h2.2.1⟩)
def Nz(n:Nat)(cs:List Cb)(us:List Bool)(lv:List Int)(f:yX)(tt i p:Nat)(c:Int):Prop:=
 (i=tt/\c=-2)\/(i≠tt/\SH cs us lv (xB n f false) (xB n f true) i (dI (f (i,p==1))) (p==0) c)
def Col(n:Nat)(cs:List Cb)(us:List Bool)(lv:List Int)(G:GT)(tt:Nat):Prop:=
 ∃f,Found n cs us lv tt f/\∀i p,i<n->p<2->Nz n cs us lv f tt i p (G i p tt)
def Jc(k m j:Nat)(i p:Nat):Nat:=if i<m\/(i=m/\p<j)then k+1 else k
theorem Vn{n:Nat}{cs:List Cb}{us:List Bool}{lv:List Int}{t:Nat}{f:yX}(h:Found n cs us lv t f)(hn:n<=100)(s:St):-1<=dI (f s)/\dI (f s)<=1000:=by
 rcases h with⟨_,h⟩|⟨h,_⟩
 ·rw[h];simp[dI]
 ·cases hf:f s with
  |none=>simp[dI]
  |some d=>have h1:=h.bnd s d hf;have h2:=afh n f;simp only[dI];omega
theorem YC(k i p:Nat):Jc k 0 0 i p=k:=by unfold Jc;rw[if_neg (by omega)]
theorem abV(k m i p:Nat)(hp:p<2):Jc k m 2 i p=Jc k (m+1) 0 i p:=by
 unfold Jc;by_cases h:i<m+1
 ·rw[if_pos (by omega),if_pos (by omega)]
 ·rw[if_neg (by omega),if_neg (by omega)]
theorem afk(k n i p:Nat)(hi:i<n):Jc k n 0 i p=k+1:=by unfold Jc;rw[if_pos (by omega)]
theorem TT(k m j:Nat):Jc k m j m j=k:=by unfold Jc;rw[if_neg (by omega)]
theorem abW(k m j i p:Nat):Eo (Jc k m j) m j (k+1) i p=Jc k m (j+1) i p:=by
 unfold Eo Jc;by_cases h:i=m/\p=j
 ·rw[if_pos h,if_pos (by omega)]
 ·rw[if_neg h];by_cases h2:i<m\/(i=m/\p<j)
  ·rw[if_pos h2,if_pos (by omega)]
  ·rw[if_neg h2,if_neg (by omega)]
theorem Col.upd{n:Nat}{cs:List Cb}{us:List Bool}{lv:List Int}{G:GT}{t:Nat}(h:Col n cs us lv G t){i p k:Nat}(x:Int)(nQ:t≠k):Col n cs us lv (WL G i p k x) t:=by obtain⟨f,h1,h2⟩:=h;exact⟨f,h1,fun a b ha hb=>by rw[Aa G x (fun e=>nQ e.2.2)];exact h2 a b ha hb⟩
structure TM(w:aG)(bT base n hA hB:Nat)(V:Nat->Nat->aI)(len:Nat->Nat->Nat)(G:GT):Prop where
 row:qP w bT 176 2 n (fun i=>[V i 0,V i 1])
 own:∀i p,i<n->p<2->w.ownsRow base 3 1 (V i p) (len i p) ((Jp G i p (len i p)).flatMap cI)
 apart:∀i p i' p',i<n->p<2->i'<n->p'<2->¬(i'=i/\p'=p)->∀g,(V i p).ownBlock=az g->(V i' p').ownBlock≠az g
 gap:∀i p,i<n->p<2->∀g,(V i p).ownBlock=az g->g<hA\/hB<=g
 lt:bT<base
section
variable{w w':aG}{bT base n hA hB:Nat}{V:Nat->Nat->aI}{len:Nat->Nat->Nat}{G:GT}
theorem TM.below(h:TM w bT base n hA hB V len G)(hb:aN w.heap.size w w'):TM w' bT base n hA hB V len G:=
 ⟨h.row.below hb h.row.lt,fun i p hi hp=>(h.own i p hi hp).kept (Bp hb aj) (by cases(V i p).ownBlock with
  |none=>exact .inl rfl
  |some q=>exact .inr (by simp)),h.apart,h.gap,h.lt⟩
theorem TM.drew(h:TM w bT base n hA hB V len G):TM w.drew bT base n hA hB V len G:=⟨h.row.drew,h.own,h.apart,h.gap,h.lt⟩
theorem TM.congr{len':Nat->Nat->Nat}(h:TM w bT base n hA hB V len G)(e:∀i p,i<n->p<2->len i p=len' i p):TM w bT base n hA hB V len' G:=
 ⟨h.row,fun i p hi hp=>by rw[<-e i p hi hp];exact h.own i p hi hp,h.apart,h.gap,h.lt⟩
theorem TM.ajX{hA' hB':Nat}(h:TM w bT base n hA hB V len G)(e:∀g,g<w.heap.size->g<hA'\/hB'<=g):TM w bT base n hA' hB' V len G:=
 ⟨h.row,h.own,h.apart,fun i p hi hp g hg=>e g ((h.own i p hi hp).lt g hg).2,h.lt⟩
theorem TM.push(h:TM w bT base n hA hB V len G){i p:Nat}(hi:i<n)(hp:p<2){v':aI}{x:Int}(hB':hB<=w.heap.size)(o:w'.ownsRow base 3 1 v' (len i p+1) ((Jp G i p (len i p)).flatMap cI++[ah ag x]))(hg:w.grownBy w' (V i p).ownBlock)(hv:v'.ownBlock=(V i p).ownBlock\/v'.ownBlock=az w.heap.size):TM (w'.setCell ⟨bT,i*2+p,aj⟩ v') bT base n hA hB (Eo V i p v') (Eo len i p (len i p+1)) (WL G i p (len i p) x):=by
 have tK:=h.lt;have uG:∀{v:aI} {m:Nat} {xs:List aI},w'.ownsRow base 3 1 v m xs->(w'.setCell ⟨bT,i*2+p,aj⟩ v').ownsRow base 3 1 v m xs:=fun ho=>
  Mj ho (wG (zg w' (az bT)) (.inl rfl) _) (fun q e=>by have:=(ho.lt q e).1;omega)
 have oth:∀a b,a<n->b<2->¬(a=i/\b=p)->w'.ownsRow base 3 1 (V a b) (len a b) ((Jp G a b (len a b)).flatMap cI):=fun a b ha hb nQ=>
  (h.own a b ha hb).kept hg (by
   cases hq:(V a b).ownBlock with
   |none=>exact .inl rfl
   |some q=>exact .inr (fun e=>h.apart i p a b hi hp ha hb nQ q e.symm hq))
 have fresh:∀a b,a<n->b<2->¬(a=i/\b=p)->∀g,v'.ownBlock=az g->(V a b).ownBlock≠az g:=fun a b ha hb nQ g hvg=>by
  rcases hv with e|e
  ·rw[e]at hvg;exact h.apart i p a b hi hp ha hb nQ g hvg
  ·rw[e]at hvg;injection hvg with hvg;intro h2;have:=((h.own a b ha hb).lt g h2).2;omega
 refine⟨?_,fun a b ha hb=>?_,fun a b a' b' ha hb ha' sV nQ g uy=>?_,fun a b ha hb g uy=>?_,h.lt⟩
 ·have hr:=h.row.grown hg (fun e=>by have:=((h.own i p hi hp).lt bT e.symm).1;omega);have hr2:=hr.jd hi hp v';refine hr2.congr fun a ha=>?_;unfold Jq;by_cases e:a=i
  ·subst e;rw[if_pos rfl];rcases(show p=0\/p=1 by omega)with rfl|rfl
   ·rw[rX,mU V v' (by omega)];rfl
   ·rw[rX,mU V v' (by omega)];rfl
  ·rw[if_neg e,mU V v' (by omega),mU V v' (by omega)]
 ·by_cases e:a=i/\b=p
  ·obtain⟨rfl,rfl⟩:=e;rw[rX,rX,acC,List.flatMap_append];exact uG o
  ·rw[mU V v' e,mU len _ e,YW G x e];exact uG (oth a b ha hb e)
 ·by_cases e:a=i/\b=p
  ·obtain⟨rfl,rfl⟩:=e;rw[rX]at uy;rw[mU V v' nQ];exact fresh a' b' ha' sV nQ g uy
  ·rw[mU V v' e]at uy;by_cases e':a'=i/\b'=p
   ·obtain⟨rfl,rfl⟩:=e';rw[rX];exact fun h2=>fresh a b ha hb e g h2 uy
   ·rw[mU V v' e'];exact h.apart a b a' b' ha hb ha' sV nQ g uy
 ·by_cases e:a=i/\b=p
  ·obtain⟨rfl,rfl⟩:=e;rw[rX]at uy;rcases hv with e|e
   ·rw[e]at uy;exact h.gap a b ha hb g uy
   ·rw[e]at uy;injection uy with uy;right;omega
  ·rw[mU V v' e]at uy;exact h.gap a b ha hb g uy
theorem TM.afN(h:TM w bT base n hA hB V len G){i p:Nat}(hi:i<n)(hp:p<2):∀q,(V i p).ownBlock=az q->base<=q:=fun q e=>((h.own i p hi hp).lt q e).1
theorem TM.cell(h:TM w bT base n hA hB V len G){i p:Nat}(hi:i<n)(hp:p<2):w.cell? ⟨bT,i*2+p,aj⟩=az (V i p):=by rw[h.row.cell hi hp];rcases(show p=0\/p=1 by omega)with rfl|rfl<;>rfl
end
structure MB(w wr:aG)(ns:List Nd)(cs:List Cb)(us:List Bool)(lv:List Int)(An Ac Au Al:Option fA)(cn cc cu cl bT base:Nat):Prop where
 p3:dh wr w.heap.size 25 #[ay An ns.length cn,ay Ac cs.length cc]
 p4:dh wr (w.heap.size+1) 169 #[ay Al lv.length cl]
 p5:dh wr (w.heap.size+1+1) 52 #[ay Au us.length cu]
 p6:dh wr (w.heap.size+1+1+1) 173 #[ay aj 0 0]
 p8:dh wr (bT+1) 173 #[ay (az ⟨bT,0,aj⟩) ns.length ns.length]
 lt0:w.heap.size+1+1+1<bT
 lt1:bT+1<base
 gm:aN w.heap.size w wr
section
variable{w wr w':aG}{ns:List Nd}{cs:List Cb}{us:List Bool}{lv:List Int}{An Ac Au Al:Option fA}{cn cc cu cl bT base:Nat}
theorem MB.below(h:MB w wr ns cs us lv An Ac Au Al cn cc cu cl bT base)(hb:aN wr.heap.size wr w'):MB w w' ns cs us lv An Ac Au Al cn cc cu cl bT base:=
 ⟨h.p3.below hb h.p3.lt,h.p4.below hb h.p4.lt,h.p5.below hb h.p5.lt,h.p6.below hb h.p6.lt,h.p8.below hb h.p8.lt,h.lt0,h.lt1,h.gm.trans (hb.mono h.gm.size)⟩
theorem MB.drew(h:MB w wr ns cs us lv An Ac Au Al cn cc cu cl bT base):MB w wr.drew ns cs us lv An Ac Au Al cn cc cu cl bT base:=
 ⟨h.p3.drew,h.p4.drew,h.p5.drew,h.p6.drew,h.p8.drew,h.lt0,h.lt1,h.gm.drew⟩
theorem MB.grown(h:MB w wr ns cs us lv An Ac Au Al cn cc cu cl bT base){row:Option Nat}(hg:wr.grownBy w' row)(hr:∀q,row=az q->base<=q):MB w w' ns cs us lv An Ac Au Al cn cc cu cl bT base:=by have l0:=h.lt0;have l1:=h.lt1;have k:∀{g:Nat} {t:TypeId} {xs:Array aI},dh wr g t xs->g<base->dh w' g t xs:=fun hb hl=>hb.grown hg (fun e=>by have:=hr _ e.symm;omega);exact⟨k h.p3 (by omega),k h.p4 (by omega),k h.p5 (by omega),k h.p6 (by omega),k h.p8 (by omega),l0,l1,h.gm.grown hg h.gm.size (fun q e=>by have:=hr q e;omega)⟩
theorem MB.acG(h:MB w wr ns cs us lv An Ac Au Al cn cc cu cl bT base)(o:Nat)(v:aI):MB w (wr.setCell ⟨bT,o,aj⟩ v) ns cs us lv An Ac Au Al cn cc cu cl bT base:=by have l0:=h.lt0;have l1:=h.lt1;exact⟨h.p3.AU (p:=⟨bT,o,aj⟩) (by show _≠bT;omega) _,h.p4.AU (p:=⟨bT,o,aj⟩) (by show _≠bT;omega) _,h.p5.AU (p:=⟨bT,o,aj⟩) (by show _≠bT;omega) _,h.p6.AU (p:=⟨bT,o,aj⟩) (by show _≠bT;omega) _,h.p8.AU (p:=⟨bT,o,aj⟩) (by show _≠bT;omega) _,l0,l1,h.gm.setCell (by show w.heap.size<=bT;omega) _⟩
end
def NV(hA hB:Nat)(w w':aG):Prop:=w.heap.size<=w'.heap.size/\∀b,hA<=b->b<hB->w'.heap[b]?=w.heap[b]?
section
variable{hA hB:Nat}{w w' w'':aG}
theorem NV.refl(hA hB:Nat)(w:aG):NV hA hB w w:=⟨aC _,fun _ _ _=>rfl⟩
theorem NV.below(h:NV hA hB w w')(hs:hB<=w.heap.size)(hb:aN w'.heap.size w' w''):NV hA hB w w'':=
 ⟨dZ h.1 hb.size,fun b h1 h2=>(hb.block b (by have:=h.1;omega)).trans (h.2 b h1 h2)⟩
theorem NV.drew(h:NV hA hB w w'):NV hA hB w w'.drew:=h
theorem NV.grown(h:NV hA hB w w')(hs:hB<=w.heap.size){row:Option Nat}(hg:w'.grownBy w'' row)(hr:∀q,row=az q->q<hA\/hB<=q):NV hA hB w w'':=
 ⟨dZ h.1 hg.size,fun b h1 h2=>(hg.block b (by have:=h.1;omega) (fun e=>by have:=hr b e.symm;omega)).trans (h.2 b h1 h2)⟩
theorem NV.setCell(h:NV hA hB w w'){p:fA}(hp:p.block<hA)(v:aI):NV hA hB w (w'.setCell p v):=
 ⟨by simpa[World.setCell]using h.1,fun b h1 h2=>(Below.heap_setCell w' p v b (by omega)).trans (h.2 b h1 h2)⟩
theorem NV.JA(h:NV hA hB w w'){g:Nat}{t:TypeId}{xs:Array aI}(hb:dh w g t xs)(h1:hA<=g)(h2:g<hB):dh w' g t xs:=(h.2 g h1 h2).trans hb
theorem NV.isRec(h:NV hA hB w w'){α:Type}{m:Nat}{c:α->List aI}{d:α}{a:Option fA}{len:Nat}{xs:List α}(hr:gI m c d w a len xs)(h1:∀x,a=az x->hA<=x.block/\x.block<hB):gI m c d w' a len xs:=by refine⟨hr.1,fun h0=>?_⟩;obtain⟨b,off,e,tK,hc⟩:=hr.2 h0;have hb:=h1 _ e;refine⟨b,off,e,by have:=h.1;omega,fun i j hi hj=>?_⟩;rw[World.cell?_of_block (h.2 b hb.1 hb.2)];exact hc i j hi hj
end
end
section
def Uz(n:Nat)(cs:List Cb)(us:List Bool)(lv:List Int)(w:aG)(e:Ending)(w':aG):Prop:=
 ∃bT base V G,e=ax (.tuple #[.agg #[ay (az ⟨bT,0,aj⟩) n n],ah ag 0])/\w.heap.size<=bT/\TM w' bT base n 0 0 V (fun _ _=>n) G/\(∀t,t<n->Col n cs us lv G t)/\aN w.heap.size w w'
def adP(w:aG)(ns:List Nd)(cs:List Cb)(us:List Bool)(lv:List Int)(An Ac Au Al:Option fA)(cn cc cu cl bT base:Nat)(g:Nat)(i:aI)(wr:aG):Prop:=
 ∃k V G,k+g=ns.length/\i=ah ag ((k:Nat):Int)/\MB w wr ns cs us lv An Ac Au Al cn cc cu cl bT base/\TM wr bT base ns.length 0 0 V (fun _ _=>k) G/\∀t,t<k->Col ns.length cs us lv G t
def adO(w w7:aG)(ns:List Nd)(cs:List Cb)(us:List Bool)(lv:List Int)(An Ac Au Al:Option fA)(cn cc cu cl bT base hA hB:Nat)(f:yX)(k:Nat)(g:Nat)(i:aI)(wr:aG):Prop:=
 ∃m V G,m+g=ns.length/\i=ah ag ((m:Nat):Int)/\MB w wr ns cs us lv An Ac Au Al cn cc cu cl bT base/\TM wr bT base ns.length hA hB V (Jc k m 0) G/\(∀t,t<k->Col ns.length cs us lv G t)/\
  (∀i p,i<m->p<2->Nz ns.length cs us lv f k i p (G i p k))/\NV hA hB w7 wr
def Oz(n:Nat)(cs:List Cb)(us:List Bool)(lv:List Int)(f:yX)(k m bn:Nat)(wr wx:aG):Prop:=
 ∃c0 c1:Int,dh wx bn 73 #[ah ag c0,ah ag c1]/\Nz n cs us lv f k m 0 c0/\Nz n cs us lv f k m 1 c1/\aN wr.heap.size wr wx
def MF(w w7:aG)(ns:List Nd)(cs:List Cb)(us:List Bool)(lv:List Int)(An Ac Au Al:Option fA)(cn cc cu cl bT base hA hB:Nat)(f:yX)(k m:Nat)(g:Nat)(i:aI)(wr:aG):Prop:=
 ∃j V G,j+g=2/\i=ah ag ((j:Nat):Int)/\MB w wr ns cs us lv An Ac Au Al cn cc cu cl bT base/\TM wr bT base ns.length hA hB V (Jc k m j) G/\(∀t,t<k->Col ns.length cs us lv G t)/\
  (∀i p,i<m->p<2->Nz ns.length cs us lv f k i p (G i p k))/\(∀p,p<j->Nz ns.length cs us lv f k m p (G m p k))/\NV hA hB w7 wr
theorem TM.AU{w:aG}{bT base n hA hB:Nat}{V:Nat->Nat->aI}{len:Nat->Nat->Nat}{G:GT}(h:TM w bT base n hA hB V len G){p:fA}(h1:bT≠p.block)(h2:p.block<base)(u:aI):TM (w.setCell p u) bT base n hA hB V len G:=
 ⟨h.row.AU h1 u,fun i q hi hq=>Mj (h.own i q hi hq) (wG (zg w (az p.block)) (.inl rfl) u) (fun x e=>by have:=((h.own i q hi hq).lt x e).1;omega),h.apart,h.gap,h.lt⟩
theorem MF.step{w w7 wr w6:aG}{ns:List Nd}{cs:List Cb}{us:List Bool}{lv:List Int}{An Ac Au Al:Option fA}{cn cc cu cl bT base hA hB:Nat}{f:yX}{k m j g:Nat}{V:Nat->Nat->aI}{G:GT}{c:Int}{v':aI}(mb:MB w wr ns cs us lv An Ac Au Al cn cc cu cl bT base)(tm:TM wr bT base ns.length hA hB V (Jc k m j) G)(Db:∀t,t<k->Col ns.length cs us lv G t)(hent:∀i p,i<m->p<2->Nz ns.length cs us lv f k i p (G i p k))(hph:∀p,p<j->Nz ns.length cs us lv f k m p (G m p k))(arf:NV hA hB w7 wr)(hm:m<ns.length)(hj:j<2)(hg:j+1+g=2)(hc:Nz ns.length cs us lv f k m j c)(hB7:hB<=w7.heap.size)(hTA:bT<hA)(o:w6.ownsRow base 3 1 v' (k+1) ((Jp G m j k).flatMap cI++[ah ag c]))(hgr:(wr.alloc (af #[ah ag c] 3)).drew.grownBy w6 (V m j).ownBlock)(hv:v'.ownBlock=(V m j).ownBlock\/v'.ownBlock=az (wr.heap.size+1)):MF w w7 ns cs us lv An Ac Au Al cn cc cu cl bT base hA hB f k m g (ah ag ((j+1:Nat):Int)) (w6.setCell ⟨bT,m*2+j,aj⟩ v'):=by
 have gs:=arf.1;have ba:aN wr.heap.size wr (wr.alloc (af #[ah ag c] 3)):=(aQ _ _).alloc (aC _) _;have tm1:=(tm.below ba).drew;have e:=TT k m j;have tm2:=tm1.push hm hj (v':=v') (x:=c) (w':=w6) (by show hB<=(wr.alloc _).heap.size;simp;omega) (by rw[e];exact o) hgr (by rcases hv with h|h;exact .inl h;right;rw[h];show _=az (wr.alloc _).heap.size;simp);rw[e]at tm2;refine⟨j+1,_,_,hg,rfl,((mb.below ba).drew.grown hgr (tm1.afN hm hj)).acG _ _,tm2.congr (fun i p _ _=>abW k m j i p),fun t ht=>(Db t ht).upd c (by omega),fun i p hi hp=>?_,fun p hp=>?_,?_⟩
 ·rw[Aa G c (by omega)];exact hent i p hi hp
 ·by_cases e2:p=j
  ·rw[e2,Sr];exact hc
  ·rw[Aa G c (by omega)];exact hph p (by omega)
 ·have g1:NV hA hB w7 (wr.alloc (af #[ah ag c] 3)).drew:=(arf.below hB7 ba).drew;exact(g1.grown hB7 hgr (tm1.gap m j hm hj)).setCell (by show bT<hA;exact hTA) _
theorem aft(ns:List Nd)(cs:List Cb)(us:List Bool)(lv:List Int)(An Ac Au Al:Option fA)(cn cc cu cl:Nat)(w:aG)(hv:fT ⟨ns,cs⟩=0)(Oc:oD ⟨ns,cs⟩ lv=true)(IW:us.length=cs.length)(yZ:lv.length=ns.length)(tu:QI ⟨ns,cs⟩)(hwl:WfI lv)(h:jw w An Ac ⟨ns,cs⟩)(h2:gI 1 cB false w Au us.length us)(h3:gI 1 cI 0 w Al lv.length lv):Calls aH 89 #[.agg #[ay An ns.length cn,ay Ac cs.length cc],.agg #[ay Al lv.length cl],ay Au us.length cu] w (Uz ns.length cs us lv w):=by
 obtain⟨n16,Lb⟩:=oW hv;obtain⟨w1,gK⟩:∃w1:aG,(((w.alloc (af #[ay An ns.length cn,ay Ac cs.length cc] 25)).alloc (af #[ay Al lv.length cl] 169)).alloc (af #[ay Au us.length cu] 52)).alloc (af #[ay aj 0 0] 173)=w1:=⟨_,rfl⟩;have BW:aY (aN w.heap.size w w1):=by rw[<-gK];exact((((aQ _ _).alloc (aC _) _).alloc (by simp) _).alloc (by simp;omega) _).alloc (by simp;omega) _
 have P3:aY (dh w1 w.heap.size 25 #[ay An ns.length cn,ay Ac cs.length cc]):=by rw[<-gK];exact(((dh.new w 25 #[ay An ns.length cn,ay Ac cs.length cc]).alloc _).alloc _).alloc _
 have P4:aY (dh w1 (w.heap.size+1) 169 #[ay Al lv.length cl]):=by rw[<-gK];have:=((dh.new (w.alloc (af #[ay An ns.length cn,ay Ac cs.length cc] 25)) 169 #[ay Al lv.length cl]).alloc (af #[ay Au us.length cu] 52)).alloc (af #[ay aj 0 0] 173);rw[aY];simpa using this
 have P5:aY (dh w1 (w.heap.size+1+1) 52 #[ay Au us.length cu]):=by rw[<-gK];have:=(dh.new ((w.alloc (af #[ay An ns.length cn,ay Ac cs.length cc] 25)).alloc (af #[ay Al lv.length cl] 169)) 52 #[ay Au us.length cu]).alloc (af #[ay aj 0 0] 173);rw[aY];simpa using this
 have P6:aY (dh w1 (w.heap.size+1+1+1) 173 #[ay aj 0 0]):=by rw[<-gK];have:=dh.new (((w.alloc (af #[ay An ns.length cn,ay Ac cs.length cc] 25)).alloc (af #[ay Al lv.length cl] 169)).alloc (af #[ay Au us.length cu] 52)) 173 #[ay aj 0 0];rw[aY];simpa using this
 have HP:=aA h;have HU:=aA h2;have HL:=aA h3;have HV:=aA hv;have HOB:=aA Oc;have Uw:=aA IW;have Jw:=aA yZ;have HWF:=aA tu;have HWL:=aA hwl;have nQ:((us.length:Int)!=(cs.length:Int))=false:=by simp[IW]
 have HO:=Gp ⟨ns,cs⟩ lv An Ac Al cn cc cl w1 (by show ns.length<=_;omega) (by show cs.length<=_;omega) tu (by omega) hwl (h.below (aC _) BW.o) (h3.below (aC _) BW.o);rw[Oc]at HO;have HOO:=aA HO;have Bf:=aA gK;obtain⟨iA,hiA,hzA,aru,arv⟩:=info_parts RL;obtain⟨iI,ari,arx,ajD,ajE⟩:=info_parts Dc;have HIi:=aA ari;have HIz:=aA arx;have aoR:=aA ajD;have aoS:=aA ajE;clear ari arx ajD ajE;clear hv Oc IW yZ tu hwl h h2 h3 HO gK;go_enter func89,ntmps89;go_wp2_with fail;rw[Bf.o];refine HOO.o.mono ?_;rintro e w2 ⟨rfl,gm⟩;have P32:=aA (P3.o.below gm P3.o.lt);have UB:=aA (P4.o.below gm P4.o.lt);have UD:=aA (P5.o.below gm P5.o.lt);have P62:=aA (P6.o.below gm P6.o.lt);have c30:w2.cell? ⟨w.heap.size,0,aj⟩=az (ay An ns.length cn):=by rw[P32.o.cell];rfl
 have c31:w2.cell? ⟨w.heap.size,1,aj⟩=az (ay Ac cs.length cc):=by rw[P32.o.cell];rfl
 have c50:=UD.o.one.1;have l3:=P32.o.lt;have l6:=P62.o.lt;have Jv:aY (aN w.heap.size w w2):=BW.o.trans (gm.mono BW.o.size);obtain⟨o4,RJ⟩:∃o4,af (madeCells #[ay aj 0 0,ay aj 0 0] (ns.length*2)) 176=o4:=⟨_,rfl⟩;obtain⟨bT,hbT⟩:∃bT,w2.heap.size=bT:=⟨_,rfl⟩;obtain⟨w4,Ie⟩:∃w4:aG,(w2.alloc o4).alloc (af #[ay (az ⟨w2.heap.size,0,aj⟩) ns.length ns.length] 173)=w4:=⟨_,rfl⟩;have SZ4:aY (w4.heap.size=bT+2):=by rw[<-Ie,<-hbT];simp[aY]
 have ST:aY (adP w ns cs us lv An Ac Au Al cn cc cu cl bT (bT+2) ns.length (ah ag 0) w4):=by
  refine⟨0,fun _ _=>ay aj 0 0,fun _ _ _=>0,by omega,rfl,?_,?_,fun t ht=>by omega⟩
  ·rw[<-Ie];have p8:=dh.new (w2.alloc o4) 173 #[ay (az ⟨w2.heap.size,0,aj⟩) ns.length ns.length];rw[World.size_alloc,hbT]at p8;refine⟨(P32.o.alloc _).alloc _,(UB.o.alloc _).alloc _,(UD.o.alloc _).alloc _,(P62.o.alloc _).alloc _,?_,by omega,by omega,(Jv.o.alloc Jv.o.size _).alloc (by have:=Jv.o.size;simp;omega) _⟩;rw[hbT];exact p8
  ·rw[<-Ie,<-RJ];have hr:=qP.made w2 (m:=2) (n:=ns.length) (t:=176) (z:=#[ay aj 0 0,ay aj 0 0]) rfl (by decide);rw[hbT]at hr;exact⟨hr.alloc _,fun _ _ _ _=>World.ownsRow_nil _ _ _ _,fun _ _ _ _ _ _ _ _ _ g hg=>by simp[dV]at hg,fun _ _ _ _ g hg=>by simp[dV]at hg,by omega⟩
 have HW4:=aA Ie;have HO4:=aA RJ;have HBT:=aA hbT;clear Ie RJ hbT gm HOO Bf;go_wp2_with (at_make;refine ko _ rfl _ _ 94 rfl 176 iA _ 2 underlying94 hiA hzA aru .i64 .i64 _ _ ns.length rfl rfl ?m1 ?m2 (by rw[arv];omega) (by unfold maxLen;omega) ?_);case m1=>rfl
 case m2=>rfl
 rw[HO4.o,HW4.o,HBT.o];clear HO4 HW4 HBT hiA hzA aru arv P3 P4 P5 P6 P32 UB UD P62 c30 c31 c50 l3 l6 BW Jv
 go_loopg [39] ns.length (fun g i wr=>adP w ns cs us lv An Ac Au Al cn cc cu cl bT (bT+2) g i wr)
 case atStart=>exact ST.o
 case round=>
  clear ST SZ4;obtain⟨k,V,G,hkg,rfl,mb,tm,Db⟩:=hrel;have MBH:=aA mb;have TMH:=aA tm;have akp:=aA Db;have HKG:=aA hkg;have yY:k<=ns.length:=by omega
  clear tm Db hkg;by_cases nI:k<ns.length
  ·have c30:wr.cell? ⟨w.heap.size,0,aj⟩=az (ay An ns.length cn):=by rw[mb.p3.cell];rfl
   have c31:wr.cell? ⟨w.heap.size,1,aj⟩=az (ay Ac cs.length cc):=(by rw[mb.p3.cell];rfl);have c40:=mb.p4.one.1;have c50:=mb.p5.one.1;have HD:=aA (acQ ns cs us lv An Ac Au Al cn cc cu cl k wr HV.o HOB.o Uw.o Jw.o nI HWF.o HWL.o (HP.o.below (aC _) mb.gm) (HU.o.below (aC _) mb.gm) (HL.o.below (aC _) mb.gm));clear mb;go_wp2_with fail;refine HD.o.mono ?_;rintro e w5 ⟨f,v1,v2,hf,rfl,nV,uz,OU⟩;obtain⟨aR,cR,hv1,_,pR,gR⟩:=gZ (d:=(0:Int)) qK (by decide) nV;obtain⟨aF,cF,hv2,_,pF,gF⟩:=gZ (d:=(0:Int)) qK (by decide) uz;subst hv1;subst hv2;have FND:=aA hf;have PR:=aA pR;have PF:=aA pF;have GR:=aA gR;have GF:=aA gF;have MB5:=aA (MBH.o.below OU);have TM5:=aA (TMH.o.below OU);have s5:=OU.size;have BW5:=aA OU;obtain⟨w7,hw7⟩:∃w7:aG,(w5.alloc (af #[ay aR ns.length cR] 26)).alloc (af #[ay aF ns.length cF] 26)=w7:=⟨_,rfl⟩;have e30:w5.cell? ⟨w.heap.size,0,aj⟩=az (ay An ns.length cn):=(by rw[MB5.o.p3.cell];rfl);have l5:=MB5.o.p3.lt;have HW7:=aA hw7;clear hf pR pF gR gF nV uz OU c30 c31 c40 c50 HD hw7;go_wp2_with fail;rw[HW7.o];obtain⟨wo,rfl⟩:∃wo:aG,wo=wr:=⟨_,rfl⟩;have SZ7:aY (w7.heap.size=w5.heap.size+2):=(by rw[aY,<-HW7.o];simp);have B57:aY (aN w5.heap.size w5 w7):=(by rw[<-HW7.o];exact((aQ _ _).alloc (aC _) _).alloc (by simp) _);have B10:aY (dh w7 w5.heap.size 26 #[ay aR ns.length cR]):=(by rw[<-HW7.o];exact(dh.new _ _ _).alloc _);have B11:aY (dh w7 (w5.heap.size+1) 26 #[ay aF ns.length cF]):=(by rw[<-HW7.o];have:=dh.new (w5.alloc (af #[ay aR ns.length cR] 26)) 26 #[ay aF ns.length cF];rw[aY];simpa using this);have HCE:aY (∀wx,MB w wx ns cs us lv An Ac Au Al cn cc cu cl bT (bT+2)->NV wo.heap.size (w5.heap.size+2) w7 wx->CE wx ns cs us lv (xB ns.length f false) (xB ns.length f true) An Ac Au Al aR aF cn cc cu cl cR cF w.heap.size (w.heap.size+1) (w.heap.size+1+1) w5.heap.size (w5.heap.size+1)):=fun wx QV gx=>by
    have lt_:∀{a:Option fA} {l:List Int},gI 1 cI 0 w5 a ns.length l->∀x,a=az x->x.block<w5.heap.size+2:=fun hr x hx=>(by obtain⟨b,off,e,tK,_⟩:=hr.2 (by omega);rw[hx]at e;injection e with e;rw[e];show b<_;omega);exact⟨QV.p3,QV.p4,QV.p5,gx.JA B10.o s5 (by omega),gx.JA B11.o (by omega) (by omega),HP.o.below (aC _) QV.gm,HU.o.below (aC _) QV.gm,HL.o.below (aC _) QV.gm,
     gx.isRec (PR.o.below (aC _) B57.o) (fun x hx=>⟨GR.o x hx,lt_ PR.o x hx⟩),gx.isRec (PF.o.below (aC _) B57.o) (fun x hx=>⟨GF.o x hx,lt_ PF.o x hx⟩)⟩
   have avd:aY (aN wo.heap.size wo w7):=BW5.o.trans (B57.o.mono s5);have ST:aY (adO w w7 ns cs us lv An Ac Au Al cn cc cu cl bT (bT+2) wo.heap.size (w5.heap.size+2) f k ns.length (ah ag 0) w7):=(by refine⟨0,V,G,by omega,rfl,MB5.o.below B57.o,?_,akp.out,fun i p hi=>by omega,NV.refl _ _ _⟩;have h1:=(((TMH.o.ajX (hA':=wo.heap.size) (hB':=w5.heap.size+2) (fun g hg=>.inl hg)).below (avd.out)));exact h1.congr (fun i p _ _=>(YC k i p).symm));have TLT:aY (bT+1<wo.heap.size):=MBH.o.p8.lt;clear HW7 B57 B10 B11 e30 MB5 TM5 TMH akp MBH
   go_loopg [59] ns.length (fun g i wr'=>adO w w7 ns cs us lv An Ac Au Al cn cc cu cl bT (bT+2) wo.heap.size (w5.heap.size+2) f k g i wr')
   case atStart=>exact ST.o
   case round=>
    clear ST;obtain⟨m,V,G,hmg,rfl,mb,tm,Db,hent,gap⟩:=hrel;have MBN:=aA mb;have TMN:=aA tm;have akq:=aA Db;have akw:=aA hent;have akA:=aA gap;have HMG:=aA hmg;have hmn:m<=ns.length:=by omega
    have gsz:=gap.1;have sz7:=SZ7.o;have hbr:w5.heap.size+2<=wr.heap.size:=(by omega);have lT:=mb.lt1;have l0T:=mb.lt0;have lB:=mb.p8.lt;clear tm Db hent hmg gsz sz7 gap;by_cases hmr:m<ns.length
    ·have CEN:=aA (HCE.o wr mb akA.out);have l3:=mb.p3.lt;clear mb;go_upto_if 65 with fail;go_cut []from 60 to 103 (fun wx=>Oz ns.length cs us lv f k m wr.heap.size wr wx);case first=>
      by_cases hmk:m=k
      ·have F:aY (Oz ns.length cs us lv f k m wr.heap.size wr (wr.alloc (af #[ah ag (-2),ah ag (-2)] 73))):=
        ⟨-2,-2,dh.new _ _ _,.inl ⟨hmk,rfl⟩,.inl ⟨hmk,rfl⟩,(aQ _ _).alloc (aC _) _⟩
       have ahJ:(m:Int)=(k:Int):=(by omega);clear hmk;go_wp2_with fail;go_meet;case rel=>exact F.o
      ·obtain⟨wb,Nb⟩:∃wb:aG,wr.alloc (af #[ah ag (-2),ah ag (-2)] 73)=wb:=⟨_,rfl⟩;have NB:aY (dh wb wr.heap.size 73 #[ah ag (-2),ah ag (-2)]):=by rw[<-Nb];exact dh.new _ _ _
       have BB:aY (aN wr.heap.size wr wb):=(by rw[<-Nb];exact(aQ _ _).alloc (aC _) _);have CEB:=CEN.o.below (aC _) BB.o;obtain⟨bR,oR,hAR,hbR,_,cR0⟩:=oC CEN.o.pR m hmr;obtain⟨bF,oF,hAF,hbF,_,cF0⟩:=oC CEN.o.pF m hmr;rw[Cq f false hmr]at cR0;rw[Cq f true hmr]at cF0;have bR1:=Vn FND.o (by omega) (m,false);have bF1:=Vn FND.o (by omega) (m,true);have HC1:aY (∀W,aN wb.heap.size wb W->Calls aH 116 #[ah ag (m:Int),ah ag (dI (f (m,false))),.bool true,au (az ⟨w.heap.size,0,aj⟩),au (az ⟨w.heap.size+1+1,0,aj⟩),au (az ⟨w.heap.size+1,0,aj⟩),au (az ⟨w5.heap.size,0,aj⟩),au (az ⟨w5.heap.size+1,0,aj⟩)] W (zq cs us lv (xB ns.length f false) (xB ns.length f true) m (dI (f (m,false))) true W)):=fun W hW=>
        Pb ns cs us lv (xB ns.length f false) (xB ns.length f true) An Ac Au Al aR aF cn cc cu cl cR cF w.heap.size (w.heap.size+1) (w.heap.size+1+1) w5.heap.size (w5.heap.size+1) m _ true W HV.o Uw.o Jw.o hmr bR1.1 (by omega) (CEB.below (aC _) hW)
       have HC2:aY (∀W,aN wb.heap.size wb W->Calls aH 116 #[ah ag (m:Int),ah ag (dI (f (m,true))),.bool false,au (az ⟨w.heap.size,0,aj⟩),au (az ⟨w.heap.size+1+1,0,aj⟩),au (az ⟨w.heap.size+1,0,aj⟩),au (az ⟨w5.heap.size,0,aj⟩),au (az ⟨w5.heap.size+1,0,aj⟩)] W (zq cs us lv (xB ns.length f false) (xB ns.length f true) m (dI (f (m,true))) false W)):=fun W hW=>
        Pb ns cs us lv (xB ns.length f false) (xB ns.length f true) An Ac Au Al aR aF cn cc cu cl cR cF w.heap.size (w.heap.size+1) (w.heap.size+1+1) w5.heap.size (w5.heap.size+1) m _ false W HV.o Uw.o Jw.o hmr bF1.1 (by omega) (CEB.below (aC _) hW)
       subst hAR;subst hAF;have t10:=CEN.o.p10.one.1;have t11:=CEN.o.p11.one.1;have q10:=CEN.o.p10.lt;have q11:=CEN.o.p11.lt;have agJ:aY (∀W c0 c1,aN wb.heap.size wb W->SH cs us lv (xB ns.length f false) (xB ns.length f true) m (dI (f (m,false))) true c0->SH cs us lv (xB ns.length f false) (xB ns.length f true) m (dI (f (m,true))) false c1->Oz ns.length cs us lv f k m wr.heap.size wr ((W.setCell ⟨wr.heap.size,0,aj⟩ (ah ag c0)).setCell ⟨wr.heap.size,1,aj⟩ (ah ag c1))):=fun W c0 c1 hW h0 h1=>by have nb:=((NB.o.below hW NB.o.lt).jd 0 (ah ag c0)).jd 1 (ah ag c1);have be:aN wr.heap.size wr W:=BB.o.trans (hW.mono BB.o.size);refine⟨c0,c1,nb,.inr ⟨hmk,h0⟩,.inr ⟨hmk,h1⟩,?_⟩;exact(be.setCell (aC _) _).setCell (aC _) _
       have NBF:aY (∀W,aN wb.heap.size wb W->W.cell? ⟨wr.heap.size,0,aj⟩=az (ah ag (-2))/\W.cell? ⟨wr.heap.size,1,aj⟩=az (ah ag (-2))/\W.frozen? ⟨wr.heap.size,0,aj⟩=false/\W.frozen? ⟨wr.heap.size,1,aj⟩=false):=fun W hW=>(by have nb:=NB.o.below hW NB.o.lt;exact⟨by rw[nb.cell];rfl,by rw[nb.cell];rfl,nb.frozen 0,nb.frozen 1⟩);obtain⟨xR,hxR⟩:∃x,dI (f (m,false))=x:=⟨_,rfl⟩;obtain⟨xF,hxF⟩:∃x,dI (f (m,true))=x:=⟨_,rfl⟩;rw[hxR]at cR0 HC1 agJ;rw[hxF]at cF0 HC2 agJ;have KP:aY (∀W,aN wr.heap.size wr W->W.cell? ⟨w5.heap.size,0,aj⟩=az (ay (az ⟨bR,oR,aj⟩) ns.length cR)/\W.cell? ⟨bR,oR+m,aj⟩=az (ah ag xR)/\W.cell? ⟨w5.heap.size+1,0,aj⟩=az (ay (az ⟨bF,oF,aj⟩) ns.length cF)/\W.cell? ⟨bF,oF+m,aj⟩=az (ah ag xF)):=fun W hW=>
        ⟨(hW.cell (by exact q10)).trans t10,(hW.cell (by exact hbR)).trans cR0,(hW.cell (by exact q11)).trans t11,(hW.cell (by exact hbF)).trans cF0⟩
       have TRB:aY (∀W,aN wb.heap.size wb W->aN wr.heap.size wr W):=fun W hW=>BB.o.trans (hW.mono BB.o.size);have STB:aY (∀W u v,aN wb.heap.size wb W->aN wr.heap.size wr ((W.setCell ⟨wr.heap.size,0,aj⟩ u).setCell ⟨wr.heap.size,1,aj⟩ v)):=fun W u v hW=>
        ((TRB.o W hW).setCell (aC _) _).setCell (aC _) _
       have ahJ:¬(m:Int)=(k:Int):=(by omega);have mi:(m:Int)<(ns.length:Int):=(by omega);have HWB:=aA Nb;clear hmk CEB hxR hxF Nb bR1 bF1;go_wp2_with fail;rw[HWB.o];go_region_held3 (fun W=>W.cell? ⟨w5.heap.size,0,aj⟩=az (ay (az ⟨bR,oR,aj⟩) ns.length cR)/\W.cell? ⟨bR,oR+m,aj⟩=az (ah ag xR)/\W.cell? ⟨w5.heap.size+1,0,aj⟩=az (ay (az ⟨bF,oF,aj⟩) ns.length cF)/\W.cell? ⟨bF,oF+m,aj⟩=az (ah ag xF))
        (first|exact KP.o _ (BB.o.drew)|exact KP.o _ (TRB.o _ BT.o)|exact KP.o _ (TRB.o _ BF.o)|exact KP.o _ (STB.o _ _ _ BT.o)|exact KP.o _ (STB.o _ _ _ BF.o))
        (first
         |((with_reducible refine(HC1.o _ BF.o).mono ?_);rintro e wt ⟨c0,rfl,hc0,aet⟩;have BT:aY (aN wb.heap.size wb wt):=BF.o.trans (aet.mono BF.o.size);have EC0:=aA hc0;obtain⟨x0,x1,x2,x3⟩:=NBF.o _ BT.o;clear aet hc0)
         |((with_reducible refine(HC1.o _ ((aQ _ _).drew)).mono ?_);rintro e wt ⟨c0,rfl,hc0,aet⟩;have BT:aY (aN wb.heap.size wb wt):=((aQ _ _).drew).trans aet;have EC0:=aA hc0;obtain⟨x0,x1,x2,x3⟩:=NBF.o _ BT.o;clear aet hc0)
         |((with_reducible refine(HC2.o _ BT.o).mono ?_);rintro e wf ⟨c1,rfl,hc1,aes⟩;have BF:aY (aN wb.heap.size wb wf):=BT.o.trans (aes.mono BT.o.size);have EC1:=aA hc1;obtain⟨y0,y1,y2,y3⟩:=NBF.o _ BF.o;clear aes hc1)
         |((with_reducible refine(HC2.o _ ((aQ _ _).drew)).mono ?_);rintro e wf ⟨c1,rfl,hc1,aes⟩;have BF:aY (aN wb.heap.size wb wf):=((aQ _ _).drew).trans aes;have EC1:=aA hc1;obtain⟨y0,y1,y2,y3⟩:=NBF.o _ BF.o;clear aes hc1))
       all_goals
        have F1:=aA (agJ.out _ _ _ BF.o EC0.o EC1.o);have F2:=aA (agJ.out _ _ _ BT.o EC0.o EC1.o);go_wp2_with fail;go_meet;case rel=>first|exact F1.o|exact F2.o
     case rest=>
      obtain⟨c0,c1,bnx,aqK,aqL,ahk⟩:=hcut;have n0:wc.cell? ⟨wr.heap.size,0,aj⟩=az (ah ag c0):=(by rw[bnx.cell];rfl);have n1:wc.cell? ⟨wr.heap.size,1,aj⟩=az (ah ag c1):=(by rw[bnx.cell];rfl);have avn:=aA aqK;have avo:=aA aqL;have szT:bT<wo.heap.size:=(by have h1:=TLT.o;omega);have ST:aY (MF w w7 ns cs us lv An Ac Au Al cn cc cu cl bT (bT+2) wo.heap.size (w5.heap.size+2) f k m 2 (ah ag 0) wc):=
       ⟨0,V,G,rfl,rfl,MBN.o.below ahk,TMN.o.below ahk,akq.out,akw.out,fun p hp=>by omega,akA.out.below (by have:=SZ7.o;omega) ahk⟩
      have i0:∀w,(xO 73 (.agg #[ah ag c0,ah ag c1]) (ah ag 0)).run aH w=.ok (ah ag c0) w:=fun _=>(by kernel_rfl);have i1:∀w,(xO 73 (.agg #[ah ag c0,ah ag c1]) (ah ag 1)).run aH w=.ok (ah ag c1) w:=fun _=>(by kernel_rfl);clear aqK aqL bnx ahk MBN TMN akq akw akA CEN;go_wp2_with fail;clear n0 n1
      go_loopg [82] 2 (fun g i wr'=>MF w w7 ns cs us lv An Ac Au Al cn cc cu cl bT (bT+2) wo.heap.size (w5.heap.size+2) f k m g i wr')
      case atStart=>exact ST.o
      case round=>
       clear ST;obtain⟨j,V,G,hjg,rfl,mb,tm,Db,hent,hph,gap⟩:=hrel;have MBP:=aA mb;have TMP:=aA tm;have akr:=aA Db;have akx:=aA hent;have PHP:=aA hph;have akB:=aA gap;have HJG:=aA hjg;have c8:=mb.p8.one.1;have l8:=mb.p8.lt;have lbT:bT<wr.heap.size:=by omega
       have hj':j=0\/j=1\/j=2:=(by omega);clear Db hent hph gap hjg;rcases hj' with xI|xI|xI
       ·subst xI;have cv:=tm.cell hmr (show 0<2 by omega);have fv:wr.frozen? ⟨bT,m*2+0,aj⟩=false:=tm.row.frozen _;rw[Nat.add_zero]at cv fv;have OWJ:=aA (tm.own m 0 hmr (by omega));rw[TT]at OWJ;have FT:aY (∀w6 v',w6.ownsRow (bT+2) 3 1 v' (k+1) ((Jp G m 0 k).flatMap cI++[ah ag c0])->(wr.alloc (af #[ah ag c0] 3)).drew.grownBy w6 (V m 0).ownBlock->(v'.ownBlock=(V m 0).ownBlock\/v'.ownBlock=az (wr.heap.size+1))->
         MF w w7 ns cs us lv An Ac Au Al cn cc cu cl bT (bT+2) wo.heap.size (w5.heap.size+2) f k m 1 (ah ag ((0+1:Nat):Int)) (w6.setCell ⟨bT,m*2,aj⟩ v')):=fun w6 v' h1 h2 h3=>
         MF.step MBP.o TMP.o akr.out akx.out PHP.o akB.out hmr (by omega) rfl avn.out (by have:=SZ7.o;omega) szT h1 h2 h3
        have RLT:aY (∀q,(V m 0).ownBlock=az q->bT+2<=q):=TMP.o.afN hmr (by omega);have GRW:aY (∀w6 row,(wr.alloc (af #[ah ag c0] 3)).drew.grownBy w6 row->(∀q,row=az q->bT+2<=q)->w6.cell? ⟨bT+1,0,aj⟩=az (ay (az ⟨bT,0,aj⟩) ns.length ns.length)/\w6.cell? ⟨bT,m*2,aj⟩=az (V m 0)/\w6.frozen? ⟨bT,m*2,aj⟩=false):=fun w6 row hg hr=>(by have ba:aN wr.heap.size wr (wr.alloc (af #[ah ag c0] 3)):=(aQ _ _).alloc (aC _) _;have tr:=((TMP.o.below ba).drew.row).grown hg (fun e=>by have:=hr _ e.symm;omega);have mr:=((MBP.o.below ba).drew).grown hg hr;refine⟨mr.p8.one.1,?_,tr.frozen _⟩;have:=tr.cell hmr (show 0<2 by omega);simpa using this);obtain⟨v,hv⟩:∃v,V m 0=v:=⟨_,rfl⟩;rw[hv]at cv OWJ FT RLT GRW;have mi:(m:Int)<(ns.length:Int):=(by omega);clear mb tm hv;go_wp2_with fail;have hiI:=HIi.o;have hzI:=HIz.o;have aeW:=aoR.out;have aeX:=aoS.out
        go_region_law (refine fV _ (by rfl) (.tmp 96) (.tmp 98) 26 (by rfl) (bT+2) 3 iI _ 1 8 underlying26 hiI hzI aeW aeX rfl (by decide) _ _ _ (by rfl) ((OWJ.o.alloc _).drew) (wr.heap.size+1) (az ⟨wr.heap.size,0,aj⟩) 1 1 [ah ag c0] (by rfl) (Sg wr 3 #[ah ag c0] rfl) ?_ ?_ ?_ ?_ ?_;(intro u hu;simp at hu;subst hu;rfl);(unfold maxLen;omega);omega;(simp;omega);intro v' w6 Ji gr6 PY;obtain⟨b6,q6,hv6⟩:=Ng (by omega) Ji;rw[hv6];obtain⟨d8,dv,dfv⟩:=GRW.o _ _ gr6 RLT.o)
        all_goals
         have R:=aA (FT.o _ _ Ji gr6 (by simpa using PY));rw[hv6]at R;clear Ji gr6 PY d8 dv dfv cv fv hiI hzI aeW aeX hv6;go_wp2_with fail
         go_roundg 1
         case rel=>exact R.o
         case measure=>have:=HJG.o;omega
       ·subst xI;have cv:=tm.cell hmr (show 1<2 by omega);have fv:wr.frozen? ⟨bT,m*2+1,aj⟩=false:=tm.row.frozen _;have OWJ:=aA (tm.own m 1 hmr (by omega));rw[TT]at OWJ;have FT:aY (∀w6 v',w6.ownsRow (bT+2) 3 1 v' (k+1) ((Jp G m 1 k).flatMap cI++[ah ag c1])->(wr.alloc (af #[ah ag c1] 3)).drew.grownBy w6 (V m 1).ownBlock->(v'.ownBlock=(V m 1).ownBlock\/v'.ownBlock=az (wr.heap.size+1))->
         MF w w7 ns cs us lv An Ac Au Al cn cc cu cl bT (bT+2) wo.heap.size (w5.heap.size+2) f k m 0 (ah ag ((1+1:Nat):Int)) (w6.setCell ⟨bT,m*2+1,aj⟩ v')):=fun w6 v' h1 h2 h3=>
         MF.step MBP.o TMP.o akr.out akx.out PHP.o akB.out hmr (by omega) rfl avo.out (by have:=SZ7.o;omega) szT h1 h2 h3
        have RLT:aY (∀q,(V m 1).ownBlock=az q->bT+2<=q):=TMP.o.afN hmr (by omega);have GRW:aY (∀w6 row,(wr.alloc (af #[ah ag c1] 3)).drew.grownBy w6 row->(∀q,row=az q->bT+2<=q)->w6.cell? ⟨bT+1,0,aj⟩=az (ay (az ⟨bT,0,aj⟩) ns.length ns.length)/\w6.cell? ⟨bT,m*2+1,aj⟩=az (V m 1)/\w6.frozen? ⟨bT,m*2+1,aj⟩=false):=fun w6 row hg hr=>(by have ba:aN wr.heap.size wr (wr.alloc (af #[ah ag c1] 3)):=(aQ _ _).alloc (aC _) _;have tr:=((TMP.o.below ba).drew.row).grown hg (fun e=>by have:=hr _ e.symm;omega);have mr:=((MBP.o.below ba).drew).grown hg hr;refine⟨mr.p8.one.1,?_,tr.frozen _⟩;have:=tr.cell hmr (show 1<2 by omega);simpa using this);obtain⟨v,hv⟩:∃v,V m 1=v:=⟨_,rfl⟩;rw[hv]at cv OWJ FT RLT GRW;have mi:(m:Int)<(ns.length:Int):=(by omega);clear mb tm hv;go_wp2_with fail;have hiI:=HIi.o;have hzI:=HIz.o;have aeW:=aoR.out;have aeX:=aoS.out
        go_region_law (refine fV _ (by rfl) (.tmp 96) (.tmp 98) 26 (by rfl) (bT+2) 3 iI _ 1 8 underlying26 hiI hzI aeW aeX rfl (by decide) _ _ _ (by rfl) ((OWJ.o.alloc _).drew) (wr.heap.size+1) (az ⟨wr.heap.size,0,aj⟩) 1 1 [ah ag c1] (by rfl) (Sg wr 3 #[ah ag c1] rfl) ?_ ?_ ?_ ?_ ?_;(intro u hu;simp at hu;subst hu;rfl);(unfold maxLen;omega);omega;(simp;omega);intro v' w6 Ji gr6 PY;obtain⟨b6,q6,hv6⟩:=Ng (by omega) Ji;rw[hv6];obtain⟨d8,dv,dfv⟩:=GRW.o _ _ gr6 RLT.o)
        all_goals
         have R:=aA (FT.o _ _ Ji gr6 (by simpa using PY));rw[hv6]at R;clear Ji gr6 PY d8 dv dfv cv fv hiI hzI aeW aeX hv6;go_wp2_with fail
         go_roundg 0
         case rel=>exact R.o
         case measure=>have:=HJG.o;omega
       ·subst xI;have R:aY (adO w w7 ns cs us lv An Ac Au Al cn cc cu cl bT (bT+2) wo.heap.size (w5.heap.size+2) f k (ns.length-(m+1)) (ah ag ((m+1:Nat):Int)) wr):=by
         refine⟨m+1,V,G,by omega,rfl,MBP.o,TMP.o.congr (fun i p _ hp=>abV k m i p hp),akr.out,fun i p hi hp=>?_,akB.out⟩;by_cases e:i=m
         ·rw[e];exact PHP.o p (by omega)
         ·exact akx.out i p (by omega) hp
        clear mb tm;go_wp2_with fail
        go_roundg (ns.length-(m+1))
        case rel=>exact R.o
        case measure=>have:=HMG.o;omega
    ·obtain rfl:m=ns.length:=by omega
     have R:aY (adP w ns cs us lv An Ac Au Al cn cc cu cl bT (bT+2) (ns.length-(k+1)) (ah ag ((k+1:Nat):Int)) wr):=by
      refine⟨k+1,V,G,by omega,rfl,mb,?_,fun t ht=>?_⟩
      ·have h1:=(TMN.o.congr (len':=fun _ _=>k+1) (fun i p hi _=>afk k ns.length i p hi));exact h1.ajX (fun g _=>.inr (Nat.zero_le _))
      ·by_cases e:t=k
       ·rw[e];exact⟨f,FND.o,fun i p hi hp=>akw.out i p hi hp⟩
       ·exact akq.out t (by omega)
     clear mb;go_wp2_with fail
     go_roundg (ns.length-(k+1))
     case rel=>exact R.o
     case measure=>have:=HKG.o;omega
  ·obtain rfl:k=ns.length:=by omega
   have c8:=mb.p8.one.1;have c6:=mb.p6.one.1;have f6:=mb.p6.one.2;have F:aY (Uz ns.length cs us lv w (ax (.tuple #[.agg #[ay (az ⟨bT,0,aj⟩) ns.length ns.length],ah ag 0])) (wr.setCell ⟨w.heap.size+1+1+1,0,aj⟩ (ay (az ⟨bT,0,aj⟩) ns.length ns.length))):=(by have l0:=mb.lt0;exact⟨bT,bT+2,V,G,rfl,by omega,TMH.o.AU (p:=⟨w.heap.size+1+1+1,0,aj⟩) (by show bT≠w.heap.size+1+1+1;omega) (by show w.heap.size+1+1+1<bT+2;omega) _,akp.out,mb.gm.setCell (by show w.heap.size<=w.heap.size+1+1+1;omega) _⟩);clear mb;go_wp2_with fail;refine bodyPost_ret (v:=.tuple #[.agg #[ay (az ⟨bT,0,aj⟩) ns.length ns.length],ah ag 0]) (by simp[results,Tryz.results89,go_sem,c6]) rfl ?_;exact F.o
end
section
theorem FV{lv:List Int}{a b:Nat}:qI lv (a:Int) (b:Int)=true↔a<lv.length/\b<lv.length/\0<=lv.getD a 0/\0<=lv.getD b 0/\(lv.getD a 0<lv.getD b 0\/(lv.getD a 0=lv.getD b 0/\a<b)):=by
 unfold qI hasB GX;simp only[Int.toNat_natCast,cZ,decide_eq_true_eq];have h:orL [uE (lv.getD a 0) (lv.getD b 0),uE (a:Int) (b:Int)]<0↔(lv.getD a 0<lv.getD b 0\/(lv.getD a 0=lv.getD b 0/\a<b)):=by
  generalize lv.getD a 0=x;generalize lv.getD b 0=y;unfold orL uE;by_cases h1:x<y
  ·simp[h1]
  ·by_cases h2:y<x
   ·rw[if_neg h1,if_pos h2];simp;omega
   ·rw[if_neg h1,if_neg h2];simp only[ne_eq,not_true_eq_false,if_false];unfold orL orL;by_cases h3:(a:Int)<b
    ·rw[if_pos h3];simp;omega
    ·rw[if_neg h3];by_cases h4:(b:Int)<a
     ·rw[if_pos h4];simp;omega
     ·rw[if_neg h4];simp;omega
 rw[h];constructor
 ·rintro⟨⟨⟨⟨h1,h2⟩,h3⟩,⟨h4,h5⟩,h6⟩,h7⟩;exact⟨by omega,by omega,h3,h6,h7⟩
 ·rintro⟨h1,h2,h3,h4,h5⟩;exact⟨⟨⟨⟨by omega,by omega⟩,h3⟩,⟨by omega,by omega⟩,h4⟩,h5⟩
theorem Xt{lv:List Int}{a b:Nat}(h:qI lv (a:Int) (b:Int)=true):qI lv (b:Int) (a:Int)=false:=by
 cases h2:qI lv (b:Int) (a:Int)with
 |false=>rfl
 |true=>rw[FV]at h h2;omega
theorem UQ{lv:List Int}{a b:Nat}(ha:a<lv.length)(hb:b<lv.length)(la:0<=lv.getD a 0)(lb:0<=lv.getD b 0)(nQ:a≠b)(h:qI lv (a:Int) (b:Int)=false):qI lv (b:Int) (a:Int)=true:=by
 rw[FV];refine⟨hb,ha,lb,la,?_⟩;have:¬(lv.getD a 0<lv.getD b 0\/(lv.getD a 0=lv.getD b 0/\a<b)):=fun h2=>by rw[FV.2 ⟨ha,hb,la,lb,h2⟩]at h;cases h
 omega
structure Net(ns:List Nd)(cs:List Cb)(us:List Bool)(lv:List Int)(G:GT):Prop where
 valid:fT ⟨ns,cs⟩=0
 ord:oD ⟨ns,cs⟩ lv=true
 col:∀t,t<ns.length->Col ns.length cs us lv G t
section
variable{ns:List Nd}{cs:List Cb}{us:List Bool}{lv:List Int}{G:GT}
theorem Sv{ns:List Nd}{cs:List Cb}(h:fT ⟨ns,cs⟩=0):∀y∈cs,y.a≠y.b:=fun y hy=>Mt h hy
theorem abt{R F:List Int}{u i:Nat}{left:Int}{mr:Bool}(hv:fT ⟨ns,cs⟩=0)(hi:i<cs.length)(h:NH cs us lv R F u left mr i=true):∃v:Nat,v<ns.length/\touch (cs.getD i gX) u v:=by
 have hm:cs.getD i gX∈cs:=by simp[bJ,hi]
 obtain⟨⟨a0,a1⟩,b0,b1⟩:=Fb hv hm;unfold NH at h;simp only[cZ]at h;have h2:=h.1.1.2;unfold kE at h2;split at h2
 ·rename_i e;exact⟨(cs.getD i gX).b.toNat,by omega,.inl ⟨e.symm,by omega⟩⟩
 ·split at h2
  ·rename_i e;exact⟨(cs.getD i gX).a.toNat,by omega,.inr ⟨e.symm,by omega⟩⟩
  ·cases h2
end
theorem SV.wf{n:Nat}{cs:List Cb}{root:Nat}{l:List Int}(h:SV n cs root l)(hn:n<=1000000):WfI l:=by
 intro x hx;obtain⟨i,hi,rfl⟩:=List.mem_iff_getElem.1 hx;have e:l.getD i 0=l[i]:=by simp[bJ,hi]
 have h1:=h.ge (j:=i) (by rw[<-h.len];exact hi);have h2:=h.lt (j:=i) (by rw[<-h.len];exact hi);rw[e]at h1 h2;exact ny _ (by omega) (by omega)
end
end Go.Proofs.YtnjjkgjdhljfnaaGreat
