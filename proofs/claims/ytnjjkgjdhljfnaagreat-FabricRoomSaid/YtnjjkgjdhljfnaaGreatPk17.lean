/- Part 17. -/
import Derived.Deep.Cut
import Derived.Deep.CutRange
import Derived.Laws.Cover4
import Derived.Laws.Runes
import Derived.Test.YtnjjkgjdhljfnaaGreatPk6
open Go.Proofs.Tryz
open Bool renaming and_eq_true->dD
open Go renaming Addr->fE,Value->aJ,World->aG
open Go.Ending renaming returned->ax
open Go.Instr renaming index->xY
open Go.IntKind renaming i64->ag
open Go.Lib renaming hid->aA
open Go.Obj renaming cells->af
open Go.Proofs.Tryz renaming prog->aH
open Go.RowKit renaming Below->aO,Hid->aZ
open Go.RowKit.Below renaming refl->aS
open Go.Value renaming int->ah,ownBlock->eO,pointer->au,slice->ay
open List renaming getD->bS,map_congr_left->gm
open Nat renaming le_refl->aC,le_trans->eY
open Option renaming none->aj,some->az
set_option maxRecDepth 100000
set_option maxHeartbeats 16000000
set_option linter.unusedVariables false
set_option linter.unusedSimpArgs false
namespace Go.Proofs.YtnjjkgjdhljfnaaGreat
open Go.RowKit Go.Maps
section
theorem Ql{p:Pl}{lv:List Int}(h:oH p lv=true):fQ p=0/\lv.length=p.ns.length:=by unfold oH at h;simp only[dD,decide_eq_true_eq]at h;exact⟨h.1.1.1.1,h.1.1.1.2⟩
theorem Sc:(Tryz.prog.info? 176).map (fun i=>(i.zero,i.size,i.bytes))=az (az (.agg #[ay aj 0 0,ay aj 0 0]),2,48):=by kernel_rfl
theorem Su(w:aG)(t:TypeId)(cs:Array aJ){n size:Nat}(h:cs.size=n*size):Reads (w.alloc (.cells cs t)) (w.heap.size+1) size (az ⟨w.heap.size,0,aj⟩) n cs.toList:=
 ⟨by simpa using h,fun _=>⟨_,rfl,by simp,fun q u hu=>World.news_of_block (cs:=cs) (t:=t) (fr:=(0,0)) (heap_alloc_new w _) q u hu⟩⟩
end
section
abbrev GT:=Nat->Nat->Nat->Int
def Jt(G:GT)(i p m:Nat):List Int:=(List.range m).map (G i p)
def EF{α:Type}(V:Nat->Nat->α)(i p:Nat)(x:α):Nat->Nat->α:=fun a b=>if a=i/\b=p then x else V a b
def WJ(G:GT)(i p t:Nat)(x:Int):GT:=fun a b c=>if a=i/\b=p/\c=t then x else G a b c
theorem sI{α:Type}(V:Nat->Nat->α)(i p:Nat)(x:α):EF V i p x i p=x:=by unfold EF;rw[if_pos ⟨rfl,rfl⟩]
theorem mY{α:Type}(V:Nat->Nat->α){i p a b:Nat}(x:α)(h:¬(a=i/\b=p)):EF V i p x a b=V a b:=by unfold EF;rw[if_neg h]
theorem SK(G:GT)(i p t:Nat)(x:Int):WJ G i p t x i p t=x:=by unfold WJ;rw[if_pos ⟨rfl,rfl,rfl⟩]
theorem Ao(G:GT){i p t a b c:Nat}(x:Int)(h:¬(a=i/\b=p/\c=t)):WJ G i p t x a b c=G a b c:=by unfold WJ;rw[if_neg h]
theorem acD(G:GT)(i p m:Nat)(x:Int):Jt (WJ G i p m x) i p (m+1)=Jt G i p m++[x]:=by unfold Jt;rw[List.range_succ,List.map_append,List.map_singleton,SK];congr 1;refine gm fun c hc=>Ao G x (fun h=>?_);have:=List.mem_range.1 hc;omega
theorem YV(G:GT){i p t a b m:Nat}(x:Int)(h:¬(a=i/\b=p)):Jt (WJ G i p t x) a b m=Jt G a b m:=by unfold Jt;exact gm fun c hc=>Ao G x (fun h2=>h ⟨h2.1,h2.2.1⟩)
def NG(n:Nat)(cs:List Cb)(us:List Bool)(lv:List Int)(f:zA)(tt i p:Nat)(c:Int):Prop:=
 (i=tt/\c=-2)\/(i≠tt/\Te cs us lv (xL n f false) (xL n f true) i (dI (f (i,p==1))) (p==0) c)
def Col(n:Nat)(cs:List Cb)(us:List Bool)(lv:List Int)(G:GT)(tt:Nat):Prop:=
 ∃f,Found n cs us lv tt f/\∀i p,i<n->p<2->NG n cs us lv f tt i p (G i p tt)
def Ji(k m j:Nat)(i p:Nat):Nat:=if i<m\/(i=m/\p<j)then k+1 else k
theorem Vn{n:Nat}{cs:List Cb}{us:List Bool}{lv:List Int}{t:Nat}{f:zA}(h:Found n cs us lv t f)(hn:n<=100)(s:St):-1<=dI (f s)/\dI (f s)<=1000:=by
 rcases h with⟨_,h⟩|⟨h,_⟩
 ·rw[h];simp[dI]
 ·cases hf:f s with
  |none=>simp[dI]
  |some d=>have h1:=h.bnd s d hf;have h2:=afi n f;simp only[dI];omega
theorem YA(k i p:Nat):Ji k 0 0 i p=k:=by unfold Ji;rw[if_neg (by omega)]
theorem abY(k m i p:Nat)(hp:p<2):Ji k m 2 i p=Ji k (m+1) 0 i p:=by
 unfold Ji;by_cases h:i<m+1
 ·rw[if_pos (by omega),if_pos (by omega)]
 ·rw[if_neg (by omega),if_neg (by omega)]
theorem afl(k n i p:Nat)(hi:i<n):Ji k n 0 i p=k+1:=by unfold Ji;rw[if_pos (by omega)]
theorem Uc(k m j:Nat):Ji k m j m j=k:=by unfold Ji;rw[if_neg (by omega)]
theorem abZ(k m j i p:Nat):EF (Ji k m j) m j (k+1) i p=Ji k m (j+1) i p:=by
 unfold EF Ji;by_cases h:i=m/\p=j
 ·rw[if_pos h,if_pos (by omega)]
 ·rw[if_neg h];by_cases h2:i<m\/(i=m/\p<j)
  ·rw[if_pos h2,if_pos (by omega)]
  ·rw[if_neg h2,if_neg (by omega)]
theorem Col.upd{n:Nat}{cs:List Cb}{us:List Bool}{lv:List Int}{G:GT}{t:Nat}(h:Col n cs us lv G t){i p k:Nat}(x:Int)(nJ:t≠k):Col n cs us lv (WJ G i p k x) t:=by obtain⟨f,h1,h2⟩:=h;exact⟨f,h1,fun a b ha hb=>by rw[Ao G x (fun e=>nJ e.2.2)];exact h2 a b ha hb⟩
structure TM(w:aG)(bT base n hA hB:Nat)(V:Nat->Nat->aJ)(len:Nat->Nat->Nat)(G:GT):Prop where
 row:qU w bT 176 2 n (fun i=>[V i 0,V i 1])
 own:∀i p,i<n->p<2->w.ownsRow base 3 1 (V i p) (len i p) ((Jt G i p (len i p)).flatMap cI)
 apart:∀i p i' p',i<n->p<2->i'<n->p'<2->¬(i'=i/\p'=p)->∀g,(V i p).ownBlock=az g->(V i' p').ownBlock≠az g
 gap:∀i p,i<n->p<2->∀g,(V i p).ownBlock=az g->g<hA\/hB<=g
 lt:bT<base
section
variable{w w':aG}{bT base n hA hB:Nat}{V:Nat->Nat->aJ}{len:Nat->Nat->Nat}{G:GT}
theorem TM.below(h:TM w bT base n hA hB V len G)(hb:aO w.heap.size w w'):TM w' bT base n hA hB V len G:=
 ⟨h.row.below hb h.row.lt,fun i p hi hp=>(h.own i p hi hp).kept (Cc hb aj) (by cases(V i p).ownBlock with
  |none=>exact .inl rfl
  |some q=>exact .inr (by simp)),h.apart,h.gap,h.lt⟩
theorem TM.drew(h:TM w bT base n hA hB V len G):TM w.drew bT base n hA hB V len G:=⟨h.row.drew,h.own,h.apart,h.gap,h.lt⟩
theorem TM.congr{len':Nat->Nat->Nat}(h:TM w bT base n hA hB V len G)(e:∀i p,i<n->p<2->len i p=len' i p):TM w bT base n hA hB V len' G:=
 ⟨h.row,fun i p hi hp=>by rw[<-e i p hi hp];exact h.own i p hi hp,h.apart,h.gap,h.lt⟩
theorem TM.akb{hA' hB':Nat}(h:TM w bT base n hA hB V len G)(e:∀g,g<w.heap.size->g<hA'\/hB'<=g):TM w bT base n hA' hB' V len G:=
 ⟨h.row,h.own,h.apart,fun i p hi hp g hg=>e g ((h.own i p hi hp).lt g hg).2,h.lt⟩
theorem TM.push(h:TM w bT base n hA hB V len G){i p:Nat}(hi:i<n)(hp:p<2){v':aJ}{x:Int}(hB':hB<=w.heap.size)(o:w'.ownsRow base 3 1 v' (len i p+1) ((Jt G i p (len i p)).flatMap cI++[ah ag x]))(hg:w.grownBy w' (V i p).ownBlock)(hv:v'.ownBlock=(V i p).ownBlock\/v'.ownBlock=az w.heap.size):TM (w'.setCell ⟨bT,i*2+p,aj⟩ v') bT base n hA hB (EF V i p v') (EF len i p (len i p+1)) (WJ G i p (len i p) x):=by
 have tL:=h.lt;have uK:∀{v:aJ} {m:Nat} {xs:List aJ},w'.ownsRow base 3 1 v m xs->(w'.setCell ⟨bT,i*2+p,aj⟩ v').ownsRow base 3 1 v m xs:=fun ho=>
  Mt ho (wH (zF w' (az bT)) (.inl rfl) _) (fun q e=>by have:=(ho.lt q e).1;omega)
 have oth:∀a b,a<n->b<2->¬(a=i/\b=p)->w'.ownsRow base 3 1 (V a b) (len a b) ((Jt G a b (len a b)).flatMap cI):=fun a b ha hb nJ=>
  (h.own a b ha hb).kept hg (by
   cases hq:(V a b).ownBlock with
   |none=>exact .inl rfl
   |some q=>exact .inr (fun e=>h.apart i p a b hi hp ha hb nJ q e.symm hq))
 have fresh:∀a b,a<n->b<2->¬(a=i/\b=p)->∀g,v'.ownBlock=az g->(V a b).ownBlock≠az g:=fun a b ha hb nJ g hvg=>by
  rcases hv with e|e
  ·rw[e]at hvg;exact h.apart i p a b hi hp ha hb nJ g hvg
  ·rw[e]at hvg;injection hvg with hvg;intro h2;have:=((h.own a b ha hb).lt g h2).2;omega
 refine⟨?_,fun a b ha hb=>?_,fun a b a' b' ha hb ha' tq nJ g uz=>?_,fun a b ha hb g uz=>?_,h.lt⟩
 ·have hr:=h.row.grown hg (fun e=>by have:=((h.own i p hi hp).lt bT e.symm).1;omega);have hr2:=hr.jy hi hp v';refine hr2.congr fun a ha=>?_;unfold Jv;by_cases e:a=i
  ·subst e;rw[if_pos rfl];rcases(show p=0\/p=1 by omega)with rfl|rfl
   ·rw[sI,mY V v' (by omega)];rfl
   ·rw[sI,mY V v' (by omega)];rfl
  ·rw[if_neg e,mY V v' (by omega),mY V v' (by omega)]
 ·by_cases e:a=i/\b=p
  ·obtain⟨rfl,rfl⟩:=e;rw[sI,sI,acD,List.flatMap_append];exact uK o
  ·rw[mY V v' e,mY len _ e,YV G x e];exact uK (oth a b ha hb e)
 ·by_cases e:a=i/\b=p
  ·obtain⟨rfl,rfl⟩:=e;rw[sI]at uz;rw[mY V v' nJ];exact fresh a' b' ha' tq nJ g uz
  ·rw[mY V v' e]at uz;by_cases e':a'=i/\b'=p
   ·obtain⟨rfl,rfl⟩:=e';rw[sI];exact fun h2=>fresh a b ha hb e g h2 uz
   ·rw[mY V v' e'];exact h.apart a b a' b' ha hb ha' tq nJ g uz
 ·by_cases e:a=i/\b=p
  ·obtain⟨rfl,rfl⟩:=e;rw[sI]at uz;rcases hv with e|e
   ·rw[e]at uz;exact h.gap a b ha hb g uz
   ·rw[e]at uz;injection uz with uz;right;omega
  ·rw[mY V v' e]at uz;exact h.gap a b ha hb g uz
theorem TM.afO(h:TM w bT base n hA hB V len G){i p:Nat}(hi:i<n)(hp:p<2):∀q,(V i p).ownBlock=az q->base<=q:=fun q e=>((h.own i p hi hp).lt q e).1
theorem TM.cell(h:TM w bT base n hA hB V len G){i p:Nat}(hi:i<n)(hp:p<2):w.cell? ⟨bT,i*2+p,aj⟩=az (V i p):=by rw[h.row.cell hi hp];rcases(show p=0\/p=1 by omega)with rfl|rfl<;>rfl
end
structure MB(w wr:aG)(ns:List Nd)(cs:List Cb)(us:List Bool)(lv:List Int)(An Ac Au Al:Option fE)(cn cc cu cl bT base:Nat):Prop where
 p3:dG wr w.heap.size 25 #[ay An ns.length cn,ay Ac cs.length cc]
 p4:dG wr (w.heap.size+1) 169 #[ay Al lv.length cl]
 p5:dG wr (w.heap.size+1+1) 52 #[ay Au us.length cu]
 p6:dG wr (w.heap.size+1+1+1) 173 #[ay aj 0 0]
 p8:dG wr (bT+1) 173 #[ay (az ⟨bT,0,aj⟩) ns.length ns.length]
 lt0:w.heap.size+1+1+1<bT
 lt1:bT+1<base
 gB:aO w.heap.size w wr
section
variable{w wr w':aG}{ns:List Nd}{cs:List Cb}{us:List Bool}{lv:List Int}{An Ac Au Al:Option fE}{cn cc cu cl bT base:Nat}
theorem MB.below(h:MB w wr ns cs us lv An Ac Au Al cn cc cu cl bT base)(hb:aO wr.heap.size wr w'):MB w w' ns cs us lv An Ac Au Al cn cc cu cl bT base:=
 ⟨h.p3.below hb h.p3.lt,h.p4.below hb h.p4.lt,h.p5.below hb h.p5.lt,h.p6.below hb h.p6.lt,h.p8.below hb h.p8.lt,h.lt0,h.lt1,h.gB.trans (hb.mono h.gB.size)⟩
theorem MB.drew(h:MB w wr ns cs us lv An Ac Au Al cn cc cu cl bT base):MB w wr.drew ns cs us lv An Ac Au Al cn cc cu cl bT base:=
 ⟨h.p3.drew,h.p4.drew,h.p5.drew,h.p6.drew,h.p8.drew,h.lt0,h.lt1,h.gB.drew⟩
theorem MB.grown(h:MB w wr ns cs us lv An Ac Au Al cn cc cu cl bT base){row:Option Nat}(hg:wr.grownBy w' row)(hr:∀q,row=az q->base<=q):MB w w' ns cs us lv An Ac Au Al cn cc cu cl bT base:=by have l0:=h.lt0;have l1:=h.lt1;have k:∀{g:Nat} {t:TypeId} {xs:Array aJ},dG wr g t xs->g<base->dG w' g t xs:=fun hb hl=>hb.grown hg (fun e=>by have:=hr _ e.symm;omega);exact⟨k h.p3 (by omega),k h.p4 (by omega),k h.p5 (by omega),k h.p6 (by omega),k h.p8 (by omega),l0,l1,h.gB.grown hg h.gB.size (fun q e=>by have:=hr q e;omega)⟩
theorem MB.acH(h:MB w wr ns cs us lv An Ac Au Al cn cc cu cl bT base)(o:Nat)(v:aJ):MB w (wr.setCell ⟨bT,o,aj⟩ v) ns cs us lv An Ac Au Al cn cc cu cl bT base:=by have l0:=h.lt0;have l1:=h.lt1;exact⟨h.p3.Bi (p:=⟨bT,o,aj⟩) (by show _≠bT;omega) _,h.p4.Bi (p:=⟨bT,o,aj⟩) (by show _≠bT;omega) _,h.p5.Bi (p:=⟨bT,o,aj⟩) (by show _≠bT;omega) _,h.p6.Bi (p:=⟨bT,o,aj⟩) (by show _≠bT;omega) _,h.p8.Bi (p:=⟨bT,o,aj⟩) (by show _≠bT;omega) _,l0,l1,h.gB.setCell (by show w.heap.size<=bT;omega) _⟩
end
def NY(hA hB:Nat)(w w':aG):Prop:=w.heap.size<=w'.heap.size/\∀b,hA<=b->b<hB->w'.heap[b]?=w.heap[b]?
section
variable{hA hB:Nat}{w w' w'':aG}
theorem NY.refl(hA hB:Nat)(w:aG):NY hA hB w w:=⟨aC _,fun _ _ _=>rfl⟩
theorem NY.below(h:NY hA hB w w')(hs:hB<=w.heap.size)(hb:aO w'.heap.size w' w''):NY hA hB w w'':=
 ⟨eY h.1 hb.size,fun b h1 h2=>(hb.block b (by have:=h.1;omega)).trans (h.2 b h1 h2)⟩
theorem NY.drew(h:NY hA hB w w'):NY hA hB w w'.drew:=h
theorem NY.grown(h:NY hA hB w w')(hs:hB<=w.heap.size){row:Option Nat}(hg:w'.grownBy w'' row)(hr:∀q,row=az q->q<hA\/hB<=q):NY hA hB w w'':=
 ⟨eY h.1 hg.size,fun b h1 h2=>(hg.block b (by have:=h.1;omega) (fun e=>by have:=hr b e.symm;omega)).trans (h.2 b h1 h2)⟩
theorem NY.setCell(h:NY hA hB w w'){p:fE}(hp:p.block<hA)(v:aJ):NY hA hB w (w'.setCell p v):=
 ⟨by simpa[World.setCell]using h.1,fun b h1 h2=>(Below.heap_setCell w' p v b (by omega)).trans (h.2 b h1 h2)⟩
theorem NY.JF(h:NY hA hB w w'){g:Nat}{t:TypeId}{xs:Array aJ}(hb:dG w g t xs)(h1:hA<=g)(h2:g<hB):dG w' g t xs:=(h.2 g h1 h2).trans hb
theorem NY.isRec(h:NY hA hB w w'){α:Type}{m:Nat}{c:α->List aJ}{d:α}{a:Option fE}{len:Nat}{xs:List α}(hr:gH m c d w a len xs)(h1:∀x,a=az x->hA<=x.block/\x.block<hB):gH m c d w' a len xs:=by refine⟨hr.1,fun h0=>?_⟩;obtain⟨b,off,e,tL,hc⟩:=hr.2 h0;have hb:=h1 _ e;refine⟨b,off,e,by have:=h.1;omega,fun i j hi hj=>?_⟩;rw[World.cell?_of_block (h.2 b hb.1 hb.2)];exact hc i j hi hj
end
end
section
def UE(n:Nat)(cs:List Cb)(us:List Bool)(lv:List Int)(w:aG)(e:Ending)(w':aG):Prop:=
 ∃bT base V G,e=ax (.tuple #[.agg #[ay (az ⟨bT,0,aj⟩) n n],ah ag 0])/\w.heap.size<=bT/\TM w' bT base n 0 0 V (fun _ _=>n) G/\(∀t,t<n->Col n cs us lv G t)/\aO w.heap.size w w'
def adQ(w:aG)(ns:List Nd)(cs:List Cb)(us:List Bool)(lv:List Int)(An Ac Au Al:Option fE)(cn cc cu cl bT base:Nat)(g:Nat)(i:aJ)(wr:aG):Prop:=
 ∃k V G,k+g=ns.length/\i=ah ag ((k:Nat):Int)/\MB w wr ns cs us lv An Ac Au Al cn cc cu cl bT base/\TM wr bT base ns.length 0 0 V (fun _ _=>k) G/\∀t,t<k->Col ns.length cs us lv G t
def adP(w w7:aG)(ns:List Nd)(cs:List Cb)(us:List Bool)(lv:List Int)(An Ac Au Al:Option fE)(cn cc cu cl bT base hA hB:Nat)(f:zA)(k:Nat)(g:Nat)(i:aJ)(wr:aG):Prop:=
 ∃m V G,m+g=ns.length/\i=ah ag ((m:Nat):Int)/\MB w wr ns cs us lv An Ac Au Al cn cc cu cl bT base/\TM wr bT base ns.length hA hB V (Ji k m 0) G/\(∀t,t<k->Col ns.length cs us lv G t)/\
  (∀i p,i<m->p<2->NG ns.length cs us lv f k i p (G i p k))/\NY hA hB w7 wr
def OA(n:Nat)(cs:List Cb)(us:List Bool)(lv:List Int)(f:zA)(k m bn:Nat)(wr wx:aG):Prop:=
 ∃c0 c1:Int,dG wx bn 73 #[ah ag c0,ah ag c1]/\NG n cs us lv f k m 0 c0/\NG n cs us lv f k m 1 c1/\aO wr.heap.size wr wx
def MR(w w7:aG)(ns:List Nd)(cs:List Cb)(us:List Bool)(lv:List Int)(An Ac Au Al:Option fE)(cn cc cu cl bT base hA hB:Nat)(f:zA)(k m:Nat)(g:Nat)(i:aJ)(wr:aG):Prop:=
 ∃j V G,j+g=2/\i=ah ag ((j:Nat):Int)/\MB w wr ns cs us lv An Ac Au Al cn cc cu cl bT base/\TM wr bT base ns.length hA hB V (Ji k m j) G/\(∀t,t<k->Col ns.length cs us lv G t)/\
  (∀i p,i<m->p<2->NG ns.length cs us lv f k i p (G i p k))/\(∀p,p<j->NG ns.length cs us lv f k m p (G m p k))/\NY hA hB w7 wr
theorem TM.Bi{w:aG}{bT base n hA hB:Nat}{V:Nat->Nat->aJ}{len:Nat->Nat->Nat}{G:GT}(h:TM w bT base n hA hB V len G){p:fE}(h1:bT≠p.block)(h2:p.block<base)(u:aJ):TM (w.setCell p u) bT base n hA hB V len G:=
 ⟨h.row.Bi h1 u,fun i q hi hq=>Mt (h.own i q hi hq) (wH (zF w (az p.block)) (.inl rfl) u) (fun x e=>by have:=((h.own i q hi hq).lt x e).1;omega),h.apart,h.gap,h.lt⟩
theorem MR.step{w w7 wr w6:aG}{ns:List Nd}{cs:List Cb}{us:List Bool}{lv:List Int}{An Ac Au Al:Option fE}{cn cc cu cl bT base hA hB:Nat}{f:zA}{k m j g:Nat}{V:Nat->Nat->aJ}{G:GT}{c:Int}{v':aJ}(mb:MB w wr ns cs us lv An Ac Au Al cn cc cu cl bT base)(tm:TM wr bT base ns.length hA hB V (Ji k m j) G)(Dt:∀t,t<k->Col ns.length cs us lv G t)(hent:∀i p,i<m->p<2->NG ns.length cs us lv f k i p (G i p k))(hph:∀p,p<j->NG ns.length cs us lv f k m p (G m p k))(aqW:NY hA hB w7 wr)(hm:m<ns.length)(hj:j<2)(hg:j+1+g=2)(hc:NG ns.length cs us lv f k m j c)(hB7:hB<=w7.heap.size)(hTA:bT<hA)(o:w6.ownsRow base 3 1 v' (k+1) ((Jt G m j k).flatMap cI++[ah ag c]))(hgr:(wr.alloc (af #[ah ag c] 3)).drew.grownBy w6 (V m j).ownBlock)(hv:v'.ownBlock=(V m j).ownBlock\/v'.ownBlock=az (wr.heap.size+1)):MR w w7 ns cs us lv An Ac Au Al cn cc cu cl bT base hA hB f k m g (ah ag ((j+1:Nat):Int)) (w6.setCell ⟨bT,m*2+j,aj⟩ v'):=by
 have gs:=aqW.1;have ba:aO wr.heap.size wr (wr.alloc (af #[ah ag c] 3)):=(aS _ _).alloc (aC _) _;have tm1:=(tm.below ba).drew;have e:=Uc k m j;have tm2:=tm1.push hm hj (v':=v') (x:=c) (w':=w6) (by show hB<=(wr.alloc _).heap.size;simp;omega) (by rw[e];exact o) hgr (by rcases hv with h|h;exact .inl h;right;rw[h];show _=az (wr.alloc _).heap.size;simp);rw[e]at tm2;refine⟨j+1,_,_,hg,rfl,((mb.below ba).drew.grown hgr (tm1.afO hm hj)).acH _ _,tm2.congr (fun i p _ _=>abZ k m j i p),fun t ht=>(Dt t ht).upd c (by omega),fun i p hi hp=>?_,fun p hp=>?_,?_⟩
 ·rw[Ao G c (by omega)];exact hent i p hi hp
 ·by_cases e2:p=j
  ·rw[e2,SK];exact hc
  ·rw[Ao G c (by omega)];exact hph p (by omega)
 ·have g1:NY hA hB w7 (wr.alloc (af #[ah ag c] 3)).drew:=(aqW.below hB7 ba).drew;exact(g1.grown hB7 hgr (tm1.gap m j hm hj)).setCell (by show bT<hA;exact hTA) _
theorem afu(ns:List Nd)(cs:List Cb)(us:List Bool)(lv:List Int)(An Ac Au Al:Option fE)(cn cc cu cl:Nat)(w:aG)(hv:fQ ⟨ns,cs⟩=0)(Od:oH ⟨ns,cs⟩ lv=true)(Bn:us.length=cs.length)(zB:lv.length=ns.length)(sN:QJ ⟨ns,cs⟩)(hwl:WfI lv)(h:jB w An Ac ⟨ns,cs⟩)(h2:gH 1 cB false w Au us.length us)(h3:gH 1 cI 0 w Al lv.length lv):Calls aH 89 #[.agg #[ay An ns.length cn,ay Ac cs.length cc],.agg #[ay Al lv.length cl],ay Au us.length cu] w (UE ns.length cs us lv w):=by
 obtain⟨n16,Ll⟩:=nV hv;obtain⟨w1,gK⟩:∃w1:aG,(((w.alloc (af #[ay An ns.length cn,ay Ac cs.length cc] 25)).alloc (af #[ay Al lv.length cl] 169)).alloc (af #[ay Au us.length cu] 52)).alloc (af #[ay aj 0 0] 173)=w1:=⟨_,rfl⟩;have BW:aZ (aO w.heap.size w w1):=by rw[<-gK];exact((((aS _ _).alloc (aC _) _).alloc (by simp) _).alloc (by simp;omega) _).alloc (by simp;omega) _
 have P3:aZ (dG w1 w.heap.size 25 #[ay An ns.length cn,ay Ac cs.length cc]):=by rw[<-gK];exact(((dG.new w 25 #[ay An ns.length cn,ay Ac cs.length cc]).alloc _).alloc _).alloc _
 have P4:aZ (dG w1 (w.heap.size+1) 169 #[ay Al lv.length cl]):=by rw[<-gK];have:=((dG.new (w.alloc (af #[ay An ns.length cn,ay Ac cs.length cc] 25)) 169 #[ay Al lv.length cl]).alloc (af #[ay Au us.length cu] 52)).alloc (af #[ay aj 0 0] 173);rw[aZ];simpa using this
 have P5:aZ (dG w1 (w.heap.size+1+1) 52 #[ay Au us.length cu]):=by rw[<-gK];have:=(dG.new ((w.alloc (af #[ay An ns.length cn,ay Ac cs.length cc] 25)).alloc (af #[ay Al lv.length cl] 169)) 52 #[ay Au us.length cu]).alloc (af #[ay aj 0 0] 173);rw[aZ];simpa using this
 have P6:aZ (dG w1 (w.heap.size+1+1+1) 173 #[ay aj 0 0]):=by rw[<-gK];have:=dG.new (((w.alloc (af #[ay An ns.length cn,ay Ac cs.length cc] 25)).alloc (af #[ay Al lv.length cl] 169)).alloc (af #[ay Au us.length cu] 52)) 173 #[ay aj 0 0];rw[aZ];simpa using this
 have HP:=aA h;have HU:=aA h2;have HL:=aA h3;have HV:=aA hv;have HOB:=aA Od;have UB:=aA Bn;have JC:=aA zB;have HWF:=aA sN;have HWL:=aA hwl;have nJ:((us.length:Int)!=(cs.length:Int))=false:=by simp[Bn]
 have HO:=GJ ⟨ns,cs⟩ lv An Ac Al cn cc cl w1 (by show ns.length<=_;omega) (by show cs.length<=_;omega) sN (by omega) hwl (h.below (aC _) BW.o) (h3.below (aC _) BW.o);rw[Od]at HO;have HOO:=aA HO;have Bv:=aA gK;obtain⟨iA,hiA,hzA,ark,arl⟩:=info_parts Sc;obtain⟨iI,aqY,aro,ajG,ajH⟩:=info_parts Du;have HIi:=aA aqY;have HIz:=aA aro;have aoN:=aA ajG;have aoO:=aA ajH;clear aqY aro ajG ajH;clear hv Od Bn zB sN hwl h h2 h3 HO gK;go_enter func89,ntmps89;go_wp2_with fail;rw[Bv.o];refine HOO.o.mono ?_;rintro e w2 ⟨rfl,gB⟩;have P32:=aA (P3.o.below gB P3.o.lt);have UF:=aA (P4.o.below gB P4.o.lt);have UG:=aA (P5.o.below gB P5.o.lt);have P62:=aA (P6.o.below gB P6.o.lt);have c30:w2.cell? ⟨w.heap.size,0,aj⟩=az (ay An ns.length cn):=by rw[P32.o.cell];rfl
 have c31:w2.cell? ⟨w.heap.size,1,aj⟩=az (ay Ac cs.length cc):=by rw[P32.o.cell];rfl
 have c50:=UG.o.one.1;have l3:=P32.o.lt;have l6:=P62.o.lt;have JB:aZ (aO w.heap.size w w2):=BW.o.trans (gB.mono BW.o.size);obtain⟨o4,Sb⟩:∃o4,af (madeCells #[ay aj 0 0,ay aj 0 0] (ns.length*2)) 176=o4:=⟨_,rfl⟩;obtain⟨bT,hbT⟩:∃bT,w2.heap.size=bT:=⟨_,rfl⟩;obtain⟨w4,Ir⟩:∃w4:aG,(w2.alloc o4).alloc (af #[ay (az ⟨w2.heap.size,0,aj⟩) ns.length ns.length] 173)=w4:=⟨_,rfl⟩;have SZ4:aZ (w4.heap.size=bT+2):=by rw[<-Ir,<-hbT];simp[aZ]
 have ST:aZ (adQ w ns cs us lv An Ac Au Al cn cc cu cl bT (bT+2) ns.length (ah ag 0) w4):=by
  refine⟨0,fun _ _=>ay aj 0 0,fun _ _ _=>0,by omega,rfl,?_,?_,fun t ht=>by omega⟩
  ·rw[<-Ir];have p8:=dG.new (w2.alloc o4) 173 #[ay (az ⟨w2.heap.size,0,aj⟩) ns.length ns.length];rw[World.size_alloc,hbT]at p8;refine⟨(P32.o.alloc _).alloc _,(UF.o.alloc _).alloc _,(UG.o.alloc _).alloc _,(P62.o.alloc _).alloc _,?_,by omega,by omega,(JB.o.alloc JB.o.size _).alloc (by have:=JB.o.size;simp;omega) _⟩;rw[hbT];exact p8
  ·rw[<-Ir,<-Sb];have hr:=qU.made w2 (m:=2) (n:=ns.length) (t:=176) (z:=#[ay aj 0 0,ay aj 0 0]) rfl (by decide);rw[hbT]at hr;exact⟨hr.alloc _,fun _ _ _ _=>World.ownsRow_nil _ _ _ _,fun _ _ _ _ _ _ _ _ _ g hg=>by simp[eO]at hg,fun _ _ _ _ g hg=>by simp[eO]at hg,by omega⟩
 have HW4:=aA Ir;have HO4:=aA Sb;have HBT:=aA hbT;clear Ir Sb hbT gB HOO Bv;go_wp2_with (at_make;refine kL _ rfl _ _ 94 rfl 176 iA _ 2 underlying94 hiA hzA ark .i64 .i64 _ _ ns.length rfl rfl ?m1 ?m2 (by rw[arl];omega) (by unfold maxLen;omega) ?_);case m1=>rfl
 case m2=>rfl
 rw[HO4.o,HW4.o,HBT.o];clear HO4 HW4 HBT hiA hzA ark arl P3 P4 P5 P6 P32 UF UG P62 c30 c31 c50 l3 l6 BW JB
 go_loopg [39] ns.length (fun g i wr=>adQ w ns cs us lv An Ac Au Al cn cc cu cl bT (bT+2) g i wr)
 case atStart=>exact ST.o
 case round=>
  clear ST SZ4;obtain⟨k,V,G,hkg,rfl,mb,tm,Dt⟩:=hrel;have MBH:=aA mb;have TMH:=aA tm;have akr:=aA Dt;have HKG:=aA hkg;have yH:k<=ns.length:=by omega
  clear tm Dt hkg;by_cases nH:k<ns.length
  ·have c30:wr.cell? ⟨w.heap.size,0,aj⟩=az (ay An ns.length cn):=by rw[mb.p3.cell];rfl
   have c31:wr.cell? ⟨w.heap.size,1,aj⟩=az (ay Ac cs.length cc):=(by rw[mb.p3.cell];rfl);have c40:=mb.p4.one.1;have c50:=mb.p5.one.1;have HD:=aA (acR ns cs us lv An Ac Au Al cn cc cu cl k wr HV.o HOB.o UB.o JC.o nH HWF.o HWL.o (HP.o.below (aC _) mb.gB) (HU.o.below (aC _) mb.gB) (HL.o.below (aC _) mb.gB));clear mb;go_wp2_with fail;refine HD.o.mono ?_;rintro e w5 ⟨f,v1,v2,hf,rfl,nR,uB,OU⟩;obtain⟨aR,cR,hv1,_,pR,gR⟩:=ic (d:=(0:Int)) rZ (by decide) nR;obtain⟨aF,cF,hv2,_,pF,gF⟩:=ic (d:=(0:Int)) rZ (by decide) uB;subst hv1;subst hv2;have FND:=aA hf;have PR:=aA pR;have PF:=aA pF;have GR:=aA gR;have GF:=aA gF;have MB5:=aA (MBH.o.below OU);have TM5:=aA (TMH.o.below OU);have s5:=OU.size;have BW5:=aA OU;obtain⟨w7,hw7⟩:∃w7:aG,(w5.alloc (af #[ay aR ns.length cR] 26)).alloc (af #[ay aF ns.length cF] 26)=w7:=⟨_,rfl⟩;have e30:w5.cell? ⟨w.heap.size,0,aj⟩=az (ay An ns.length cn):=(by rw[MB5.o.p3.cell];rfl);have l5:=MB5.o.p3.lt;have HW7:=aA hw7;clear hf pR pF gR gF nR uB OU c30 c31 c40 c50 HD hw7;go_wp2_with fail;rw[HW7.o];obtain⟨wo,rfl⟩:∃wo:aG,wo=wr:=⟨_,rfl⟩;have SZ7:aZ (w7.heap.size=w5.heap.size+2):=(by rw[aZ,<-HW7.o];simp);have B57:aZ (aO w5.heap.size w5 w7):=(by rw[<-HW7.o];exact((aS _ _).alloc (aC _) _).alloc (by simp) _);have B10:aZ (dG w7 w5.heap.size 26 #[ay aR ns.length cR]):=(by rw[<-HW7.o];exact(dG.new _ _ _).alloc _);have B11:aZ (dG w7 (w5.heap.size+1) 26 #[ay aF ns.length cF]):=(by rw[<-HW7.o];have:=dG.new (w5.alloc (af #[ay aR ns.length cR] 26)) 26 #[ay aF ns.length cF];rw[aZ];simpa using this);have HCE:aZ (∀wx,MB w wx ns cs us lv An Ac Au Al cn cc cu cl bT (bT+2)->NY wo.heap.size (w5.heap.size+2) w7 wx->CE wx ns cs us lv (xL ns.length f false) (xL ns.length f true) An Ac Au Al aR aF cn cc cu cl cR cF w.heap.size (w.heap.size+1) (w.heap.size+1+1) w5.heap.size (w5.heap.size+1)):=fun wx QY gx=>by
    have lt_:∀{a:Option fE} {l:List Int},gH 1 cI 0 w5 a ns.length l->∀x,a=az x->x.block<w5.heap.size+2:=fun hr x hx=>(by obtain⟨b,off,e,tL,_⟩:=hr.2 (by omega);rw[hx]at e;injection e with e;rw[e];show b<_;omega);exact⟨QY.p3,QY.p4,QY.p5,gx.JF B10.o s5 (by omega),gx.JF B11.o (by omega) (by omega),HP.o.below (aC _) QY.gB,HU.o.below (aC _) QY.gB,HL.o.below (aC _) QY.gB,
     gx.isRec (PR.o.below (aC _) B57.o) (fun x hx=>⟨GR.o x hx,lt_ PR.o x hx⟩),gx.isRec (PF.o.below (aC _) B57.o) (fun x hx=>⟨GF.o x hx,lt_ PF.o x hx⟩)⟩
   have auV:aZ (aO wo.heap.size wo w7):=BW5.o.trans (B57.o.mono s5);have ST:aZ (adP w w7 ns cs us lv An Ac Au Al cn cc cu cl bT (bT+2) wo.heap.size (w5.heap.size+2) f k ns.length (ah ag 0) w7):=(by refine⟨0,V,G,by omega,rfl,MB5.o.below B57.o,?_,akr.out,fun i p hi=>by omega,NY.refl _ _ _⟩;have h1:=(((TMH.o.akb (hA':=wo.heap.size) (hB':=w5.heap.size+2) (fun g hg=>.inl hg)).below (auV.out)));exact h1.congr (fun i p _ _=>(YA k i p).symm));have TLT:aZ (bT+1<wo.heap.size):=MBH.o.p8.lt;clear HW7 B57 B10 B11 e30 MB5 TM5 TMH akr MBH
   go_loopg [59] ns.length (fun g i wr'=>adP w w7 ns cs us lv An Ac Au Al cn cc cu cl bT (bT+2) wo.heap.size (w5.heap.size+2) f k g i wr')
   case atStart=>exact ST.o
   case round=>
    clear ST;obtain⟨m,V,G,hmg,rfl,mb,tm,Dt,hent,gap⟩:=hrel;have MBN:=aA mb;have TMN:=aA tm;have aks:=aA Dt;have aky:=aA hent;have akC:=aA gap;have HMG:=aA hmg;have hmn:m<=ns.length:=by omega
    have gsz:=gap.1;have sz7:=SZ7.o;have hbr:w5.heap.size+2<=wr.heap.size:=(by omega);have lT:=mb.lt1;have l0T:=mb.lt0;have lB:=mb.p8.lt;clear tm Dt hent hmg gsz sz7 gap;by_cases hmr:m<ns.length
    ·have CEN:=aA (HCE.o wr mb akC.out);have l3:=mb.p3.lt;clear mb;go_upto_if 65 with fail;go_cut []from 60 to 103 (fun wx=>OA ns.length cs us lv f k m wr.heap.size wr wx);case first=>
      by_cases hmk:m=k
      ·have F:aZ (OA ns.length cs us lv f k m wr.heap.size wr (wr.alloc (af #[ah ag (-2),ah ag (-2)] 73))):=
        ⟨-2,-2,dG.new _ _ _,.inl ⟨hmk,rfl⟩,.inl ⟨hmk,rfl⟩,(aS _ _).alloc (aC _) _⟩
       have ahM:(m:Int)=(k:Int):=(by omega);clear hmk;go_wp2_with fail;go_meet;case rel=>exact F.o
      ·obtain⟨wb,Og⟩:∃wb:aG,wr.alloc (af #[ah ag (-2),ah ag (-2)] 73)=wb:=⟨_,rfl⟩;have NB:aZ (dG wb wr.heap.size 73 #[ah ag (-2),ah ag (-2)]):=by rw[<-Og];exact dG.new _ _ _
       have BB:aZ (aO wr.heap.size wr wb):=(by rw[<-Og];exact(aS _ _).alloc (aC _) _);have CEB:=CEN.o.below (aC _) BB.o;obtain⟨bR,oR,hAR,hbR,_,cR0⟩:=oD CEN.o.pR m hmr;obtain⟨bF,oF,hAF,hbF,_,cF0⟩:=oD CEN.o.pF m hmr;rw[Cz f false hmr]at cR0;rw[Cz f true hmr]at cF0;have bR1:=Vn FND.o (by omega) (m,false);have bF1:=Vn FND.o (by omega) (m,true);have HC1:aZ (∀W,aO wb.heap.size wb W->Calls aH 116 #[ah ag (m:Int),ah ag (dI (f (m,false))),.bool true,au (az ⟨w.heap.size,0,aj⟩),au (az ⟨w.heap.size+1+1,0,aj⟩),au (az ⟨w.heap.size+1,0,aj⟩),au (az ⟨w5.heap.size,0,aj⟩),au (az ⟨w5.heap.size+1,0,aj⟩)] W (zJ cs us lv (xL ns.length f false) (xL ns.length f true) m (dI (f (m,false))) true W)):=fun W hW=>
        Pb ns cs us lv (xL ns.length f false) (xL ns.length f true) An Ac Au Al aR aF cn cc cu cl cR cF w.heap.size (w.heap.size+1) (w.heap.size+1+1) w5.heap.size (w5.heap.size+1) m _ true W HV.o UB.o JC.o hmr bR1.1 (by omega) (CEB.below (aC _) hW)
       have HC2:aZ (∀W,aO wb.heap.size wb W->Calls aH 116 #[ah ag (m:Int),ah ag (dI (f (m,true))),.bool false,au (az ⟨w.heap.size,0,aj⟩),au (az ⟨w.heap.size+1+1,0,aj⟩),au (az ⟨w.heap.size+1,0,aj⟩),au (az ⟨w5.heap.size,0,aj⟩),au (az ⟨w5.heap.size+1,0,aj⟩)] W (zJ cs us lv (xL ns.length f false) (xL ns.length f true) m (dI (f (m,true))) false W)):=fun W hW=>
        Pb ns cs us lv (xL ns.length f false) (xL ns.length f true) An Ac Au Al aR aF cn cc cu cl cR cF w.heap.size (w.heap.size+1) (w.heap.size+1+1) w5.heap.size (w5.heap.size+1) m _ false W HV.o UB.o JC.o hmr bF1.1 (by omega) (CEB.below (aC _) hW)
       subst hAR;subst hAF;have t10:=CEN.o.p10.one.1;have t11:=CEN.o.p11.one.1;have q10:=CEN.o.p10.lt;have q11:=CEN.o.p11.lt;have agN:aZ (∀W c0 c1,aO wb.heap.size wb W->Te cs us lv (xL ns.length f false) (xL ns.length f true) m (dI (f (m,false))) true c0->Te cs us lv (xL ns.length f false) (xL ns.length f true) m (dI (f (m,true))) false c1->OA ns.length cs us lv f k m wr.heap.size wr ((W.setCell ⟨wr.heap.size,0,aj⟩ (ah ag c0)).setCell ⟨wr.heap.size,1,aj⟩ (ah ag c1))):=fun W c0 c1 hW h0 h1=>by have nb:=((NB.o.below hW NB.o.lt).jy 0 (ah ag c0)).jy 1 (ah ag c1);have be:aO wr.heap.size wr W:=BB.o.trans (hW.mono BB.o.size);refine⟨c0,c1,nb,.inr ⟨hmk,h0⟩,.inr ⟨hmk,h1⟩,?_⟩;exact(be.setCell (aC _) _).setCell (aC _) _
       have NBF:aZ (∀W,aO wb.heap.size wb W->W.cell? ⟨wr.heap.size,0,aj⟩=az (ah ag (-2))/\W.cell? ⟨wr.heap.size,1,aj⟩=az (ah ag (-2))/\W.frozen? ⟨wr.heap.size,0,aj⟩=false/\W.frozen? ⟨wr.heap.size,1,aj⟩=false):=fun W hW=>(by have nb:=NB.o.below hW NB.o.lt;exact⟨by rw[nb.cell];rfl,by rw[nb.cell];rfl,nb.frozen 0,nb.frozen 1⟩);obtain⟨xR,hxR⟩:∃x,dI (f (m,false))=x:=⟨_,rfl⟩;obtain⟨xF,hxF⟩:∃x,dI (f (m,true))=x:=⟨_,rfl⟩;rw[hxR]at cR0 HC1 agN;rw[hxF]at cF0 HC2 agN;have KP:aZ (∀W,aO wr.heap.size wr W->W.cell? ⟨w5.heap.size,0,aj⟩=az (ay (az ⟨bR,oR,aj⟩) ns.length cR)/\W.cell? ⟨bR,oR+m,aj⟩=az (ah ag xR)/\W.cell? ⟨w5.heap.size+1,0,aj⟩=az (ay (az ⟨bF,oF,aj⟩) ns.length cF)/\W.cell? ⟨bF,oF+m,aj⟩=az (ah ag xF)):=fun W hW=>
        ⟨(hW.cell (by exact q10)).trans t10,(hW.cell (by exact hbR)).trans cR0,(hW.cell (by exact q11)).trans t11,(hW.cell (by exact hbF)).trans cF0⟩
       have TRB:aZ (∀W,aO wb.heap.size wb W->aO wr.heap.size wr W):=fun W hW=>BB.o.trans (hW.mono BB.o.size);have STB:aZ (∀W u v,aO wb.heap.size wb W->aO wr.heap.size wr ((W.setCell ⟨wr.heap.size,0,aj⟩ u).setCell ⟨wr.heap.size,1,aj⟩ v)):=fun W u v hW=>
        ((TRB.o W hW).setCell (aC _) _).setCell (aC _) _
       have ahM:¬(m:Int)=(k:Int):=(by omega);have mi:(m:Int)<(ns.length:Int):=(by omega);have HWB:=aA Og;clear hmk CEB hxR hxF Og bR1 bF1;go_wp2_with fail;rw[HWB.o];go_region_held3 (fun W=>W.cell? ⟨w5.heap.size,0,aj⟩=az (ay (az ⟨bR,oR,aj⟩) ns.length cR)/\W.cell? ⟨bR,oR+m,aj⟩=az (ah ag xR)/\W.cell? ⟨w5.heap.size+1,0,aj⟩=az (ay (az ⟨bF,oF,aj⟩) ns.length cF)/\W.cell? ⟨bF,oF+m,aj⟩=az (ah ag xF))
        (first|exact KP.o _ (BB.o.drew)|exact KP.o _ (TRB.o _ BT.o)|exact KP.o _ (TRB.o _ BF.o)|exact KP.o _ (STB.o _ _ _ BT.o)|exact KP.o _ (STB.o _ _ _ BF.o))
        (first
         |((with_reducible refine(HC1.o _ BF.o).mono ?_);rintro e wt ⟨c0,rfl,hc0,aet⟩;have BT:aZ (aO wb.heap.size wb wt):=BF.o.trans (aet.mono BF.o.size);have EC0:=aA hc0;obtain⟨x0,x1,x2,x3⟩:=NBF.o _ BT.o;clear aet hc0)
         |((with_reducible refine(HC1.o _ ((aS _ _).drew)).mono ?_);rintro e wt ⟨c0,rfl,hc0,aet⟩;have BT:aZ (aO wb.heap.size wb wt):=((aS _ _).drew).trans aet;have EC0:=aA hc0;obtain⟨x0,x1,x2,x3⟩:=NBF.o _ BT.o;clear aet hc0)
         |((with_reducible refine(HC2.o _ BT.o).mono ?_);rintro e wf ⟨c1,rfl,hc1,aes⟩;have BF:aZ (aO wb.heap.size wb wf):=BT.o.trans (aes.mono BT.o.size);have EC1:=aA hc1;obtain⟨y0,y1,y2,y3⟩:=NBF.o _ BF.o;clear aes hc1)
         |((with_reducible refine(HC2.o _ ((aS _ _).drew)).mono ?_);rintro e wf ⟨c1,rfl,hc1,aes⟩;have BF:aZ (aO wb.heap.size wb wf):=((aS _ _).drew).trans aes;have EC1:=aA hc1;obtain⟨y0,y1,y2,y3⟩:=NBF.o _ BF.o;clear aes hc1))
       all_goals
        have F1:=aA (agN.out _ _ _ BF.o EC0.o EC1.o);have F2:=aA (agN.out _ _ _ BT.o EC0.o EC1.o);go_wp2_with fail;go_meet;case rel=>first|exact F1.o|exact F2.o
     case rest=>
      obtain⟨c0,c1,bnx,aqB,aqC,ahp⟩:=hcut;have n0:wc.cell? ⟨wr.heap.size,0,aj⟩=az (ah ag c0):=(by rw[bnx.cell];rfl);have n1:wc.cell? ⟨wr.heap.size,1,aj⟩=az (ah ag c1):=(by rw[bnx.cell];rfl);have avf:=aA aqB;have avg:=aA aqC;have szT:bT<wo.heap.size:=(by have h1:=TLT.o;omega);have ST:aZ (MR w w7 ns cs us lv An Ac Au Al cn cc cu cl bT (bT+2) wo.heap.size (w5.heap.size+2) f k m 2 (ah ag 0) wc):=
       ⟨0,V,G,rfl,rfl,MBN.o.below ahp,TMN.o.below ahp,aks.out,aky.out,fun p hp=>by omega,akC.out.below (by have:=SZ7.o;omega) ahp⟩
      have i0:∀w,(xY 73 (.agg #[ah ag c0,ah ag c1]) (ah ag 0)).run aH w=.ok (ah ag c0) w:=fun _=>(by kernel_rfl);have i1:∀w,(xY 73 (.agg #[ah ag c0,ah ag c1]) (ah ag 1)).run aH w=.ok (ah ag c1) w:=fun _=>(by kernel_rfl);clear aqB aqC bnx ahp MBN TMN aks aky akC CEN;go_wp2_with fail;clear n0 n1
      go_loopg [82] 2 (fun g i wr'=>MR w w7 ns cs us lv An Ac Au Al cn cc cu cl bT (bT+2) wo.heap.size (w5.heap.size+2) f k m g i wr')
      case atStart=>exact ST.o
      case round=>
       clear ST;obtain⟨j,V,G,hjg,rfl,mb,tm,Dt,hent,hph,gap⟩:=hrel;have MBP:=aA mb;have TMP:=aA tm;have akt:=aA Dt;have akz:=aA hent;have PHP:=aA hph;have akD:=aA gap;have HJG:=aA hjg;have c8:=mb.p8.one.1;have l8:=mb.p8.lt;have lbT:bT<wr.heap.size:=by omega
       have hj':j=0\/j=1\/j=2:=(by omega);clear Dt hent hph gap hjg;rcases hj' with xQ|xQ|xQ
       ·subst xQ;have cv:=tm.cell hmr (show 0<2 by omega);have fv:wr.frozen? ⟨bT,m*2+0,aj⟩=false:=tm.row.frozen _;rw[Nat.add_zero]at cv fv;have OWJ:=aA (tm.own m 0 hmr (by omega));rw[Uc]at OWJ;have Gj:aZ (∀w6 v',w6.ownsRow (bT+2) 3 1 v' (k+1) ((Jt G m 0 k).flatMap cI++[ah ag c0])->(wr.alloc (af #[ah ag c0] 3)).drew.grownBy w6 (V m 0).ownBlock->(v'.ownBlock=(V m 0).ownBlock\/v'.ownBlock=az (wr.heap.size+1))->
         MR w w7 ns cs us lv An Ac Au Al cn cc cu cl bT (bT+2) wo.heap.size (w5.heap.size+2) f k m 1 (ah ag ((0+1:Nat):Int)) (w6.setCell ⟨bT,m*2,aj⟩ v')):=fun w6 v' h1 h2 h3=>
         MR.step MBP.o TMP.o akt.out akz.out PHP.o akD.out hmr (by omega) rfl avf.out (by have:=SZ7.o;omega) szT h1 h2 h3
        have RLT:aZ (∀q,(V m 0).ownBlock=az q->bT+2<=q):=TMP.o.afO hmr (by omega);have GRW:aZ (∀w6 row,(wr.alloc (af #[ah ag c0] 3)).drew.grownBy w6 row->(∀q,row=az q->bT+2<=q)->w6.cell? ⟨bT+1,0,aj⟩=az (ay (az ⟨bT,0,aj⟩) ns.length ns.length)/\w6.cell? ⟨bT,m*2,aj⟩=az (V m 0)/\w6.frozen? ⟨bT,m*2,aj⟩=false):=fun w6 row hg hr=>(by have ba:aO wr.heap.size wr (wr.alloc (af #[ah ag c0] 3)):=(aS _ _).alloc (aC _) _;have tr:=((TMP.o.below ba).drew.row).grown hg (fun e=>by have:=hr _ e.symm;omega);have mr:=((MBP.o.below ba).drew).grown hg hr;refine⟨mr.p8.one.1,?_,tr.frozen _⟩;have:=tr.cell hmr (show 0<2 by omega);simpa using this);obtain⟨v,hv⟩:∃v,V m 0=v:=⟨_,rfl⟩;rw[hv]at cv OWJ Gj RLT GRW;have mi:(m:Int)<(ns.length:Int):=(by omega);clear mb tm hv;go_wp2_with fail;have hiI:=HIi.o;have hzI:=HIz.o;have aeW:=aoN.out;have aeX:=aoO.out
        go_region_law (refine gy _ (by rfl) (.tmp 96) (.tmp 98) 26 (by rfl) (bT+2) 3 iI _ 1 8 underlying26 hiI hzI aeW aeX rfl (by decide) _ _ _ (by rfl) ((OWJ.o.alloc _).drew) (wr.heap.size+1) (az ⟨wr.heap.size,0,aj⟩) 1 1 [ah ag c0] (by rfl) (Su wr 3 #[ah ag c0] rfl) ?_ ?_ ?_ ?_ ?_;(intro u hu;simp at hu;subst hu;rfl);(unfold maxLen;omega);omega;(simp;omega);intro v' w6 Jo gr6 Qb;obtain⟨b6,q6,hv6⟩:=Nj (by omega) Jo;rw[hv6];obtain⟨d8,dv,dfv⟩:=GRW.o _ _ gr6 RLT.o)
        all_goals
         have R:=aA (Gj.o _ _ Jo gr6 (by simpa using Qb));rw[hv6]at R;clear Jo gr6 Qb d8 dv dfv cv fv hiI hzI aeW aeX hv6;go_wp2_with fail
         go_roundg 1
         case rel=>exact R.o
         case measure=>have:=HJG.o;omega
       ·subst xQ;have cv:=tm.cell hmr (show 1<2 by omega);have fv:wr.frozen? ⟨bT,m*2+1,aj⟩=false:=tm.row.frozen _;have OWJ:=aA (tm.own m 1 hmr (by omega));rw[Uc]at OWJ;have Gj:aZ (∀w6 v',w6.ownsRow (bT+2) 3 1 v' (k+1) ((Jt G m 1 k).flatMap cI++[ah ag c1])->(wr.alloc (af #[ah ag c1] 3)).drew.grownBy w6 (V m 1).ownBlock->(v'.ownBlock=(V m 1).ownBlock\/v'.ownBlock=az (wr.heap.size+1))->
         MR w w7 ns cs us lv An Ac Au Al cn cc cu cl bT (bT+2) wo.heap.size (w5.heap.size+2) f k m 0 (ah ag ((1+1:Nat):Int)) (w6.setCell ⟨bT,m*2+1,aj⟩ v')):=fun w6 v' h1 h2 h3=>
         MR.step MBP.o TMP.o akt.out akz.out PHP.o akD.out hmr (by omega) rfl avg.out (by have:=SZ7.o;omega) szT h1 h2 h3
        have RLT:aZ (∀q,(V m 1).ownBlock=az q->bT+2<=q):=TMP.o.afO hmr (by omega);have GRW:aZ (∀w6 row,(wr.alloc (af #[ah ag c1] 3)).drew.grownBy w6 row->(∀q,row=az q->bT+2<=q)->w6.cell? ⟨bT+1,0,aj⟩=az (ay (az ⟨bT,0,aj⟩) ns.length ns.length)/\w6.cell? ⟨bT,m*2+1,aj⟩=az (V m 1)/\w6.frozen? ⟨bT,m*2+1,aj⟩=false):=fun w6 row hg hr=>(by have ba:aO wr.heap.size wr (wr.alloc (af #[ah ag c1] 3)):=(aS _ _).alloc (aC _) _;have tr:=((TMP.o.below ba).drew.row).grown hg (fun e=>by have:=hr _ e.symm;omega);have mr:=((MBP.o.below ba).drew).grown hg hr;refine⟨mr.p8.one.1,?_,tr.frozen _⟩;have:=tr.cell hmr (show 1<2 by omega);simpa using this);obtain⟨v,hv⟩:∃v,V m 1=v:=⟨_,rfl⟩;rw[hv]at cv OWJ Gj RLT GRW;have mi:(m:Int)<(ns.length:Int):=(by omega);clear mb tm hv;go_wp2_with fail;have hiI:=HIi.o;have hzI:=HIz.o;have aeW:=aoN.out;have aeX:=aoO.out
        go_region_law (refine gy _ (by rfl) (.tmp 96) (.tmp 98) 26 (by rfl) (bT+2) 3 iI _ 1 8 underlying26 hiI hzI aeW aeX rfl (by decide) _ _ _ (by rfl) ((OWJ.o.alloc _).drew) (wr.heap.size+1) (az ⟨wr.heap.size,0,aj⟩) 1 1 [ah ag c1] (by rfl) (Su wr 3 #[ah ag c1] rfl) ?_ ?_ ?_ ?_ ?_;(intro u hu;simp at hu;subst hu;rfl);(unfold maxLen;omega);omega;(simp;omega);intro v' w6 Jo gr6 Qb;obtain⟨b6,q6,hv6⟩:=Nj (by omega) Jo;rw[hv6];obtain⟨d8,dv,dfv⟩:=GRW.o _ _ gr6 RLT.o)
        all_goals
         have R:=aA (Gj.o _ _ Jo gr6 (by simpa using Qb));rw[hv6]at R;clear Jo gr6 Qb d8 dv dfv cv fv hiI hzI aeW aeX hv6;go_wp2_with fail
         go_roundg 0
         case rel=>exact R.o
         case measure=>have:=HJG.o;omega
       ·subst xQ;have R:aZ (adP w w7 ns cs us lv An Ac Au Al cn cc cu cl bT (bT+2) wo.heap.size (w5.heap.size+2) f k (ns.length-(m+1)) (ah ag ((m+1:Nat):Int)) wr):=by
         refine⟨m+1,V,G,by omega,rfl,MBP.o,TMP.o.congr (fun i p _ hp=>abY k m i p hp),akt.out,fun i p hi hp=>?_,akD.out⟩;by_cases e:i=m
         ·rw[e];exact PHP.o p (by omega)
         ·exact akz.out i p (by omega) hp
        clear mb tm;go_wp2_with fail
        go_roundg (ns.length-(m+1))
        case rel=>exact R.o
        case measure=>have:=HMG.o;omega
    ·obtain rfl:m=ns.length:=by omega
     have R:aZ (adQ w ns cs us lv An Ac Au Al cn cc cu cl bT (bT+2) (ns.length-(k+1)) (ah ag ((k+1:Nat):Int)) wr):=by
      refine⟨k+1,V,G,by omega,rfl,mb,?_,fun t ht=>?_⟩
      ·have h1:=(TMN.o.congr (len':=fun _ _=>k+1) (fun i p hi _=>afl k ns.length i p hi));exact h1.akb (fun g _=>.inr (Nat.zero_le _))
      ·by_cases e:t=k
       ·rw[e];exact⟨f,FND.o,fun i p hi hp=>aky.out i p hi hp⟩
       ·exact aks.out t (by omega)
     clear mb;go_wp2_with fail
     go_roundg (ns.length-(k+1))
     case rel=>exact R.o
     case measure=>have:=HKG.o;omega
  ·obtain rfl:k=ns.length:=by omega
   have c8:=mb.p8.one.1;have c6:=mb.p6.one.1;have f6:=mb.p6.one.2;have F:aZ (UE ns.length cs us lv w (ax (.tuple #[.agg #[ay (az ⟨bT,0,aj⟩) ns.length ns.length],ah ag 0])) (wr.setCell ⟨w.heap.size+1+1+1,0,aj⟩ (ay (az ⟨bT,0,aj⟩) ns.length ns.length))):=(by have l0:=mb.lt0;exact⟨bT,bT+2,V,G,rfl,by omega,TMH.o.Bi (p:=⟨w.heap.size+1+1+1,0,aj⟩) (by show bT≠w.heap.size+1+1+1;omega) (by show w.heap.size+1+1+1<bT+2;omega) _,akr.out,mb.gB.setCell (by show w.heap.size<=w.heap.size+1+1+1;omega) _⟩);clear mb;go_wp2_with fail;refine bodyPost_ret (v:=.tuple #[.agg #[ay (az ⟨bT,0,aj⟩) ns.length ns.length],ah ag 0]) (by simp[results,Tryz.results89,go_sem,c6]) rfl ?_;exact F.o
end
section
theorem Gl{lv:List Int}{a b:Nat}:qL lv (a:Int) (b:Int)=true↔a<lv.length/\b<lv.length/\0<=lv.getD a 0/\0<=lv.getD b 0/\(lv.getD a 0<lv.getD b 0\/(lv.getD a 0=lv.getD b 0/\a<b)):=by
 unfold qL hasB Hq;simp only[Int.toNat_natCast,dD,decide_eq_true_eq];have h:orL [uH (lv.getD a 0) (lv.getD b 0),uH (a:Int) (b:Int)]<0↔(lv.getD a 0<lv.getD b 0\/(lv.getD a 0=lv.getD b 0/\a<b)):=by
  generalize lv.getD a 0=x;generalize lv.getD b 0=y;unfold orL uH;by_cases h1:x<y
  ·simp[h1]
  ·by_cases h2:y<x
   ·rw[if_neg h1,if_pos h2];simp;omega
   ·rw[if_neg h1,if_neg h2];simp only[ne_eq,not_true_eq_false,if_false];unfold orL orL;by_cases h3:(a:Int)<b
    ·rw[if_pos h3];simp;omega
    ·rw[if_neg h3];by_cases h4:(b:Int)<a
     ·rw[if_pos h4];simp;omega
     ·rw[if_neg h4];simp;omega
 rw[h];constructor
 ·rintro⟨⟨⟨⟨h1,h2⟩,h3⟩,⟨h4,h5⟩,h6⟩,h7⟩;exact⟨by omega,by omega,h3,h6,h7⟩
 ·rintro⟨h1,h2,h3,h4,h5⟩;exact⟨⟨⟨⟨by omega,by omega⟩,h3⟩,⟨by omega,by omega⟩,h4⟩,h5⟩
theorem Xp{lv:List Int}{a b:Nat}(h:qL lv (a:Int) (b:Int)=true):qL lv (b:Int) (a:Int)=false:=by
 cases h2:qL lv (b:Int) (a:Int)with
 |false=>rfl
 |true=>rw[Gl]at h h2;omega
theorem UR{lv:List Int}{a b:Nat}(ha:a<lv.length)(hb:b<lv.length)(la:0<=lv.getD a 0)(lb:0<=lv.getD b 0)(nJ:a≠b)(h:qL lv (a:Int) (b:Int)=false):qL lv (b:Int) (a:Int)=true:=by
 rw[Gl];refine⟨hb,ha,lb,la,?_⟩;have:¬(lv.getD a 0<lv.getD b 0\/(lv.getD a 0=lv.getD b 0/\a<b)):=fun h2=>by rw[Gl.2 ⟨ha,hb,la,lb,h2⟩]at h;cases h
 omega
structure Net(ns:List Nd)(cs:List Cb)(us:List Bool)(lv:List Int)(G:GT):Prop where
 valid:fQ ⟨ns,cs⟩=0
 ord:oH ⟨ns,cs⟩ lv=true
 col:∀t,t<ns.length->Col ns.length cs us lv G t
section
variable{ns:List Nd}{cs:List Cb}{us:List Bool}{lv:List Int}{G:GT}
theorem SV{ns:List Nd}{cs:List Cb}(h:fQ ⟨ns,cs⟩=0):∀y∈cs,y.a≠y.b:=fun y hy=>MJ h hy
theorem abw{R F:List Int}{u i:Nat}{left:Int}{mr:Bool}(hv:fQ ⟨ns,cs⟩=0)(hi:i<cs.length)(h:NQ cs us lv R F u left mr i=true):∃v:Nat,v<ns.length/\touch (cs.getD i gV) u v:=by
 have hm:cs.getD i gV∈cs:=by simp[bS,hi]
 obtain⟨⟨a0,a1⟩,b0,b1⟩:=Fy hv hm;unfold NQ at h;simp only[dD]at h;have h2:=h.1.1.2;unfold kX at h2;split at h2
 ·rename_i e;exact⟨(cs.getD i gV).b.toNat,by omega,.inl ⟨e.symm,by omega⟩⟩
 ·split at h2
  ·rename_i e;exact⟨(cs.getD i gV).a.toNat,by omega,.inr ⟨e.symm,by omega⟩⟩
  ·cases h2
end
theorem Tj.wf{n:Nat}{cs:List Cb}{root:Nat}{l:List Int}(h:Tj n cs root l)(hn:n<=1000000):WfI l:=by
 intro x hx;obtain⟨i,hi,rfl⟩:=List.mem_iff_getElem.1 hx;have e:l.getD i 0=l[i]:=by simp[bS,hi]
 have h1:=h.ge (j:=i) (by rw[<-h.len];exact hi);have h2:=h.lt (j:=i) (by rw[<-h.len];exact hi);rw[e]at h1 h2;exact pO _ (by omega) (by omega)
end
end Go.Proofs.YtnjjkgjdhljfnaaGreat
