/- Part 23. -/
import Derived.Test.YtnjjkgjdhljfnaaGreatPk21
import Derived.Test.YtnjjkgjdhljfnaaGreatPk22
open Go.Proofs.Tryz
open Array renaming getD_eq_getD_getElem?->jN,getElem?_setIfInBounds->iV,setIfInBounds->Gw
open Bool renaming and_eq_true->cZ,or_eq_true->iq
open Go renaming Calls->bZ,TypeId->dL,Value->aI,World->aG,info_parts->dX,madeCells->dS,maxLen->fB
open Go.Act renaming eval->Oo,put->qC
open Go.Callee renaming value->kv
open Go.Ending renaming returned->ax
open Go.IntKind renaming i64->ag
open Go.Lib renaming hid->aA
open Go.Obj renaming cells->af
open Go.Op renaming call->sP,makeMap->OA
open Go.Oper renaming wp->jK
open Go.Operand renaming func->kz,tmp->lh
open Go.Proofs.Tryz renaming prog->aH
open Go.Region renaming Mode->qV,ready->jc,wanted->eH
open Go.RowKit renaming Below->aN,Hid->aY,intOf->aJ
open Go.RowKit.Below renaming refl->aQ
open Go.Value renaming int->ah,ownBlock->dV,pointer->au,slice->ay
open Go.World renaming block_lt_of_cell?->aZ,ownsRow_nil->dM
open List renaming find?_cons->yu,getD->bJ,getElem?_map->cO,getElem?_range->dW,getElem?_toArray->di,length_append->bV,length_replicate->iH,map_append->eY,map_congr_left->fU,map_const'->rP,map_replicate->zx,mem_cons->dG,mem_range->dJ,mem_singleton->dz,not_mem_nil->dP,range->aO,range_succ->dB,replicate->aS,take_length->dY
open Nat renaming le_refl->aC,lt_of_lt_of_le->bW,not_lt_zero->yx,zero_le->bS
open Ne renaming symm->iy
open Option renaming none->aj,some->az
set_option maxRecDepth 100000
set_option maxHeartbeats 16000000
set_option linter.unusedVariables false
set_option linter.unusedSimpArgs false
namespace Go.Proofs.YtnjjkgjdhljfnaaGreat
open Go.RowKit Go.Maps
section
section
variable{Z dN:Own}{w w':aG}
theorem ku.Ii{t:dL}{T T':Tg->Prop}{v:aI}{n:Nat}{xs:List aI}(h:ku Z w t T v n xs)(hT:∀k,T (Z k)->T' (dN k)):ku dN w t T' v n xs:=by obtain⟨a,cap,e,h⟩:=h;refine⟨a,cap,e,fun h0=>?_⟩;obtain⟨g,C,e1,hb,ht,hx⟩:=h h0;exact⟨g,C,e1,hb,hT _ ht,hx⟩
theorem EO.Ii{ns:List Nd}{cs:List Cb}{vn vc:aI}(h:EO Z w ns cs vn vc)(hT:∀k,(Z k).1=1->(dN k).1=1):EO dN w ns cs vn vc:=by obtain⟨An,Ac,cn,cc,e1,e2,hp,h1,h2⟩:=h;exact⟨An,Ac,cn,cc,e1,e2,hp,fun p e=>⟨hT _ (h1 p e).1,(h1 p e).2⟩,fun p e=>⟨hT _ (h2 p e).1,(h2 p e).2⟩⟩
theorem iQ.Ii{x:List Int}{v:aI}(h:iQ Z w x v)(hT:∀k,(Z k).1=1->(dN k).1=1):iQ dN w x v:=by obtain⟨a,cap,e,h1,h2,h3⟩:=h;exact⟨a,cap,e,h1,fun h0 p hp=>⟨hT _ (h2 h0 p hp).1,(h2 h0 p hp).2⟩,h3⟩
theorem pO.Ii{o b:Nat}{X:Bx}{L:yM}(h:pO Z o w b X L)(hT:∀k,(Z k).1=1->(dN k).1=1)(ho:∀k,(Z k).1=o->dN k=Z k):pO dN o w b X L where
 root:=⟨h.root.1,by rw[ho _ (by rw[h.root.2])];exact h.root.2⟩
 qr:=fun p hp=>let a:=h.qr p hp;⟨a.1,by rw[ho _ (by rw[a.2])];exact a.2⟩
 q:=fun p c hp qg=>by obtain⟨⟨Q,q1,q2,q3⟩,a2⟩:=h.q p c hp qg;exact⟨⟨Q,q1,q2,fun x hx=>(q3 x hx).Ii hT⟩,fun g hg=>by rw[ho _ (by rw[a2 g hg])];exact a2 g hg⟩
 g:=fun p hp=>by obtain⟨g,h1,h2⟩:=h.g p hp;exact⟨g,h1,by rw[ho _ (by rw[h2])];exact h2⟩
 gg:=fun p c hp qg=>by obtain⟨h1,h2,h3⟩:=h.gg p c hp qg;exact⟨h1,by rw[ho _ (by rw[h2])];exact h2,by rw[ho _ (by rw[h3])];exact h3⟩
 t:=fun p hp=>by obtain⟨g,h1,h2⟩:=h.t p hp;exact⟨g,h1,by rw[ho _ (by rw[h2])];exact h2⟩
 tt:=fun p c hp qg=>by obtain⟨h1,h2,h3⟩:=h.tt p c hp qg;exact⟨h1,by rw[ho _ (by rw[h2])];exact h2,by rw[ho _ (by rw[h3])];exact h3⟩
 iU:=⟨h.iU.1,by rw[ho _ (by rw[h.iU.2])];exact h.iU.2⟩
end
structure Jz(Z:Own)(w:aG)(b:Nat)(ns:List Nd)(cs:List Cb)(aK:List Int)(L:rY)(kb kt kc:Nat)(C:Nat->Nat->Int)(ju jg:Nat):Prop where
 root:dh w b 100 (Bl (jM ns cs aK default) L)
 iP:Z b=(2,0,0,0)
 plan:EO Z w ns cs L.vn L.vc
 rm:ku Z w 3 never L.vr (aK++aK).length ((aK++aK).map fun x=>ah ag x)
 vt:w.ownsRow 0 26 1 L.vt kt ((aO kt).map L.row)/\∀g,L.vt.ownBlock=az g->Z g=(0,1,0,0)
 rows:∀i,i<kt->ku Z w 3 (fun t=>t=(0,2,i,0)) (L.row i) (fw (ns.getD i jk)) ((aO (fw (ns.getD i jk))).map fun p=>ah ag (C i p))
 vb:w.ownsRow 0 101 1 L.vb kb ((aO kb).map fun i=>pt (L.bx i))/\∀g,L.vb.ownBlock=az g->Z g=(0,3,0,0)
 bx:∀i,i<kb->pO Z (3+i) w (L.bx i) ((jM ns cs aK default).boxes.getD i default) (L.Hw i)
 vm:w.ownsRow 0 26 1 L.Uv kc ((aO kc).map L.cm)/\∀g,L.Uv.ownBlock=az g->Z g=(0,4,0,0)
 cm:∀i,i<kc->ku Z w 3 (PK 7 i) (L.cm i) (aK++aK).length (aS (aK++aK).length (ah ag 0))
 vu:w.ownsRow 0 4 1 L.vu ju (aS ju (.bool true))/\∀g,L.vu.ownBlock=az g->Z g=(2,1,0,0)
 vg:w.ownsRow 0 26 1 L.vg jg ((aO jg).map L.gn)/\∀g,L.vg.ownBlock=az g->Z g=(0,5,0,0)
 gn:∀i,i<jg->ku Z w 3 (PK 8 i) (L.gn i) (aK++aK).length (aS (aK++aK).length (ah ag 0))
 bk:Bk w L.bk 0 0 0/\Z L.bk=(2,2,0,0)
 mf:jo w aH 3 L.mf 0 (fun _=>aj)/\Z L.mf=(2,3,0,0)
 ml:jo w aH 3 L.ml 0 (fun _=>aj)/\Z L.ml=(2,5,0,0)
 vl:L.vl=ay aj 0 0
structure NwG(K:Tg->Prop)(Z:Own)(w:aG)(b:Nat)(ns:List Nd)(cs:List Cb)(aK:List Int)(L:rY)(kb kt kc:Nat)(C:Nat->Nat->Int)(ju jg:Nat):Prop where
 root:¬K (2,0,0,0)->dh w b 100 (Bl (jM ns cs aK default) L)
 iP:Z b=(2,0,0,0)
 plan:EO Z w ns cs L.vn L.vc
 rm:ku Z w 3 never L.vr (aK++aK).length ((aK++aK).map fun x=>ah ag x)
 vt:¬K (0,1,0,0)->w.ownsRow 0 26 1 L.vt kt ((aO kt).map L.row)/\∀g,L.vt.ownBlock=az g->Z g=(0,1,0,0)
 rows:∀i,i<kt->¬K (0,2,i,0)->ku Z w 3 (fun t=>t=(0,2,i,0)) (L.row i) (fw (ns.getD i jk)) ((aO (fw (ns.getD i jk))).map fun p=>ah ag (C i p))
 vb:¬K (0,3,0,0)->w.ownsRow 0 101 1 L.vb kb ((aO kb).map fun i=>pt (L.bx i))/\∀g,L.vb.ownBlock=az g->Z g=(0,3,0,0)
 bx:∀i,i<kb->pO Z (3+i) w (L.bx i) ((jM ns cs aK default).boxes.getD i default) (L.Hw i)
 vm:¬K (0,4,0,0)->w.ownsRow 0 26 1 L.Uv kc ((aO kc).map L.cm)/\∀g,L.Uv.ownBlock=az g->Z g=(0,4,0,0)
 cm:∀i,i<kc->¬K (2,7,i,0)->ku Z w 3 (PK 7 i) (L.cm i) (aK++aK).length (aS (aK++aK).length (ah ag 0))
 vu:¬K (2,1,0,0)->w.ownsRow 0 4 1 L.vu ju (aS ju (.bool true))/\∀g,L.vu.ownBlock=az g->Z g=(2,1,0,0)
 vg:¬K (0,5,0,0)->w.ownsRow 0 26 1 L.vg jg ((aO jg).map L.gn)/\∀g,L.vg.ownBlock=az g->Z g=(0,5,0,0)
 gn:∀i,i<jg->¬K (2,8,i,0)->ku Z w 3 (PK 8 i) (L.gn i) (aK++aK).length (aS (aK++aK).length (ah ag 0))
 bk:¬K (2,2,0,0)->Bk w L.bk 0 0 0/\Z L.bk=(2,2,0,0)
 mf:¬K (2,3,0,0)->jo w aH 3 L.mf 0 (fun _=>aj)/\Z L.mf=(2,3,0,0)
 ml:¬K (2,5,0,0)->jo w aH 3 L.ml 0 (fun _=>aj)/\Z L.ml=(2,5,0,0)
 vl:L.vl=ay aj 0 0
section
variable{Z dN:Own}{w w':aG}{b:Nat}{ns:List Nd}{cs:List Cb}{aK:List Int}{L:rY}{kb kt kc:Nat}{C:Nat->Nat->Int}{ju jg:Nat}
theorem Jz.Ra{S:Nat->Prop}(K:Tg->Prop)(h:Jz Z w b ns cs aK L kb kt kc C ju jg)(hc:Ch S w w')(he:∀k,k<w.heap.size->dN k=Z k)(hS:∀k,S k->K (Z k))(hK:∀t,K t->t.1=0\/t.1=2):NwG K dN w' b ns cs aK L kb kt kc C ju jg:=by
 have s1:∀k,S k->(Z k).1≠1:=fun k s=>by have:=hK _ (hS k s);omega
 have sb:∀k,S k->∀i,(Z k).1≠3+i:=fun k s i=>by have:=hK _ (hS k s);omega
 have s2:∀{g:Nat} {t:Tg},¬K t->Z g=t->¬S g:=fun{g t} hk e s=>hk (by rw[<-e];exact hS g s);have vec:∀{t:dL} {v:aI} {n:Nat} {xs:List aI} {tg:Tg},¬K tg->(w.ownsRow 0 t 1 v n xs/\∀g,v.ownBlock=az g->Z g=tg)->(w'.ownsRow 0 t 1 v n xs/\∀g,v.ownBlock=az g->dN g=tg):=fun hk ⟨a1,a2⟩=>
  ⟨fO a1 hc fun g hg=>s2 hk (a2 g hg),fun g hg=>by rw[he _ (a1.lt g hg).2];exact a2 g hg⟩
 exact{
  root:=fun hk=>h.root.ch hc (s2 hk h.iP)
  iP:=by rw[he _ h.root.lt];exact h.iP
  plan:=h.plan.jD hc he s1
  rm:=h.rm.jD hc he fun k s q=>s1 k s q
  vt:=fun hk=>vec hk h.vt
  rows:=fun i hi hk=>(h.rows i hi).jD hc he fun k s q=>s2 hk q s
  vb:=fun hk=>vec hk h.vb
  bx:=fun i hi=>(h.bx i hi).jD hc he fun k s=>⟨s1 k s,sb k s i⟩
  vm:=fun hk=>vec hk h.vm
  cm:=fun i hi hk=>(h.cm i hi).jD hc he fun k s q=>s2 hk q s
  vu:=fun hk=>vec hk h.vu
  vg:=fun hk=>vec hk h.vg
  gn:=fun i hi hk=>(h.gn i hi).jD hc he fun k s q=>s2 hk q s
  bk:=fun hk=>⟨dh.ch h.bk.1 hc (s2 hk h.bk.2),by rw[he _ (dh.lt h.bk.1)];exact h.bk.2⟩
  mf:=fun hk=>⟨ni h.mf.1 hc (s2 hk h.mf.2),by rw[he _ h.mf.1.Uu];exact h.mf.2⟩
  ml:=fun hk=>⟨ni h.ml.1 hc (s2 hk h.ml.2),by rw[he _ h.ml.1.Uu];exact h.ml.2⟩
  vl:=h.vl}
theorem NwG.all(h:NwG (fun _=>False) Z w b ns cs aK L kb kt kc C ju jg):Jz Z w b ns cs aK L kb kt kc C ju jg:=
 ⟨h.root id,h.iP,h.plan,h.rm,h.vt id,fun i hi=>h.rows i hi id,h.vb id,h.bx,h.vm id,fun i hi=>h.cm i hi id,h.vu id,h.vg id,fun i hi=>h.gn i hi id,h.bk id,h.mf id,h.ml id,h.vl⟩
structure WY(o:Nat)(Z:Own)(w:aG)(dN:Own)(w':aG):Prop where
 ch:Ch (fun k=>(Z k).1≠1) w w'
 ext:∀k,k<w.heap.size->dN k=Z k
 le:∀k,w.heap.size<=k->k<w'.heap.size->(dN k).1<=o
theorem WY.Kq{o:Nat}(h:Nx Z o w dN w')(ho:2<=o):WY o Z w dN w':=⟨h.ch.mono fun k _ s=>by have s:(Z k).1=o:=s;omega,h.ext,fun k h1 h2=>by have:=h.fresh k h1 h2;omega⟩
def nwT(Z:Own)(n:Nat)(N:Own):Own:=fun k=>if k<n then Z k else N k
theorem Ub{n k:Nat}{N:Own}(h:k<n):nwT Z n N k=Z k:=by unfold nwT;rw[if_pos h]
theorem Gl{n k:Nat}{N:Own}(h:n<=k):nwT Z n N k=N k:=by unfold nwT;rw[if_neg (by omega)]
theorem map_push{α:Type}(f:Nat->α)(n:Nat)(x:α):(aO n).map f++[x]=(aO (n+1)).map fun i=>if i=n then x else f i:=by
 rw[dB,eY];congr 1
 ·exact fU fun i hi=>by rw[if_neg (by have:=dJ.1 hi;omega)]
 ·simp
theorem Jz.zW(h:Jz Z w b ns cs aK L kb kt kc C ju jg){tv:Tg}(N:Own){V v:aI}{t:dL}{n:Nat}(o:Nat){xs:List aI}{w1 w2:aG}(hb:aN w.heap.size w w1)(hN:N w1.heap.size=tv)(hN2:∀k,(N k).1<=2)(hV:∀k,V.ownBlock=az k->Z k=tv/\k<w.heap.size)(gr:w1.grownBy w2 V.ownBlock)(own:w2.ownsRow 0 t 1 v n xs)(loc:v.ownBlock=V.ownBlock\/v.ownBlock=az w1.heap.size)(nQ:tv≠(2,0,0,0))(h1:tv.1=0\/tv.1=2):NwG (fun t=>t=(2,0,0,0)\/t=tv) (nwT Z w.heap.size N) (w2.setCell ⟨b,o,aj⟩ v) b ns cs aK L kb kt kc C ju jg/\WY 2 Z w (nwT Z w.heap.size N) (w2.setCell ⟨b,o,aj⟩ v)/\((w2.setCell ⟨b,o,aj⟩ v).ownsRow 0 t 1 v n xs/\∀g,v.ownBlock=az g->nwT Z w.heap.size N g=tv)/\dh (w2.setCell ⟨b,o,aj⟩ v) b 100 ((Bl (jM ns cs aK default) L).setIfInBounds o v)/\Ch (fun k=>k=b\/V.ownBlock=az k) w1 (w2.setCell ⟨b,o,aj⟩ v)/\Ch (fun k=>(Z k).1=0\/(Z k).1=2) w (w2.setCell ⟨b,o,aj⟩ v):=by
 have lb:=h.root.lt;have c1:Ch (fun k=>k=b\/V.ownBlock=az k) w1 w2:=(Ch.refl _ w1).grown gr fun g hg=>.inl (.inr hg);have c2:Ch (fun k=>k=b\/V.ownBlock=az k) w1 (w2.setCell ⟨b,o,aj⟩ v):=c1.setCell (p:=⟨b,o,aj⟩) (.inl (.inl rfl)) _;have c3:Ch (fun k=>k=b\/V.ownBlock=az k) w (w2.setCell ⟨b,o,aj⟩ v):=(Ch.bY hb).trans c2 fun i _ s=>s;have c4:Ch (fun k=>V.ownBlock=az k) w w2:=(Ch.bY (S:=fun k=>V.ownBlock=az k) hb).trans ((Ch.refl (fun k=>V.ownBlock=az k) w1).grown gr fun g hg=>.inl hg) fun i _ s=>s;have nbV:¬V.ownBlock=az b:=fun q=>nQ (by rw[<-(hV b q).1];exact h.iP);have hS:∀k,(k=b\/V.ownBlock=az k)->Z k=(2,0,0,0)\/Z k=tv:=fun k s=>by
  rcases s with s|s
  ·rw[s];exact .inl h.iP
  ·exact .inr (hV k s).1
 have tag:∀g,v.ownBlock=az g->nwT Z w.heap.size N g=tv/\g≠b:=fun g hg=>by
  rcases loc with q|q
  ·rw[q]at hg;exact⟨by rw[Ub (hV g hg).2];exact(hV g hg).1,fun e=>nbV (by rw[<-e];exact hg)⟩
  ·rw[q]at hg;injection hg with hg;subst hg;exact⟨by rw[Gl hb.size];exact hN,by have:=hb.size;omega⟩
 refine⟨h.Ra (fun t=>t=(2,0,0,0)\/t=tv) c3 (fun k hk=>Ub hk) hS fun t ht=>?_,⟨c3.mono fun k _ s=>?_,fun k hk=>Ub hk,fun k h1 _=>by rw[Gl h1];exact hN2 k⟩,⟨fO own ((Ch.refl (fun k=>k=b) w2).setCell (p:=⟨b,o,aj⟩) (.inl rfl) _) fun g hg s=>(tag g hg).2 s,fun g hg=>(tag g hg).1⟩,(h.root.ch c4 nbV).jd o v,c2,c3.mono fun k _ s=>?_⟩
 ·rcases ht with q|q
  ·rw[q];exact .inr rfl
  ·rw[q];exact h1
 ·rcases hS k s with q|q<;>(show(Z k).1≠1;rw[q];first|decide|omega)
 ·rcases hS k s with q|q
  ·rw[q];exact .inr rfl
  ·rw[q];exact h1
theorem Jz.alb(h:Jz Z w b ns cs aK L kb kt kc C ju jg){bX:Nat}{LX:yM}(hx:pO Z (3+kb) w bX ((jM ns cs aK default).boxes.getD kb default) LX){w1 w2:aG}{v:aI}(hb:aN w.heap.size w w1)(own:w2.ownsRow 0 101 1 v (kb+1) ((aO kb).map (fun i=>pt (L.bx i))++[pt bX]))(gr:w1.grownBy w2 L.vb.ownBlock)(loc:v.ownBlock=L.vb.ownBlock\/v.ownBlock=az w1.heap.size):∃dN,Jz dN (w2.setCell ⟨b,5,aj⟩ v) b ns cs aK {L with vb:=v,bx:=fun i=>if i=kb then bX else L.bx i,Hw:=fun i=>if i=kb then LX else L.Hw i} (kb+1) kt kc C ju jg/\WY 2 Z w dN (w2.setCell ⟨b,5,aj⟩ v):=by
 obtain⟨G,X,O,R,c,c5⟩:=h.zW (tv:=(0,3,0,0)) (fun _=>(0,3,0,0)) 5 hb rfl (fun _=>by simp) (fun k hk=>⟨h.vb.2 k hk,(h.vb.1.lt k hk).2⟩) gr own loc (by decide) (by decide);have hx':=hx.jD (dN:=nwT Z w.heap.size fun _=>(0,3,0,0)) c5 X.ext fun k s=>⟨by omega,by omega⟩;refine⟨_,⟨R,G.iP,G.plan,G.rm,G.vt (by decide),fun i hi=>G.rows i hi (by simp),⟨?_,O.2⟩,fun i hi=>?_,G.vm (by decide),fun i hi=>G.cm i hi (by simp),G.vu (by decide),G.vg (by decide),fun i hi=>G.gn i hi (by simp),G.bk (by decide),G.mf (by decide),G.ml (by decide),G.vl⟩,X⟩
 ·have:=O.1;rw[map_push]at this;refine Eq.mp (congrArg _ ?_) this;exact fU fun i _=>by show(if i=kb then pt bX else pt (L.bx i))=pt (if i=kb then bX else L.bx i);split<;>rfl
 ·show pO _ (3+i) _ (if i=kb then bX else L.bx i) _ (if i=kb then LX else L.Hw i);by_cases e:i=kb
  ·rw[if_pos e,if_pos e,e];exact hx'
  ·rw[if_neg e,if_neg e];exact G.bx i (by omega)
theorem row_in{S:Nat->Prop}{T:Tg->Prop}{n g cap:Nat}{cells:Array aI}{xs:List aI}{w1 w3:aG}{Dt:Own}(hr:dh w1 g 3 cells)(hx:∀i,i<xs.length->cells[i]?=xs[i]?)(hc:Ch S w1 w3)(hS:¬S g)(hT:T (Dt g)):ku Dt w3 3 T (ay (az ⟨g,0,aj⟩) n cap) n xs:=
 ⟨_,cap,rfl,fun _=>⟨g,cells,rfl,hr.ch hc hS,hT,hx⟩⟩
theorem Jz.alc(h:Jz Z w b ns cs aK L kb kt kc C ju jg){g cap:Nat}{cells:Array aI}{w1 w2:aG}{v:aI}(hb:aN w.heap.size w w1)(hr:dh w1 g 3 cells)(hg:w.heap.size<=g)(hx:∀p,p<fw (ns.getD kt jk)->cells[p]?=az (ah ag (C kt p)))(own:w2.ownsRow 0 26 1 v (kt+1) ((aO kt).map L.row++[ay (az ⟨g,0,aj⟩) (fw (ns.getD kt jk)) cap]))(gr:w1.grownBy w2 L.vt.ownBlock)(loc:v.ownBlock=L.vt.ownBlock\/v.ownBlock=az w1.heap.size):∃dN,Jz dN (w2.setCell ⟨b,4,aj⟩ v) b ns cs aK {L with vt:=v,row:=fun i=>if i=kt then ay (az ⟨g,0,aj⟩) (fw (ns.getD kt jk)) cap else L.row i} kb (kt+1) kc C ju jg/\WY 2 Z w dN (w2.setCell ⟨b,4,aj⟩ v):=by
 obtain⟨G,X,O,R,c,c5⟩:=h.zW (tv:=(0,1,0,0)) (fun k=>if k=g then(0,2,kt,0)else(0,1,0,0)) 4 hb (by rw[if_neg (by have:=hr.lt;omega)]) (fun k=>by split<;>simp) (fun k hk=>⟨h.vt.2 k hk,(h.vt.1.lt k hk).2⟩) gr own loc (by decide) (by decide);have nS:¬(g=b\/L.vt.ownBlock=az g):=fun q=>by
  rcases q with q|q
  ·have:=h.root.lt;omega
  ·have:=(h.vt.1.lt g q).2;omega
 have ROW:ku (nwT Z w.heap.size fun k=>if k=g then(0,2,kt,0)else(0,1,0,0)) (w2.setCell ⟨b,4,aj⟩ v) 3 (fun t=>t=(0,2,kt,0)) (ay (az ⟨g,0,aj⟩) (fw (ns.getD kt jk)) cap) (fw (ns.getD kt jk)) ((aO (fw (ns.getD kt jk))).map fun p=>ah ag (C kt p)):=
  row_in hr (fun i hi=>by have hi':i<fw (ns.getD kt jk):=(by simpa using hi);rw[hx i hi',cO,dW hi'];rfl) c nS (by rw[Gl hg,if_pos rfl])
 refine⟨_,⟨R,G.iP,G.plan,G.rm,⟨?_,O.2⟩,fun i hi=>?_,G.vb (by decide),G.bx,G.vm (by decide),fun i hi=>G.cm i hi (by simp),G.vu (by decide),G.vg (by decide),fun i hi=>G.gn i hi (by simp),G.bk (by decide),G.mf (by decide),G.ml (by decide),G.vl⟩,X⟩
 ·have:=O.1;rw[map_push]at this;exact this
 ·show ku _ _ _ _ (if i=kt then _ else L.row i) _ _;by_cases e:i=kt
  ·rw[if_pos e,e];exact ROW
  ·rw[if_neg e];exact G.rows i (by omega) (by simp)
theorem Jz.ahb(h:Jz Z w b ns cs aK L kb kt kc C ju jg){g cap:Nat}{w1 w2:aG}{v:aI}(hb:aN w.heap.size w w1)(hr:dh w1 g 3 (aS (aK++aK).length (ah ag 0)).toArray)(hg:w.heap.size<=g)(own:w2.ownsRow 0 26 1 v (kc+1) ((aO kc).map L.cm++[ay (az ⟨g,0,aj⟩) (aK++aK).length cap]))(gr:w1.grownBy w2 L.Uv.ownBlock)(loc:v.ownBlock=L.Uv.ownBlock\/v.ownBlock=az w1.heap.size):∃dN,Jz dN (w2.setCell ⟨b,17,aj⟩ v) b ns cs aK {L with Uv:=v,cm:=fun i=>if i=kc then ay (az ⟨g,0,aj⟩) (aK++aK).length cap else L.cm i} kb kt (kc+1) C ju jg/\WY 2 Z w dN (w2.setCell ⟨b,17,aj⟩ v):=by
 obtain⟨G,X,O,R,c,c5⟩:=h.zW (tv:=(0,4,0,0)) (fun k=>if k=g then(2,7,kc,0)else(0,4,0,0)) 17 hb (by rw[if_neg (by have:=hr.lt;omega)]) (fun k=>by split<;>simp) (fun k hk=>⟨h.vm.2 k hk,(h.vm.1.lt k hk).2⟩) gr own loc (by decide) (by decide);have nS:¬(g=b\/L.Uv.ownBlock=az g):=fun q=>by
  rcases q with q|q
  ·have:=h.root.lt;omega
  ·have:=(h.vm.1.lt g q).2;omega
 have ROW:ku (nwT Z w.heap.size fun k=>if k=g then(2,7,kc,0)else(0,4,0,0)) (w2.setCell ⟨b,17,aj⟩ v) 3 (PK 7 kc) (ay (az ⟨g,0,aj⟩) (aK++aK).length cap) (aK++aK).length (aS (aK++aK).length (ah ag 0)):=
  row_in hr (fun i hi=>by rw[di]) c nS (by rw[Gl hg,if_pos rfl];rfl)
 refine⟨_,⟨R,G.iP,G.plan,G.rm,G.vt (by decide),fun i hi=>G.rows i hi (by simp),G.vb (by decide),G.bx,⟨?_,O.2⟩,fun i hi=>?_,G.vu (by decide),G.vg (by decide),fun i hi=>G.gn i hi (by simp),G.bk (by decide),G.mf (by decide),G.ml (by decide),G.vl⟩,X⟩
 ·have:=O.1;rw[map_push]at this;exact this
 ·show ku _ _ _ _ (if i=kc then _ else L.cm i) _ _;by_cases e:i=kc
  ·rw[if_pos e,e];exact ROW
  ·rw[if_neg e];exact G.cm i (by omega) (by simp)
theorem Jz.aqc(h:Jz Z w b ns cs aK L kb kt kc C ju jg){w1 w2:aG}{v:aI}(hb:aN w.heap.size w w1)(own:w2.ownsRow 0 4 1 v (ju+1) (aS ju (.bool true)++[.bool true]))(gr:w1.grownBy w2 L.vu.ownBlock)(loc:v.ownBlock=L.vu.ownBlock\/v.ownBlock=az w1.heap.size):∃dN,Jz dN (w2.setCell ⟨b,6,aj⟩ v) b ns cs aK {L with vu:=v} kb kt kc C (ju+1) jg/\WY 2 Z w dN (w2.setCell ⟨b,6,aj⟩ v):=by obtain⟨G,X,O,R,c,c5⟩:=h.zW (tv:=(2,1,0,0)) (fun k=>(2,1,0,0)) 6 hb rfl (fun k=>by decide) (fun k hk=>⟨h.vu.2 k hk,(h.vu.1.lt k hk).2⟩) gr own loc (by decide) (by decide);refine⟨_,⟨R,G.iP,G.plan,G.rm,G.vt (by decide),fun i hi=>G.rows i hi (by simp),G.vb (by decide),G.bx,G.vm (by decide),fun i hi=>G.cm i hi (by simp),⟨?_,O.2⟩,G.vg (by decide),fun i hi=>G.gn i hi (by simp),G.bk (by decide),G.mf (by decide),G.ml (by decide),G.vl⟩,X⟩;have:=O.1;rw[<-List.replicate_succ']at this;exact this
theorem Jz.ahc(h:Jz Z w b ns cs aK L kb kt kc C ju jg){g g' cap pG:Nat}{w1 w2:aG}{v:aI}(hb:aN w.heap.size w w1)(hr:dh w1 g 3 (aS (aK++aK).length (ah ag 0)).toArray)(hg:w.heap.size<=g)(hr':dh w1 g' 3 (aS (aK++aK).length (ah ag 0)).toArray)(uy:w.heap.size<=g')(nQ:g≠g')(own:w2.ownsRow 0 26 1 v (jg+2) ((aO jg).map L.gn++[ay (az ⟨g,0,aj⟩) (aK++aK).length cap,ay (az ⟨g',0,aj⟩) (aK++aK).length pG]))(gr:w1.grownBy w2 L.vg.ownBlock)(loc:v.ownBlock=L.vg.ownBlock\/v.ownBlock=az w1.heap.size):∃dN,Jz dN (w2.setCell ⟨b,18,aj⟩ v) b ns cs aK {L with vg:=v,gn:=fun i=>if i=jg+1 then ay (az ⟨g',0,aj⟩) (aK++aK).length pG else if i=jg then ay (az ⟨g,0,aj⟩) (aK++aK).length cap else L.gn i} kb kt kc C ju (jg+2)/\WY 2 Z w dN (w2.setCell ⟨b,18,aj⟩ v):=by
 obtain⟨G,X,O,R,c,c5⟩:=h.zW (tv:=(0,5,0,0)) (fun k=>if k=g then(2,8,jg,0)else if k=g' then(2,8,jg+1,0)else(0,5,0,0)) 18 hb (by rw[if_neg (by have:=hr.lt;omega),if_neg (by have:=hr'.lt;omega)]) (fun k=>by by_cases e1:k=g<;>by_cases e2:k=g'<;>simp[e1,e2]<;>split<;>simp) (fun k hk=>⟨h.vg.2 k hk,(h.vg.1.lt k hk).2⟩) gr own loc (by decide) (by decide);have nS:∀{k},w.heap.size<=k->¬(k=b\/L.vg.ownBlock=az k):=fun{k} hk q=>by
  rcases q with q|q
  ·have:=h.root.lt;omega
  ·have:=(h.vg.1.lt k q).2;omega
 have ROW:=row_in (T:=PK 8 jg) (n:=(aK++aK).length) (cap:=cap) (Dt:=nwT Z w.heap.size fun k=>if k=g then(2,8,jg,0)else if k=g' then(2,8,jg+1,0)else(0,5,0,0)) (xs:=aS (aK++aK).length (ah ag 0)) hr (fun i hi=>by rw[di]) c (nS hg) (by rw[Gl hg,if_pos rfl];rfl);have ROW':=row_in (T:=PK 8 (jg+1)) (n:=(aK++aK).length) (cap:=pG) (Dt:=nwT Z w.heap.size fun k=>if k=g then(2,8,jg,0)else if k=g' then(2,8,jg+1,0)else(0,5,0,0)) (xs:=aS (aK++aK).length (ah ag 0)) hr' (fun i hi=>by rw[di]) c (nS uy) (by rw[Gl uy,if_neg (iy nQ),if_pos rfl];rfl);refine⟨_,⟨R,G.iP,G.plan,G.rm,G.vt (by decide),fun i hi=>G.rows i hi (by simp),G.vb (by decide),G.bx,G.vm (by decide),fun i hi=>G.cm i hi (by simp),G.vu (by decide),⟨?_,O.2⟩,fun i hi=>?_,G.bk (by decide),G.mf (by decide),G.ml (by decide),G.vl⟩,X⟩
 ·have:=O.1;rw[show ∀(a b:aI) (l:List aI),l++[a,b]=(l++[a])++[b]from fun a b l=>by simp,map_push,map_push]at this;exact this
 ·show ku _ _ _ _ (if i=jg+1 then _ else if i=jg then _ else L.gn i) _ _;by_cases e:i=jg+1
  ·rw[if_pos e,e];exact ROW'
  ·rw[if_neg e];by_cases e2:i=jg
   ·rw[if_pos e2,e2];exact ROW
   ·rw[if_neg e2];exact G.gn i (by omega) (by simp)
theorem Jz.amX(h:Jz Z w b ns cs aK L kb kt kc C ju jg){i p:Nat}(hi:i<kt)(hp:p<fw (ns.getD i jk))(x:Int):∃gv cv g cap,L.vt=ay (az ⟨gv,0,aj⟩) kt cv/\w.cell? ⟨gv,i,aj⟩=az (ay (az ⟨g,0,aj⟩) (fw (ns.getD i jk)) cap)/\w.frozen? ⟨g,p,aj⟩=false/\w.cell? ⟨g,p,aj⟩=az (ah ag (C i p))/\(∃Cg,dh w g 3 Cg)/\Jz Z (w.setCell ⟨g,p,aj⟩ (ah ag x)) b ns cs aK L kb kt kc (fun i' p'=>if i'=i/\p'=p then x else C i' p') ju jg/\WY 2 Z w Z (w.setCell ⟨g,p,aj⟩ (ah ag x)):=by
 obtain⟨gv,cv,eV,hgv,lgv,ov,cv'⟩:=nH (d:=ay aj 0 0) (m:=1) (c:=fun x:aI=>[x]) (fun _=>rfl) (by simpa using h.vt.1:w.ownsRow 0 26 1 L.vt kt (((aO kt).map L.row).flatMap fun x=>[x])) (by simp) hi;have cr:=cv' i hi 0 (by decide);have RI:=h.rows i hi;obtain⟨g,cap,eR,c1,f1,lg,tg⟩:=RI.at_ (i:=p) (by simpa using hp);have e1:((aO kt).map L.row).getD i (ay aj 0 0)=L.row i:=by simp[bJ,hi]
 have GB:∃Cg,dh w g 3 Cg:=by obtain⟨a',pG,e',h'⟩:=RI;obtain⟨g',C',rfl,sV,_,_⟩:=h' (by rw[List.length_map,List.length_range];omega);rw[eR]at e';injection e' with e';injection e' with e';injection e' with e';exact⟨C',by rw[e'];exact sV⟩
 rw[e1,Nat.mul_one,Nat.add_zero,eR]at cr;rw[cO,dW hp]at c1;have cS:Ch (fun k=>k=g) w (w.setCell ⟨g,p,aj⟩ (ah ag x)):=(Ch.refl (fun k=>k=g) w).setCell (p:=⟨g,p,aj⟩) (.inl rfl) _;have G:=h.Ra (dN:=Z) (fun t=>t=(0,2,i,0)) cS (fun _ _=>rfl) (fun k s=>by rw[s];exact tg) fun t ht=>by rw[ht];exact .inl rfl
 have ROW:=RI.jd (i:=p) (by simpa using hp) eR (ah ag x);refine⟨gv,cv,g,cap,eV,cr,f1,c1,GB,⟨G.root (by simp),G.iP,G.plan,G.rm,G.vt (by simp),fun j hj=>?_,G.vb (by simp),G.bx,G.vm (by simp),fun j hj=>G.cm j hj (by simp),G.vu (by simp),G.vg (by simp),fun j hj=>G.gn j hj (by simp),G.bk (by simp),G.mf (by simp),G.ml (by simp),G.vl⟩,⟨cS.mono fun k _ s=>?_,fun _ _=>rfl,fun k h1 h2=>?_⟩⟩
 ·by_cases e:j=i
  ·subst e;refine Eq.mp ?_ ROW;congr 1;rw[Qa];exact fU fun q _=>by by_cases e2:q=p<;>simp[e2]
  ·refine Eq.mp ?_ (G.rows j hj (by simp[e]));congr 1;exact fU fun q _=>by simp[e]
 ·have s:k=g:=s;rw[s,tg];simp
 ·have:(w.setCell ⟨g,p,aj⟩ (ah ag x)).heap.size=w.heap.size:=by simp[World.setCell]
  omega
theorem ku.Qf{Dt:Own}{t:dL}{v:aI}{n:Nat}{xs:List aI}{tg:Tg}{T:Tg->Prop}(h:w.ownsRow 0 t 1 v n xs/\∀g,v.ownBlock=az g->Z g=tg)(hT:∀k,Z k=tg->T (Dt k)):ku Dt w t T v n xs:=by
 have hl:xs.length=n:=by rw[h.1.1];omega
 obtain⟨a,c,ev⟩:=dO h.1;refine⟨a,c,ev,fun h0=>?_⟩;obtain⟨g,cap,C,e1,hb,oV,hC⟩:=uJ h.1 (by omega);have tg:=h.2 g (by rw[e1];rfl);rw[ev]at e1;injection e1 with e1;exact⟨g,C,e1,hb,hT g tg,fun i hi=>hC i (by omega)⟩
theorem We(ns:List Nd)(cs:List Cb)(aK:List Int)(r:Rt){i:Nat}(hi:i<ns.length):(jM ns cs aK r).came.getD i []=aS (aK++aK).length 0:=by show(ns.map fun _=>(aK++aK).map fun _=>(0:Int)).getD i []=_;simp[bJ,hi,rP]
theorem Wh(ns:List Nd)(cs:List Cb)(aK:List Int)(r:Rt){i:Nat}(hi:i<2*cs.length):(jM ns cs aK r).gone.getD i []=aS (aK++aK).length 0:=by show((aO (2*cs.length)).map fun _=>(aK++aK).map fun _=>(0:Int)).getD i []=_;simp[bJ,hi,rP]
theorem vG.none_{α:Type}{bm:Nat}{P:Nat->aI->List α->Prop}(h:jo w aH 3 bm 0 (fun _=>aj)):vG w bm (fun _=>[]) P:=
 ⟨0,fun _=>aj,h,bS _,fun l v e=>(by cases e),fun _ _=>rfl,fun t v e=>(by cases e)⟩
theorem Jz.fin(h:Jz Z w b ns cs aK L ns.length ns.length ns.length (fun i p=>Ei cs i p) cs.length (2*cs.length)):∃dN,Gx dN w b ns cs (jM ns cs aK default) L/\Bk w L.bk 0 0 0/\∀k,(Z k).1≠0->dN k=Z k:=by
 obtain⟨Dt,QU⟩:∃Dt:Own,Dt=fun k=>if(Z k).1=0 then(1,0,0,0)else Z k:=⟨_,rfl⟩
 have uG:∀k,(Z k).1≠0->Dt k=Z k:=fun k hk=>by rw[QU];exact if_neg hk
 have turn:∀k,(Z k).1=0->never (Dt k):=fun k hk=>by rw[QU];show(if(Z k).1=0 then((1,0,0,0):Tg)else Z k).1=1;rw[if_pos hk]
 have one:∀k,(Z k).1=1->(Dt k).1=1:=fun k hk=>by rw[uG k (by omega)];exact hk
 have same:∀{k:Nat} {t:Tg},t.1≠0->Z k=t->Dt k=t:=fun{k t} ht e=>by rw[uG k (by rw[e];exact ht)];exact e
 refine⟨Dt,?_,h.bk.1,uG⟩;exact{
  root:=h.root
  iP:=same (by decide) h.iP
  plan:=h.plan.Ii one
  aK:=h.rm.Ii fun k hk=>one k hk
  xH:=⟨ku.Qf h.vt fun k e=>turn k (by rw[e]),fun i hi=>(h.rows i hi).Ii fun k e=>turn k (by rw[e])⟩
  La:=ku.Qf h.vb fun k e=>turn k (by rw[e])
  bx:=fun i hi=>(h.bx i hi).Ii one fun k e=>uG k (by omega)
  up:=by have e1:(jM ns cs aK default).up=aS cs.length true:=(by show(cs.map fun _=>true)=_;simp[rP]);rw[e1,iH,zx];exact ku.Qf h.vu fun k e=>same (t:=(2,1,0,0)) (by decide) e
  IE:=same (by decide) h.bk.2
  bkL:=dh.lt h.bk.1
  fl:=⟨vG.none_ h.mf.1,same (by decide) h.mf.2⟩
  lim:=⟨vG.none_ h.ml.1,same (by decide) h.ml.2⟩
  came:=⟨ku.Qf h.vm fun k e=>turn k (by rw[e]),fun i hi=>by rw[We ns cs aK default hi,iH,zx];exact(h.cm i hi).Ii fun k e=>same (t:=(2,7,i,0)) (by simp) e⟩
  gone:=⟨ku.Qf h.vg fun k e=>turn k (by rw[e]),fun i hi=>by rw[Wh ns cs aK default hi,iH,zx];exact(h.gn i hi).Ii fun k e=>same (t:=(2,8,i,0)) (by simp) e⟩
  lost:=⟨[],by rw[h.vl];exact dM _ _ _ _,fun g hg=>by rw[h.vl]at hg;simp[dV]at hg,List.Perm.refl _⟩}
end
noncomputable def uF(n:Nat):Code->Option (Array Oper)
 |.region id ops _=>if id=n then az ops else aj
 |.seq a b=>match uF n a with|some x=>az x|none=>uF n b
 |.cond _ a b=>match uF n a with|some x=>az x|none=>uF n b
 |.block _ a=>uF n a
 |.loop a=>uF n a
 |.scope a=>uF n a
 |.rangeFunc _ _ a b=>match uF n a with|some x=>az x|none=>uF n b
 |_=>aj
noncomputable def opsOf(f:Func)(n:Nat):Array Oper:=match f.body with|some c=>(uF n c).getD #[]|none=>#[]
noncomputable def ui:Array Oper:=opsOf Tryz.f11 12
noncomputable def nU(i:Nat):Oper:=ui.getD i default
section
variable{P:Program}{ops:Array Oper}{Q:Exit->Act->aG->Prop}{md:qV}{S:aG->Prop}{wW:Nat}
theorem bH.many{js:List Nat}{n:Nat}{done:Array Bool}{a:Act}{w:aG}(hr:jc md ops done=js)(h0:js≠[])(h:∀j∈js,∃oj,ops[j]?=az oj/\∀K':Act->aG->Prop,(∀a' w',(j≠wW->S w')/\bH P md ops Q S wW n (done.setIfInBounds j true) a' w'->K' a' w')->if eH oj (yielded ops a.tmps)=true then jK P oj a w K' Q else K' (a.put oj.dst undef) w):bH P md ops Q S wW (n+1) done a w:=
 ⟨fun e=>(h0 (hr.symm.trans e)).elim,fun x hx=>by rw[hr]at hx;obtain⟨oj,ho,hk⟩:=h x hx;exact wpOp_step ho fun K' hK=>hk K' fun a' w' q=>hK a' w' q⟩
theorem KE{a:Act}{w:aG}{o:Oper}{t:dL}{K:Act->aG->Prop}{E:Prop}(hg:o.guard=aj)(ho:o.op=OA t aj)(hK:K (a.put o.dst (.map (az w.heap.size))) (w.alloc (.map #[] 0))):if eH o (yielded ops a.tmps)=true then jK P o a w K Q else E:=by
 have hw:eH o (yielded ops a.tmps)=true:=by simp[eH,hg]
 rw[if_pos hw];have hrun:=run_makeMap (P:=P) t w;unfold jK;simp[execOp,ho,hrun,Result.andThen];exact hK
theorem aaZ{a:Act}{w:aG}{o:Oper}{f:FuncId}(hE:∀args w,(callFunc f args).run P w=.ok (.enter f args) w)(ho:o.op=sP {callee:=kv (kz f),args:=#[],argTypes:=#[]}):(execOp a.eval o).run P w=.ok (.enter f #[]) w:=by simp[execOp,ho,resolve,invoke,hE,go_sem]
theorem Ze{a:Act}{w:aG}{o:Oper}{K:Act->aG->Prop}{E:Prop}(hg:o.guard=aj){f:FuncId}(hE:∀args w,(callFunc f args).run P w=.ok (.enter f args) w)(ho:o.op=sP {callee:=kv (kz f),args:=#[],argTypes:=#[]}){Post:Ending->aG->Prop}(hc:bZ P f #[] w Post)(hK:∀e w',Post e w'->∃r,e=ax r/\K (a.put o.dst r) w'):if eH o (yielded ops a.tmps)=true then jK P o a w K Q else E:=by
 have hw:eH o (yielded ops a.tmps)=true:=by simp[eH,hg]
 rw[if_pos hw];unfold jK;rw[aaZ hE ho];exact hc.mono fun e w' h=>by obtain⟨r,rfl,hk⟩:=hK e w' h;exact hk
end
def k12:List Nat:=[45,48,49,53,55,56,57,58]
structure Ag(a a':Act)(F:Nat->Option aI):Prop where
 sz:a'.tmps.size=a.tmps.size
 df:a'.defers=a.defers
 is:∀i v,F i=az v->a'.tmps[i]?=az v
 old:∀i,i∉k12->a'.tmps[i]?=a.tmps[i]?
def afZ(F:Nat->Option aI)(i:Nat)(v:aI):Nat->Option aI:=fun j=>if j=i then az v else F j
theorem yU{F:Nat->Option aI}{i:Nat}{v:aI}:afZ F i v i=az v:=if_pos rfl
theorem WM{F:Nat->Option aI}{i j:Nat}{v:aI}(h:j≠i):afZ F i v j=F j:=if_neg h
theorem Ag.refl(a:Act):Ag a a (fun _=>aj):=⟨rfl,rfl,fun i v e=>(by cases e),fun _ _=>rfl⟩
theorem Ag.put{a a':Act}{F:Nat->Option aI}(h:Ag a a' F){i:Nat}(hi:i∈k12)(hs:60<=a.tmps.size)(v:aI):Ag a (a'.put (az i) v) (afZ F i v):=by
 have ayo:i<a'.tmps.size:=by
  rw[h.sz];have:i<60:=by have key:∀j∈k12,j<60:=(by decide);exact key i hi
  omega
 refine⟨by simp[qC,h.sz],h.df,fun j u e=>?_,fun j hj=>?_⟩
 ·unfold afZ at e;show(a'.tmps.setIfInBounds i v)[j]?=_;rw[iV];by_cases q:j=i
  ·rw[if_pos q]at e;rw[if_pos q.symm,if_pos ayo];exact e
  ·rw[if_neg q]at e;rw[if_neg (iy q)];exact h.is j u e
 ·show(a'.tmps.setIfInBounds i v)[j]?=_;rw[iV,if_neg (fun q=>hj (by rw[<-q];exact hi))];exact h.old j hj
theorem Ag.eval{a a':Act}{F:Nat->Option aI}(h:Ag a a' F){i:Nat}{v:aI}(e:F i=az v):a'.eval (.tmp i)=v:=by have:=h.is i v e;show a'.tmps.getD i undef=v;simp[jN,this]
theorem Ag.JZ{a a':Act}{F:Nat->Option aI}(h:Ag a a' F){i:Nat}{v:aI}(hi:i∉k12)(e:a.eval (.tmp i)=v):a'.eval (.tmp i)=v:=by rw[<-e];show a'.tmps.getD i undef=a.tmps.getD i undef;rw[jN,jN,h.old i hi]
theorem Ag.same{a a1 a2:Act}{F G:Nat->Option aI}(h:Ag a a1 F)(k:Ag a a2 G)(he:∀i∈k12,∃v,F i=az v/\G i=az v):a1=a2:=by
 obtain⟨t1,d1⟩:=a1;obtain⟨t2,d2⟩:=a2;have e1:d1=d2:=h.df.trans k.df.symm;have e2:t1=t2:=by
  apply Array.ext_getElem?;intro i;by_cases q:i∈k12
  ·obtain⟨v,f1,f2⟩:=he i q;exact(h.is i v f1).trans (k.is i v f2).symm
  ·exact(h.old i q).trans (k.old i q).symm
 rw[e1,e2]
theorem Ag.canon{a a':Act}{F:Nat->Option aI}(A:Ag a a' F)(sz:60<=a.tmps.size){v1 v2 v3 v4 v5 v6 v7 v8:aI}(h1:F 45=az v1)(h2:F 48=az v2)(h3:F 49=az v3)(h4:F 53=az v4)(h5:F 55=az v5)(h6:F 56=az v6)(h7:F 57=az v7)(h8:F 58=az v8):a'=qC (qC (qC (qC (qC (qC (qC (qC a (az 45) v1) (az 48) v2) (az 49) v3) (az 53) v4) (az 55) v5) (az 56) v6) (az 57) v7) (az 58) v8:=by
 refine A.same ((((((((((Ag.refl a).put (i:=45) (by decide) sz v1).put (i:=48) (by decide) sz v2).put (i:=49) (by decide) sz v3).put (i:=53) (by decide) sz v4).put (i:=55) (by decide) sz v5).put (i:=56) (by decide) sz v6).put (i:=57) (by decide) sz v7).put (i:=58) (by decide) sz v8)) (fun i hi=>?_);simp only[k12,dG,dP,or_false]at hi;rcases hi with rfl|rfl|rfl|rfl|rfl|rfl|rfl|rfl
 ·exact⟨_,h1,rfl⟩
 ·exact⟨_,h2,rfl⟩
 ·exact⟨_,h3,rfl⟩
 ·exact⟨_,h4,rfl⟩
 ·exact⟨_,h5,rfl⟩
 ·exact⟨_,h6,rfl⟩
 ·exact⟨_,h7,rfl⟩
 ·exact⟨_,h8,rfl⟩
structure Jy(w0:aG)(ns:List Nd)(cs:List Cb)(aK:List Int)(vN vC vI vA:Option aI)(bk mf ml:Option Nat)(w:aG):Prop where
 b:aN w0.heap.size w0 w
 n:∀v,vN=az v->w.ownsRow w0.heap.size 83 3 v ns.length (ns.flatMap cN)
 c:∀v,vC=az v->w.ownsRow w0.heap.size 86 6 v cs.length (cs.flatMap cC)
 i:∀v,vI=az v->w.ownsRow w0.heap.size 3 1 v aK.length (aK.flatMap cI)
 a:∀v,vA=az v->w.ownsRow w0.heap.size 3 1 v (aK.length+aK.length) (aK.flatMap cI++aK.flatMap cI)
 k:∀g,bk=az g->Bk w g 0 0 0/\w0.heap.size<=g
 f:∀g,mf=az g->jo w aH 3 g 0 (fun _=>aj)/\w0.heap.size<=g
 l:∀g,ml=az g->jo w aH 3 g 0 (fun _=>aj)/\w0.heap.size<=g
 fl:∀g,mf=az g->ml≠az g
section
variable{w0 w w':aG}{ns:List Nd}{cs:List Cb}{aK:List Int}{vN vC vI vA:Option aI}{bk mf ml:Option Nat}
theorem Jy.start(w0:aG)(ns:List Nd)(cs:List Cb)(aK:List Int)(w:aG)(hb:aN w0.heap.size w0 w):Jy w0 ns cs aK aj aj aj aj aj aj aj w:=
 ⟨hb,fun v e=>(by cases e),fun v e=>(by cases e),fun v e=>(by cases e),fun v e=>(by cases e),fun g e=>(by cases e),fun g e=>(by cases e),fun g e=>(by cases e),fun g e=>(by cases e)⟩
theorem Jy.below(h:Jy w0 ns cs aK vN vC vI vA bk mf ml w)(hb:aN w.heap.size w w'):Jy w0 ns cs aK vN vC vI vA bk mf ml w':=by
 have hc:Ch (fun _=>False) w w':=Ch.bY hb;exact⟨h.b.trans (hb.mono h.b.size),fun v e=>fO (h.n v e) hc fun _ _ s=>s,fun v e=>fO (h.c v e) hc fun _ _ s=>s,fun v e=>fO (h.i v e) hc fun _ _ s=>s,fun v e=>fO (h.a v e) hc fun _ _ s=>s,
  fun g e=>⟨dh.ch (h.k g e).1 hc id,(h.k g e).2⟩,fun g e=>⟨ni (h.f g e).1 hc id,(h.f g e).2⟩,fun g e=>⟨ni (h.l g e).1 hc id,(h.l g e).2⟩,h.fl⟩
theorem Jy.acF(h:Jy w0 ns cs aK vN vC vI vA bk mf ml w){v:aI}(ho:w'.ownsRow w.heap.size 83 3 v ns.length (ns.flatMap cN))(hb:aN w.heap.size w w'):Jy w0 ns cs aK (az v) vC vI vA bk mf ml w':=
 {h.below hb with n:=fun u e=>(by injection e with e;subst e;exact rQ ho h.b.size)}
theorem Jy.azC(h:Jy w0 ns cs aK vN vC vI vA bk mf ml w){v:aI}(ho:w'.ownsRow w.heap.size 86 6 v cs.length (cs.flatMap cC))(hb:aN w.heap.size w w'):Jy w0 ns cs aK vN (az v) vI vA bk mf ml w':=
 {h.below hb with c:=fun u e=>(by injection e with e;subst e;exact rQ ho h.b.size)}
theorem Jy.azD(h:Jy w0 ns cs aK vN vC vI vA bk mf ml w){v:aI}(ho:w'.ownsRow w.heap.size 3 1 v aK.length (aK.flatMap cI))(hb:aN w.heap.size w w'):Jy w0 ns cs aK vN vC (az v) vA bk mf ml w':=
 {h.below hb with i:=fun u e=>(by injection e with e;subst e;exact rQ ho h.b.size)}
theorem Jy.azE(h:Jy w0 ns cs aK vN vC vI vA bk mf ml w):Jy w0 ns cs aK vN vC vI vA (az w.heap.size) mf ml (w.alloc (af (bkC 0 0 0) 146)):=
 {h.below ((aQ _ _).alloc (aC _) _)with k:=fun u e=>(by injection e with e;subst e;exact⟨dh.new w _ _,h.b.size⟩)}
theorem Jy.ait(h:Jy w0 ns cs aK vN vC vI vA bk mf ml w):Jy w0 ns cs aK vN vC vI vA bk (az w.heap.size) ml (w.alloc (.map #[] 0)):=
 {h.below ((aQ _ _).alloc (aC _) _)with f:=fun u e=>by(injection e with e;subst e;exact⟨jo.made w _ _,h.b.size⟩),fl:=fun g e q=>(by injection e with e;subst e;have:=(h.l _ q).1.Uu;omega)}
theorem Jy.azF(h:Jy w0 ns cs aK vN vC vI vA bk mf ml w):Jy w0 ns cs aK vN vC vI vA bk mf (az w.heap.size) (w.alloc (.map #[] 0)):=
 {h.below ((aQ _ _).alloc (aC _) _)with l:=fun u e=>by(injection e with e;subst e;exact⟨jo.made w _ _,h.b.size⟩),fl:=fun g e q=>(by injection q with q;subst q;have:=(h.f _ e).1.Uu;omega)}
theorem Jy.afR{v v':aI}(h:Jy w0 ns cs aK vN vC (az v) vA bk mf ml w)(ho:w'.ownsRow w0.heap.size 3 1 v' (aK.length+aK.length) (aK.flatMap cI++aK.flatMap cI))(gr:w.grownBy w' v.ownBlock):Jy w0 ns cs aK vN vC aj (az v') bk mf ml w':=by
 have hc:Ch (fun k=>v.ownBlock=az k) w w':=(Ch.refl _ w).grown gr fun g hg=>.inl hg;have hI:=h.i v rfl;have ty:∀g,v.ownBlock=az g->∃t C,dh w g t C/\t=3:=fun g hg=>by obtain⟨C,hb⟩:=kH hI g hg;exact⟨_,C,hb,rfl⟩
 have nb:∀{g:Nat} {t:dL} {C:Array aI},dh w g t C->t≠3->¬v.ownBlock=az g:=fun{g t C} hb ht q=>by obtain⟨t',C',sV,e⟩:=ty g q;exact ht ((dh.same hb sV).1.trans e)
 have nm:∀{g:Nat},jo w aH 3 g 0 (fun _=>aj)->¬v.ownBlock=az g:=fun{g} hm q=>by obtain⟨t',C',sV,e⟩:=ty g q;obtain⟨D,⟨es,clock,h1,_⟩,_⟩:=hm;unfold dh at sV;rw[h1]at sV;injection sV with sV;cases sV
 have ho':∀{t:dL} {m n:Nat} {u:aI} {xs:List aI},w.ownsRow w0.heap.size t m u n xs->t≠3->w'.ownsRow w0.heap.size t m u n xs:=fun{t m n u xs} hu ht=>Dj hu hc fun g s=>by obtain⟨t',C',sV,e⟩:=ty g s;exact⟨t',C',sV,fun q=>ht (by rw[<-q,e])⟩
 refine⟨h.b.trans (hc.below (B:=w0.heap.size) h.b.size fun k s=>(hI.lt k s).1),fun u e=>ho' (h.n u e) (by decide),fun u e=>ho' (h.c u e) (by decide),fun u e=>(by cases e),fun u e=>(by injection e with e;subst e;exact ho),fun g e=>⟨dh.ch (h.k g e).1 hc (nb (h.k g e).1 (by decide)),(h.k g e).2⟩,fun g e=>⟨ni (h.f g e).1 hc (nm (h.f g e).1),(h.f g e).2⟩,fun g e=>⟨ni (h.l g e).1 hc (nm (h.l g e).1),(h.l g e).2⟩,h.fl⟩
end
theorem arU:ui[2]?=az (nU 2):=by kernel_rfl
theorem aqQ:(nU 2).guard=aj:=by kernel_rfl
theorem asc:(nU 2).op=sP {callee:=kv (kz 36),args:=#[lh 44],argTypes:=#[22]}:=by kernel_rfl
theorem aqB:(nU 2).dst=az 45:=by kernel_rfl
theorem arV:ui[5]?=az (nU 5):=by kernel_rfl
theorem aqR:(nU 5).guard=aj:=by kernel_rfl
theorem ase:(nU 5).op=sP {callee:=kv (kz 37),args:=#[lh 47],argTypes:=#[23]}:=by kernel_rfl
theorem aqC:(nU 5).dst=az 48:=by kernel_rfl
theorem arW:ui[6]?=az (nU 6):=by kernel_rfl
theorem aqS:(nU 6).guard=aj:=by kernel_rfl
theorem asf:(nU 6).op=Op.build 25 #[(0,lh 45),(1,lh 48)]:=by kernel_rfl
theorem ajq:(nU 6).dst=az 49:=by kernel_rfl
theorem amv:ui[10]?=az (nU 10):=by kernel_rfl
theorem alH:(nU 10).guard=aj:=by kernel_rfl
theorem amF:(nU 10).op=sP {callee:=kv (kz 38),args:=#[lh 52],argTypes:=#[26]}:=by kernel_rfl
theorem alq:(nU 10).dst=az 53:=by kernel_rfl
theorem amw:ui[12]?=az (nU 12):=by kernel_rfl
theorem alI:(nU 12).guard=aj:=by kernel_rfl
theorem amG:(nU 12).op=sP {callee:=Callee.builtin Builtin.append,args:=#[lh 53,lh 54],argTypes:=#[26,26]}:=by kernel_rfl
theorem alr:(nU 12).dst=az 55:=by kernel_rfl
theorem amx:ui[13]?=az (nU 13):=by kernel_rfl
theorem alJ:(nU 13).guard=aj:=by kernel_rfl
theorem amH:(nU 13).op=sP {callee:=kv (kz 39),args:=#[],argTypes:=#[]}:=by kernel_rfl
theorem als:(nU 13).dst=az 56:=by kernel_rfl
theorem amy:ui[14]?=az (nU 14):=by kernel_rfl
theorem alK:(nU 14).guard=aj:=by kernel_rfl
theorem amI:(nU 14).op=OA 90 aj:=by kernel_rfl
theorem alu:(nU 14).dst=az 57:=by kernel_rfl
theorem amz:ui[15]?=az (nU 15):=by kernel_rfl
theorem alL:(nU 15).guard=aj:=by kernel_rfl
theorem amJ:(nU 15).op=OA 91 aj:=by kernel_rfl
theorem alx:(nU 15).dst=az 58:=by kernel_rfl
theorem amA:ui[16]?=az (nU 16):=by kernel_rfl
theorem alM:(nU 16).guard=aj:=by kernel_rfl
theorem amK:(nU 16).op=Op.build 100 #[(0,lh 49),(1,lh 51),(2,lh 55),(7,lh 56),(11,lh 57),(12,lh 58)]:=by kernel_rfl
theorem aeC:(nU 16).dst=az 59:=by kernel_rfl
theorem amB:ui[17]?=az (nU 17):=by kernel_rfl
theorem alN:(nU 17).guard=aj:=by kernel_rfl
theorem amL:(nU 17).op=Op.box 100 (lh 59):=by kernel_rfl
theorem aly:(nU 17).dst=az 60:=by kernel_rfl
theorem amC:ui[18]?=az (nU 18):=by kernel_rfl
theorem alO:(nU 18).guard=aj:=by kernel_rfl
theorem amM:(nU 18).op=Op.assign (lh 60):=by kernel_rfl
theorem alz:(nU 18).dst=az 9:=by kernel_rfl
theorem arZ(l:List Int):∀u∈l.flatMap cI,u.oneCell'=true:=by intro u hu;obtain⟨x,_,hx⟩:=List.mem_flatMap.1 hu;simp only[cI,dG,dP,or_false]at hx;rcases hx with rfl;rfl
def D12(c:Nat)(e f:Bool):Array Bool:=#[true,true,decide (1<=c),true,true,decide (2<=c),decide (2<=c),true,true,true,decide (3<=c),true,decide (4<=c),decide (5<=c),e,f,false,false,false]
def Dh(c:Nat):List Nat:=if c=0 then[2]else if c=1 then[5]else if c=2 then[10]else if c=3 then[12]else if c=4 then[13]else[]
def zJ(c:Nat)(e f:Bool):Nat:=(if c<=1 then 9-c else 8-c)+(if e then 0 else 1)+(if f then 0 else 1)
theorem ain:∀(c:Fin 6) (e f:Bool),(c.val,e,f)≠(5,true,true)->jc .any ui (D12 c.val e f)=Dh c.val++((if e then[]else[14])++if f then[]else[15]):=by decide+kernel
theorem alF:∀e f:Bool,(Region.noSelect ui&&Region.free .any ui ((D12 1 e f).setIfInBounds 5 true) 6&&(jc .any ui ((D12 1 e f).setIfInBounds 5 true)).contains 6&&(waitsT .any ui 6 18 6&&6 !=18&&JX .any ui ((D12 1 e f).setIfInBounds 5 true)))=true:=by decide+kernel
def opt(b:Bool){α:Type}(x:α):Option α:=if b then az x else aj
structure S12(w0:aG)(ns:List Nd)(cs:List Cb)(aK:List Int)(a:Act)(c:Nat)(e f:Bool)(F:Nat->Option aI)(a':Act)(w':aG)(vN vC vI vA:aI)(bk mf ml:Nat):Prop where
 i:Jy w0 ns cs aK (opt (decide (1<=c)) vN) (opt (decide (2<=c)) vC) (opt (decide (c=3)) vI) (opt (decide (4<=c)) vA) (opt (decide (5<=c)) bk) (opt e mf) (opt f ml) w'
 g:Ag a a' F
 h45:1<=c->F 45=az vN
 h48:2<=c->F 48=az vC
 h49:2<=c->F 49=az (.agg #[vN,vC])
 h53:3<=c->F 53=az vI
 h55:4<=c->F 55=az vA
 h56:5<=c->F 56=az (au (az ⟨bk,0,aj⟩))
 h57:e=true->F 57=az (.map (az mf))
 h58:f=true->F 58=az (.map (az ml))
theorem mD{F:Nat->Option aI}{i j:Nat}{v u:aI}{p:Prop}(h:p->F j=az u)(hj:j≠i):p->afZ F i v j=az u:=fun q=>(WM hj).trans (h q)
theorem azH{w0:aG}{ns:List Nd}{cs:List Cb}{aK:List Int}{An Ac Ar:Option Addr}{cn cc cr:Nat}{a:Act}{Q:Exit->Act->aG->Prop}{S:aG->Prop}(hS:∀w',aN w0.heap.size w0 w'->S w')(hQp:∀c a i v w,Q (.panic c) (qC a (az i) v) w->Q (.panic c) a w)(sz:60<=a.tmps.size)(e44:a.eval (.tmp 44)=ay An ns.length cn)(e47:a.eval (.tmp 47)=ay Ac cs.length cc)(e52:a.eval (.tmp 52)=ay Ar aK.length cr)(e54:a.eval (.tmp 54)=ay Ar aK.length cr)(kN:∀w',aN w0.heap.size w0 w'->bZ aH 36 #[ay An ns.length cn] w' (pE 83 3 cN ns w'))(kC:∀w',aN w0.heap.size w0 w'->bZ aH 37 #[ay Ac cs.length cc] w' (pE 86 6 cC cs w'))(kI:∀w',aN w0.heap.size w0 w'->bZ aH 38 #[ay Ar aK.length cr] w' (pE 3 1 cI aK w'))(rd:∀w',aN w0.heap.size w0 w'->Reads w' w0.heap.size 1 Ar aK.length (aK.flatMap cI))(hl:aK.length<=4)(fin:∀(F:Nat->Option aI) (a':Act) (w':aG) (vN vC vI vA:aI) (bk mf ml:Nat),S12 w0 ns cs aK a 5 true true F a' w' vN vC vI vA bk mf ml->bH aH .any ui Q S 18 3 (D12 5 true true) a' w'):∀(n c:Nat) (e f:Bool),c<=5->zJ c e f=n->∀(F:Nat->Option aI) (a':Act) (w':aG) (vN vC vI vA:aI) (bk mf ml:Nat),S12 w0 ns cs aK a c e f F a' w' vN vC vI vA bk mf ml->bH aH .any ui Q S 18 n (D12 c e f) a' w':=by
 intro n
 induction n using Nat.strongRecOn with
 |_ n0 ih0=>
  intro c e f hc hf;obtain⟨n,rfl⟩:∃n,n0=n+1:=⟨n0-1,by unfold zJ at hf;split at hf<;>omega⟩;have ih:=ih0 n (by omega);revert hf;intro hf F a' w' vN vC vI vA bk mf ml s;by_cases hend:(c,e,f)=(5,true,true)
  ·simp only[Prod.mk.injEq]at hend;obtain⟨rfl,rfl,rfl⟩:=hend;have:n=2:=(by unfold zJ at hf;simp at hf;omega);subst this;exact fin F a' w' vN vC vI vA bk mf ml s
  have hr:=ain ⟨c,by omega⟩ e f hend;have I:=s.i;have A:=s.g;refine bH.many hr (fun q=>?_) (fun j hj=>?_)
  ·obtain⟨q1,q2⟩:=List.append_eq_nil_iff.1 q;have c6:c=5:=by
    unfold Dh at q1;rcases(show c=0\/c=1\/c=2\/c=3\/c=4\/c=5 by omega)with rfl|rfl|rfl|rfl|rfl|rfl<;>simp_all
   cases e<;>cases f<;>simp_all
  have hj2:j∈Dh c\/(j=14/\e=false)\/(j=15/\f=false):=by
   rcases List.mem_append.1 hj with q|q
   ·exact .inl q
   ·refine .inr ?_;cases e<;>cases f<;>simp at q|- <;>omega
  rcases hj2 with hj2|⟨rfl,rfl⟩|⟨rfl,rfl⟩
  ·rcases(show c=0\/c=1\/c=2\/c=3\/c=4\/c=5 by omega)with rfl|rfl|rfl|rfl|rfl|rfl
   ·obtain rfl:j=2:=by simpa[Dh]using hj2
    refine⟨nU 2,arU,fun K' hK=>?_⟩;refine xC aqQ (enters_of (P:=aH) func36 (by kernel_rfl) rfl) asc (A.JZ (by decide) e44) (kN _ I.b) ?_;rintro er w2 ⟨v,rfl,ho,hb⟩;refine⟨v,rfl,hK _ _ ⟨fun _=>hS _ (I.b.trans (hb.mono I.b.size)),?_⟩⟩;rw[aqB];exact ih 1 e f (by decide) (by unfold zJ at hf|-;simp at hf|-;omega) _ _ _ v vC vI vA bk mf ml ⟨I.acF ho hb,A.put (by decide) sz v,fun _=>yU,by omega,by omega,by omega,by omega,by omega,mD s.h57 (by decide),mD s.h58 (by decide)⟩
   ·obtain rfl:j=5:=by simpa[Dh]using hj2
    refine⟨nU 5,arV,fun K' hK=>?_⟩;refine xC aqR (enters_of (P:=aH) func37 (by kernel_rfl) rfl) ase (A.JZ (by decide) e47) (kC _ I.b) ?_;rintro er w2 ⟨v,rfl,ho,hb⟩;refine⟨v,rfl,hK _ _ ⟨fun _=>hS _ (I.b.trans (hb.mono I.b.size)),?_⟩⟩;rw[aqC];obtain⟨k,rfl⟩:∃k,n=k+1:=⟨n-1,by unfold zJ at hf;simp at hf;omega⟩;have A2:=A.put (i:=48) (by decide) sz v;refine bH.tk 6 (v:=.agg #[vN,v]) (hS _ (I.b.trans (hb.mono I.b.size))) ?_ arW (alF e f) (by simp[eH,aqS]) (fun w3 _=>?_) (fun c b w5 h=>hQp c b 49 _ w5 (by rw[ajq]at h;exact h))
    ·rw[ajq];exact ih0 k (by omega) 2 e f (by decide) (by unfold zJ at hf|-;simp at hf|-;omega) _ _ _ vN v vI vA bk mf ml ⟨I.azC ho hb,A2.put (by decide) sz _,fun _=>mD (mD s.h45 (by decide)) (by decide) (by decide),fun _=>mD (fun _=>yU) (by decide) (by decide:0<=0),fun _=>yU,by omega,by omega,by omega,mD (mD s.h57 (by decide)) (by decide),mD (mD s.h58 (by decide)) (by decide)⟩
    ·have q1:=A2.eval ((WM (by decide)).trans (s.h45 (by decide)));have q2:=A2.eval (i:=48) yU;obtain⟨b1,c1,rfl⟩:=dO (I.n vN rfl);obtain⟨b2,c2,rfl⟩:=dO ho;generalize hA9:qC a' (az 48) _=a9 at *;clear hA9 A2;simp only[execOp,asf];unfold Oo at q1 q2|-;simp only[jN]at q1 q2;simp[q1,q2,go_sem]
   ·obtain rfl:j=10:=by simpa[Dh]using hj2
    refine⟨nU 10,amv,fun K' hK=>?_⟩;refine xC alH (enters_of (P:=aH) func38 (by kernel_rfl) rfl) amF (A.JZ (by decide) e52) (kI _ I.b) ?_;rintro er w2 ⟨v,rfl,ho,hb⟩;refine⟨v,rfl,hK _ _ ⟨fun _=>hS _ (I.b.trans (hb.mono I.b.size)),?_⟩⟩;rw[alq];exact ih 3 e f (by decide) (by unfold zJ at hf|-;simp at hf|-;omega) _ _ _ vN vC v vA bk mf ml ⟨I.azD ho hb,A.put (by decide) sz v,fun _=>mD s.h45 (by decide) (by decide),fun _=>mD s.h48 (by decide) (by decide),fun _=>mD s.h49 (by decide) (by decide),fun _=>yU,by omega,by omega,mD s.h57 (by decide),mD s.h58 (by decide)⟩
   ·obtain rfl:j=12:=by simpa[Dh]using hj2
    refine⟨nU 12,amw,fun K' hK=>?_⟩;obtain⟨j0,xI,zb,Ad,Ae⟩:=dX Kk;refine fV _ alI (.tmp 53) (.tmp 54) 26 amG w0.heap.size 3 j0 _ 1 8 underlying26 xI zb Ad Ae rfl (by decide) vI aK.length (aK.flatMap cI) (A.eval (s.h53 (by decide))) (I.i vI rfl) w0.heap.size Ar aK.length cr (aK.flatMap cI) (A.JZ (by decide) e54) (rd _ I.b) (arZ aK) (by unfold fB;omega) (by omega) I.b.size ?_;intro v w2 ho gr loc;have I2:=I.afR ho gr;refine hK _ _ ⟨fun _=>hS _ I2.b,?_⟩;rw[alr];exact ih 4 e f (by decide) (by unfold zJ at hf|-;simp at hf|-;omega) _ _ _ vN vC vI v bk mf ml ⟨I2,A.put (by decide) sz v,fun _=>mD s.h45 (by decide) (by decide),fun _=>mD s.h48 (by decide) (by decide),fun _=>mD s.h49 (by decide) (by decide),fun _=>mD s.h53 (by decide) (by decide),fun _=>yU,by omega,mD s.h57 (by decide),mD s.h58 (by decide)⟩
   ·obtain rfl:j=13:=by simpa[Dh]using hj2
    refine⟨nU 13,amx,fun K' hK=>?_⟩;refine Ze alJ (enters_of (P:=aH) func39 (by kernel_rfl) rfl) amH (aih _) ?_;rintro er w2 ⟨rfl,rfl⟩;have I2:=I.azE;refine⟨_,rfl,hK _ _ ⟨fun _=>hS _ I2.b,?_⟩⟩;rw[als];exact ih 5 e f (by decide) (by unfold zJ at hf|-;simp at hf|-;omega) _ _ _ vN vC vI vA _ mf ml ⟨I2,A.put (by decide) sz _,fun _=>mD s.h45 (by decide) (by decide),fun _=>mD s.h48 (by decide) (by decide),fun _=>mD s.h49 (by decide) (by decide),fun _=>mD s.h53 (by decide) (by decide),fun _=>mD s.h55 (by decide) (by decide),fun _=>yU,mD s.h57 (by decide),mD s.h58 (by decide)⟩
   ·simp[Dh]at hj2
  ·have I2:=I.ait;refine⟨nU 14,amy,fun K' hK=>KE alK amI (hK _ _ ⟨fun _=>hS _ I2.b,?_⟩)⟩;rw[alu];exact ih c true f hc (by unfold zJ at hf|-;simp at hf|-;omega) _ _ _ vN vC vI vA bk _ ml ⟨I2,A.put (by decide) sz _,mD s.h45 (by decide),mD s.h48 (by decide),mD s.h49 (by decide),mD s.h53 (by decide),mD s.h55 (by decide),mD s.h56 (by decide),fun _=>yU,mD s.h58 (by decide)⟩
  ·have I2:=I.azF;refine⟨nU 15,amz,fun K' hK=>KE alL amJ (hK _ _ ⟨fun _=>hS _ I2.b,?_⟩)⟩;rw[alx];exact ih c e true hc (by unfold zJ at hf|-;simp at hf|-;omega) _ _ _ vN vC vI vA bk mf _ ⟨I2,A.put (by decide) sz _,mD s.h45 (by decide),mD s.h48 (by decide),mD s.h49 (by decide),mD s.h53 (by decide),mD s.h55 (by decide),mD s.h56 (by decide),mD s.h57 (by decide),fun _=>yU⟩
theorem Zd{P:Program}{ops:Array Oper}{a:Act}{w:aG}{o:Oper}{t:dL}{x:Operand}{K:Act->aG->Prop}{Q:Exit->Act->aG->Prop}{E:Prop}(hg:o.guard=aj)(ho:o.op=Op.box t x){v:aI}{cs:Array aI}(hx:a.eval x=v)(hv:v.cells=cs)(hK:K (a.put o.dst (au (az ⟨w.heap.size,0,aj⟩))) (w.alloc (.cells cs t))):if eH o (yielded ops a.tmps)=true then jK P o a w K Q else E:=by
 have hw:eH o (yielded ops a.tmps)=true:=by simp[eH,hg]
 rw[if_pos hw];subst hv;have hr:(execOp a.eval o).run P w=.ok (.value (au (az ⟨w.heap.size,0,aj⟩))) (w.alloc (.cells v.cells t)):=by simp only[execOp,ho,hx];rfl
 unfold jK;rw[hr];exact hK
theorem QZ{P:Program}{ops:Array Oper}{a:Act}{w:aG}{o:Oper}{x:Operand}{K:Act->aG->Prop}{Q:Exit->Act->aG->Prop}{E:Prop}(hg:o.guard=aj)(ho:o.op=Op.assign x){v:aI}(hx:a.eval x=v)(hK:K (a.put o.dst v) w):if eH o (yielded ops a.tmps)=true then jK P o a w K Q else E:=by
 have hw:eH o (yielded ops a.tmps)=true:=by simp[eH,hg]
 rw[if_pos hw];have hr:(execOp a.eval o).run P w=.ok (.value v) w:=by simp only[execOp,ho,hx];rfl
 unfold jK;rw[hr];exact hK
theorem eval_put{a:Act}{i:Nat}{v:aI}(h:i<a.tmps.size):(a.put (az i) v).eval (.tmp i)=v:=by show(a.tmps.setIfInBounds i v).getD i undef=v;simp[jN,h]
def YJ:aI:=ay aj 0 0
theorem aqM{Q:Exit->Act->aG->Prop}{S:aG->Prop}{a':Act}{w':aG}{bN bC bA:Option Addr}{nN kN nC kC nA kA m bk mf ml:Nat}(sz:60<a'.tmps.size)(hQp:∀c a i v w,Q (.panic c) (qC a (az i) v) w->Q (.panic c) a w)(SS:S w')(e49:a'.eval (.tmp 49)=.agg #[ay bN nN kN,ay bC nC kC])(e51:a'.eval (.tmp 51)=ah ag m)(e55:a'.eval (.tmp 55)=ay bA nA kA)(e56:a'.eval (.tmp 56)=au (az ⟨bk,0,aj⟩))(e57:a'.eval (.tmp 57)=.map (az mf))(e58:a'.eval (.tmp 58)=.map (az ml))(SB:S (w'.alloc (af #[ay bN nN kN,ay bC nC kC,ah ag m,ay bA nA kA,ay aj 0 0,ay aj 0 0,ay aj 0 0,ay aj 0 0,ay aj 0 0,ay aj 0 0,ay aj 0 0,au (az ⟨bk,0,aj⟩),.bool false,ah ag 0,ah ag 0,.map (az mf),.map (az ml),ay aj 0 0,ay aj 0 0,ay aj 0 0] 100)))(fin:∀v,Q .normal (qC (qC (qC a' (az 59) v) (az 60) (au (az ⟨w'.heap.size,0,aj⟩))) (az 9) (au (az ⟨w'.heap.size,0,aj⟩))) (w'.alloc (af #[ay bN nN kN,ay bC nC kC,ah ag m,ay bA nA kA,ay aj 0 0,ay aj 0 0,ay aj 0 0,ay aj 0 0,ay aj 0 0,ay aj 0 0,ay aj 0 0,au (az ⟨bk,0,aj⟩),.bool false,ah ag 0,ah ag 0,.map (az mf),.map (az ml),ay aj 0 0,ay aj 0 0,ay aj 0 0] 100))):bH aH .any ui Q S 18 3 (D12 5 true true) a' w':=by
 refine bH.akf (i:=16) (v:=.agg #[ay bN nN kN,ay bC nC kC,ah ag m,ay bA nA kA,ay aj 0 0,ay aj 0 0,ay aj 0 0,ay aj 0 0,ay aj 0 0,ay aj 0 0,ay aj 0 0,au (az ⟨bk,0,aj⟩),.bool false,ah ag 0,ah ag 0,.map (az mf),.map (az ml),ay aj 0 0,ay aj 0 0,ay aj 0 0]) amA (by kernel_rfl) (by kernel_rfl) (by kernel_rfl) (by kernel_rfl) (fun c b w5 h=>hQp c b 59 _ w5 (by rw[aeC]at h;exact h)) (Or.inl ⟨by simp[eH,alM],fun w3 _=>?_⟩) SS ?_
 ·unfold Oo at e49 e51 e55 e56 e57 e58;simp only[jN]at e49 e51 e55 e56 e57 e58;simp only[execOp,amK];unfold Oo;simp[e49,e51,e55,e56,e57,e58,go_sem]
 rw[aeC];rw[show Gw (D12 5 true true) 16 true=#[true,true,true,true,true,true,true,true,true,true,true,true,true,true,true,true,true,false,false]from by kernel_rfl];refine bH.many (js:=[17]) (by kernel_rfl) (by decide) (fun j hj=>?_);simp only[dG,dP,or_false]at hj;subst hj;refine⟨nU 17,amB,fun K' hK=>?_⟩;refine Zd alN amL (eval_put (by omega)) rfl (hK _ _ ⟨fun _=>SB,?_⟩);rw[aly];rw[show Gw #[true,true,true,true,true,true,true,true,true,true,true,true,true,true,true,true,true,false,false] 17 true=#[true,true,true,true,true,true,true,true,true,true,true,true,true,true,true,true,true,true,false]from by kernel_rfl];refine bH.many (js:=[18]) (by kernel_rfl) (by decide) (fun j hj=>?_);simp only[dG,dP,or_false]at hj;subst hj;refine⟨nU 18,amC,fun K' hK=>?_⟩;refine QZ alO amM (eval_put (by simp[qC];omega)) (hK _ _ ⟨fun h=>absurd rfl h,?_⟩);rw[alz];exact bH.done (by kernel_rfl) (fin _) _
theorem bH.cast{P:Program}{ops ops':Array Oper}{Q:Exit->Act->aG->Prop}{md:qV}{S:aG->Prop}{wW n:Nat}{done:Array Bool}{a:Act}{w:aG}(h:ops=ops')(k:bH P md ops' Q S wW n done a w):bH P md ops Q S wW n done a w:=by rw[h];exact k
def yK(r:Int):Bool:=decide (1<=r)&&decide (r<=64)
instance:Inhabited yM:=⟨⟨fun _=>0,fun _ _=>YJ,fun _=>YJ,fun _=>YJ,fun _ _=>0,fun _ _=>0,fun _ _=>0,fun _ _=>0,0⟩⟩
theorem Jz.start{ns:List Nd}{cs:List Cb}{aK:List Int}{w0 w:aG}{vN vC vA:aI}{bk mf ml:Nat}(h:Jy w0 ns cs aK (az vN) (az vC) aj (az vA) (az bk) (az mf) (az ml) w)(C:Nat->Nat->Int):∃Z L,Jz Z (w.alloc (af #[vN,vC,ah ag aK.length,vA,ay aj 0 0,ay aj 0 0,ay aj 0 0,ay aj 0 0,ay aj 0 0,ay aj 0 0,ay aj 0 0,au (az ⟨bk,0,aj⟩),.bool false,ah ag 0,ah ag 0,.map (az mf),.map (az ml),ay aj 0 0,ay aj 0 0,ay aj 0 0] 100)) w.heap.size ns cs aK L 0 0 0 C 0 0/\(L.vn=vN/\L.vc=vC)/\(∀q,(Z q).1<3)/\(∀q,q<w0.heap.size->Z q=(1,0,0,0)):=by
 obtain⟨w1,gK⟩:∃w1:aG,w.alloc (af #[vN,vC,ah ag aK.length,vA,ay aj 0 0,ay aj 0 0,ay aj 0 0,ay aj 0 0,ay aj 0 0,ay aj 0 0,ay aj 0 0,au (az ⟨bk,0,aj⟩),.bool false,ah ag 0,ah ag 0,.map (az mf),.map (az ml),ay aj 0 0,ay aj 0 0,ay aj 0 0] 100)=w1:=⟨_,rfl⟩;have RT:dh w1 w.heap.size 100 #[vN,vC,ah ag aK.length,vA,ay aj 0 0,ay aj 0 0,ay aj 0 0,ay aj 0 0,ay aj 0 0,ay aj 0 0,ay aj 0 0,au (az ⟨bk,0,aj⟩),.bool false,ah ag 0,ah ag 0,.map (az mf),.map (az ml),ay aj 0 0,ay aj 0 0,ay aj 0 0]:=by rw[<-gK];exact dh.new w _ _
 have h1:=h.below (w':=w1) (by rw[<-gK];exact(aQ _ _).alloc (aC _) _);rw[gK];obtain⟨b,hb⟩:∃b,w.heap.size=b:=⟨_,rfl⟩;have lk:bk<b:=by have:=dh.lt (h.k bk rfl).1;omega
 have lf:mf<b:=by have:=(h.f mf rfl).1.Uu;omega
 have ll:ml<b:=by have:=(h.l ml rfl).1.Uu;omega
 have lN:∀g,vN.ownBlock=az g->g<b:=fun g hg=>by have:=((h.n vN rfl).lt g hg).2;omega
 have lC:∀g,vC.ownBlock=az g->g<b:=fun g hg=>by have:=((h.c vC rfl).lt g hg).2;omega
 have lA:∀g,vA.ownBlock=az g->g<b:=fun g hg=>by have:=((h.a vA rfl).lt g hg).2;omega
 have mc:∀{g:Nat} {t:dL} {C:Array aI},jo w1 aH 3 g 0 (fun _=>aj)->dh w1 g t C->False:=fun{g t C} hm hc=>by obtain⟨D,⟨es,clock,h1,_⟩,_⟩:=hm;unfold dh at hc;rw[h1]at hc;injection hc with hc;cases hc
 have kf:bk≠mf:=fun e=>mc (h1.f mf rfl).1 (e▸(h1.k bk rfl).1);have kl:bk≠ml:=fun e=>mc (h1.l ml rfl).1 (e▸(h1.k bk rfl).1);have fl:mf≠ml:=fun e=>h1.fl mf rfl (by rw[e]);have nt:∀{g:Nat} {t:dL} {m n:Nat} {v:aI} {xs:List aI},w1.ownsRow w0.heap.size t m v n xs->t≠146->v.ownBlock=az g->g<b->g≠b/\g≠bk/\g≠mf/\g≠ml:=fun{g t m n v xs} ho ht hg hl=>by
  obtain⟨C,hC⟩:=kH ho g hg;refine⟨by omega,fun e=>?_,fun e=>?_,fun e=>?_⟩
  ·subst e;exact ht (dh.same hC (h1.k g rfl).1).1
  ·subst e;exact mc (h1.f g rfl).1 hC
  ·subst e;exact mc (h1.l g rfl).1 hC
 obtain⟨Z,QU⟩:∃Z:Own,Z=fun k=>if k=b then(2,0,0,0)else if k=bk then(2,2,0,0)else if k=mf then(2,3,0,0)else if k=ml then(2,5,0,0)else(1,0,0,0):=⟨_,rfl⟩
 have tb:Z b=(2,0,0,0):=by rw[QU];exact if_pos rfl
 have tk:Z bk=(2,2,0,0):=by rw[QU];show(if bk=b then _ else _)=_;rw[if_neg (by omega),if_pos rfl]
 have tf:Z mf=(2,3,0,0):=by rw[QU];show(if mf=b then _ else _)=_;rw[if_neg (by omega),if_neg (iy kf),if_pos rfl]
 have tl:Z ml=(2,5,0,0):=by rw[QU];show(if ml=b then _ else _)=_;rw[if_neg (by omega),if_neg (iy kl),if_neg (iy fl),if_pos rfl]
 have tg1:∀{g:Nat},(g≠b/\g≠bk/\g≠mf/\g≠ml)->Z g=(1,0,0,0):=fun{g} q=>by rw[QU];show(if g=b then _ else _)=_;rw[if_neg q.1,if_neg q.2.1,if_neg q.2.2.1,if_neg q.2.2.2]
 have hN:=h1.n vN rfl;have hC:=h1.c vC rfl;have hA:=h1.a vA rfl;obtain⟨An,cn,eN,_,rN,_⟩:=gZ (m:=3) (c:=cN) (d:=jk) (fun _=>rfl) (by decide) hN;obtain⟨Ac,cc,eC,_,rC,_⟩:=gZ (m:=6) (c:=cC) (d:=gX) (fun _=>rfl) (by decide) hC;have fI:∀l:List Int,l.flatMap cI=l.map fun x=>ah ag x:=fun l=>by
  induction l with
  |nil=>rfl
  |cons x l ih=>rw[List.flatMap_cons,ih];rfl
 have Wj:∀{T:Tg},∀g,(ay aj 0 0).ownBlock=az g->Z g=T:=fun{T} g hg=>by simp[dV]at hg
 refine⟨Z,{vn:=vN,vc:=vC,vr:=vA,vt:=ay aj 0 0,vb:=ay aj 0 0,vu:=ay aj 0 0,r0n:=ay aj 0 0,r0f:=ay aj 0 0,r1n:=ay aj 0 0,r1f:=ay aj 0 0,bk:=bk,mf:=mf,ml:=ml,Uv:=ay aj 0 0,vg:=ay aj 0 0,vl:=ay aj 0 0,row:=fun _=>ay aj 0 0,cm:=fun _=>ay aj 0 0,gn:=fun _=>ay aj 0 0,bx:=fun _=>0,Hw:=fun _=>default},?_,⟨rfl,rfl⟩,fun q=>?_,fun q hq=>?_⟩
 ·rw[hb]at RT|-;exact{
   root:=RT
   iP:=tb
   plan:=⟨An,Ac,cn,cc,eN,eC,⟨rN,rC⟩,fun p hp=>by
    have hg:vN.ownBlock=az p.block:=(by rw[eN,hp];rfl);exact⟨by rw[tg1 (nt hN (by decide) hg (lN _ hg))],(hN.lt _ hg).2⟩,fun p hp=>by
    have hg:vC.ownBlock=az p.block:=(by rw[eC,hp];rfl);exact⟨by rw[tg1 (nt hC (by decide) hg (lC _ hg))],(hC.lt _ hg).2⟩⟩
   rm:=by
    rw[fI,<-eY]at hA;rw[bV];have lx:((aK++aK).map fun x=>ah .i64 x).length=aK.length+aK.length:=by simp
    obtain⟨a,c,ev⟩:=dO hA;refine⟨a,c,ev,fun h0=>?_⟩;obtain⟨g,cap,Cg,e1,hbg,_,hCg⟩:=uJ hA (by omega);have hg:vA.ownBlock=az g:=(by rw[e1];rfl);rw[ev]at e1;injection e1 with e1;exact⟨g,Cg,e1,hbg,by show(Z g).1=1;rw[tg1 (nt hA (by decide) hg (lA _ hg))],fun i hi=>hCg i (by omega)⟩
   vt:=⟨dM _ _ _ _,Wj⟩
   rows:=fun i hi=>absurd hi (yx _)
   vb:=⟨dM _ _ _ _,Wj⟩
   bx:=fun i hi=>absurd hi (yx _)
   vm:=⟨dM _ _ _ _,Wj⟩
   cm:=fun i hi=>absurd hi (yx _)
   vu:=⟨dM _ _ _ _,Wj⟩
   vg:=⟨dM _ _ _ _,Wj⟩
   gn:=fun i hi=>absurd hi (yx _)
   bk:=⟨(h1.k bk rfl).1,tk⟩
   mf:=⟨(h1.f mf rfl).1,tf⟩
   ml:=⟨(h1.l ml rfl).1,tl⟩
   vl:=rfl}
 ·rw[QU];show(if q=b then((2,0,0,0):Tg)else _).1<3;by_cases e1:q=b
  ·rw[if_pos e1];decide
  ·rw[if_neg e1];by_cases e2:q=bk
   ·rw[if_pos e2];decide
   ·rw[if_neg e2];by_cases e3:q=mf
    ·rw[if_pos e3];decide
    ·rw[if_neg e3];by_cases e4:q=ml
     ·rw[if_pos e4];decide
     ·rw[if_neg e4];decide
 ·have:=h.b.size;have:=(h.k bk rfl).2;have:=(h.f mf rfl).2;have:=(h.l ml rfl).2;exact tg1 ⟨by omega,by omega,by omega,by omega⟩
section
variable{w0 wr w':aG}{b:Nat}{ns:List Nd}{cs:List Cb}{aK:List Int}{vN vC:aI}{kb kt kc:Nat}{C:Nat->Nat->Int}{ju jg:Nat}
theorem AY{Z dN:Own}{o k k':Nat}(x:WY o Z wr dN w')(ho:o<3+k')(hk:k<=k')(f1:∀q,q<wr.heap.size->(Z q).1<3+k)(f2:∀q,q<w0.heap.size->Z q=(1,0,0,0))(f3:aN w0.heap.size w0 wr):(∀q,q<w'.heap.size->(dN q).1<3+k')/\(∀q,q<w0.heap.size->dN q=(1,0,0,0))/\aN w0.heap.size w0 w':=by
 refine⟨fun q hq=>?_,fun q hq=>by rw[x.ext q (bW hq f3.size)];exact f2 q hq,?_⟩
 ·rcases Nat.lt_or_ge q wr.heap.size with h|h
  ·rw[x.ext q h];have:=f1 q h;omega
  ·have:=x.le q h hq;omega
 ·have:=(Ch.bY (S:=fun k=>(Z k).1≠1) f3).trans x.ch fun i _ s=>s;exact⟨this.os,this.tape,this.output,this.size,fun k hk=>(this.block k (by omega) (by rw[f2 k hk];simp))⟩
def Dz(w0:aG)(b:Nat)(ns:List Nd)(cs:List Cb)(aK:List Int)(vN vC:aI)(kb kt kc:Nat)(C:Nat->Nat->Int)(ju jg:Nat)(wr:aG):Prop:=
 ∃Z L,Jz Z wr b ns cs aK L kb kt kc C ju jg/\(L.vn=vN/\L.vc=vC)/\(∀q,q<wr.heap.size->(Z q).1<3+kb)/\(∀q,q<w0.heap.size->Z q=(1,0,0,0))/\aN w0.heap.size w0 wr
def NwB(w0:aG)(b:Nat)(ns:List Nd)(cs:List Cb)(aK:List Int)(vN vC:aI)(k:Nat)(C:Nat->Nat->Int)(ju jg bX:Nat)(wr:aG):Prop:=
 ∃Z L LX,Jz Z wr b ns cs aK L k k k C ju jg/\pO Z (3+k) wr bX ((jM ns cs aK default).boxes.getD k default) LX/\(L.vn=vN/\L.vc=vC)/\(∀q,q<wr.heap.size->(Z q).1<3+(k+1))/\(∀q,q<w0.heap.size->Z q=(1,0,0,0))/\aN w0.heap.size w0 wr
theorem WY.bY{Z:Own}(hb:aN wr.heap.size wr w'):WY 0 Z wr (fr Z wr.heap.size) w':=⟨Ch.bY hb,fun k hk=>gL hk,fun k h1 _=>by rw[lL h1];exact aC 0⟩
theorem Dz.below(h:Dz w0 b ns cs aK vN vC kb kt kc C ju jg wr)(hb:aN wr.heap.size wr w'):Dz w0 b ns cs aK vN vC kb kt kc C ju jg w':=by obtain⟨Z,L,m,v,f1,f2,f3⟩:=h;have x:WY 0 Z wr (fr Z wr.heap.size) w':=WY.bY hb;exact⟨fr Z wr.heap.size,L,(m.Ra (S:=fun _=>False) (fun _=>False) (Ch.bY hb) x.ext (fun _ s=>s.elim) (fun _ s=>s.elim)).all,v,AY x (by omega) (aC kb) f1 f2 f3⟩
theorem Dz.drew(h:Dz w0 b ns cs aK vN vC kb kt kc C ju jg wr):Dz w0 b ns cs aK vN vC kb kt kc C ju jg wr.drew:=h.below ⟨rfl,rfl,rfl,aC _,fun _ _=>rfl⟩
theorem YI(ns:List Nd)(cs:List Cb)(aK:List Int)(r:Rt){k:Nat}(hk:k<ns.length):(jM ns cs aK r).boxes.getD k default=qM (fw (ns.getD k jk)) (aK++aK):=by show(ns.map fun n=>qM (if n.sw then n.bE.toNat else 2) (aK++aK)).getD k default=_;simp[bJ,hk,fw]
theorem Dz.amt{k:Nat}(h:Dz w0 b ns cs aK vN vC k k k C ju jg wr)(hk:k<ns.length)(hp:sS ns cs)(hl0:1<=aK.length)(hl1:aK.length<=4)(hr:aK.all yK=true):∃A cap,wr.cell? ⟨b,3,aj⟩=az (ay A (aK++aK).length cap)/\bZ aH 40 #[ah ag (fw (ns.getD k jk):Nat),ay A (aK++aK).length cap] wr fun e w'=>∃bX,e=ax (.tuple #[au (az ⟨bX,0,aj⟩),ah ag 0])/\NwB w0 b ns cs aK vN vC k C ju jg bX w':=by
 obtain⟨Z,L,m,v,f1,f2,f3⟩:=h;obtain⟨A,cap,eA,hR,_⟩:=m.rm.isRec (d:=(0:Int));have c3:wr.cell? ⟨b,3,aj⟩=az L.vr:=m.root.cell 3;rw[eA]at c3;have pp:=hp.Qk hk;have bx:=aaT (fw (ns.getD k jk)) (aK++aK) A cap Z (3+k) wr (by omega) (fun q hq=>by have:=f1 q hq;omega) pp.1 pp.2 (by simp;omega) (by simp;omega) (fun r hr'=>by
  rw[List.all_eq_true]at hr;have:r∈aK:=by simpa using hr'
  have:=hr r this;unfold yK at this;simpa using this) hR
 refine⟨A,cap,c3,bx.mono fun e w' hq=>?_⟩;obtain⟨bX,dN,LX,rfl,hx,nx,_⟩:=hq;have x:WY (3+k) Z wr dN w':=WY.Kq nx (by omega);have G:=m.Ra (S:=fun q=>False) (dN:=dN) (fun _=>False) (Ch.bY (nx.Rl fun q hq=>by have:=f1 q hq;omega)) x.ext (fun _ s=>s.elim) (fun _ s=>s.elim);exact⟨bX,rfl,dN,L,LX,G.all,by rw[YI ns cs aK default hk];exact hx,v,AY (k':=k+1) x (by omega) (by omega) f1 f2 f3⟩
theorem NwB.put{k bX:Nat}(h:NwB w0 b ns cs aK vN vC k C ju jg bX wr):∃a cap,wr.cell? ⟨b,5,aj⟩=az (ay a k cap)/\wr.frozen? ⟨b,5,aj⟩=false/\∃xs,wr.ownsRow 0 101 1 (ay a k cap) k xs/\∀w1 w2 v,aN wr.heap.size wr w1->w2.ownsRow 0 101 1 v (k+1) (xs++[pt bX])->w1.grownBy w2 (ay a k cap).ownBlock->(v.ownBlock=(ay a k cap).ownBlock\/v.ownBlock=az w1.heap.size)->Dz w0 b ns cs aK vN vC (k+1) k k C ju jg (w2.setCell ⟨b,5,aj⟩ v)/\w2.cell? ⟨b,5,aj⟩=az (ay a k cap)/\w2.frozen? ⟨b,5,aj⟩=false/\∀j,w2.cell? ⟨b,j,aj⟩=wr.cell? ⟨b,j,aj⟩:=by
 obtain⟨Z,L,LX,m,hx,v,f1,f2,f3⟩:=h;obtain⟨a,cap,ev⟩:=dO m.vb.1;have c5:wr.cell? ⟨b,5,aj⟩=az L.vb:=m.root.cell 5;rw[ev]at c5;refine⟨a,cap,c5,m.root.frozen 5,_,by rw[<-ev];exact m.vb.1,fun w1 w2 v2 hb own gr loc=>?_⟩;rw[<-ev]at gr loc;obtain⟨dN,m',x⟩:=m.alb hx hb own gr loc;refine⟨⟨dN,_,m',v,AY x (by omega) (aC (k+1)) f1 f2 f3⟩,?_⟩;have lb:=m.root.lt;have c2:Ch (fun q=>L.vb.ownBlock=az q) wr w2:=(Ch.bY (S:=fun q=>L.vb.ownBlock=az q) hb).trans ((Ch.refl (fun q=>L.vb.ownBlock=az q) w1).grown gr fun g hg=>.inl hg) fun i _ s=>s;have nb:¬L.vb.ownBlock=az b:=fun q=>by have:=m.vb.2 b q;rw[m.iP]at this;simp at this
 have r2:=m.root.ch c2 nb;exact⟨by rw[<-ev];exact r2.cell 5,r2.frozen 5,fun j=>(r2.cell j).trans (m.root.cell j).symm⟩
theorem Dz.putRow{k kc:Nat}(h:Dz w0 b ns cs aK vN vC (k+1) k kc (fun _ _=>-1) ju jg wr):∃a cap,wr.cell? ⟨b,4,aj⟩=az (ay a k cap)/\wr.frozen? ⟨b,4,aj⟩=false/\∃xs,wr.ownsRow 0 26 1 (ay a k cap) k xs/\∀w1 w2 v u,aN wr.heap.size wr w1->w1.ownsRow wr.heap.size 3 1 u (fw (ns.getD k jk)) ((aS (fw (ns.getD k jk)) (-1)).flatMap cI)->1<=fw (ns.getD k jk)->w2.ownsRow 0 26 1 v (k+1) (xs++[u])->w1.grownBy w2 (ay a k cap).ownBlock->(v.ownBlock=(ay a k cap).ownBlock\/v.ownBlock=az w1.heap.size)->Dz w0 b ns cs aK vN vC (k+1) (k+1) kc (fun _ _=>-1) ju jg (w2.setCell ⟨b,4,aj⟩ v)/\w2.cell? ⟨b,4,aj⟩=az (ay a k cap)/\w2.frozen? ⟨b,4,aj⟩=false/\∀j,w2.cell? ⟨b,j,aj⟩=wr.cell? ⟨b,j,aj⟩:=by
 obtain⟨Z,L,m,v,f1,f2,f3⟩:=h;obtain⟨a,cap,ev⟩:=dO m.vt.1;have c5:wr.cell? ⟨b,4,aj⟩=az L.vt:=m.root.cell 4;rw[ev]at c5;refine⟨a,cap,c5,m.root.frozen 4,_,by rw[<-ev];exact m.vt.1,fun w1 w2 v2 u hb hu p1 own gr loc=>?_⟩;rw[<-ev]at gr loc;obtain⟨g,cp,Cg,e1,hbg,oV,hC⟩:=uJ hu (by omega);rw[e1]at own;obtain⟨dN,m',x⟩:=m.alc hb hbg oV (fun p hp=>by rw[hC p hp,Wv,List.getElem?_replicate,if_pos hp]) own gr loc;refine⟨⟨dN,_,m',v,AY x (by omega) (aC _) f1 f2 f3⟩,?_⟩;have c2:Ch (fun q=>L.vt.ownBlock=az q) wr w2:=(Ch.bY (S:=fun q=>L.vt.ownBlock=az q) hb).trans ((Ch.refl (fun q=>L.vt.ownBlock=az q) w1).grown gr fun g hg=>.inl hg) fun i _ s=>s;have nb:¬L.vt.ownBlock=az b:=fun q=>by have:=m.vt.2 b q;rw[m.iP]at this;simp at this
 have r2:=m.root.ch c2 nb;exact⟨by rw[<-ev];exact r2.cell 4,r2.frozen 4,fun j=>(r2.cell j).trans (m.root.cell j).symm⟩
theorem Dz.ail{kb kt k:Nat}(h:Dz w0 b ns cs aK vN vC kb kt k C ju jg wr):∃a cap,wr.cell? ⟨b,17,aj⟩=az (ay a k cap)/\wr.frozen? ⟨b,17,aj⟩=false/\∃xs,wr.ownsRow 0 26 1 (ay a k cap) k xs/\∀w1 w2 v g cp,aN wr.heap.size wr w1->dh w1 g 3 (aS (aK++aK).length (ah ag 0)).toArray->wr.heap.size<=g->w2.ownsRow 0 26 1 v (k+1) (xs++[ay (az ⟨g,0,aj⟩) (aK++aK).length cp])->w1.grownBy w2 (ay a k cap).ownBlock->(v.ownBlock=(ay a k cap).ownBlock\/v.ownBlock=az w1.heap.size)->Dz w0 b ns cs aK vN vC kb kt (k+1) C ju jg (w2.setCell ⟨b,17,aj⟩ v)/\w2.cell? ⟨b,17,aj⟩=az (ay a k cap)/\w2.frozen? ⟨b,17,aj⟩=false/\∀j,w2.cell? ⟨b,j,aj⟩=wr.cell? ⟨b,j,aj⟩:=by
 obtain⟨Z,L,m,v,f1,f2,f3⟩:=h;obtain⟨a,cap,ev⟩:=dO m.vm.1;have c5:wr.cell? ⟨b,17,aj⟩=az L.Uv:=m.root.cell 17;rw[ev]at c5;refine⟨a,cap,c5,m.root.frozen 17,_,by rw[<-ev];exact m.vm.1,fun w1 w2 v2 g cp hb hbg oV own gr loc=>?_⟩;rw[<-ev]at gr loc;obtain⟨dN,m',x⟩:=m.ahb hb hbg oV own gr loc;refine⟨⟨dN,_,m',v,AY x (by omega) (aC _) f1 f2 f3⟩,?_⟩;have c2:Ch (fun q=>L.Uv.ownBlock=az q) wr w2:=(Ch.bY (S:=fun q=>L.Uv.ownBlock=az q) hb).trans ((Ch.refl (fun q=>L.Uv.ownBlock=az q) w1).grown gr fun g hg=>.inl hg) fun i _ s=>s;have nb:¬L.Uv.ownBlock=az b:=fun q=>by have:=m.vm.2 b q;rw[m.iP]at this;simp at this
 have r2:=m.root.ch c2 nb;exact⟨by rw[<-ev];exact r2.cell 17,r2.frozen 17,fun j=>(r2.cell j).trans (m.root.cell j).symm⟩
theorem Dz.asn{k:Nat}(h:Dz w0 b ns cs aK vN vC kb kt kc C k jg wr):∃a cap,wr.cell? ⟨b,6,aj⟩=az (ay a k cap)/\wr.frozen? ⟨b,6,aj⟩=false/\∃xs,wr.ownsRow 0 4 1 (ay a k cap) k xs/\∀w1 w2 v,aN wr.heap.size wr w1->w2.ownsRow 0 4 1 v (k+1) (xs++[.bool true])->w1.grownBy w2 (ay a k cap).ownBlock->(v.ownBlock=(ay a k cap).ownBlock\/v.ownBlock=az w1.heap.size)->Dz w0 b ns cs aK vN vC kb kt kc C (k+1) jg (w2.setCell ⟨b,6,aj⟩ v)/\w2.cell? ⟨b,6,aj⟩=az (ay a k cap)/\w2.frozen? ⟨b,6,aj⟩=false/\∀j,w2.cell? ⟨b,j,aj⟩=wr.cell? ⟨b,j,aj⟩:=by
 obtain⟨Z,L,m,v,f1,f2,f3⟩:=h;obtain⟨a,cap,ev⟩:=dO m.vu.1;have c5:wr.cell? ⟨b,6,aj⟩=az L.vu:=m.root.cell 6;rw[ev]at c5;refine⟨a,cap,c5,m.root.frozen 6,_,by rw[<-ev];exact m.vu.1,fun w1 w2 v2 hb own gr loc=>?_⟩;rw[<-ev]at gr loc;obtain⟨dN,m',x⟩:=m.aqc hb own gr loc;refine⟨⟨dN,_,m',v,AY x (by omega) (aC _) f1 f2 f3⟩,?_⟩;have c2:Ch (fun q=>L.vu.ownBlock=az q) wr w2:=(Ch.bY (S:=fun q=>L.vu.ownBlock=az q) hb).trans ((Ch.refl (fun q=>L.vu.ownBlock=az q) w1).grown gr fun g hg=>.inl hg) fun i _ s=>s;have nb:¬L.vu.ownBlock=az b:=fun q=>by have:=m.vu.2 b q;rw[m.iP]at this;simp at this
 have r2:=m.root.ch c2 nb;exact⟨by rw[<-ev];exact r2.cell 6,r2.frozen 6,fun j=>(r2.cell j).trans (m.root.cell j).symm⟩
theorem Dz.aim{k:Nat}(h:Dz w0 b ns cs aK vN vC kb kt kc C ju k wr):∃a cap,wr.cell? ⟨b,18,aj⟩=az (ay a k cap)/\wr.frozen? ⟨b,18,aj⟩=false/\∃xs,wr.ownsRow 0 26 1 (ay a k cap) k xs/\∀w1 w2 v g cp g' cp',aN wr.heap.size wr w1->dh w1 g 3 (aS (aK++aK).length (ah ag 0)).toArray->wr.heap.size<=g->dh w1 g' 3 (aS (aK++aK).length (ah ag 0)).toArray->wr.heap.size<=g'->g≠g'->w2.ownsRow 0 26 1 v (k+2) (xs++[ay (az ⟨g,0,aj⟩) (aK++aK).length cp,ay (az ⟨g',0,aj⟩) (aK++aK).length cp'])->w1.grownBy w2 (ay a k cap).ownBlock->(v.ownBlock=(ay a k cap).ownBlock\/v.ownBlock=az w1.heap.size)->Dz w0 b ns cs aK vN vC kb kt kc C ju (k+2) (w2.setCell ⟨b,18,aj⟩ v)/\w2.cell? ⟨b,18,aj⟩=az (ay a k cap)/\w2.frozen? ⟨b,18,aj⟩=false/\∀j,w2.cell? ⟨b,j,aj⟩=wr.cell? ⟨b,j,aj⟩:=by
 obtain⟨Z,L,m,v,f1,f2,f3⟩:=h;obtain⟨a,cap,ev⟩:=dO m.vg.1;have c5:wr.cell? ⟨b,18,aj⟩=az L.vg:=m.root.cell 18;rw[ev]at c5;refine⟨a,cap,c5,m.root.frozen 18,_,by rw[<-ev];exact m.vg.1,fun w1 w2 v2 g cp g' cp' hb hbg oV ayi hbase' nQ own gr loc=>?_⟩;rw[<-ev]at gr loc;obtain⟨dN,m',x⟩:=m.ahc hb hbg oV ayi hbase' nQ own gr loc;refine⟨⟨dN,_,m',v,AY x (by omega) (aC _) f1 f2 f3⟩,?_⟩;have c2:Ch (fun q=>L.vg.ownBlock=az q) wr w2:=(Ch.bY (S:=fun q=>L.vg.ownBlock=az q) hb).trans ((Ch.refl (fun q=>L.vg.ownBlock=az q) w1).grown gr fun g hg=>.inl hg) fun i _ s=>s;have nb:¬L.vg.ownBlock=az b:=fun q=>by have:=m.vg.2 b q;rw[m.iP]at this;simp at this
 have r2:=m.root.ch c2 nb;exact⟨by rw[<-ev];exact r2.cell 18,r2.frozen 18,fun j=>(r2.cell j).trans (m.root.cell j).symm⟩
theorem Dz.afJ{i p:Nat}(h:Dz w0 b ns cs aK vN vC kb kt kc C ju jg wr)(hi:i<kt)(hp:p<fw (ns.getD i jk))(x:Int):∃gv cv g cap,wr.cell? ⟨b,4,aj⟩=az (ay (az ⟨gv,0,aj⟩) kt cv)/\wr.cell? ⟨gv,i,aj⟩=az (ay (az ⟨g,0,aj⟩) (fw (ns.getD i jk)) cap)/\wr.frozen? ⟨g,p,aj⟩=false/\wr.cell? ⟨g,p,aj⟩=az (ah ag (C i p))/\(∃Cg,dh wr g 3 Cg)/\Dz w0 b ns cs aK vN vC kb kt kc (fun i' p'=>if i'=i/\p'=p then x else C i' p') ju jg (wr.setCell ⟨g,p,aj⟩ (ah ag x)):=by obtain⟨Z,L,m,v,f1,f2,f3⟩:=h;obtain⟨gv,cv,g,cap,e1,c1,fz,c2,gb,m',x'⟩:=m.amX hi hp x;have c5:wr.cell? ⟨b,4,aj⟩=az L.vt:=m.root.cell 4;rw[e1]at c5;exact⟨gv,cv,g,cap,c5,c1,fz,c2,gb,Z,L,m',v,AY x' (by omega) (aC _) f1 f2 f3⟩
theorem Dz.cells(h:Dz w0 b ns cs aK vN vC kb kt kc C ju jg wr):wr.cell? ⟨b,0,aj⟩=az vN/\wr.cell? ⟨b,1,aj⟩=az vC/\∃A cap,wr.cell? ⟨b,3,aj⟩=az (ay A (aK++aK).length cap):=by obtain⟨Z,L,m,v,f1,f2,f3⟩:=h;refine⟨by rw[<-v.1];exact m.root.cell 0,by rw[<-v.2];exact m.root.cell 1,?_⟩;obtain⟨a,c,e⟩:=m.rm.form;exact⟨a,c,by rw[<-e];exact m.root.cell 3⟩
theorem Dz.plan{bN bC:Option Addr}{kN kC:Nat}(h:Dz w0 b ns cs aK (ay bN ns.length kN) (ay bC cs.length kC) kb kt kc C ju jg wr):jw wr bN bC ⟨ns,cs⟩:=by obtain⟨Z,L,m,v,f1,f2,f3⟩:=h;obtain⟨An,Ac,cn,cc,e1,e2,hp,_,_⟩:=m.plan;rw[v.1]at e1;rw[v.2]at e2;injection e1 with e1;injection e2 with e2;rw[e1,e2];exact hp
theorem Dz.alp{C':Nat->Nat->Int}(h:Dz w0 b ns cs aK vN vC kb kt kc C ju jg wr)(hC:∀i,i<kt->∀p,C i p=C' i p):Dz w0 b ns cs aK vN vC kb kt kc C' ju jg wr:=by obtain⟨Z,L,m,v,f⟩:=h;refine⟨Z,L,⟨m.root,m.iP,m.plan,m.rm,m.vt,fun i hi=>?_,m.vb,m.bx,m.vm,m.cm,m.vu,m.vg,m.gn,m.bk,m.mf,m.ml,m.vl⟩,v,f⟩;have:=m.rows i hi;rw[show(fun p=>ah .i64 (C i p))=fun p=>ah .i64 (C' i p)from funext fun p=>by rw[hC i hi p]]at this;exact this
end
theorem find_congr{α:Type}{P Q:α->Bool}:∀(l:List α),(∀x∈l,P x=Q x)->l.find? P=l.find? Q
 |[],_=>rfl
 |x::l,h=>by rw[yu,yu,h x (List.mem_cons_self ..),find_congr l fun y hy=>h y (List.mem_cons_of_mem _ hy)]
def atB(cs:List Cb)(node port i:Nat):Bool:=((cs.getD i gX).a==(node:Int)&&(cs.getD i gX).ap==(port:Int))||((cs.getD i gX).b==(node:Int)&&(cs.getD i gX).bp==(port:Int))
theorem JV{cs:List Cb}{j:Nat}(hj:j<=cs.length)(node port:Nat):mZ (cs.take j) node port=(aO j).find? (atB cs node port):=by
 unfold mZ;rw[List.length_take,Nat.min_eq_left hj];refine find_congr _ fun k hk=>?_;have hk:=dJ.1 hk;have e:(cs.take j).getD k gX=cs.getD k gX:=by simp[bJ,List.getElem?_take,hk]
 unfold atB;simp only[e]
theorem ZE{cs:List Cb}{node port i:Nat}(hi:i<cs.length)(h:atB cs node port i=true):∃e,e/2=i/\e<2*cs.length/\(gY cs).getD e (0,0)=((node:Int),(port:Int)):=by
 unfold atB at h;simp only[iq,cZ,beq_iff_eq]at h;have:=JY cs hi;rcases h with h|h
 ·exact⟨2*i,by omega,by omega,by rw[this.1,h.1,h.2]⟩
 ·exact⟨2*i+1,by omega,by omega,by rw[this.2,h.1,h.2]⟩
theorem aaY{ns:List Nd}{cs:List Cb}(hp:sS ns cs){j:Nat}(hj:j<cs.length)(node port:Nat):Ei (cs.take (j+1)) node port=if node=(cs.getD j gX).b.toNat/\port=(cs.getD j gX).bp.toNat then(j:Int)else if node=(cs.getD j gX).a.toNat/\port=(cs.getD j gX).ap.toNat then(j:Int)else Ei (cs.take j) node port:=by
 have A:=hp.a0 j hj;have B:=hp.b0 j hj;have AP:=hp.ap j hj;have BP:=hp.bp j hj;unfold Ei;rw[JV (by omega),JV (by omega),dB,List.find?_append];have key:atB cs node port j=true->(aO j).find? (atB cs node port)=aj:=fun h=>by rw[List.find?_eq_none];intro k hk q;have hk:=dJ.1 hk;obtain⟨e1,d1,l1,v1⟩:=ZE hj h;obtain⟨e2,d2,l2,v2⟩:=ZE (by omega:k<cs.length) q;have:=hp.inj e1 e2 l1 l2 (v1.trans v2.symm);omega
 have val:atB cs node port j=true↔(node=(cs.getD j gX).b.toNat/\port=(cs.getD j gX).bp.toNat)\/(node=(cs.getD j gX).a.toNat/\port=(cs.getD j gX).ap.toNat):=by unfold atB;simp only[iq,cZ,beq_iff_eq];omega
 cases hb:atB cs node port j with
 |true=>
  rw[key hb];have h:=val.1 hb;simp only[yu,hb,Option.none_or];show(j:Int)=_;split
  ·rfl
  ·rw[if_pos (by omega)]
 |false=>
  have h:¬_:=fun q=>by have:=val.2 q;rw[hb]at this;cases this
  rw[if_neg fun q=>h (.inl q),if_neg fun q=>h (.inr q)];simp only[yu,hb,List.find?_nil,Option.or_none]
theorem Dz.aip{w0 wr:aG}{b:Nat}{ns:List Nd}{cs:List Cb}{aK:List Int}{vN vC:aI}(h:Dz w0 b ns cs aK vN vC ns.length ns.length ns.length (fun i p=>Ei cs i p) cs.length (2*cs.length) wr)(hp:sS ns cs)(hv:fT ⟨ns,cs⟩=0)(tu:QI ⟨ns,cs⟩):bZ aH 42 #[pt b] wr fun e w'=>e=ax (.tuple #[])/\∃r Z L,Bz ns cs (cs.map fun _=>true) r/\gy Z w' b ns cs (jM ns cs aK r) L/\(∀q,q<w0.heap.size->Z q=(1,0,0,0))/\aN w0.heap.size w0 w':=by
 obtain⟨Z,L,m,v,f1,f2,f3⟩:=h;obtain⟨vB,H,hb,uG⟩:=m.fin;have up:(jM ns cs aK default).up.length=cs.length:=by show(cs.map fun _=>true).length=_;simp
 refine(Kc (jM ns cs aK default) b ns cs L vB wr H hb (fun q=>?_) (fun _ q=>?_) hp hv tu up (bS _)).mono ?_
 ·exact absurd q (by show ¬(0%2=1);decide)
 ·exact absurd q (Nat.lt_irrefl 0)
 rintro e w' ⟨rfl,r,hr,dN,L',m',n⟩;have t1:∀q,q<w0.heap.size->vB q=(1,0,0,0):=fun q hq=>by rw[uG q (by rw[f2 q hq];simp)];exact f2 q hq
 refine⟨rfl,r,dN,L',hr,m',fun q hq=>by rw[n.ext q (bW hq f3.size)];exact t1 q hq,?_⟩;have:=(Ch.bY (S:=fun k=>2<=(vB k).1) f3).trans n.ch fun i _ s=>s;exact⟨this.os,this.tape,this.output,this.size,fun k hk=>(this.block k (by omega) (by rw[t1 k hk];simp))⟩
end
section
attribute [local go_sem ↓] Go.wp_at_zero Go.wp_at_succ
def pU(aK:List Int):Bool:=decide (1<=aK.length)&&decide (aK.length<=4)&&aK.all yK
def zS(p:Pl)(aK:List Int):Int:=if fT p=0 then(if pU aK then 0 else 2)else fT p
def CJ(w:aG)(ns:List Nd)(cs:List Cb)(aK:List Int)(e:Ending)(w':aG):Prop:=
 (zS ⟨ns,cs⟩ aK≠0/\e=ax (.tuple #[au aj,ah ag (zS ⟨ns,cs⟩ aK)])/\aN w.heap.size w w')\/
 (zS ⟨ns,cs⟩ aK=0/\∃b r Z L,e=ax (.tuple #[au (az ⟨b,0,aj⟩),ah ag 0])/\Bz ns cs (cs.map fun _=>true) r/\gy Z w' b ns cs (jM ns cs aK r) L/\(∀k,k<w.heap.size->Z k=(1,0,0,0))/\aN w.heap.size w w')
def apJ(aK:List Int)(w1:aG)(i:aI)(wr:aG):Prop:=∃k:Nat,k<=aK.length/\i=ah ag k/\w1=wr/\(aK.take k).all yK=true
theorem abN:(Tryz.prog.info? 101).map (fun i=>(i.zero,i.size,i.bytes))=az (az (au aj),1,8):=by kernel_rfl
def apM(w0:aG)(b:Nat)(ns:List Nd)(cs:List Cb)(aK:List Int)(vN vC:aI)(i:aI)(wr:aG):Prop:=∃k:Nat,k<=ns.length/\i=ah ag k/\Dz w0 b ns cs aK vN vC k k k (fun _ _=>-1) 0 0 wr
def apN(w0:aG)(b:Nat)(ns:List Nd)(cs:List Cb)(aK:List Int)(vN vC:aI)(i:aI)(wr:aG):Prop:=∃j:Nat,j<=cs.length/\i=ah ag j/\Dz w0 b ns cs aK vN vC ns.length ns.length ns.length (fun i p=>Ei (cs.take j) i p) j (2*j) wr
theorem Vz(ns:List Nd)(cs:List Cb)(aK:List Int)(An Ac Ar:Option Addr)(cn cc cr:Nat)(w:aG)(hl:ns.length<=1000000)(DN:cs.length<=1000000)(hl3:aK.length<=1000000)(tu:QI ⟨ns,cs⟩)(hwr:WfI aK)(h:jw w An Ac ⟨ns,cs⟩)(h3:gI 1 cI 0 w Ar aK.length aK):bZ aH 11 #[.agg #[ay An ns.length cn,ay Ac cs.length cc],ay Ar aK.length cr] w (CJ w ns cs aK):=by
 obtain⟨w1,gK⟩:∃w1:aG,w.alloc (af #[ay An ns.length cn,ay Ac cs.length cc] 25)=w1:=⟨_,rfl⟩;have B1:aY (aN w.heap.size w w1):=by rw[<-gK];exact(aQ _ _).alloc (aC _) _
 have P1:aY (dh w1 w.heap.size 25 #[ay An ns.length cn,ay Ac cs.length cc]):=by rw[<-gK];exact dh.new w _ _
 have IP:=aA (h.below (aC _) B1.o);have IR:=aA (h3.below (aC _) B1.o);have GV:aY (bZ aH 35 #[.agg #[ay An ns.length cn,ay Ac cs.length cc]] w1 fun e w'=>e=ax (ah ag (fT ⟨ns,cs⟩))/\aN w1.heap.size w1 w'):=zN ⟨ns,cs⟩ An Ac cn cc w1 hl DN tu IP.o;have k0:w1.cell? ⟨w.heap.size,0,aj⟩=az (ay An ns.length cn):=P1.o.cell 0;have k1:w1.cell? ⟨w.heap.size,1,aj⟩=az (ay Ac cs.length cc):=P1.o.cell 1;have BAD:aY (∀e w',zS ⟨ns,cs⟩ aK=e->e≠0->aN w.heap.size w w'->CJ w ns cs aK (ax (.tuple #[au aj,ah ag e])) w'):=fun e w' h1 h2 h3=>.inl ⟨by rw[h1];exact h2,by rw[h1],h3⟩;by_cases hv:fT ⟨ns,cs⟩=0
 ·have HV:=aA hv;rw[hv]at GV;have PL:=aA (Gq hv);have n16:=PL.o.n16;have Lb:=PL.o.Lb;have NE:aY (zS ⟨ns,cs⟩ aK=if pU aK then 0 else 2):=by rw[aY];unfold zS;rw[if_pos hv]
  clear hv h h3;by_cases hl0:aK.length<1
  ·have F:aY (∀w',aN w.heap.size w w'->CJ w ns cs aK (ax (.tuple #[au aj,ah ag 2])) w'):=fun w' hb=>BAD.o 2 w' (by rw[NE.o,if_neg (by unfold pU;simp;omega)]) (by decide) hb;go_enter func11,ntmps11;go_wp2_with (first|(go_at_call 35;(with_reducible refine GV.o.mono ?_);rintro e w2 ⟨rfl,uu⟩;have B2:=aA (B1.o.trans (uu.mono B1.o.size));clear uu));go_ret2;exact F.o _ B2.o
  ·by_cases hl1:4<aK.length
   ·have F:aY (∀w',aN w.heap.size w w'->CJ w ns cs aK (ax (.tuple #[au aj,ah ag 2])) w'):=fun w' hb=>BAD.o 2 w' (by rw[NE.o,if_neg (by unfold pU;simp;omega)]) (by decide) hb;have i1:(4:Int)<(aK.length:Int):=by omega
    have i2:(1:Int)<=(aK.length:Int):=(by omega);go_enter func11,ntmps11;go_wp2_with (first|(go_at_call 35;(with_reducible refine GV.o.mono ?_);rintro e w2 ⟨rfl,uu⟩;have B2:=aA (B1.o.trans (uu.mono B1.o.size));clear uu));go_ret2;exact F.o _ B2.o
   ·have i1:(aK.length:Int)<=(4:Int):=by omega
    have i2:(1:Int)<=(aK.length:Int):=(by omega);go_enter func11,ntmps11;go_wp2_with (first|(go_at_call 35;(with_reducible refine GV.o.mono ?_);rintro e w2 ⟨rfl,uu⟩;have B2:=aA uu;clear uu));have B3:aY (aN w.heap.size w w2):=B1.o.trans (B2.o.mono B1.o.size);obtain⟨rb,ro,ha,_,_⟩:=oC IR.o 0 (by omega);subst ha;have IR2:=aA (IR.o.below (aC _) B2.o);have aoq:aY (∀k,k<aK.length->(aK.getD k 0<1\/64<aK.getD k 0)->CJ w ns cs aK (ax (.tuple #[au aj,ah ag 2])) w2):=fun k hk hb=>BAD.o 2 w2 (by
     rw[NE.o,if_neg];unfold pU;have:aK.all yK=false:=by
      rw[List.all_eq_false];have hm:aK.getD k 0∈aK:=by simp[bJ,hk]
      generalize aK.getD k 0=r at *;exact⟨r,hm,by unfold yK;simp;omega⟩
     rw[this];simp) (by decide) B3.o
    go_loopw [8,32,33,34,35,36,37,38,39,40,41,42] (fun _ i _ _ _ _ _ _ _ _ _ _ wr=>apJ aK w2 i wr) (fun _ i _ _ _ _ _ _ _ _ _ _ _=>aK.length-(aJ i).toNat);case atStart=>exact⟨0,bS _,rfl,rfl,rfl⟩
    case round=>
     obtain⟨k,hk,rfl,rfl,hall⟩:=hrel;by_cases nI:k<aK.length
     ·obtain⟨rb2,ro2,ha2,_,hc⟩:=oC IR2.o k nI;injection ha2 with ha2;injection ha2 with ha2 ha3;subst ha2;subst ha3;have BK:=aA (aoq.out k nI);have TK:aY (yK (aK.getD k 0)=true->(aK.take (k+1)).all yK=true):=fun q=>by
       rw[List.take_add_one,List.all_append,hall];simp[bJ,nI]at q|-;exact q
      have hkc:(k:Int)<(aK.length:Int):=(by omega);have NJ:(0:Int)<=(k:Int):=(by omega);have hwk:wrap64 ((k:Int)+1)=(k:Int)+1:=(by unfold wrap64;omega);generalize aK.getD k 0=r at *;clear hall;by_cases r1:r<1
      ·go_wp2_with fail;go_ret2
       exact BK.o (.inl r1)
      ·have r1':1<=r:=by omega
       by_cases r2:64<r
       ·go_wp2_with fail;go_ret2
        exact BK.o (.inr r2)
       ·have r2':r<=64:=by omega
        have T:=aA (TK.o (by unfold yK;simp;omega));go_wp2_with fail;exact⟨⟨k+1,by omega,by congr 1,rfl,T.o⟩,by simp[aJ];omega⟩
     ·obtain rfl:aK.length=k:=by omega
      rw[dY]at hall;have RB:=aA hall;clear hall;clear aoq BAD;go_wp2_with fail;obtain⟨bp,hbp⟩:∃bp,w.heap.size=bp:=⟨_,rfl⟩;have LP:aY (bp<w2.heap.size):=by rw[aY,<-hbp];exact bW P1.o.lt B2.o.size
      have KP:aY (∀w',aN w2.drew.heap.size w2.drew w'->w'.cell? ⟨bp,0,aj⟩=az (ay An ns.length cn)/\w'.cell? ⟨bp,1,aj⟩=az (ay Ac cs.length cc)):=fun w' hb=>(by have p2:=(P1.o.below B2.o P1.o.lt);rw[hbp]at p2;have p3:=dh.below (w:=w2.drew) p2.drew hb LP.o;exact⟨p3.cell 0,p3.cell 1⟩);have alQ:aY (jw w2.drew An Ac ⟨ns,cs⟩):=(IP.o.below (aC _) B2.o.drew);have alR:aY (gI 1 cI 0 w2.drew (az ⟨rb,ro,aj⟩) aK.length aK):=IR2.o;have Jv:aY (aN w.heap.size w w2.drew):=B3.o.drew;rw[hbp];clear k0 k1 B2 B3 IP IR IR2 P1 B1 hbp GV;refine fQ 18 (fun wq=>wq.cell? ⟨bp,0,aj⟩=az (ay An ns.length cn)/\wq.cell? ⟨bp,1,aj⟩=az (ay Ac cs.length cc)) (by kernel_rfl) (KP.o _ (aQ _ _)) (fun aW=>?_);refine bH.tk 0 aW ?_;try simp only[bI]
      refine bH.tk 1 aW ?_;try simp only[bI]
      refine bH.tk 3 aW ?_;try simp only[bI]
      refine bH.tk 4 aW ?_;try simp only[bI]
      refine bH.tk 7 aW ?_;try simp only[bI]
      refine bH.tk 8 aW ?_;try simp only[bI]
      refine bH.tk 9 aW ?_;try simp only[bI]
      refine bH.tk 11 aW ?_;try simp only[bI]
      refine bH.cast (ops':=ui) (by kernel_rfl) ?_;refine azH (w0:=w2.drew) (ns:=ns) (cs:=cs) (aK:=aK) KP.o (fun _ _ _ _ _ h=>h) (by show 60<=195;decide) rfl rfl rfl rfl ?k1 ?k2 ?k3 ?k4 (by omega) ?k5 11 0 false false (by decide) rfl _ _ _ YJ YJ YJ YJ 0 0 0 ⟨Jy.start _ _ _ _ _ (aQ _ _),Ag.refl _,by omega,by omega,by omega,by omega,by omega,by omega,fun q=>(by cases q),fun q=>(by cases q)⟩;case k1=>exact fun w' hb=>XZ An cn ns w' (by omega) (alQ.out.1.below (aC _) hb)
      case k2=>exact fun w' hb=>XX Ac cc cs w' (by omega) (alQ.out.2.below (aC _) hb)
      case k3=>exact fun w' hb=>(XY (az ⟨rb,ro,aj⟩) cr aK w' (by omega) (by omega) (alR.out.below (aC _) hb)).mono fun e w3 ⟨v,h1,h2,h3⟩=>⟨v,h1,h2,h3⟩
      case k4=>exact fun w' hb=>(tY (c:=cI) (m:=1) (d:=0) (fun _=>rfl) alR.out).below hb
      intro F a' w3 vN vC vI vA bk mf ml s;have A:=s.g;have I:Jy w2.drew ns cs aK (az vN) (az vC) aj (az vA) (az bk) (az mf) (az ml) w3:=s.i;have h45:=s.h45 (by decide);have h48:=s.h48 (by decide);have h49:=s.h49 (by decide);have h53:=s.h53 (by decide);have h55:=s.h55 (by decide);have h56:=s.h56 (by decide);have h57:=s.h57 rfl;have h58:=s.h58 rfl;clear s;obtain⟨bN,kN,rfl⟩:=dO (I.n vN rfl);obtain⟨bC,kC,rfl⟩:=dO (I.c vC rfl);obtain⟨bA,kA,rfl⟩:=dO (I.a vA rfl);have q51:=A.JZ (i:=51) (v:=ah ag aK.length) (by decide) rfl;refine aqM (by rw[A.sz];show 60<195;decide) (fun _ _ _ _ _ h=>h) (KP.o _ I.b) (A.eval h49) q51 (A.eval h55) (A.eval h56) (A.eval h57) (A.eval h58) (KP.o _ (I.b.alloc I.b.size _)) (fun v=>?_);rw[A.canon (by show 60<=195;decide) h45 h48 h49 h53 h55 h56 h57 h58];clear A h45 h48 h49 h53 h55 h56 h57 h58 q51;obtain⟨vB,L1,m1,⟨v1,v2⟩,t1,t2⟩:=Jz.start I (fun _ _=>-1);have R0:aY (Dz w2.drew w3.heap.size ns cs aK (ay bN ns.length kN) (ay bC cs.length kC) 0 0 0 (fun _ _=>-1) 0 0 (w3.alloc (af #[ay bN ns.length kN,ay bC cs.length kC,ah ag aK.length,ay bA (aK.length+aK.length) kA,ay aj 0 0,ay aj 0 0,ay aj 0 0,ay aj 0 0,ay aj 0 0,ay aj 0 0,ay aj 0 0,au (az ⟨bk,0,aj⟩),.bool false,ah ag 0,ah ag 0,.map (az mf),.map (az ml),ay aj 0 0,ay aj 0 0,ay aj 0 0] 100))):=
       ⟨vB,L1,m1,⟨v1,v2⟩,fun q _=>t1 q,t2,I.b.alloc I.b.size _⟩
      simp only[qC,List.setIfInBounds_toArray,List.set_cons_zero,List.set_cons_succ];generalize w3.alloc _=wF at *;generalize w3.heap.size=b at *;clear m1 v1 v2 t1 t2 KP alQ alR I LP aW;have c0:=R0.o.cells.1;obtain⟨mm,hmm⟩:∃mm,(aK++aK).length=mm:=⟨_,rfl⟩;have HM:=aA hmm;have mm8:mm<=8:=by rw[<-hmm,bV];omega
      clear hmm;go_wp2_with fail;clear c0;go_loopw [4,5,11,12,13,14,67,68,69,70,71,72,73,74,75,76,77,78,79,80,81,82,83,84,85,86,87,88,89,90,91,92,93,94,95,96,97,98,99,100,101,102,103,104,105,106,107,108,109,110,111,112,113,114,115,116,117,118,119,120,121,122,123,124,125] (fun _ _ _ _ _ _ i _ _ _ _ _ _ _ _ _ _ _ _ _ _ _ _ _ _ _ _ _ _ _ _ _ _ _ _ _ _ _ _ _ _ _ _ _ _ _ _ _ _ _ _ _ _ _ _ _ _ _ _ _ _ _ _ _ _ wr=>apM w2.drew b ns cs aK (ay bN ns.length kN) (ay bC cs.length kC) i wr) (fun _ _ _ _ _ _ i _ _ _ _ _ _ _ _ _ _ _ _ _ _ _ _ _ _ _ _ _ _ _ _ _ _ _ _ _ _ _ _ _ _ _ _ _ _ _ _ _ _ _ _ _ _ _ _ _ _ _ _ _ _ _ _ _ _ _=>ns.length-(aJ i).toNat);case atStart=>exact⟨0,bS _,rfl,R0.o⟩
      case round=>
       clear R0;obtain⟨k,hk,rfl,hR⟩:=hrel;have RK:=aA hR;by_cases yY:k<ns.length
       ·as_aux_lemma=>
        obtain⟨bn,on,hbn,_,_,e0,e1,e2⟩:=uQ hR.plan.1 k yY;subst hbn;have PP:=PL.o.Qk yY;have SWF:=PL.o.sw k yY;obtain⟨wa,Lg⟩:∃wa:aG,wr.alloc (af #[.string (ns.getD k jk).name,.bool (ns.getD k jk).sw,ah ag (ns.getD k jk).bE] 83)=wa:=⟨_,rfl⟩;have BA:aY (aN wr.heap.size wr wa):=(by rw[<-Lg];exact(aQ _ _).alloc (aC _) _);have VA:aY (dh wa wr.heap.size 83 #[.string (ns.getD k jk).name,.bool (ns.getD k jk).sw,ah ag (ns.getD k jk).bE]):=(by rw[<-Lg];exact dh.new wr _ _);have v1:=VA.o.cell 1;have v2:=VA.o.cell 2;have RA:=aA (hR.below BA.o);obtain⟨A,cap,c3,bxc⟩:=RA.o.amt yY PL.o (by omega) (by omega) RB.o;have BX:=aA bxc;have PO:aY (1<=fw (ns.getD k jk)/\fw (ns.getD k jk)<=8):=PP;have PI:aY ((if(ns.getD k jk).sw then(ns.getD k jk).bE else 2)=((fw (ns.getD k jk):Nat):Int)):=by
         rw[aY];unfold fw;split
         ·omega
         ·rfl
        clear PP SWF hR bxc;obtain⟨pI,hpI⟩:∃pI:Int,((fw (ns.getD k jk):Nat):Int)=pI:=⟨_,rfl⟩;have PN:=aA hpI;rw[hpI]at BX PI;clear hpI;generalize hx:ns.getD k jk=x at *;have HX:=aA hx;clear hx;have k0i:(0:Int)<=(k:Int):=by omega
        have k1i:(k:Int)<(ns.length:Int):=(by omega);go_upto_if 75 with fail;go_cut [12,70]from 73 to 75 (fun s12 _ wx=>s12=ah ag pI/\wa=wx);case first=>
         cases hs:x.sw with
         |true=>rw[hs]at v1 PI;go_wp2_with fail;go_meet;case rel=>exact⟨by rw[<-PI.o];rfl,rfl⟩
         |false=>rw[hs]at v1 PI;go_wp2_with fail;go_meet;case rel=>exact⟨by rw[<-PI.o];rfl,rfl⟩
        case rest=>
         obtain⟨rfl,rfl⟩:=hcut;clear v1 v2 PI VA BA Lg e0 e1 e2;obtain⟨j0,xI,zb,Ad,Ae⟩:=dX abN;rw[HM.o]at c3 BX;go_wp2_with (first
          |(go_at_call 40;(with_reducible refine BX.o.mono ?_);rintro e w4 ⟨bX,rfl,hB4⟩;obtain⟨aV,cV,c5,f5,xs5,o5,asj⟩:=hB4.put;have P5:=aA asj;clear hB4 asj)
          |(at_builtin;refine gW _ rfl (.tmp 92) (.tmp 94) 93 rfl 0 101 j0 _ 1 8 underlying93 xI zb Ad Ae rfl (by decide) _ k xs5 rfl (o5.alloc (af #[pt bX] 101)) (w4.heap.size+1) _ 1 1 [pt bX] rfl (iB w4 101 [pt bX] (n:=1) (size:=1) rfl) (by intro u hu;simp only[dz]at hu;subst hu;rfl) (by unfold fB;omega) (by omega) (bS _) ?_))
         intro v6 w6 Ji gr6 PY;obtain⟨a6,c6,rfl⟩:=dO Ji;obtain⟨r6,cu6,fu6,_⟩:=P5.o (w4.alloc (af #[pt bX] 101)) w6 _ ((aQ _ _).alloc (aC _) _) Ji gr6 (by simpa using PY);have R6:=aA r6;clear r6 Ji gr6 PY P5 o5 c5 f5 BX c3 xI zb Ad Ae;go_wp2_with fail;generalize w6.setCell _ _=w7 at *;clear cu6 fu6;obtain⟨aT,cT,c4,f4,xsT,oT,amS⟩:=R6.o.putRow;rw[HX.o]at amS;have PT:=aA amS;have KS:aY (∀w',aN w7.heap.size w7 w'->w'.cell? ⟨b,4,aj⟩=az (ay aT k cT)):=fun w' hb=>(hb.cell (aZ _ _ c4)).trans c4;have REP:aY (∀w' gx cp,w'.cell? ⟨gx,0,aj⟩=az (ah ag (-1))->bZ aH 41 #[ay (az ⟨gx,0,aj⟩) 1 cp,ah ag pI] w' (pE 3 1 cI (aS (fw x) (-1)) w')):=fun w' gx cp hc=>by rw[<-PN.o];exact YS (-1) (fw x) gx cp w' PO.o.1 PO.o.2 hc
         clear amS;obtain⟨l0,hl0',ly0,ly1,ly2⟩:=dX IZ;have OT:=aA oT;clear oT;have FO:aY (aN w7.heap.size w7 (w7.alloc (af #[ah ag (-1)] 3)).drew):=((aQ _ _).alloc (aC _) _).drew;refine fQ 12 (fun wq=>wq.cell? ⟨b,4,aj⟩=az (ay aT k cT)) (by kernel_rfl) c4 (fun aW=>?_);refine bH.tk 0 aW ?_;try simp only[bI]
         refine bH.tk 1 aW ?_;try simp only[bI]
         refine bH.tk 2 aW ?_;try simp only[bI]
         refine bH.tk 3 aW ?_;try simp only[bI]
         refine bH.tk 4 aW ?_;try simp only[bI]
         refine bH.tk 6 aW ?_;try simp only[bI]
         refine bH.one (i:=5) (by kernel_rfl) rfl (fun K hK=>?_);go_simp;refine hK.out _ _ (fun _=>KS.o _ FO.o) (fun bU=>?_);have aW:=bU (by decide);clear hK bU;try simp only[bI]
         refine bH.one (i:=7) (by kernel_rfl) rfl (fun K hK=>?_);refine Qs (by rfl) (enters_of (P:=aH) func41 (by kernel_rfl) rfl) (by rfl) (by rfl) (by rfl) (REP.o _ w7.heap.size 1 ((dh.new w7 3 #[ah ag (-1)]).drew.cell 0)) ?_;rintro e ws ⟨vR,rfl,ho8,hb8⟩;refine⟨_,rfl,?_⟩;have BW8:aY (aN w7.heap.size w7 ws):=FO.o.trans (hb8.mono FO.o.size);refine hK.out _ _ (fun _=>KS.o _ BW8.o) (fun bU=>?_);have aW:=bU (by decide);clear hK bU;try simp only[bI]
         rw[iH]at ho8;obtain⟨aR,cR,rfl⟩:=dO ho8;have O8:aY (ws.ownsRow w7.heap.size 3 1 (ay aR (fw x) cR) (fw x) ((aS (fw x) (-1)).flatMap cI)):=rQ ho8 FO.o.size;refine bH.one (i:=8) (by kernel_rfl) rfl (fun K hK=>?_);go_simp;have BW9:aY (aN w7.heap.size w7 (ws.alloc (af #[ay aR (fw x) cR] 26))):=BW8.o.alloc BW8.o.size _;refine hK.out _ _ (fun _=>KS.o _ BW9.o) (fun bU=>?_);have aW:=bU (by decide);clear hK bU;try simp only[bI]
         refine bH.one (i:=9) (by kernel_rfl) rfl (fun K hK=>?_);have OT9:(ws.alloc (af #[ay aR (fw x) cR] 26)).ownsRow 0 26 1 (ay aT k cT) k xsT:=fO OT.o (Ch.bY (BW9.o)) fun _ _ q=>q;have RN9:Reads (ws.alloc (af #[ay aR (fw x) cR] 26)) (ws.heap.size+1) 1 (az ⟨ws.heap.size,0,aj⟩) 1 [ay aR (fw x) cR]:=(iB ws 26 [ay aR (fw x) cR] (n:=1) (size:=1) rfl);refine fV _ (by rfl) (.tmp 102) (.tmp 106) 92 (by rfl) 0 26 l0 _ 1 24 underlying92 hl0' ly0 ly1 ly2 rfl (by decide) _ k xsT (by rfl) OT9 _ (az ⟨ws.heap.size,0,aj⟩) 1 1 [ay aR (fw x) cR] (by rfl) RN9 ?_ ?_ ?_ ?_ ?_
         ·intro u hu;simp only[dz]at hu;subst hu;rfl
         ·unfold fB;omega
         ·omega
         ·exact bS _
         intro v9 w9 acj gr9 afq;obtain⟨a9,c9,rfl⟩:=dO acj;obtain⟨r9,cu9,fu9,_⟩:=PT.o (ws.alloc (af #[ay aR (fw x) cR] 26)) w9 _ (ay aR (fw x) cR) BW9.o (fO O8.o (Ch.bY (S:=fun _=>False) ((aQ ws.heap.size ws).alloc (aC _) _)) fun _ _ q=>q) PO.o.1 acj gr9 afq;have R9:=aA r9;clear r9 acj gr9 afq OT9 RN9 PT ho8;refine hK.out _ _ (fun _=>cu9) (fun bU=>?_);have aW:=bU (by decide);clear hK bU;try simp only[bI]
         refine bH.tk 10 aW ?_;try simp only[bI]
         refine bH.tk 11 aW ?_;try simp only[bI]
         refine bH.one (i:=12) (by kernel_rfl) rfl (fun K hK=>?_);go_simp;refine hK.out _ _ (fun h=>absurd rfl h) (fun _=>?_);clear hK;refine bH.done (by kernel_rfl) ?_ _;try simp only[bI]
         go_wp2_with fail;generalize w9.setCell _ _=ve at *
         clear cu9 fu9 c4 f4 KS REP FO BW8 BW9 O8 hb8;obtain⟨aM,cM,c17,f17,xsM,oM,tJ⟩:=R9.o.ail;obtain⟨A,cap,c3⟩:=R9.o.cells.2.2;rw[HM.o]at c3;have PM:=aA tJ;have OM:=aA oM;clear tJ oM;have KM:aY (∀w',aN ve.heap.size ve w'->w'.cell? ⟨b,17,aj⟩=az (ay aM k cM)/\w'.cell? ⟨b,3,aj⟩=az (ay A mm cap)):=fun w' hb=>⟨(hb.cell (aZ _ _ c17)).trans c17,(hb.cell (aZ _ _ c3)).trans c3⟩;obtain⟨i0,hi0,wC,uX,wK⟩:=dX Kk;refine fQ 15 (fun wq=>wq.cell? ⟨b,17,aj⟩=az (ay aM k cM)/\wq.cell? ⟨b,3,aj⟩=az (ay A mm cap)) (by kernel_rfl) ⟨c17,c3⟩ (fun aW=>?_);refine bH.tk 0 aW ?_;try simp only[bI]
         refine bH.tk 1 aW ?_;try simp only[bI]
         refine bH.tk 2 aW ?_;try simp only[bI]
         refine bH.tk 3 aW ?_;try simp only[bI]
         refine bH.tk 4 aW ?_;try simp only[bI]
         refine bH.tk 5 aW ?_;try simp only[bI]
         refine bH.tk 6 aW ?_;try simp only[bI]
         refine bH.tk 7 aW ?_;try simp only[bI]
         refine bH.tk 8 aW ?_;try simp only[bI]
         refine bH.tk 9 aW ?_;try simp only[bI]
         refine bH.one (i:=10) (by kernel_rfl) rfl (fun K hK=>?_);refine rV (by rfl) (.tmp 119) (.tmp 119) 26 (by rfl) 3 i0 _ 1 underlying26 hi0 wC uX .i64 .i64 _ _ mm (by rfl) (by rfl) (by rfl) (by rfl) (by rw[wK];omega) (by unfold fB;omega) ?_;have BM0:aY (aN ve.heap.size ve (ve.drew.alloc (af (dS (ah .i64 0).cells (mm*1)) 3))):=(aQ ve.heap.size ve).drew.alloc (aC _) _;refine hK.out _ _ (fun _=>KM.o _ BM0.o) (fun bU=>?_);have aW:=bU (by decide);clear hK bU;try simp only[bI]
         refine bH.one (i:=11) (by kernel_rfl) rfl (fun K hK=>?_);go_simp;obtain⟨wm,VM⟩:∃wm:aG,(ve.alloc (af (dS #[ah ag 0] mm) 3)).alloc (af #[ay (az ⟨ve.heap.size,0,aj⟩) mm mm] 26)=wm:=⟨_,rfl⟩;have Zq:aY (aN ve.heap.size ve wm.drew):=(by rw[<-VM];exact(((aQ ve.heap.size ve).alloc (aC _) _).alloc (by simp) _).drew);have BR:aY (dh wm.drew ve.heap.size 3 (aS mm (ah ag 0)).toArray):=(by rw[<-VM,<-Gj];exact((dh.new ve _ _).alloc _).drew);have SZ:aY (wm.heap.size=ve.heap.size+2):=(by rw[<-VM,aY];simp);have RNm:Reads wm.drew (ve.heap.size+1+1) 1 (az ⟨ve.heap.size+1,0,aj⟩) 1 [ay (az ⟨ve.heap.size,0,aj⟩) mm mm]:=(by have:=(iB (ve.alloc (af (dS #[ah ag 0] mm) 3)) 26 [ay (az ⟨ve.heap.size,0,aj⟩) mm mm] (n:=1) (size:=1) rfl).drew;rw[VM]at this;simpa using this);rw[VM];refine hK.out _ _ (fun _=>KM.o _ Zq.o) (fun bU=>?_);have aW:=bU (by decide);clear hK bU;try simp only[bI]
         refine bH.one (i:=12) (by kernel_rfl) rfl (fun K hK=>?_);have OTm:wm.drew.ownsRow 0 26 1 (ay aM k cM) k xsM:=fO OM.o (Ch.bY Zq.o) fun _ _ q=>q;refine fV _ (by rfl) (.tmp 114) (.tmp 121) 92 (by rfl) 0 26 l0 _ 1 24 underlying92 hl0' ly0 ly1 ly2 rfl (by decide) _ k xsM (by rfl) OTm _ (az ⟨ve.heap.size+1,0,aj⟩) 1 1 [ay (az ⟨ve.heap.size,0,aj⟩) mm mm] (by rfl) RNm ?_ ?_ ?_ ?_ ?_
         ·intro u hu;simp only[dz]at hu;subst hu;rfl
         ·unfold fB;omega
         ·omega
         ·exact bS _
         intro v11 Zm Fx VH Nc;obtain⟨a11,c11,rfl⟩:=dO Fx;obtain⟨r11,aeB,aqP,Ve⟩:=PM.o wm.drew Zm _ ve.heap.size mm Zq.o (by rw[HM.o];exact BR.o) (aC _) (by rw[HM.o];exact Fx) VH Nc;have R11:=aA r11;have cu3:Zm.cell? ⟨b,3,aj⟩=az (ay A mm cap):=(Ve 3).trans c3;clear r11 Ve Fx VH Nc OTm RNm PM;refine hK.out _ _ (fun _=>⟨aeB,cu3⟩) (fun bU=>?_);have aW:=bU (by decide);clear hK bU;try simp only[bI]
         refine bH.tk 13 aW ?_;try simp only[bI]
         refine bH.tk 14 aW ?_;try simp only[bI]
         refine bH.one (i:=15) (by kernel_rfl) rfl (fun K hK=>?_);go_simp;refine hK.out _ _ (fun h=>absurd rfl h) (fun _=>?_);clear hK;refine bH.done (by kernel_rfl) ?_ _;try simp only[bI]
         go_wp2_with fail;exact⟨⟨k+1,by omega,by congr 1,R11.o⟩,by simp[aJ];omega⟩
       ·obtain rfl:ns.length=k:=by omega
        have c1:=hR.cells.2.1;have R0:aY (Dz w2.drew b ns cs aK (ay bN ns.length kN) (ay bC cs.length kC) ns.length ns.length ns.length (fun i p=>Ei (cs.take 0) i p) 0 (2*0) wr):=hR;clear hR RK;go_wp2_with fail;clear c1;go_loopw [15,16,132,133,134,135,136,137,138,139,140,141,142,143,144,145,146,147,148,149,150,151,152,153,154,155,156,157,158,159,160,161,162,163,164,165,166,167,168,169,170,171,172,173,174,175,176,177,178,179,180,181,182,183,184,185,186,187,188,189,190,191] (fun _ _ i _ _ _ _ _ _ _ _ _ _ _ _ _ _ _ _ _ _ _ _ _ _ _ _ _ _ _ _ _ _ _ _ _ _ _ _ _ _ _ _ _ _ _ _ _ _ _ _ _ _ _ _ _ _ _ _ _ _ _ wr=>apN w2.drew b ns cs aK (ay bN ns.length kN) (ay bC cs.length kC) i wr) (fun _ _ i _ _ _ _ _ _ _ _ _ _ _ _ _ _ _ _ _ _ _ _ _ _ _ _ _ _ _ _ _ _ _ _ _ _ _ _ _ _ _ _ _ _ _ _ _ _ _ _ _ _ _ _ _ _ _ _ _ _ _ _=>cs.length-(aJ i).toNat);case atStart=>exact⟨0,bS _,rfl,R0.o⟩
        case round=>
         clear R0;obtain⟨j,hj,rfl,hR⟩:=hrel;have RK:=aA hR;by_cases Ob:j<cs.length
         ·as_aux_lemma=>
          obtain⟨bm,om,Yt,_,_,e0,e1,e2,e3,e4,e5⟩:=mq hR.plan.2 j Ob;subst Yt;have A0:=PL.o.a0 j Ob;have B0:=PL.o.b0 j Ob;have AP:=PL.o.ap j Ob;have BP:=PL.o.bp j Ob;have CT:=aA (aaY PL.o Ob);generalize cs.getD j gX=y at *;obtain⟨ya,yap,yb,ybp,ydl,ycp⟩:=y;simp only at A0 B0 AP BP e0 e1 e2 e3 e4 e5;obtain⟨an,rfl⟩:∃an:Nat,ya=(an:Int):=⟨ya.toNat,by omega⟩;obtain⟨apn,rfl⟩:∃n:Nat,yap=(n:Int):=⟨yap.toNat,by omega⟩;obtain⟨bn,rfl⟩:∃n:Nat,yb=(n:Int):=⟨yb.toNat,by omega⟩;obtain⟨bpn,rfl⟩:∃n:Nat,ybp=(n:Int):=⟨ybp.toNat,by omega⟩;simp only[Int.toNat_natCast]at AP BP;have la:an<ns.length:=(by omega);have lb:bn<ns.length:=(by omega);have PA:apn<fw (ns.getD an jk):=PL.o.Br la AP.2;have PB:bpn<fw (ns.getD bn jk):=PL.o.Br lb BP.2;obtain⟨wa,Lg⟩:∃wa:aG,wr.alloc (af #[ah ag (an:Int),ah ag (apn:Int),ah ag (bn:Int),ah ag (bpn:Int),ah ag ydl,ah ag ycp] 86)=wa:=⟨_,rfl⟩;have BA:aY (aN wr.heap.size wr wa):=(by rw[<-Lg];exact(aQ _ _).alloc (aC _) _);have VA:aY (dh wa wr.heap.size 86 #[ah ag (an:Int),ah ag (apn:Int),ah ag (bn:Int),ah ag (bpn:Int),ah ag ydl,ah ag ycp]):=(by rw[<-Lg];exact dh.new wr _ _);have RA:=aA (hR.below BA.o);obtain⟨gv,cv,g1,cp1,c4,cR,fz,cC,gb1,n1⟩:=RA.o.afJ la PA (j:Int);have N1:=aA n1;have GB1:=aA gb1;obtain⟨bX,hbX⟩:∃bX,wr.heap.size=bX:=⟨_,rfl⟩;rw[hbX]at VA;have va0:wa.cell? ⟨bX,0,aj⟩=az (ah ag (an:Int)):=VA.o.cell 0;have va1:wa.cell? ⟨bX,1,aj⟩=az (ah ag (apn:Int)):=VA.o.cell 1;have ia0:(0:Int)<=(an:Int):=(by omega);have ia1:(an:Int)<(ns.length:Int):=(by omega);have ia2:(0:Int)<=(apn:Int):=(by omega);have ia3:(apn:Int)<(fw (ns.getD an jk):Int):=(by omega);have ij0:(0:Int)<=(j:Int):=(by omega);have ij1:(j:Int)<(cs.length:Int):=(by omega);generalize fw (ns.getD an jk)=pa at *;clear n1 gb1 hR AP A0;go_wp2_with fail;go_region;have VX:aY (dh (wa.setCell ⟨g1,apn,aj⟩ (ah ag (j:Int))) bX 86 #[ah ag (an:Int),ah ag (apn:Int),ah ag (bn:Int),ah ag (bpn:Int),ah ag ydl,ah ag ycp]):=VA.o.AU (p:=⟨g1,apn,aj⟩) (by obtain⟨Cg,hCg⟩:=GB1.o;exact dh.sU VA.o hCg (by decide)) _;generalize wa.setCell _ _=w30 at *;clear c4 cR fz cC GB1 va0 va1 ia0 ia1 ia2 ia3 VA;obtain⟨gv2,cv2,g2,cp2,c4,cR,fz,cC,gb2,n2⟩:=N1.o.afJ lb PB (j:Int);have N2:aY (Dz w2.drew b ns cs aK (ay bN ns.length kN) (ay (az ⟨bm,om,aj⟩) cs.length kC) ns.length ns.length ns.length (fun i p=>Ei (cs.take (j+1)) i p) j (2*j) (w30.setCell ⟨g2,bpn,aj⟩ (ah ag (j:Int))).drew.drew):=(n2.alp fun i hi p=>(CT.o i p).symm).drew.drew;have va2:w30.cell? ⟨bX,2,aj⟩=az (ah ag (bn:Int)):=VX.o.cell 2;have va3:w30.cell? ⟨bX,3,aj⟩=az (ah ag (bpn:Int)):=VX.o.cell 3;have ia0:(0:Int)<=(bn:Int):=(by omega);have ia1:(bn:Int)<(ns.length:Int):=(by omega);have ia2:(0:Int)<=(bpn:Int):=(by omega);have ia3:(bpn:Int)<(fw (ns.getD bn jk):Int):=(by omega);generalize fw (ns.getD bn jk)=pb at *;clear n2 gb2 BP B0;go_wp2_with fail;go_region;generalize(w30.setCell _ _).drew.drew=w31 at *;clear c4 cR fz cC VX va2 va3 ia0 ia1 ia2 ia3 N1;obtain⟨aU,cU,c6,f6,xsU,oU,asl⟩:=N2.o.asn;have PU:=aA asl;clear asl;obtain⟨j0,xI,zb,Ad,Ae⟩:=dX Fp;go_wp2_with (at_builtin;refine gW _ rfl (.tmp 165) (.tmp 166) 52 rfl 0 4 j0 _ 1 1 underlying52 xI zb Ad Ae rfl (by decide) _ j xsU rfl (oU.alloc (af #[.bool true] 4)) (w31.heap.size+1) _ 1 1 [.bool true] rfl (iB w31 4 [.bool true] (n:=1) (size:=1) rfl) (by intro u hu;simp only[dz]at hu;subst hu;rfl) (by unfold fB;omega) (by omega) (bS _) ?_);intro v6 w6 Ji gr6 PY;obtain⟨a6,c6',rfl⟩:=dO Ji;obtain⟨r6,cu6,fu6,_⟩:=PU.o (w31.alloc (af #[.bool true] 4)) w6 _ ((aQ _ _).alloc (aC _) _) Ji gr6 (by simpa using PY);have R6:=aA r6;clear r6 Ji gr6 PY PU oU c6 f6;go_wp2_with fail;generalize w6.setCell _ _=uk at *;clear cu6 fu6 N2;obtain⟨aM,cM,c18,f18,xsM,oM,tJ⟩:=R6.o.aim;obtain⟨A,cap,c3⟩:=R6.o.cells.2.2;rw[HM.o]at c3;have PM:=aA tJ;have OM:=aA oM;clear tJ oM;have KM:aY (∀w',aN uk.heap.size uk w'->w'.cell? ⟨b,18,aj⟩=az (ay aM (2*j) cM)/\w'.cell? ⟨b,3,aj⟩=az (ay A mm cap)):=fun w' hb=>⟨(hb.cell (aZ _ _ c18)).trans c18,(hb.cell (aZ _ _ c3)).trans c3⟩;obtain⟨i0,hi0,wC,uX,wK⟩:=dX Kk;obtain⟨l0,hl0',ly0,ly1,ly2⟩:=dX IZ;refine fQ 21 (fun wq=>wq.cell? ⟨b,18,aj⟩=az (ay aM (2*j) cM)/\wq.cell? ⟨b,3,aj⟩=az (ay A mm cap)) (by kernel_rfl) ⟨c18,c3⟩ (fun aW=>?_);refine bH.tk 0 aW ?_;try simp only[bI]
          refine bH.tk 1 aW ?_;try simp only[bI]
          refine bH.tk 2 aW ?_;try simp only[bI]
          refine bH.tk 3 aW ?_;try simp only[bI]
          refine bH.tk 4 aW ?_;try simp only[bI]
          refine bH.tk 5 aW ?_;try simp only[bI]
          refine bH.tk 6 aW ?_;try simp only[bI]
          refine bH.tk 7 aW ?_;try simp only[bI]
          refine bH.tk 8 aW ?_;try simp only[bI]
          refine bH.tk 9 aW ?_;try simp only[bI]
          refine bH.tk 11 aW ?_;try simp only[bI]
          refine bH.tk 12 aW ?_;try simp only[bI]
          refine bH.tk 13 aW ?_;try simp only[bI]
          refine bH.tk 14 aW ?_;try simp only[bI]
          refine bH.tk 15 aW ?_;try simp only[bI]
          refine bH.two (i:=10) (j:=16) (by kernel_rfl) rfl rfl (fun K hK=>?_) (fun K hK=>?_)
          ·refine rV (by rfl) (.tmp 179) (.tmp 179) 26 (by rfl) 3 i0 _ 1 underlying26 hi0 wC uX .i64 .i64 _ _ mm (by rfl) (by rfl) (by rfl) (by rfl) (by rw[wK];omega) (by unfold fB;omega) ?_;have BM0:aY (aN uk.heap.size uk (uk.drew.alloc (af (dS (ah .i64 0).cells (mm*1)) 3))):=(aQ uk.heap.size uk).drew.alloc (aC _) _;refine hK.out _ _ (fun _=>KM.o _ BM0.o) (fun bU=>?_);have aW:=bU (by decide);clear hK bU;try simp only[bI]
           refine bH.one (i:=16) (by kernel_rfl) rfl (fun K hK=>?_);refine rV (by rfl) (.tmp 185) (.tmp 185) 26 (by rfl) 3 i0 _ 1 underlying26 hi0 wC uX .i64 .i64 _ _ mm (by rfl) (by rfl) (by rfl) (by rfl) (by rw[wK];omega) (by unfold fB;omega) ?_;have BM2:aY (aN uk.heap.size uk ((uk.drew.alloc (af (dS (ah .i64 0).cells (mm*1)) 3)).alloc (af (dS (ah .i64 0).cells (mm*1)) 3))):=BM0.o.alloc BM0.o.size _;refine hK.out _ _ (fun _=>KM.o _ BM2.o) (fun bU=>?_);have aW:=bU (by decide);clear hK bU;try simp only[bI]
           refine bH.one (i:=17) (by kernel_rfl) rfl (fun K hK=>?_);go_simp;obtain⟨wm,VM⟩:∃wm:aG,((uk.alloc (af (dS #[ah ag 0] mm) 3)).alloc (af (dS #[ah ag 0] mm) 3)).alloc (af #[ay (az ⟨uk.heap.size,0,aj⟩) mm mm,ay (az ⟨uk.heap.size+1,0,aj⟩) mm mm] 26)=wm:=⟨_,rfl⟩;have Zq:aY (aN uk.heap.size uk wm.drew):=(by rw[<-VM];exact((((aQ uk.heap.size uk).alloc (aC _) _).alloc (by simp) _).alloc (by simp;omega) _).drew);have BR:aY (dh wm.drew (uk.heap.size) 3 (aS mm (ah ag 0)).toArray):=(by rw[<-VM,<-Gj];exact(((dh.new uk _ _).alloc _).alloc _).drew);have BR':aY (dh wm.drew (uk.heap.size+1) 3 (aS mm (ah ag 0)).toArray):=(by rw[aY,<-VM,<-Gj];have:=((dh.new (uk.alloc (af (dS #[ah ag 0] mm) 3)) 3 (dS #[ah ag 0] mm)).alloc (af #[ay (az ⟨uk.heap.size,0,aj⟩) mm mm,ay (az ⟨uk.heap.size+1,0,aj⟩) mm mm] 26)).drew;simpa using this);have RNm:Reads wm.drew (uk.heap.size+1+1+1) 1 (az ⟨uk.heap.size+1+1,0,aj⟩) 2 [ay (az ⟨uk.heap.size,0,aj⟩) mm mm,ay (az ⟨uk.heap.size+1,0,aj⟩) mm mm]:=(by have:=(iB ((uk.alloc (af (dS #[ah ag 0] mm) 3)).alloc (af (dS #[ah ag 0] mm) 3)) 26 [ay (az ⟨uk.heap.size,0,aj⟩) mm mm,ay (az ⟨uk.heap.size+1,0,aj⟩) mm mm] (n:=2) (size:=1) rfl).drew;rw[VM]at this;simpa using this);rw[VM];refine hK.out _ _ (fun _=>KM.o _ Zq.o) (fun bU=>?_);have aW:=bU (by decide);clear hK bU;try simp only[bI]
           refine bH.one (i:=18) (by kernel_rfl) rfl (fun K hK=>?_);have OTm:wm.drew.ownsRow 0 26 1 (ay aM (2*j) cM) (2*j) xsM:=fO OM.o (Ch.bY Zq.o) fun _ _ q=>q;refine fV _ (by rfl) (.tmp 174) (.tmp 187) 92 (by rfl) 0 26 l0 _ 1 24 underlying92 hl0' ly0 ly1 ly2 rfl (by decide) _ (2*j) xsM (by rfl) OTm _ (az ⟨uk.heap.size+1+1,0,aj⟩) 2 2 [ay (az ⟨uk.heap.size,0,aj⟩) mm mm,ay (az ⟨uk.heap.size+1,0,aj⟩) mm mm] (by rfl) RNm ?_ ?_ ?_ ?_ ?_
           ·intro u hu;simp only[dG,dP,or_false]at hu;rcases hu with rfl|rfl<;>rfl
           ·unfold fB;omega
           ·omega
           ·exact bS _
           intro v11 Zm Fx VH Nc;obtain⟨a11,c11,rfl⟩:=dO Fx;obtain⟨r11,aeB,aqP,Ve⟩:=PM.o wm.drew Zm _ (uk.heap.size) mm (uk.heap.size+1) mm Zq.o (by rw[HM.o];exact BR.o) (by omega) (by rw[HM.o];exact BR'.o) (by omega) (by omega) (by rw[HM.o];exact Fx) VH Nc;have R11:=aA r11;have cu3:Zm.cell? ⟨b,3,aj⟩=az (ay A mm cap):=(Ve 3).trans c3;clear r11 Ve Fx VH Nc OTm RNm PM;refine hK.out _ _ (fun _=>⟨aeB,cu3⟩) (fun bU=>?_);have aW:=bU (by decide);clear hK bU;try simp only[bI]
           refine bH.tk 19 aW ?_;try simp only[bI]
           refine bH.tk 20 aW ?_;try simp only[bI]
           refine bH.one (i:=21) (by kernel_rfl) rfl (fun K hK=>?_);go_simp;refine hK.out _ _ (fun h=>absurd rfl h) (fun _=>?_);clear hK;refine bH.done (by kernel_rfl) ?_ _;try simp only[bI]
           go_wp2_with fail;exact⟨⟨j+1,by omega,by congr 1,R11.o⟩,by simp[aJ];omega⟩
          ·refine rV (by rfl) (.tmp 185) (.tmp 185) 26 (by rfl) 3 i0 _ 1 underlying26 hi0 wC uX .i64 .i64 _ _ mm (by rfl) (by rfl) (by rfl) (by rfl) (by rw[wK];omega) (by unfold fB;omega) ?_;have BM0:aY (aN uk.heap.size uk (uk.drew.alloc (af (dS (ah .i64 0).cells (mm*1)) 3))):=(aQ uk.heap.size uk).drew.alloc (aC _) _;refine hK.out _ _ (fun _=>KM.o _ BM0.o) (fun bU=>?_);have aW:=bU (by decide);clear hK bU;try simp only[bI]
           refine bH.one (i:=10) (by kernel_rfl) rfl (fun K hK=>?_);refine rV (by rfl) (.tmp 179) (.tmp 179) 26 (by rfl) 3 i0 _ 1 underlying26 hi0 wC uX .i64 .i64 _ _ mm (by rfl) (by rfl) (by rfl) (by rfl) (by rw[wK];omega) (by unfold fB;omega) ?_;have BM2:aY (aN uk.heap.size uk ((uk.drew.alloc (af (dS (ah .i64 0).cells (mm*1)) 3)).alloc (af (dS (ah .i64 0).cells (mm*1)) 3))):=BM0.o.alloc BM0.o.size _;refine hK.out _ _ (fun _=>KM.o _ BM2.o) (fun bU=>?_);have aW:=bU (by decide);clear hK bU;try simp only[bI]
           refine bH.one (i:=17) (by kernel_rfl) rfl (fun K hK=>?_);go_simp;obtain⟨wm,VM⟩:∃wm:aG,((uk.alloc (af (dS #[ah ag 0] mm) 3)).alloc (af (dS #[ah ag 0] mm) 3)).alloc (af #[ay (az ⟨uk.heap.size+1,0,aj⟩) mm mm,ay (az ⟨uk.heap.size,0,aj⟩) mm mm] 26)=wm:=⟨_,rfl⟩;have Zq:aY (aN uk.heap.size uk wm.drew):=(by rw[<-VM];exact((((aQ uk.heap.size uk).alloc (aC _) _).alloc (by simp) _).alloc (by simp;omega) _).drew);have BR:aY (dh wm.drew (uk.heap.size) 3 (aS mm (ah ag 0)).toArray):=(by rw[<-VM,<-Gj];exact(((dh.new uk _ _).alloc _).alloc _).drew);have BR':aY (dh wm.drew (uk.heap.size+1) 3 (aS mm (ah ag 0)).toArray):=(by rw[aY,<-VM,<-Gj];have:=((dh.new (uk.alloc (af (dS #[ah ag 0] mm) 3)) 3 (dS #[ah ag 0] mm)).alloc (af #[ay (az ⟨uk.heap.size+1,0,aj⟩) mm mm,ay (az ⟨uk.heap.size,0,aj⟩) mm mm] 26)).drew;simpa using this);have RNm:Reads wm.drew (uk.heap.size+1+1+1) 1 (az ⟨uk.heap.size+1+1,0,aj⟩) 2 [ay (az ⟨uk.heap.size+1,0,aj⟩) mm mm,ay (az ⟨uk.heap.size,0,aj⟩) mm mm]:=(by have:=(iB ((uk.alloc (af (dS #[ah ag 0] mm) 3)).alloc (af (dS #[ah ag 0] mm) 3)) 26 [ay (az ⟨uk.heap.size+1,0,aj⟩) mm mm,ay (az ⟨uk.heap.size,0,aj⟩) mm mm] (n:=2) (size:=1) rfl).drew;rw[VM]at this;simpa using this);rw[VM];refine hK.out _ _ (fun _=>KM.o _ Zq.o) (fun bU=>?_);have aW:=bU (by decide);clear hK bU;try simp only[bI]
           refine bH.one (i:=18) (by kernel_rfl) rfl (fun K hK=>?_);have OTm:wm.drew.ownsRow 0 26 1 (ay aM (2*j) cM) (2*j) xsM:=fO OM.o (Ch.bY Zq.o) fun _ _ q=>q;refine fV _ (by rfl) (.tmp 174) (.tmp 187) 92 (by rfl) 0 26 l0 _ 1 24 underlying92 hl0' ly0 ly1 ly2 rfl (by decide) _ (2*j) xsM (by rfl) OTm _ (az ⟨uk.heap.size+1+1,0,aj⟩) 2 2 [ay (az ⟨uk.heap.size+1,0,aj⟩) mm mm,ay (az ⟨uk.heap.size,0,aj⟩) mm mm] (by rfl) RNm ?_ ?_ ?_ ?_ ?_
           ·intro u hu;simp only[dG,dP,or_false]at hu;rcases hu with rfl|rfl<;>rfl
           ·unfold fB;omega
           ·omega
           ·exact bS _
           intro v11 Zm Fx VH Nc;obtain⟨a11,c11,rfl⟩:=dO Fx;obtain⟨r11,aeB,aqP,Ve⟩:=PM.o wm.drew Zm _ (uk.heap.size+1) mm (uk.heap.size) mm Zq.o (by rw[HM.o];exact BR'.o) (by omega) (by rw[HM.o];exact BR.o) (by omega) (by omega) (by rw[HM.o];exact Fx) VH Nc;have R11:=aA r11;have cu3:Zm.cell? ⟨b,3,aj⟩=az (ay A mm cap):=(Ve 3).trans c3;clear r11 Ve Fx VH Nc OTm RNm PM;refine hK.out _ _ (fun _=>⟨aeB,cu3⟩) (fun bU=>?_);have aW:=bU (by decide);clear hK bU;try simp only[bI]
           refine bH.tk 19 aW ?_;try simp only[bI]
           refine bH.tk 20 aW ?_;try simp only[bI]
           refine bH.one (i:=21) (by kernel_rfl) rfl (fun K hK=>?_);go_simp;refine hK.out _ _ (fun h=>absurd rfl h) (fun _=>?_);clear hK;refine bH.done (by kernel_rfl) ?_ _;try simp only[bI]
           go_wp2_with fail;exact⟨⟨j+1,by omega,by congr 1,R11.o⟩,by simp[aJ];omega⟩
         ·obtain rfl:cs.length=j:=by omega
          rw[dY]at hR RK;have RER:=aA (hR.aip PL.o HV.o tu);have OKN:aY (zS ⟨ns,cs⟩ aK=0):=by rw[NE.o,aY,if_pos];unfold pU;rw[RB.o];simp;omega
          have iZ:aY (∀w',(∃r Z L,Bz ns cs (cs.map fun _=>true) r/\gy Z w' b ns cs (jM ns cs aK r) L/\(∀q,q<w2.drew.heap.size->Z q=(1,0,0,0))/\aN w2.drew.heap.size w2.drew w')->CJ w ns cs aK (ax (.tuple #[au (az ⟨b,0,aj⟩),ah ag 0])) w'):=fun w' ⟨r,Z,L,q1,q2,q3,q4⟩=>
           .inr ⟨OKN.o,b,r,Z,L,rfl,q1,q2,fun k hk=>q3 k (bW hk Jv.o.size),Jv.o.trans (q4.mono Jv.o.size)⟩
          clear hR RK;unfold pt at RER;go_wp2_with (first|(go_at_call 42;(with_reducible refine RER.o.mono ?_);rintro e w5 ⟨rfl,h5⟩;have F:=aA (iZ.out w5 h5);clear h5));go_ret2;exact F.o
 ·have F:aY (∀w',aN w.heap.size w w'->CJ w ns cs aK (ax (.tuple #[au aj,ah ag (fT ⟨ns,cs⟩)])) w'):=fun w' hb=>BAD.o _ w' (by unfold zS;rw[if_neg hv]) hv hb;obtain⟨ev,hev⟩:∃ev,fT ⟨ns,cs⟩=ev:=⟨_,rfl⟩;rw[hev]at GV F hv;clear h h3 hev;go_enter func11,ntmps11;go_wp2_with (first|(go_at_call 35;(with_reducible refine GV.o.mono ?_);rintro e w2 ⟨rfl,uu⟩;have B2:=aA (B1.o.trans (uu.mono B1.o.size));clear uu));go_ret2;exact F.o _ B2.o
end
end Go.Proofs.YtnjjkgjdhljfnaaGreat
