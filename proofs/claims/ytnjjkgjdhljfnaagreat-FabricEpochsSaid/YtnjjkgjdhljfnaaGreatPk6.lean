/- Part 6. -/
import Derived.ArgAppend
import Derived.Deep.LoopGhost
import Derived.Laws.EntriesVeiled
import Derived.Test.YtnjjkgjdhljfnaaGreatPk5
open Go.Proofs.Tryz
open Array renaming length_toList->mV
open Bool renaming false_or->iX,true_or->mJ
open Classical renaming choose->mg
open Go renaming Addr->fA,Calls->bZ,Ending->iM,TypeId->dL,Value->aI,World->aG,info_parts->dX,madeCells->dS,maxLen->fB
open Go.Addr renaming add->nP
open Go.Ending renaming returned->ax
open Go.Instr renaming index->xO
open Go.IntKind renaming i64->ag
open Go.IntWalk renaming i64_in->fE
open Go.Lib renaming hid->aA
open Go.Obj renaming cells->af
open Go.Proofs.Tryz renaming prog->aH,results172->DD,results88->zF
open Go.RowKit renaming Below->aN,Hid->aY,intOf->aJ
open Go.RowKit.Below renaming heap_alloc->Bv,heap_setCell->nz,refl->aQ
open Go.Value renaming cells->xV,int->ah,pointer->au,slice->ay
open Int renaming toNat_natCast->cK
open List renaming all_eq_true->jL,countP_append->uT,countP_cons->oZ,countP_eq_zero->Gz,drop_eq_getElem_cons->jr,ext_getElem->qH,flatMap_append->fP,getD->bJ,getElem?_drop->qZ,getElem?_eq_none->gD,getElem?_take->lX,length_append->bV,length_cons->eQ,length_singleton->iJ,map_append->eY,map_cons->mG,mem_append->eZ,mem_cons->dG,mem_cons_of_mem->dU,mem_cons_self->dH,mem_iff_getElem->pY,mem_range->dJ,mem_singleton->dz,nodup_cons->pV,nodup_iff_pairwise_ne->zy,range->aO,range_succ->dB,replicate->aS,take_append_drop->sG,take_of_length_le->rf
open Nat renaming le_refl->aC,le_trans->dZ,lt_of_lt_of_le->bW,lt_or_ge->jB,mul_one->oQ,zero_le->bS
open Ne renaming symm->iy
open Option renaming none->aj,some->az
set_option maxRecDepth 100000
set_option maxHeartbeats 16000000
set_option linter.unusedVariables false
set_option linter.unusedSimpArgs false
namespace Go.Proofs.YtnjjkgjdhljfnaaGreat
open Go.RowKit Go.Maps
section
theorem YK{α:Type}[DecidableEq α]{C S:List α}(h:C.Nodup)(hs:∀x∈C,x∈S):C.length<=S.length:=by
 induction C generalizing S with
 |nil=>simp
 |cons x C ih=>obtain⟨h1,h2⟩:=pV.1 h;have hx:=hs x (dH ..);have h3:=ih (S:=S.erase x) h2 (fun y hy=>(List.mem_erase_of_ne (by rintro rfl;exact h1 hy)).2 (hs y (dU _ hy)));rw[List.length_erase_of_mem hx]at h3;have:=List.length_pos_of_mem hx;simp;omega
def touch(x:Cb)(j k:Nat):Prop:=(x.a=j/\x.b=k)\/(x.b=j/\x.a=k)
structure SV(n:Nat)(cs:List Cb)(root:Nat)(l:List Int):Prop where
 len:l.length=n
 rlt:root<n
 zero:l.getD root 0=0
 pos:∀j,j<n->j≠root->l.getD j 0=-1\/0<l.getD j 0
 led:∀j,j<n->0<l.getD j 0->∃x∈cs,∃k,k<n/\touch x j k/\l.getD k 0=l.getD j 0-1
section
variable{n:Nat}{cs:List Cb}{root:Nat}{l:List Int}
theorem SV.ge(h:SV n cs root l){j:Nat}(hj:j<n):-1<=l.getD j 0:=by
 rcases Classical.em (j=root)with rfl|nQ
 ·rw[h.zero];omega
 ·rcases h.pos j hj nQ with h1|h1<;>omega
theorem SV.down(h:SV n cs root l)(d:Nat):∀j,j<n->l.getD j 0=d->∀e,e<=d->∃k,k<n/\l.getD k 0=(e:Int):=by
 induction d with
 |zero=>
  intro j hj hd e he;have h0:e=0:=by omega
  subst h0;exact⟨j,hj,hd⟩
 |succ d ih=>
  intro j hj hd e he;rcases jB e (d+1)with h1|h1
  ·obtain⟨x,_,k,hk,_,hlk⟩:=h.led j hj (by rw[hd];omega);exact ih k hk (by rw[hlk,hd];omega) e (by omega)
  ·exact⟨j,hj,by rw[hd];omega⟩
theorem SV.lt(h:SV n cs root l){j:Nat}(hj:j<n):l.getD j 0<n:=by
 rcases Int.lt_or_le (l.getD j 0) 0 with h0|h0
 ·omega
 ·obtain⟨d,hd⟩:∃d:Nat,l.getD j 0=d:=⟨(l.getD j 0).toNat,by omega⟩;have hall:=h.down d j hj hd;let J:Nat->Nat:=fun e=>if he:e<=d then mg (hall e he)else 0
  have hJ:∀e,e<=d->J e<n/\l.getD (J e) 0=(e:Int):=fun e he=>by have:J e=mg (hall e he):=(by simp only[J];rw[dif_pos he]);rw[this];exact Classical.choose_spec (hall e he)
  have hnd:((aO (d+1)).map J).Nodup:=by rw[zy,List.pairwise_map];refine(zy.1 List.nodup_range).imp_of_mem ?_;intro a b ha hb nQ heq;have h1:=(hJ a (by have:=dJ.1 ha;omega)).2;have h2:=(hJ b (by have:=dJ.1 hb;omega)).2;rw[heq,h2]at h1;exact nQ (by omega)
  have hle:=YK hnd (S:=aO n) (fun x hx=>by rw[List.mem_map]at hx;obtain⟨e,he,rfl⟩:=hx;exact dJ.2 (hJ e (by have:=dJ.1 he;omega)).1);simp at hle;omega
theorem SV.order{ns:List Nd}(h:SV ns.length cs root l)(hv:fT ⟨ns,cs⟩=0):oD ⟨ns,cs⟩ l=true:=by
 unfold oD;simp only[Bool.and_eq_true,decide_eq_true_eq];refine⟨⟨⟨⟨hv,h.len⟩,?_⟩,?_⟩,?_⟩
 ·rw[jL];intro x hx;obtain⟨i,hi,rfl⟩:=pY.1 hx;have e:l.getD i 0=l[i]:=by simp[bJ,hi]
  have hi':i<ns.length:=by rw[<-h.len];exact hi
  have h1:=h.ge hi';have h2:=h.lt hi';rw[e]at h1 h2;unfold rH;rw[decide_eq_true h1,decide_eq_true h2];rfl
 ·
  have hr:root<l.length:=by rw[h.len];exact h.rlt
  have hsp:l=l.take root++l[root]::l.drop (root+1):=by rw[<-jr hr];exact(sG root l).symm
  have hz:l[root]=0:=by have:=h.zero;simpa[bJ,hr]using this
  have hnz:∀i (hi:i<l.length),i≠root->¬((l[i]==0)=true):=fun i hi nQ=>by have e:l.getD i 0=l[i]:=(by simp[bJ,hi]);have:=h.pos i (by rw[<-h.len];exact hi) nQ;rw[e]at this;simp;omega
  rw[hsp,uT,oZ,hz];have c1:(l.take root).countP (· ==0)=0:=by rw[Gz];intro x hx;obtain⟨i,hi,rfl⟩:=List.mem_take_iff_getElem.1 hx;exact hnz i (by omega) (by omega)
  have c2:(l.drop (root+1)).countP (· ==0)=0:=by rw[Gz];intro x hx;obtain⟨i,hi,rfl⟩:=pY.1 hx;rw[List.getElem_drop];exact hnz _ (by rw[List.length_drop]at hi;omega) (by omega)
  rw[c1,c2];rfl
 ·rw[jL];intro i hi;rw[dJ]at hi;have hi':i<ns.length:=by rw[<-h.len];exact hi
  unfold zT;by_cases hp:0<l.getD i 0
  ·obtain⟨x,hx,k,hk,ht,hl⟩:=h.led i hi' hp;have:DR cs l cs.length i=true:=by
    unfold DR;rw[List.take_length,List.any_eq_true];refine⟨x,hx,?_⟩;unfold leads GX;rcases ht with⟨e1,e2⟩|⟨e1,e2⟩
    ·rw[e1,e2,cK,cK,if_neg (by omega),if_pos hl];simp
    ·rw[e1,e2,cK,cK,if_pos hl];simp
   rw[this];simp
  ·rw[decide_eq_false hp];rfl
theorem SV.start(hr:root<n):SV n cs root ((aS n (-1)).set root 0):=by
 have hg:∀j,j<n->((aS n (-1:Int)).set root 0).getD j 0=if j=root then 0 else-1:=fun j hj=>by
  by_cases h:j=root
  ·subst h;simp[bJ,hj]
  ·rw[if_neg h];simp[bJ,iy h,hj]
 refine⟨by simp,hr,by rw[hg root hr,if_pos rfl],fun j hj nQ=>.inl (by rw[hg j hj,if_neg nQ]),fun j hj hp=>?_⟩;rw[hg j hj]at hp;split at hp<;>omega
theorem SV.visit(h:SV n cs root l){v u:Nat}(hv:v<n)(hu:u<n)(h1:l.getD v 0<0)(h2:0<=l.getD u 0){x:Cb}(hx:x∈cs)(ht:touch x v u):SV n cs root (l.set v (l.getD u 0+1)):=by
 have hl:=h.len;have hg:∀j,j<n->(l.set v (l.getD u 0+1)).getD j 0=if j=v then l.getD u 0+1 else l.getD j 0:=fun j hj=>by
  by_cases e:j=v
  ·subst e;rw[if_pos rfl];simp[bJ,hl,hj]
  ·rw[if_neg e];simp[bJ,iy e]
 have hrv:root≠v:=fun e=>by rw[<-e,h.zero]at h1;omega
 have huv:u≠v:=fun e=>by rw[e]at h2;omega
 refine⟨by simpa using hl,h.rlt,by rw[hg root h.rlt,if_neg hrv];exact h.zero,fun j hj nQ=>?_,fun j hj hp=>?_⟩
 ·rw[hg j hj];split
  ·right;omega
  ·exact h.pos j hj nQ
 ·rw[hg j hj]at hp|-;by_cases e:j=v
  ·subst e;rw[if_pos rfl];exact⟨x,hx,u,hu,ht,by rw[hg u hu,if_neg huv];omega⟩
  ·rw[if_neg e]at hp|-;obtain⟨y,hy,k,hk,htk,hlk⟩:=h.led j hj hp;have hkv:k≠v:=fun e2=>(by rw[e2]at hlk;omega);exact⟨y,hy,k,hk,htk,by rw[hg k hk,if_neg hkv];exact hlk⟩
end
def without(l:List Int):Nat:=l.countP fun x=>decide (x<0)
theorem Nr{l:List Int}{v:Nat}{x:Int}(hv:v<l.length)(h1:l.getD v 0<0)(hx:0<=x):without (l.set v x)+1=without l:=by
 have e:l.getD v 0=l[v]:=by simp[bJ,hv]
 rw[e]at h1;have hsp:l=l.take v++l[v]::l.drop (v+1):=by rw[<-jr hv];exact(sG v l).symm
 have Ic:l.set v x=l.take v++x::l.drop (v+1):=List.set_eq_take_append_cons_drop ..|>.trans (by rw[if_pos hv]);unfold without;rw[Ic]
 conv=>rhs;rw[hsp]
 rw[uT,uT,oZ,oZ,decide_eq_true h1,decide_eq_false (show ¬x<0 by omega)];simp;omega
end
section
def Iw(w:aG)(base g:Nat)(v:aI)(q:List Int):Prop:=
 ∃off cap cur,v=ay (az ⟨g,off,aj⟩) q.length cap/\base<=g/\w.heap[g]?=az (.cells cur 3 (0,0))/\q.length<=cap/\off+cap<=cur.size/\(cur.toList.drop off).take q.length=q.map (ah .i64)
section
variable{w w':aG}{base g:Nat}{v:aI}{q:List Int}
theorem Iw.lt(h:Iw w base g v q):g<w.heap.size:=by obtain⟨_,_,_,_,_,h,_⟩:=h;exact(Array.getElem?_eq_some_iff.1 h).1
theorem Iw.ge(h:Iw w base g v q):base<=g:=by obtain⟨_,_,_,_,h,_⟩:=h;exact h
theorem Iw.uG(h:Iw w base g v q)(hb:w'.heap[g]?=w.heap[g]?):Iw w' base g v q:=by obtain⟨off,cap,cur,h1,h2,h3,r⟩:=h;exact⟨off,cap,cur,h1,h2,hb.trans h3,r⟩
theorem Iw.alloc(h:Iw w base g v q)(o:Obj):Iw (w.alloc o) base g v q:=h.uG (Bv w o g h.lt)
theorem Iw.jd(h:Iw w base g v q){p:fA}(hp:p.block≠g)(u:aI):Iw (w.setCell p u) base g v q:=h.uG (nz w p u g (iy hp))
theorem Iw.form(h:Iw w base g v q):∃a cap,v=ay (az a) q.length cap/\q.length<=cap:=by obtain⟨off,cap,cur,h1,_,_,h4,_⟩:=h;exact⟨_,cap,h1,h4⟩
theorem Iw.head{x:Int}(h:Iw w base g v (x::q)):∃off cap,v=ay (az ⟨g,off,aj⟩) (q.length+1) cap/\q.length+1<=cap/\w.cell? ⟨g,off,aj⟩=az (ah ag x)/\Iw w base g (ay (if cap=1 then az ⟨g,off,aj⟩else az ⟨g,off+1,aj⟩) q.length (cap-1)) q:=by
 obtain⟨off,cap,cur,h1,h2,h3,h4,h5,h6⟩:=h;rw[eQ]at h1 h4 h6;have tK:off<cur.toList.length:=by rw[mV];omega
 rw[jr tK,List.take_succ_cons,mG]at h6;injection h6 with h6 h7;have qB:=cell_of_row w g off cur 3 (0,0) h3;refine⟨off,cap,h1,h4,?_,?_⟩
 ·rw[qB,<-h6];simp[show off<cur.size by omega]
 ·by_cases hc:cap=1
  ·rw[if_pos hc];have hq:q=[]:=List.eq_nil_of_length_eq_zero (by omega);subst hq;exact⟨off,cap-1,cur,rfl,h2,h3,by simp,by omega,by simp⟩
  ·rw[if_neg hc];exact⟨off+1,cap-1,cur,rfl,h2,h3,by omega,by omega,h7⟩
theorem Iw.lit(w:aG)(x:Int)(hb:base<=w.heap.size):Iw (w.alloc (af #[ah ag x] 3)) base w.heap.size (ay (az ⟨w.heap.size,0,aj⟩) 1 1) [x]:=
 ⟨0,1,#[ah ag x],rfl,hb,heap_alloc_new w _,aC _,by simp,rfl⟩
theorem XV(h:Iw w base g v q):∃off cap,v=ay (az ⟨g,off,aj⟩) q.length cap/\∀j u,(q.map (ah .i64))[j]?=az u->w.cell? ((⟨g,off,aj⟩:fA).add j)=az u:=by
 obtain⟨off,cap,cur,h1,h2,h3,h4,h5,h6⟩:=h;refine⟨off,cap,h1,fun j u hu=>?_⟩;have hj:j<q.length:=by
  rcases jB j q.length with h|h
  ·exact h
  ·rw[gD (by simpa using h)]at hu;cases hu
 have qB:=cell_of_row w g (off+j) cur 3 (0,0) h3;rw[Addr.add_lit,qB,<-hu,<-h6,lX,if_pos hj,qZ];simp
theorem Uf(h:Iw w base g v q)(x:Int)(ad:fA)(c ty:Nat)(hnew:w.cell? ad=az (ah ag x))(oV:base<=w.heap.size)(hlen:q.length<=1000000):∃v' g' w',(Builtin.append_ #[26,26] ty #[v,ay (az ad) 1 c]).run aH w=.ok v' w'/\Iw w' base g' v' (q++[x])/\w.grownBy w' (az g)/\(g'=g\/g'=w.heap.size):=by
 obtain⟨i0,hi0,wC,uX,wK⟩:=dX Dc;have hnews:∀j u,[ah .i64 x][j]?=az u->w.cell? (ad.add j)=az u:=fun j u hu=>by
  match j,hu with
  |0,hu=>simp at hu;subst hu;simpa[nP]using hnew
 obtain⟨aJE,cap0,hv0,hcells⟩:=XV h;obtain⟨off,cap,cur,h1,h2,h3,h4,h5,h6⟩:=h;rw[h1]at hv0;injection hv0 with e1 _ e2;injection e1 with e1;injection e1 with _ e1;subst e1;subst e2;by_cases hroom:q.length+1<=cap
 ·have qB:=cell_of_row w g (off+q.length*i0.size+0) cur 3 (0,0) h3;have hfr:=frozen_of_row w g (off+q.length*i0.size+0) cur 3 h3;have tK:off+q.length*i0.size+0<cur.size:=by rw[uX];omega
  have hsome:∀j,j<[ah .i64 x].length->(w.cell? ⟨g,off+q.length*i0.size+j,aj⟩).isSome=true:=by
   intro j hj;obtain rfl:j=0:=by simpa using hj
   rw[qB,Array.getElem?_eq_getElem tK];rfl
  have hfz:∀j,j<[ah .i64 x].length->w.frozen? ⟨g,off+q.length*i0.size+j,aj⟩=false:=by
   intro j hj;obtain rfl:j=0:=by simpa using hj
   exact hfr
  have hrun:=run_append_room_cells (P:=aH) (w:=w) 26 ty 3 i0 underlying26 hi0 g off q.length cap ad 1 c [ah ag x] (by simp[uX]) hnews (by intro u hu;simp at hu;subst hu;rfl) hroom hsome hfz;refine⟨_,g,_,by rw[h1];exact hrun,?_,?_,.inl rfl⟩
  ·refine⟨off,cap,cur.setIfInBounds (off+q.length) (ah ag x),by rw[bV];rfl,h2,?_,by simpa using hroom,by simpa using h5,?_⟩
   ·rw[uX,oQ];exact heap_setCell_same w g (off+q.length) cur 3 _ h3
   ·have hcl:cur.toList.length=cur.size:=mV;have hq:off+q.length<cur.toList.length:=by omega
    rw[Array.toList_setIfInBounds,bV,eY];apply List.ext_getElem?;intro j;rw[lX,qZ];by_cases hj:j<q.length
    ·rw[if_pos (by simp;omega),List.getElem?_set_ne (by omega),List.getElem?_append_left (by simpa using hj),<-h6,lX,if_pos hj,qZ]
    ·by_cases hj2:j=q.length
     ·subst hj2;rw[if_pos (by simp),List.getElem?_set_self hq,List.getElem?_append_right (by simp)];simp
     ·rw[if_neg (by simp;omega),gD (by simp;omega)]
  ·rw[uX,oQ];exact⟨rfl,rfl,rfl,by simp[World.setCells,World.setCell],fun i hi nQ=>nz w ⟨g,off+q.length,aj⟩ _ i (fun e=>nQ (by rw[e]))⟩
 ·have hrun:=run_append_grow (P:=aH) (w:=w) 26 ty 3 i0 _ underlying26 hi0 wC ⟨g,off,aj⟩ q.length cap (q.map (ah .i64)) (by simp[uX]) hcells ad 1 c [ah ag x] (by simp[uX]) hnews (by omega) (by omega)
   (growslice_fits (by omega) (by rw[wK];omega))
  have hge:q.length+1<=grownCap w (q.length+1) cap 3:=by exact Go.grownCap_ge w (q.length+1) cap 3
  refine⟨_,w.heap.size,_,by rw[h1];exact hrun,?_,?_,.inr rfl⟩
  ·refine⟨0,_,_,by rw[bV];rfl,oV,heap_alloc_new w.drew _,by simpa using hge,?_,?_⟩
   ·simp[Builtin.zeroCells,xV];omega
   ·rw[bV,eY];simp only[List.drop_zero,Array.toList_append,iJ,List.map_singleton];exact List.take_left' (by simp)
  ·exact⟨rfl,rfl,rfl,by simp,fun i hi _=>Bv w.drew _ i hi⟩
end
end
section
theorem NU{ops:Array Oper}{rest:List Oper}{o:Oper}{a:Act}{w:aG}{Q:Exit->Act->aG->Prop}(hgd:o.guard=aj)(s x:Operand)(ho:o.op=.call {callee:=.builtin .append,args:=#[s,x],argTypes:=#[26,26]}){base g:Nat}{v:aI}{q:List Int}(hs:a.eval s=v)(hq:Iw w base g v q)(y:Int)(ad:fA)(c:Nat)(hx:a.eval x=ay (az ad) 1 c)(hnew:w.cell? ad=az (ah ag y))(oV:base<=w.heap.size)(hlen:q.length<=1000000)(h:∀v' g' w',Iw w' base g' v' (q++[y])->w.grownBy w' (az g)->(g'=g\/g'=w.heap.size)->wpList aH ops Q rest (a.put o.dst v') w'):wpList aH ops Q (o::rest) a w:=by refine wpList_plain hgd fun K hK=>?_;obtain⟨v',g',w',hrun,r1,r2,r3⟩:=Uf hq y ad c o.type hnew oV hlen;unfold Oper.wp execOp;simp only[ho,resolve,invoke,builtin,Sem.run_bind,Sem.run_pure,Result.andThen_ok,List.map_toArray,mG,List.map_nil,hs,hx,hrun];exact hK _ _ (h v' g' w' r1 r2 r3)
def FE(l:List Int):Array aI:=(l.map (ah .i64)).toArray
theorem Cr(l:List Int)(i:Nat)(hi:i<l.length):(FE l)[i]?=az (ah ag (l.getD i 0)):=by unfold FE;simp[bJ,hi]
theorem Qn(l:List Int)(i:Nat)(x:Int):(FE l).setIfInBounds i (ah ag x)=FE (l.set i x):=by unfold FE;simp[List.map_set]
structure DS(w:aG)(n base b7 bl qX b9 gq:Nat)(node:Int)(qv:aI)(l q:List Int):Prop where
 box:dh w b7 26 #[ay (az ⟨bl,0,aj⟩) n n]
 row:dh w bl 3 (FE l)
 len:l.length=n
 node:dh w qX 3 #[ah ag node]
 wR:dh w b9 26 #[qv]
 Wt:Iw w base gq qv q
 ne1:gq≠bl
 ne2:gq≠qX
 ne3:bl≠qX
 ne4:gq≠b7
 ne5:gq≠b9
 ne6:b7≠b9
theorem dh.tne{w:aG}{g g':Nat}{t t':dL}{cs cs':Array aI}(h:dh w g t cs)(h':dh w g' t' cs')(nQ:t≠t'):g≠g':=dh.sU h h' nQ
def wJ(l q:List Int)(node:Int)(v:Nat):List Int×List Int:=if l.getD v 0<0 then(l.set v (l.getD node.toNat 0+1),q++[(v:Int)])else(l,q)
def Ll(w:aG)(n base b7 bl qX b9 gq:Nat)(node:Int)(l q:List Int)(w':aG):Prop:=
 ∃gq' YR,DS w' n base b7 bl qX b9 gq' node YR l q/\KB w.heap.size [bl,b9,gq] w w'/\(gq'=gq\/w.heap.size<=gq')
theorem Hz(w:aG)(n base b7 bl qX b9 gq:Nat)(u v:Nat)(qv:aI)(l q:List Int)(h:DS w n base b7 bl qX b9 gq (u:Int) qv l q)(oV:base<=w.heap.size)(hv:v<n)(hu:u<n)(hn:n<=1000000)(hq:q.length<=1000000)(hb:0<=l.getD u 0/\l.getD u 0<=1000000):bZ aH 110 #[ah ag v,au (az ⟨b7,0,aj⟩),au (az ⟨qX,0,aj⟩),au (az ⟨b9,0,aj⟩)] w fun e w'=>e=ax (.tuple #[])/\Ll w n base b7 bl qX b9 gq (u:Int) (wJ l q (u:Int) v).1 (wJ l q (u:Int) v).2 w':=by
 have hlen:=h.len;have c7:=h.box.one.1;have f9:=h.wR.one.2;have c9:=h.wR.one.1;have c10:=h.node.one.1;have cv:w.cell? ⟨bl,v,aj⟩=az (ah ag (l.getD v 0)):=by rw[h.row.cell];exact Cr l v (by omega)
 have cu:w.cell? ⟨bl,u,aj⟩=az (ah ag (l.getD u 0)):=by rw[h.row.cell];exact Cr l u (by omega)
 have fv:w.frozen? ⟨bl,v,aj⟩=false:=h.row.frozen v;have H:=aA h;have v0:(0:Int)<=(v:Int):=by omega
 have v1:(v:Int)<(n:Int):=by omega
 have u0:(0:Int)<=(u:Int):=by omega
 have u1:(u:Int)<(n:Int):=by omega
 have VL:aY (wJ l q (u:Int) v=if l.getD v 0<0 then(l.set v (l.getD u 0+1),q++[(v:Int)])else(l,q)):=by rw[aY];unfold wJ;rw[cK]
 obtain⟨x,hx⟩:∃x,l.getD v 0=x:=⟨_,rfl⟩;obtain⟨y,hy⟩:∃y,l.getD u 0=y:=⟨_,rfl⟩;rw[hx]at cv VL;rw[hy]at cu VL hb;clear hx hy h;by_cases hx0:x<0
 ·rw[if_pos hx0]at VL;have hq1:IntKind.i64.wrap (y+1)=y+1:=fE _ (by omega);have huv:u≠v:=fun e=>by subst e;rw[cv]at cu;injection cu with cu;injection cu with _ cu;omega
  have D:=H.o;have hg1:w.drew.grownBy (w.drew.setCell ⟨bl,v,aj⟩ (ah ag (y+1))) (az bl):=wG (zg w.drew (az bl)) (.inl rfl) _;have D1:aY (DS (w.drew.setCell ⟨bl,v,aj⟩ (ah ag (y+1))) n base b7 bl qX b9 gq (u:Int) qv (l.set v (y+1)) q):=
   ⟨D.box.drew.AU (p:=⟨bl,v,aj⟩) (dh.tne D.box D.row (by decide)) _,by rw[<-Qn];exact D.row.drew.jd v _,by simpa using D.len,D.node.drew.AU (p:=⟨bl,v,aj⟩) (iy D.ne3) _,D.wR.drew.AU (p:=⟨bl,v,aj⟩) (dh.tne D.wR D.row (by decide)) _,(D.Wt.uG (w':=w.drew) rfl).jd (p:=⟨bl,v,aj⟩) (iy D.ne1) _,D.ne1,D.ne2,D.ne3,D.ne4,D.ne5,D.ne6⟩
  have JE:aY (KB w.heap.size [bl,b9,gq] w (w.drew.setCell ⟨bl,v,aj⟩ (ah ag (y+1)))):=((KB.refl _ _ _).drew).setCell (aC _) (.inl (by simp)) _;obtain⟨w2,Ld⟩:∃w2:aG,w.drew.setCell ⟨bl,v,aj⟩ (ah ag (y+1))=w2:=⟨_,rfl⟩;rw[Ld]at D1 JE;have KX:aY (w2.cell? ⟨b7,0,aj⟩=az (ay (az ⟨bl,0,aj⟩) n n)/\w2.cell? ⟨qX,0,aj⟩=az (ah ag (u:Int))/\w2.cell? ⟨bl,u,aj⟩=az (ah ag y)):=by refine⟨D1.o.box.one.1,D1.o.node.one.1,?_⟩;rw[D1.o.row.cell,Cr _ u (by rw[List.length_set];omega)];have:(l.set v (y+1)).getD u 0=l.getD u 0:=(by simp[bJ,iy huv]);rw[this];have h2:=D.row.cell u;rw[cu,Cr l u (by omega)]at h2;exact h2.symm
  have HW2:=aA Ld;clear hg1 D c9 f9;go_enter func110,ntmps110;go_wp2_with fail;go_region_held3 (fun W=>W.cell? ⟨b7,0,aj⟩=az (ay (az ⟨bl,0,aj⟩) n n)/\W.cell? ⟨qX,0,aj⟩=az (ah ag (u:Int))/\W.cell? ⟨bl,u,aj⟩=az (ah ag y))
   (first|exact⟨c7,c10,cu⟩|exact KX.o) (fail)
  clear Ld HW2 KX c7 c10 cv cu;have c9:=D1.o.wR.one.1;have f9:=D1.o.wR.one.2;have hsz:w.heap.size<=w2.heap.size:=JE.o.size;have aIf:=D1.o.Wt.lt;have Q1:aY (Iw (w2.alloc (af #[ah ag (v:Int)] 3)) base gq qv q):=D1.o.Wt.alloc _;have hnew:(w2.alloc (af #[ah ag (v:Int)] 3)).cell? ⟨w2.heap.size,0,aj⟩=az (ah ag (v:Int)):=by simp[go_sem]
  obtain⟨qa,qc,hqv,_⟩:=D1.o.Wt.form;subst hqv;go_wp2_with (at_builtin;refine NU rfl (.tmp 18) (.tmp 20) rfl rfl Q1.o (v:Int) ⟨w2.heap.size,0,aj⟩ 1 rfl hnew ?z1 hq ?_);case z1=>simp;omega
  intro v3 g3 w3 q3 Yn afp;obtain⟨qa3,qc3,ayy,_⟩:=q3.form;subst ayy;have s3:=Yn.size;simp at s3;have hloc:g3=gq\/w2.heap.size<=g3:=by
   rcases afp with e|e
   ·exact .inl e
   ·right;rw[e];simp
  have D2:aY (DS (w3.setCell ⟨b9,0,aj⟩ (ay (az qa3) (q++[(v:Int)]).length qc3)) n base b7 bl qX b9 g3 (u:Int) (ay (az qa3) (q++[(v:Int)]).length qc3) (l.set v (y+1)) (q++[(v:Int)])):=by
   have D:=D1.o;have l7:=D.box.lt;have ll:=D.row.lt;have l10:=D.node.lt;have l9:=D.wR.lt;have n1:g3≠bl:=by have:=D.ne1;rcases hloc with e|e<;>omega
   have n2:g3≠qX:=by have:=D.ne2;rcases hloc with e|e<;>omega
   have n4:g3≠b7:=by have:=D.ne4;rcases hloc with e|e<;>omega
   have n5:g3≠b9:=by have:=D.ne5;rcases hloc with e|e<;>omega
   have k:∀{g:Nat} {t:dL} {cs:Array aI},dh w2 g t cs->gq≠g->dh w3 g t cs:=fun hb nQ=>(hb.alloc _).grown Yn (by simp;exact iy nQ);exact⟨(k D.box D.ne4).AU (p:=⟨b9,0,aj⟩) D.ne6 _,(k D.row D.ne1).AU (p:=⟨b9,0,aj⟩) (iy (dh.tne D.wR D.row (by decide))) _,D.len,(k D.node D.ne2).AU (p:=⟨b9,0,aj⟩) (iy (dh.tne D.wR D.node (by decide))) _,(k D.wR D.ne5).set0 _,q3.jd (p:=⟨b9,0,aj⟩) (iy n5) _,n1,n2,D.ne3,n4,n5,D.ne6⟩
  have SN:aY (KB w.heap.size [bl,b9,gq] w (w3.setCell ⟨b9,0,aj⟩ (ay (az qa3) (q++[(v:Int)]).length qc3))):=
   (((JE.o.alloc (aC _) _).grown (aC _) Yn (fun g e=>by injection e with e;subst e;exact .inl (by simp)))).setCell (aC _) (.inl (by simp)) _
  have F:aY (Ll w n base b7 bl qX b9 gq (u:Int) (l.set v (y+1)) (q++[(v:Int)]) (w3.setCell ⟨b9,0,aj⟩ (ay (az qa3) (q++[(v:Int)]).length qc3))):=
   ⟨g3,_,D2.o,SN.o,hloc.imp id (fun e=>dZ hsz e)⟩
  have D:=D1.o;have cb:w3.cell? ⟨b9,0,aj⟩=az (ay (az qa) q.length qc):=(((D.wR.alloc _).grown Yn (by simp;exact iy D.ne5)).one).1;have fb:w3.frozen? ⟨b9,0,aj⟩=false:=(((D.wR.alloc _).grown Yn (by simp;exact iy D.ne5)).one).2;clear q3 Yn afp hloc D c9 f9 s3;go_wp2_with fail
  go_end0
  have F1:=F.o;rw[bV,iJ]at F1;exact⟨rfl,by rw[VL.o];exact F1⟩
 ·rw[if_neg hx0]at VL;have F:aY (Ll w n base b7 bl qX b9 gq (u:Int) l q w):=⟨gq,qv,H.o,KB.refl _ _ _,.inl rfl⟩;go_enter func110,ntmps110;go_wp2_with fail
  go_end0
  exact⟨rfl,by rw[VL.o];exact F.o⟩
end
section
def AV(n k:Nat):List Int:=(aO n).map fun j=>if j<k then-1 else 0
theorem Rx(n k:Nat):(AV n k).length=n:=by simp[AV]
theorem abr(n k:Nat):(AV n k).set k (-1)=AV n (k+1):=by apply qH (by simp[AV]);intro i h1 h2;rw[List.getElem_set];simp only[AV,List.getElem_map,List.getElem_range];split<;>split<;>(try split)<;>first|rfl|omega
theorem abq(n:Nat):AV n n=aS n (-1):=by apply qH (by simp[AV]);intro i h1 h2;simp[AV]at h1|-;omega
theorem Yf(n:Nat):FE (AV n 0)=dS #[ah ag 0] (n*1):=by
 apply Array.ext
 ·simp[FE,Rx,size_madeCells]
 ·intro i h1 h2;simp[FE,AV,dS,Nat.mod_one]
def adF(n bl:Nat)(w w3:aG)(i:aI)(wr:aG):Prop:=
 ∃k:Nat,k<=n/\i=ah ag k/\dh wr bl 3 (FE (AV n k))/\KB w3.heap.size [bl] w3 wr/\aN w.heap.size w wr
def lenQ:aI->Nat
 |.slice _ n _=>n
 |_=>0
def negs(o:Option Obj):Nat:=match o with
 |some (.cells cs _ _)=>cs.toList.countP fun v=>decide (aJ v<0)
 |_=>0
def ahY(b9 bl:Nat)(w:aG):Nat:=lenQ ((w.cell? ⟨b9,0,aj⟩).getD (.bool false))+negs w.heap[bl]?
def QOk(n:Nat)(l q:List Int):Prop:=∀x∈q,∃j:Nat,x=j/\j<n/\0<=l.getD j 0
structure S2(w:aG)(ns:List Nd)(cs:List Cb)(root:Nat)(pv:Array aI)(b9 gq:Nat)(qv:aI)(l q:List Int)(wr:aG):Prop where
 box:dh wr (w.heap.size+1+1) 26 #[ay (az ⟨w.heap.size+1,0,aj⟩) ns.length ns.length]
 row:dh wr (w.heap.size+1) 3 (FE l)
 plan:dh wr w.heap.size 25 pv
 wR:dh wr b9 26 #[qv]
 Wt:Iw wr w.heap.size gq qv q
 ne1:gq≠w.heap.size+1
 ne4:gq≠w.heap.size+1+1
 ne5:gq≠b9
 ne6:w.heap.size+1+1≠b9
 ne7:gq≠w.heap.size
 ge9:w.heap.size<=b9
 lv:SV ns.length cs root l
 qok:QOk ns.length l q
 low:q.length+without l<=ns.length
 below:aN w.heap.size w wr
theorem ZR{w:aG}{b9 bl g base:Nat}{qv:aI}{l q:List Int}(hr:dh w bl 3 (FE l))(hb:dh w b9 26 #[qv])(hq:Iw w base g qv q):ahY b9 bl w=q.length+without l:=by obtain⟨a,c,rfl,_⟩:=hq.form;unfold ahY;rw[hb.one.1];have h2:w.heap[bl]?=az (af (FE l) 3 (0,0)):=hr;rw[h2];simp only[Option.getD_some,lenQ,negs,FE,List.countP_map,without];rfl
theorem S2.ds{w wr:aG}{ns:List Nd}{cs:List Cb}{root b9 gq qX u:Nat}{pv:Array aI}{qv:aI}{l q:List Int}(hS:S2 w ns cs root pv b9 gq qv l q wr)(hn:dh wr qX 3 #[ah ag u])(nQ:gq≠qX)(h3:w.heap.size+1≠qX):DS wr ns.length w.heap.size (w.heap.size+1+1) (w.heap.size+1) qX b9 gq (u:Int) qv l q:=
 ⟨hS.box,hS.row,hS.lv.len,hn,hS.wR,hS.Wt,hS.ne1,nQ,h3,hS.ne4,hS.ne5,hS.ne6⟩
theorem S2.alloc{w wr:aG}{ns:List Nd}{cs:List Cb}{root b9 gq:Nat}{pv:Array aI}{qv:aI}{l q:List Int}(hS:S2 w ns cs root pv b9 gq qv l q wr)(o:Obj):S2 w ns cs root pv b9 gq qv l q (wr.alloc o):=
 ⟨hS.box.alloc _,hS.row.alloc _,hS.plan.alloc _,hS.wR.alloc _,hS.Wt.alloc _,hS.ne1,hS.ne4,hS.ne5,hS.ne6,hS.ne7,hS.ge9,hS.lv,hS.qok,hS.low,hS.below.alloc hS.below.size _⟩
theorem Mt{p:Pl}(h:fT p=0){x:Cb}(hx:x∈p.cs):x.a≠x.b:=by
 unfold fT at h;split at h;·cases h
 split at h;·cases h
 split at h;·cases h
 split at h;·cases h
 split at h;·cases h
 rename_i hh;simp only[Bool.not_eq_false,jL,decide_eq_true_eq]at hh;exact hh x hx
end
section
def wI(p:Pl)(n:Nat):Bool:=decide (fT p=0)&&decide (n=p.cs.length)
theorem Qx(p:Pl)(An Ac Au:Option fA)(cn cc cu m:Nat)(w:aG)(hl:p.ns.length<=1000000)(DN:p.cs.length<=1000000)(hm:m<=1000000)(tu:QI p)(h:jw w An Ac p):bZ aH 78 #[.agg #[ay An p.ns.length cn,ay Ac p.cs.length cc],ay Au m cu] w fun e w'=>e=ax (.bool (wI p m))/\aN w.heap.size w w':=by
 obtain⟨ns,cs⟩:=p;simp only at hl DN|-;obtain⟨w1,gK⟩:∃w1:aG,w.alloc (af #[ay An ns.length cn,ay Ac cs.length cc] 25)=w1:=⟨_,rfl⟩;have s0:w1.cell? ⟨w.heap.size,0,aj⟩=az (ay An ns.length cn):=by rw[<-gK];simp[go_sem]
 have s1:w1.cell? ⟨w.heap.size,1,aj⟩=az (ay Ac cs.length cc):=by rw[<-gK];simp[go_sem]
 have Sk:w.heap.size<w1.heap.size:=by rw[<-gK];simp
 have BW:aY (aN w.heap.size w w1):=by rw[<-gK];exact(aQ _ _).alloc (aC _) _
 have H1:=aA (h.below (aC _) BW.o);have HC:=aA (zN ⟨ns,cs⟩ An Ac cn cc w1 hl DN tu H1.o);have Bf:=aA gK;clear gK h tu;go_enter func78,ntmps78;go_wp2_with fail;rw[Bf.o];refine HC.o.mono ?_;rintro e w2 ⟨rfl,gm⟩;have c1:=(gm.cell (p:=⟨w.heap.size,1,aj⟩) Sk).trans s1;have BF:aY (aN w.heap.size w w2):=BW.o.trans (gm.mono BW.o.size);clear gm HC s0 s1 Bf;cases hv:fT ⟨ns,cs⟩==0 with
 |false=>
  have F:aY (wI ⟨ns,cs⟩ m=false):=by rw[aY];unfold wI;rw[decide_eq_false (by simpa using hv)];rfl
  generalize fT ⟨ns,cs⟩=z at *;go_wp2_with fail;go_ret;exact⟨by rw[F.o];rfl,BF.o⟩
 |true=>
  have hv0:fT ⟨ns,cs⟩=0:=by simpa using hv
  have F:aY (wI ⟨ns,cs⟩ m=decide (m=cs.length)):=by rw[aY];unfold wI;rw[decide_eq_true hv0];rfl
  rw[hv0];clear hv hv0;by_cases Ib:m=cs.length
  ·have F2:aY (wI ⟨ns,cs⟩ m=true):=by rw[aY,F.o,decide_eq_true Ib]
   go_wp2_with fail;go_ret
   exact⟨by rw[F2.o];first|rfl|(simp;omega),BF.o⟩
  ·have F2:aY (wI ⟨ns,cs⟩ m=false):=by rw[aY,F.o,decide_eq_false Ib]
   go_wp2_with fail;go_ret
   exact⟨by rw[F2.o];first|rfl|(simp;omega),BF.o⟩
def adz(p:Pl)(us:List Bool)(root:Int):Prop:=fT p=0/\us.length=p.cs.length/\0<=root/\root<p.ns.length
end
section
abbrev St:=Nat×Bool
abbrev yX:=St->Option Nat
def wS(f:yX)(s:St)(v:Nat):yX:=fun x=>if x=s then az v else f x
def FH(lv:List Int)(u v:Nat):Bool:=qI lv (v:Int) (u:Int)
def Mh(lv:List Int)(s:St)(o:Nat):St:=(o,!FH lv s.1 o)
def Fy(lv:List Int)(s:St)(o:Nat):Bool:=!FH lv s.1 o||!s.2
def impr(lv:List Int)(f:yX)(s:St)(o:Nat):Option Nat:=
 if Fy lv s o=true then
  match f (Mh lv s o)with
  |none=>aj
  |some d=>match f s with
   |none=>az (d+1)
   |some old=>if old<=d+1 then aj else az (d+1)
 else aj
def arQ(f:yX)(s:St):Option Nat->yX
 |none=>f
 |some v=>wS f s v
def NG(n:Nat):List St:=(aO n).flatMap fun i=>[(i,false),(i,true)]
def MQ:Option Nat->Nat
 |none=>1000
 |some d=>d
def Ql(n:Nat)(f:yX):Nat:=((NG n).map fun s=>MQ (f s)).sum
def kn(n:Nat)(f:yX):Nat:=(NG n).countP fun s=>(f s).isSome
theorem Fs{n:Nat}{s:St}:s∈NG n↔s.1<n:=by
 obtain⟨i,b⟩:=s;unfold NG;simp only[List.mem_flatMap,dJ,dG,List.not_mem_nil,or_false,Prod.mk.injEq];constructor
 ·rintro⟨j,hj,h|h⟩<;>omega
 ·intro h;refine⟨i,h,?_⟩;cases b<;>simp
theorem Lt(n:Nat):NG (n+1)=NG n++[(n,false),(n,true)]:=by unfold NG;rw[dB,fP];simp
theorem UR(n:Nat):(NG n).length=2*n:=by
 induction n with
 |zero=>rfl
 |succ n ih=>rw[Lt,bV,ih];simp;omega
theorem XA(n:Nat):(NG n).Nodup:=by
 induction n with
 |zero=>exact List.nodup_nil
 |succ n ih=>rw[Lt,List.nodup_append];refine⟨ih,by simp,fun a ha b hb=>?_⟩;have h1:=Fs.1 ha;rintro rfl;simp at hb;rcases hb with h|h<;>(rw[h]at h1;simp at h1)
theorem aiw{α:Type}[DecidableEq α](g g':α->Nat)(s:α)(hg:∀x,x≠s->g' x=g x):∀L:List α,L.Nodup->s∈L->(L.map g').sum+g s=(L.map g).sum+g' s:=by
 intro L
 induction L with
 |nil=>intro _ h;cases h
 |cons x L ih=>
  intro hn hs;obtain⟨h1,h2⟩:=pV.1 hn;rw[mG,mG,List.sum_cons,List.sum_cons];by_cases e:x=s
  ·subst e;have:L.map g'=L.map g:=List.map_congr_left fun y hy=>hg y (fun e=>h1 (e▸hy));rw[this];omega
  ·rcases dG.1 hs with h|h
   ·exact absurd h.symm e
   ·have:=ih h2 h;rw[hg x e];omega
theorem Pf{α:Type}(p q:α->Bool)(h:∀x,p x=true->q x=true)(L:List α):L.countP p<=L.countP q:=by
 induction L with
 |nil=>simp
 |cons x L ih=>
  rw[oZ,oZ];have:=h x;cases hp:p x
  ·simp;omega
  ·rw[this hp];simp;omega
theorem Yc{α:Type}(p q:α->Bool)(h:∀x,p x=true->q x=true)(s:α)(hp:p s=false)(hq:q s=true):∀L:List α,s∈L->L.countP p+1<=L.countP q:=by
 intro L
 induction L with
 |nil=>intro h;cases h
 |cons x L ih=>
  intro hs;rw[oZ,oZ];rcases dG.1 hs with e|hs
  ·subst e;rw[hp,hq];have:=Pf p q h L;simp;omega
  ·have:=ih hs;have hx:=h x;cases hpx:p x
   ·simp;omega
   ·rw[hx hpx];simp;omega
theorem Ud{n:Nat}{f:yX}{s:St}{v:Nat}(hs:s.1<n):Ql n (wS f s v)+MQ (f s)=Ql n f+v:=by
 have:=aiw (fun x=>MQ (f x)) (fun x=>MQ (wS f s v x)) s (fun x hx=>by unfold wS;rw[if_neg hx]) (NG n) (XA n) (Fs.2 hs);unfold Ql;have e:MQ (wS f s v s)=v:=by unfold wS;rw[if_pos rfl];rfl
 rw[e]at this;exact this
theorem afh(n:Nat)(f:yX):kn n f<=2*n:=by unfold kn;have:=List.countP_le_length (p:=fun s=>(f s).isSome) (l:=NG n);rw[UR]at this;exact this
theorem Su{f:yX}{s:St}{v:Nat}(x:St)(h:(f x).isSome=true):(wS f s v x).isSome=true:=by
 unfold wS;split
 ·rfl
 ·exact h
def Sup(n:Nat)(cs:List Cb)(us:List Bool)(lv:List Int)(f:yX)(s:St)(d:Nat):Prop:=
 ∃i,i<cs.length/\us.getD i false=true/\∃o,o<n/\touch (cs.getD i gX) (s.1:Nat) o/\Fy lv s o=true/\∃d',f (Mh lv s o)=az d'/\d'+1<=d
structure SI(n:Nat)(cs:List Cb)(us:List Bool)(lv:List Int)(to:Nat)(f:yX):Prop where
 tlt:to<n
 tlv:0<=lv.getD to 0
 t0:∀b,f (to,b)=az 0
 sup:∀s d,f s=az d->s.1<n/\0<=lv.getD s.1 0/\((s.1=to/\d=0)\/Sup n cs us lv f s d)
 bnd:∀s d,f s=az d->d+1<=kn n f
section
variable{n:Nat}{cs:List Cb}{us:List Bool}{lv:List Int}{to:Nat}{f:yX}
theorem abL{s:St}{o v:Nat}(h:impr lv f s o=az v):Fy lv s o=true/\∃d,f (Mh lv s o)=az d/\v=d+1/\(f s=aj\/∃old,f s=az old/\d+1<old):=by
 unfold impr at h;split at h
 ·rename_i hp;refine⟨hp,?_⟩;split at h
  ·cases h
  ·rename_i d hd;refine⟨d,hd,?_⟩;split at h
   ·rename_i hs;injection h with h;exact⟨h.symm,.inl hs⟩
   ·rename_i old hs;split at h
    ·cases h
    ·injection h with h;exact⟨h.symm,.inr ⟨old,hs,by omega⟩⟩
 ·cases h
theorem SI.step(h:SI n cs us lv to f)(hn:n<=100){i o v:Nat}{s:St}(hi:i<cs.length)(hu:us.getD i false=true)(ht:touch (cs.getD i gX) s.1 o)(hs:s.1<n)(ho:o<n)(nQ:s.1≠o)(hl:0<=lv.getD s.1 0)(hv:impr lv f s o=az v):SI n cs us lv to (wS f s v)/\Ql n (wS f s v)<Ql n f:=by
 obtain⟨hp,d,hd,rfl,hold⟩:=abL hv;have Ic:s.1≠to:=by
  intro e;have:f s=az 0:=by have:=h.t0 s.2;rw[<-e]at this;exact this
  rcases hold with h1|⟨old,h1,h2⟩
  ·rw[h1]at this;cases this
  ·rw[h1]at this;injection this with this;omega
 have hnx:Mh lv s o≠s:=fun e=>nQ (by rw[<-e];rfl);have hk:kn n f<=kn n (wS f s (d+1)):=Pf _ _ (fun x hx=>Su x hx) _;have hself:wS f s (d+1) s=az (d+1):=by unfold wS;rw[if_pos rfl]
 have hoth:∀x,x≠s->wS f s (d+1) x=f x:=fun x hx=>by unfold wS;rw[if_neg hx]
 have hb:=h.bnd _ _ hd;have hbs:d+1+1<=kn n (wS f s (d+1)):=by
  rcases hold with h1|⟨old,h1,h2⟩
  ·have:kn n f+1<=kn n (wS f s (d+1)):=Yc _ _ (fun x hx=>Su x hx) s (by rw[h1];rfl) (by rw[hself];rfl) _ (Fs.2 hs);omega
  ·have:=h.bnd _ _ h1;omega
 refine⟨⟨h.tlt,h.tlv,fun b=>?_,fun x d0 hx=>?_,fun x d0 hx=>?_⟩,?_⟩
 ·rw[hoth _ (fun e=>Ic (by rw[<-e]))];exact h.t0 b
 ·by_cases e:x=s
  ·subst e;rw[hself]at hx;injection hx with hx;subst hx;exact⟨hs,hl,.inr ⟨i,hi,hu,o,ho,ht,hp,d,by rw[hoth _ hnx];exact hd,aC _⟩⟩
  ·rw[hoth _ e]at hx;obtain⟨h1,h2,h3⟩:=h.sup x d0 hx;refine⟨h1,h2,?_⟩;rcases h3 with h3|⟨j,hj,huj,o',ho',htj,hpj,d',Ab,hle⟩
   ·exact .inl h3
   ·right;refine⟨j,hj,huj,o',ho',htj,hpj,?_⟩;by_cases e2:Mh lv x o'=s
    ·rw[e2]at Ab|-;refine⟨d+1,hself,?_⟩;rcases hold with h4|⟨old,h4,h5⟩
     ·rw[h4]at Ab;cases Ab
     ·rw[h4]at Ab;injection Ab with Ab;omega
    ·exact⟨d',by rw[hoth _ e2];exact Ab,hle⟩
 ·by_cases e:x=s
  ·subst e;rw[hself]at hx;injection hx with hx;subst hx;exact hbs
  ·rw[hoth _ e]at hx;have:=h.bnd _ _ hx;omega
 ·have h1:=Ud (n:=n) (f:=f) (s:=s) (v:=d+1) hs;have h2:=afh n (wS f s (d+1));rcases hold with h3|⟨old,h3,h4⟩
  ·rw[h3]at h1;simp only[MQ]at h1;omega
  ·rw[h3]at h1;simp only[MQ]at h1;omega
def zY(to:Nat):yX:=wS (wS (fun _=>aj) (to,false) 0) (to,true) 0
theorem Nl{s:St}{d:Nat}(h:zY to s=az d):s.1=to/\d=0:=by
 unfold zY wS at h;split at h
 ·rename_i e;injection h with h;exact⟨by rw[e],h.symm⟩
 ·split at h
  ·rename_i e;injection h with h;exact⟨by rw[e],h.symm⟩
  ·cases h
theorem acL(b:Bool):zY to (to,b)=az 0:=by unfold zY wS;cases b<;>simp
theorem SI.start(ht:to<n)(hl:0<=lv.getD to 0):SI n cs us lv to (zY to):=by
 refine⟨ht,hl,acL,fun s d h=>?_,fun s d h=>?_⟩
 ·obtain⟨h1,h2⟩:=Nl h;exact⟨by rw[h1];exact ht,by rw[h1];exact hl,.inl ⟨h1,h2⟩⟩
 ·obtain⟨h1,rfl⟩:=Nl h;have:0<kn n (zY to):=List.countP_pos_iff.2 ⟨s,Fs.2 (by rw[h1];exact ht),by rw[h];rfl⟩;omega
def PSr(n:Nat)(cs:List Cb)(us:List Bool)(lv:List Int)(to:Nat)(f0:yX)(L:List (St×Nat))(c:Bool)(f:yX):Prop:=
 SI n cs us lv to f/\((c=true/\Ql n f<Ql n f0)\/(c=false/\f=f0/\∀x∈L,impr lv f x.1 x.2=aj))
theorem PSr.start(h:SI n cs us lv to f):PSr n cs us lv to f [] false f:=⟨h,.inr ⟨rfl,rfl,by simp⟩⟩
theorem PSr.amR{f0:yX}{L:List (St×Nat)}{c:Bool}(h:PSr n cs us lv to f0 L c f):Ql n f<=Ql n f0:=by
 rcases h.2 with⟨_,h⟩|⟨_,h,_⟩
 ·omega
 ·rw[h];exact aC _
theorem PSr.step{f0:yX}{L:List (St×Nat)}{c:Bool}(h:PSr n cs us lv to f0 L c f)(hn:n<=100){i o:Nat}{s:St}(hi:i<cs.length)(hu:us.getD i false=true)(ht:touch (cs.getD i gX) s.1 o)(hs:s.1<n)(ho:o<n)(nQ:s.1≠o)(hl:0<=lv.getD s.1 0):PSr n cs us lv to f0 (L++[(s,o)]) ((impr lv f s o).isSome||c) (arQ f s (impr lv f s o)):=by
 cases hv:impr lv f s o with
 |none=>
  refine⟨h.1,?_⟩;rcases h.2 with⟨h1,h2⟩|⟨h1,h2,h3⟩
  ·exact .inl ⟨by rw[h1];rfl,h2⟩
  ·refine .inr ⟨by rw[h1];rfl,h2,fun x hx=>?_⟩;rcases eZ.1 hx with hx|hx
   ·exact h3 x hx
   ·obtain rfl:=dz.1 hx;exact hv
 |some v=>obtain⟨h1,h2⟩:=h.1.step hn hi hu ht hs ho nQ hl hv;exact⟨h1,.inl ⟨rfl,bW h2 h.amR⟩⟩
end
def acP(cs:List Cb)(us:List Bool)(lv:List Int)(i:Nat):List (St×Nat):=
 if us.getD i false=true/\0<=lv.getD (cs.getD i gX).a.toNat 0/\0<=lv.getD (cs.getD i gX).b.toNat 0 then
  [(((cs.getD i gX).a.toNat,false),(cs.getD i gX).b.toNat),(((cs.getD i gX).b.toNat,false),(cs.getD i gX).a.toNat),(((cs.getD i gX).a.toNat,true),(cs.getD i gX).b.toNat),(((cs.getD i gX).b.toNat,true),(cs.getD i gX).a.toNat)]
 else[]
def xK(cs:List Cb)(us:List Bool)(lv:List Int)(k:Nat):List (St×Nat):=(aO k).flatMap (acP cs us lv)
theorem KJ(cs:List Cb)(us:List Bool)(lv:List Int)(k:Nat):xK cs us lv (k+1)=xK cs us lv k++acP cs us lv k:=by unfold xK;rw[dB,fP];simp
def Found(n:Nat)(cs:List Cb)(us:List Bool)(lv:List Int)(to:Nat)(f:yX):Prop:=
 (lv.getD to 0<0/\f=fun _=>aj)\/(SI n cs us lv to f/\∀x∈xK cs us lv cs.length,impr lv f x.1 x.2=aj)
end
section
theorem akd:(254:dL)<Tryz.prog.types.size:=of_decide_eq_true (by kernel_rfl)
theorem ZJ:Tryz.prog.cellsOf 254=2:=by kernel_rfl
theorem abg:Tryz.prog.cellsOf 4=1:=by kernel_rfl
theorem alB:Tryz.prog.keyType 254=true:=by kernel_rfl
theorem anj:(match Tryz.prog.underlying 254 with|some (.array _ _)|some (.struct _)=>true|_=>false)=true:=by rw[underlying254]
theorem aht:Tryz.prog.keyTypeAt 2 254=true:=by kernel_rfl
theorem amj:WideMaps.KeyLaw aH 254:=deep_law_laid VU (m:=2) (by omega) akd aht anj
theorem yh:Keyed aH 254:=Keyed.of_law amj
def Pm(x:St):aI:=.agg #[ah ag (x.1:Int),.bool x.2]
def agZ(x:St):Prop:=(Lit.int .i64 (x.1:Int)).wf=true
def Sc(x:St):Lit:=.string (keyBytes [.int .i64 (x.1:Int),.bool x.2])
theorem aeJ(x:St):(Pm x).formed aH 254=true:=by simp[Pm,Value.formed,underlying254,ZJ]
theorem PW{x:St}(h:agZ x):keyOf aH 254 (Pm x)=az (Sc x):=by unfold keyOf;rw[underlying254];simp only[alB,aeJ,Bool.and_self,if_true];have hs:∃n,Tryz.prog.types.size=n+1:=⟨Tryz.prog.types.size-1,by have h:0<Tryz.prog.types.size:=Nat.lt_of_le_of_lt (bS _) akd;omega⟩;obtain⟨n,hn⟩:=hs;rw[hn];unfold agZ at h;simp[Program.keyLits,underlying254,underlying3,underlying4,ZJ,Vh,abg,Pm,xV,h,Sc]
theorem abm{x y:St}(h:Pm x=Pm y):x=y:=by unfold Pm at h;simp at h;obtain⟨h1,h2⟩:=h;exact Prod.ext (by omega) h2
theorem aij{x y:St}(hx:agZ x)(hy:agZ y)(h:Sc x=Sc y):x=y:=by have h1:=PW hx;have h2:=PW hy;rw[<-h]at h2;exact abm (yh.inj h1 h2)
theorem aik(x:St):WideAt.IsKeyLit (Sc x):=trivial
theorem Ju{i:Nat}(h:i<1000000):(Lit.int .i64 (i:Int)).wf=true:=ny _ (by omega) (by omega)
def wZ(w:aG)(b n:Nat)(f:yX):Prop:=
 ∃m M,m+Ql n f<=1000000/\jo w aH 254 b m M/\∀x:St,x.1<1000000->M (Sc x)=(f x).map fun d=>ah ag (d:Int)
section
variable{w w':aG}{b n:Nat}{f:yX}
theorem wZ.lt(h:wZ w b n f):b<w.heap.size:=by obtain⟨_,_,_,h,_⟩:=h;exact h.lt
theorem wZ.alloc(h:wZ w b n f)(o:Obj):wZ (w.alloc o) b n f:=by obtain⟨m,M,h1,h2,h3⟩:=h;exact⟨m,M,h1,h2.alloc o,h3⟩
theorem wZ.below{B:Nat}(h:wZ w b n f)(hb:aN B w w')(tK:b<B):wZ w' b n f:=by obtain⟨m,M,h1,h2,h3⟩:=h;exact⟨m,M,h1,h2.below hb tK,h3⟩
theorem acu{M:Lit->Option aI}{s:St}(v:aI):tJ M (Sc s) v (Sc s)=az v:=by unfold tJ;rw[if_pos (WideAt.sameKey_self (aik s))]
theorem YP{M:Lit->Option aI}{s x:St}(hs:s.1<1000000)(hx:x.1<1000000)(nQ:x≠s)(v:aI):tJ M (Sc s) v (Sc x)=M (Sc x):=by unfold tJ;rw[if_neg];intro h;exact nQ (aij (Ju hx) (Ju hs) (WideAt.sameKey_eq h))
theorem Qm{M:Lit->Option aI}{s:St}{v:Nat}(hs:s.1<1000000)(hM:∀x:St,x.1<1000000->M (Sc x)=(f x).map fun d=>ah ag (d:Int)):∀x:St,x.1<1000000->tJ M (Sc s) (ah ag (v:Int)) (Sc x)=(wS f s v x).map fun d=>ah ag (d:Int):=by
 intro x hx;unfold wS;by_cases e:x=s
 ·subst e;rw[if_pos rfl,acu];rfl
 ·rw[if_neg e,YP hs hx e,hM x hx]
end
theorem afW(lv:List Int)(Al:Option fA)(cl:Nat)(s:St)(o:Nat)(w:aG)(hl:lv.length<=1000000)(h:gI 1 cI 0 w Al lv.length lv):bZ aH 172 #[.agg #[ay Al lv.length cl],.agg #[ah ag (s.1:Int),.bool s.2],ah ag (o:Int)] w fun e w'=>e=ax (.tuple #[.agg #[ah ag (o:Int),.bool (!FH lv s.1 o)],.bool (Fy lv s o)])/\aN w.heap.size w w':=by
 obtain⟨u,fl⟩:=s;simp only;obtain⟨w1,gK⟩:∃w1:aG,((w.alloc (af #[ay Al lv.length cl] 169)).alloc (af #[ah ag (u:Int),.bool fl] 254)).alloc (af #[ah ag 0,.bool false] 254)=w1:=⟨_,rfl⟩;have FO:aN w.heap.size w w1:=by rw[<-gK];exact(((aQ _ _).alloc (aC _) _).alloc (by simp) _).alloc (by simp;omega) _
 have s0:w1.cell? ⟨w.heap.size,0,aj⟩=az (ay Al lv.length cl):=by rw[<-gK];simp[go_sem]
 have s1:w1.cell? ⟨w.heap.size+1,0,aj⟩=az (ah ag (u:Int)):=by rw[<-gK];simp[go_sem]
 have s2:w1.cell? ⟨w.heap.size+1,1,aj⟩=az (.bool fl):=by rw[<-gK];simp[go_sem]
 have R1:aY (dh w1 (w.heap.size+1+1) 254 #[ah ag 0,.bool false]):=by rw[<-gK];have:=dh.new ((w.alloc (af #[ay Al lv.length cl] 169)).alloc (af #[ah ag (u:Int),.bool fl] 254)) 254 #[ah ag 0,.bool false];rw[aY];simpa using this
 have Sk:w.heap.size+1+1<w1.heap.size:=by rw[<-gK];simp
 have L1:=aA (h.below (aC _) FO);have BW:=aA FO;have HC:=aA (Ls lv Al cl (o:Int) (u:Int) w1 hl L1.o);have Bf:=aA gK;clear h gK FO;go_enter func172,ntmps172;go_wp2_with fail;rw[Bf.o];refine HC.o.mono ?_;rintro e w2 ⟨rfl,gm⟩;have c0:=(gm.cell (p:=⟨w.heap.size+1,0,aj⟩) (by show w.heap.size+1<_;omega)).trans s1;have c1:=(gm.cell (p:=⟨w.heap.size+1,1,aj⟩) (by show w.heap.size+1<_;omega)).trans s2;have R2:=R1.o.below gm R1.o.lt;have r0:w2.cell? ⟨w.heap.size+1+1,0,aj⟩=az (ah ag 0):=by rw[R2.cell];rfl
 have r1:w2.cell? ⟨w.heap.size+1+1,1,aj⟩=az (.bool false):=by rw[R2.cell];rfl
 have q0:w2.frozen? ⟨w.heap.size+1+1,0,aj⟩=false:=R2.frozen 0;have q1:w2.frozen? ⟨w.heap.size+1+1,1,aj⟩=false:=R2.frozen 1;have BF:aY (aN w.heap.size w w2):=BW.o.trans (gm.mono BW.o.size);clear gm HC s0 s1 s2 Bf R2;have E:qI lv (o:Int) (u:Int)=FH lv u o:=rfl;rw[E];clear E;have P:aY (Fy lv (u,fl) o=(!FH lv u o||!fl)):=rfl;cases hu:FH lv u o with
 |false=>
  have U:=aA hu;rw[hu]at P;clear hu;go_wp2_with fail;go_region;all_goals
   go_wp2_with fail;refine bodyPost_ret (v:=.tuple #[.agg #[ah ag (o:Int),.bool true],.bool true]) (by simp[results,DD,go_sem,r0,r1]) rfl ?_
   exact⟨by rw[P.o,U.o];rfl,((BF.o.setCell (by simp;omega) _).setCell (by simp;omega) _).drew⟩
 |true=>
  have U:=aA hu;rw[hu]at P;clear hu;cases fl;all_goals
   go_wp2_with fail;go_region
   all_goals
    go_wp2_with fail
    first
     |refine bodyPost_ret (v:=.tuple #[.agg #[ah ag (o:Int),.bool false],.bool true]) (by simp[results,DD,go_sem,r0,r1]) rfl ⟨by rw[P.o,U.o];rfl,((BF.o.setCell (by simp;omega) _).setCell (by simp;omega) _).drew⟩
     |refine bodyPost_ret (v:=.tuple #[.agg #[ah ag (o:Int),.bool false],.bool false]) (by simp[results,DD,go_sem,r0,r1]) rfl ⟨by rw[P.o,U.o];rfl,((BF.o.setCell (by simp;omega) _).setCell (by simp;omega) _).drew⟩
end
section
def Ex(w:aG)(bm n:Nat)(lv:List Int)(f:yX)(s:St)(o:Nat)(e:iM)(w':aG):Prop:=
 e=ax (.bool (impr lv f s o).isSome)/\wZ w' bm n (arQ f s (impr lv f s o))/\KB w.heap.size [bm] w w'
theorem afa(lv:List Int)(Al:Option fA)(cl b5 b9 bm n:Nat)(f:yX)(s:St)(o:Nat)(w:aG)(hl:lv.length<=1000000)(h:gI 1 cI 0 w Al lv.length lv)(h5:dh w b5 169 #[ay Al lv.length cl])(h9:dh w b9 251 #[.map (az bm)])(hm:wZ w bm n f)(hs:s.1<1000000)(ho:o<1000000)(hb:∀x d,f x=az d->d<=1000000)(hc:∀v,impr lv f s o=az v->Ql n (wS f s v)<Ql n f):bZ aH 171 #[.agg #[ah ag (s.1:Int),.bool s.2],ah ag (o:Int),au (az ⟨b5,0,aj⟩),au (az ⟨b9,0,aj⟩)] w (Ex w bm n lv f s o):=by
 obtain⟨u,fl⟩:=s;simp only at hs|-;obtain⟨w1,gK⟩:∃w1:aG,w.alloc (af #[ah ag (u:Int),.bool fl] 254)=w1:=⟨_,rfl⟩;have FO:aN w.heap.size w w1:=by rw[<-gK];exact(aQ _ _).alloc (aC _) _
 have c5:w.cell? ⟨b5,0,aj⟩=az (ay Al lv.length cl):=h5.one.1;have l5:=h5.lt;have D1:aY (dh w1 w.heap.size 254 #[ah ag (u:Int),.bool fl]):=by rw[<-gK];exact dh.new _ _ _
 have B9:=aA (h9.below FO h9.lt);have M1:=aA (hm.below FO hm.lt);have Sk:w.heap.size<w1.heap.size:=by rw[<-gK];simp
 have L1:=aA (h.below (aC _) FO);have BW:=aA FO;have HC:=afW lv Al cl (u,fl) o w1 hl L1.o;obtain⟨nb,hnb⟩:∃nb,(!FH lv u o)=nb:=⟨_,rfl⟩;obtain⟨pb,hpb⟩:∃pb,Fy lv (u,fl) o=pb:=⟨_,rfl⟩;simp only[hnb,hpb]at HC;have NX:aY (Mh lv (u,fl) o=(o,nb)):=by rw[aY,<-hnb];rfl
 have IM:aY (impr lv f (u,fl) o=if pb=true then(match f (o,nb)with
  |none=>aj
  |some d=>match f (u,fl)with
   |none=>az (d+1)
   |some old=>if old<=d+1 then aj else az (d+1))else aj):=by rw[aY,<-hpb,<-NX.o];rfl
 have HCC:=aA HC;have Bf:=aA gK;have HB:=aA hb;have HCO:=aA hc;have kN:keyOf aH 254 (.agg #[ah ag (o:Int),.bool nb])=az (Sc (o,nb)):=PW (x:=(o,nb)) (Ju ho);have kS:keyOf aH 254 (.agg #[ah ag (u:Int),.bool fl])=az (Sc (u,fl)):=PW (x:=(u,fl)) (Ju hs);have KN:=aA kN;have KS:=aA kS;clear gK hnb hpb HC h h5 h9 hm hb hc FO kN kS;go_enter func171,ntmps171;go_wp2_with fail;rw[Bf.o];refine HCC.o.mono ?_;rintro e w2 ⟨rfl,gm⟩;have D2:=aA (D1.o.below gm D1.o.lt);have d0:w2.cell? ⟨w.heap.size,0,aj⟩=az (ah ag (u:Int)):=by rw[D2.o.cell];rfl
 have d1:w2.cell? ⟨w.heap.size,1,aj⟩=az (.bool fl):=by rw[D2.o.cell];rfl
 have c9:w2.cell? ⟨b9,0,aj⟩=az (.map (az bm)):=(B9.o.below gm B9.o.lt).one.1;have l9:b9<w2.heap.size:=(B9.o.below gm B9.o.lt).lt;have ld:w.heap.size<w2.heap.size:=D2.o.lt;have BF:aY (aN w.heap.size w w2):=BW.o.trans (gm.mono BW.o.size);obtain⟨w3,zP⟩:∃w3:aG,w2.alloc (af #[ah ag (o:Int),.bool nb] 254)=w3:=⟨_,rfl⟩;have BF3:aY (aN w.heap.size w w3):=by rw[<-zP];exact BF.o.alloc BF.o.size _
 have M3:aY (wZ w3 bm n f):=by rw[<-zP];exact(M1.o.below gm M1.o.lt).alloc _
 have SAME:impr lv f (u,fl) o=aj->aY (Ex w bm n lv f (u,fl) o (ax (.bool false)) w3):=fun e=>by rw[aY];unfold Ex;rw[e];exact⟨rfl,M3.o,(KB.refl _ _ _).below (aC _) BF3.o⟩
 obtain⟨m,M,hmm,om,hM⟩:=M3.o;have OM:aY (jo (w2.alloc (af #[ah ag (o:Int),.bool nb] 254)) aH 254 bm m M):=by rw[zP];exact om
 have mN:=hM (o,nb) ho;have mS:=hM (u,fl) hs;have HMM:=aA hM;have OM3:=aA om;have HW3:=aA zP;clear zP gm hM om c5;obtain⟨ff,hff⟩:∃ff,f (o,nb)=ff:=⟨_,rfl⟩;obtain⟨fs,hfs⟩:∃fs,f (u,fl)=fs:=⟨_,rfl⟩;rw[hff]at IM mN;rw[hfs]at IM mS;have MN:=aA mN;have MS:=aA mS;have HFF:=aA hff;have HFS:=aA hfs;clear hff hfs mN mS;cases pb with
 |false=>
  have F:=SAME (by rw[IM.o];rfl);clear SAME;cases ff<;>cases fs
  all_goals
   go_wp2_with (first
    |(at_lookup;refine jJ _ rfl _ _ 251 rfl 254 3 yh underlying251 (ah ag 0) (uS _) bm m M rfl OM.o _ _ rfl KN.o ?_;rw[MN.o])
    |(at_lookup;refine jJ _ rfl _ _ 251 rfl 254 3 yh underlying251 (ah ag 0) (uS _) bm m M rfl OM.o _ _ rfl KS.o ?_;rw[MS.o]))
   go_ret;rw[HW3.o]
   exact F.o
 |true=>
  cases ff with
  |none=>
   have F:=SAME (by rw[IM.o];rfl);clear SAME;cases fs;all_goals
    go_wp2_with (first
     |(at_lookup;refine jJ _ rfl _ _ 251 rfl 254 3 yh underlying251 (ah ag 0) (uS _) bm m M rfl OM.o _ _ rfl KN.o ?_;rw[MN.o])
     |(at_lookup;refine jJ _ rfl _ _ 251 rfl 254 3 yh underlying251 (ah ag 0) (uS _) bm m M rfl OM.o _ _ rfl KS.o ?_;rw[MS.o]))
    go_ret;rw[HW3.o]
    exact F.o
  |some d=>
   have hd:d<=1000000:=HB.o _ _ HFF.o;have UPD:aY (impr lv f (u,fl) o=az (d+1)->∀w4,jo w4 aH 254 bm (m+1) (tJ M (Sc (u,fl)) (ah ag ((d:Int)+1)))->w3.grownBy w4 (az bm)->Ex w bm n lv f (u,fl) o (ax (.bool true)) w4):=fun e w4 RJ hg=>(by have aDL:=HCO.o _ e;unfold Ex;rw[e];refine⟨rfl,⟨m+1,_,by show m+1+Ql n (wS f (u,fl) (d+1))<=_;omega,RJ,?_⟩,((KB.refl _ _ _).below (aC _) BF3.o).grown (aC _) hg (fun g e=>by injection e with e;subst e;exact .inl (by simp))⟩;exact Qm hs HMM.o);cases fs with
   |none=>
    have IMS:aY (impr lv f (u,fl) o=az (d+1)):=(by rw[aY,IM.o];rfl);clear SAME;go_wp2_with (first
     |(at_lookup;refine jJ _ rfl _ _ 251 rfl 254 3 yh underlying251 (ah ag 0) (uS _) bm m M rfl OM.o _ _ rfl KN.o ?_;rw[MN.o])
     |(at_lookup;refine jJ _ rfl _ _ 251 rfl 254 3 yh underlying251 (ah ag 0) (uS _) bm m M rfl OM.o _ _ rfl KS.o ?_;rw[MS.o])|(at_mapUpdate;refine vz _ rfl _ _ _ 251 rfl 254 3 yh underlying251 bm m M rfl OM.o ?c1 _ _ _ rfl rfl KS.o ?_))
    case c1=>unfold fB;omega
    intro w4 RJ hg;rw[HW3.o]at hg;have F:=UPD.o IMS.o w4 RJ hg;have FF:=aA F;clear RJ hg F;go_wp2_with fail;go_ret;exact FF.o
   |some old=>
    have ho:old<=1000000:=HB.o _ _ HFS.o;by_cases hle:old<=d+1
    ·have F:=SAME (by rw[IM.o];simp[hle]);clear SAME;have hle2:(old:Int)<=(d:Int)+1:=(by omega);clear hle;go_wp2_with (first
     |(at_lookup;refine jJ _ rfl _ _ 251 rfl 254 3 yh underlying251 (ah ag 0) (uS _) bm m M rfl OM.o _ _ rfl KN.o ?_;rw[MN.o])
     |(at_lookup;refine jJ _ rfl _ _ 251 rfl 254 3 yh underlying251 (ah ag 0) (uS _) bm m M rfl OM.o _ _ rfl KS.o ?_;rw[MS.o]))
     go_ret;rw[HW3.o]
     exact F.o
    ·have IMS:aY (impr lv f (u,fl) o=az (d+1)):=by rw[aY,IM.o];simp[hle]
     clear SAME;have hle2:¬(old:Int)<=(d:Int)+1:=by omega
     clear hle;go_wp2_with (first
     |(at_lookup;refine jJ _ rfl _ _ 251 rfl 254 3 yh underlying251 (ah ag 0) (uS _) bm m M rfl OM.o _ _ rfl KN.o ?_;rw[MN.o])
     |(at_lookup;refine jJ _ rfl _ _ 251 rfl 254 3 yh underlying251 (ah ag 0) (uS _) bm m M rfl OM.o _ _ rfl KS.o ?_;rw[MS.o])|(at_mapUpdate;refine vz _ rfl _ _ _ 251 rfl 254 3 yh underlying251 bm m M rfl OM.o ?c2 _ _ _ rfl rfl KS.o ?_))
     case c2=>unfold fB;omega
     intro w4 RJ hg;rw[HW3.o]at hg;have F:=UPD.o IMS.o w4 RJ hg;have FF:=aA F;clear RJ hg F;go_wp2_with fail;go_ret;exact FF.o
end
section
structure PE(w0 wr:aG)(ns:List Nd)(cs:List Cb)(us:List Bool)(lv:List Int)(An Ac Au Al:Option fA)(cn cc cu cl b4 b5 b6 b9 qX bm:Nat):Prop where
 p4:dh wr b4 25 #[ay An ns.length cn,ay Ac cs.length cc]
 p5:dh wr b5 169 #[ay Al lv.length cl]
 p6:dh wr b6 52 #[ay Au us.length cu]
 p9:dh wr b9 251 #[.map (az bm)]
 p10:dh wr qX 275 #[.func (.func 171) #[] #[au (az ⟨b5,0,aj⟩),au (az ⟨b9,0,aj⟩)]]
 pl:jw w0 An Ac ⟨ns,cs⟩
 pu:gI 1 cB false w0 Au us.length us
 plv:gI 1 cI 0 w0 Al lv.length lv
 gm:aN w0.heap.size w0 wr
 mge:w0.heap.size<=bm
 m4:bm≠b4
 m5:bm≠b5
 m6:bm≠b6
 m9:bm≠b9
 m10:bm≠qX
theorem KB.tr{B B':Nat}{X:List Nat}{w w' w'':aG}(h:KB B X w w')(h2:KB B' X w' w'')(hB:B<=B'):KB B X w w'':=
 ⟨h2.os.trans h.os,h2.tape.trans h.tape,h2.output.trans h.output,dZ h.size h2.size,fun i hi hx=>(h2.block i (by omega) hx).trans (h.block i hi hx)⟩
section
variable{w0 wr w':aG}{ns:List Nd}{cs:List Cb}{us:List Bool}{lv:List Int}{An Ac Au Al:Option fA}{cn cc cu cl b4 b5 b6 b9 qX bm:Nat}
theorem PE.kb(h:PE w0 wr ns cs us lv An Ac Au Al cn cc cu cl b4 b5 b6 b9 qX bm){B:Nat}(hk:KB B [bm] wr w')(hB:B=wr.heap.size):PE w0 w' ns cs us lv An Ac Au Al cn cc cu cl b4 b5 b6 b9 qX bm:=by subst hB;have f:∀{g:Nat} {t:dL} {xs:Array aI},dh wr g t xs->bm≠g->dh w' g t xs:=fun hb nQ=>hk.JA hb hb.lt (by simp;exact iy nQ);exact⟨f h.p4 h.m4,f h.p5 h.m5,f h.p6 h.m6,f h.p9 h.m9,f h.p10 h.m10,h.pl,h.pu,h.plv,h.gm.trans (hk.toBelow h.gm.size (by simp;exact h.mge)),h.mge,h.m4,h.m5,h.m6,h.m9,h.m10⟩
theorem PE.alloc(h:PE w0 wr ns cs us lv An Ac Au Al cn cc cu cl b4 b5 b6 b9 qX bm)(o:Obj):PE w0 (wr.alloc o) ns cs us lv An Ac Au Al cn cc cu cl b4 b5 b6 b9 qX bm:=
 h.kb ((KB.refl _ _ _).alloc (aC _) o) rfl
theorem Gt{n to i o:Nat}{f0 f:yX}{L:List (St×Nat)}{c:Bool}{s:St}(h:PE w0 wr ns cs us lv An Ac Au Al cn cc cu cl b4 b5 b6 b9 qX bm)(hm:wZ wr bm n f)(hP:PSr n cs us lv to f0 L c f)(hn:n<=100)(hl:lv.length<=1000000)(hi:i<cs.length)(hu:us.getD i false=true)(ht:touch (cs.getD i gX) s.1 o)(hs:s.1<n)(ho:o<n)(nQ:s.1≠o)(hlv:0<=lv.getD s.1 0):bZ aH 171 #[.agg #[ah ag (s.1:Int),.bool s.2],ah ag (o:Int),au (az ⟨b5,0,aj⟩),au (az ⟨b9,0,aj⟩)] wr fun e w'=>∃r f1,e=ax (.bool r)/\PSr n cs us lv to f0 (L++[(s,o)]) (r||c) f1/\wZ w' bm n f1/\PE w0 w' ns cs us lv An Ac Au Al cn cc cu cl b4 b5 b6 b9 qX bm/\KB wr.heap.size [bm] wr w':=by
 refine(afa lv Al cl b5 b9 bm n f s o wr hl (h.plv.below (aC _) h.gm) h.p5 h.p9 hm (by omega) (by omega) (fun x d hd=>?_) (fun v hv=>(hP.1.step hn hi hu ht hs ho nQ hlv hv).2)).mono ?_
 ·have h1:=hP.1.bnd x d hd;have h2:=afh n f;omega
 ·rintro e w1 ⟨rfl,Ps,hk⟩;exact⟨_,_,rfl,hP.step hn hi hu ht hs ho nQ hlv,Ps,h.kb hk rfl,hk⟩
end
def four(a b:Nat):List (St×Nat):=[((a,false),b),((b,false),a),((a,true),b),((b,true),a)]
def ZA(w0 wP:aG)(ns:List Nd)(cs:List Cb)(us:List Bool)(lv:List Int)(An Ac Au Al:Option fA)(cn cc cu cl b4 b5 b6 b9 qX bm to:Nat)(f0:yX)(c i:aI)(wr:aG):Prop:=
 ∃(k:Nat) (c':Bool) (f:yX),k<=cs.length/\i=ah ag k/\c=.bool c'/\PE w0 wr ns cs us lv An Ac Au Al cn cc cu cl b4 b5 b6 b9 qX bm/\wZ wr bm ns.length f/\PSr ns.length cs us lv to f0 (xK cs us lv k) c' f/\KB wP.heap.size [bm] wP wr
def Ho(w0 wP:aG)(ns:List Nd)(cs:List Cb)(us:List Bool)(lv:List Int)(An Ac Au Al:Option fA)(cn cc cu cl b4 b5 b6 b9 qX bm to:Nat)(f0:yX)(k a b bx:Nat)(xs:Array aI)(c j:aI)(wr:aG):Prop:=
 ∃(j':Nat) (c':Bool) (f:yX),j'<=2/\j=ah ag j'/\c=.bool c'/\PE w0 wr ns cs us lv An Ac Au Al cn cc cu cl b4 b5 b6 b9 qX bm/\wZ wr bm ns.length f/\PSr ns.length cs us lv to f0 (xK cs us lv k++(four a b).take (2*j')) c' f/\KB wP.heap.size [bm] wP wr/\dh wr bx 86 xs/\bm≠bx
def UE(w0 w:aG)(ns:List Nd)(cs:List Cb)(us:List Bool)(lv:List Int)(An Ac Au Al:Option fA)(cn cc cu cl b4 b5 b6 b9 qX bm to:Nat)(f0:yX)(e:iM)(w':aG):Prop:=
 ∃(c:Bool) (f:yX),e=ax (.bool c)/\PE w0 w' ns cs us lv An Ac Au Al cn cc cu cl b4 b5 b6 b9 qX bm/\wZ w' bm ns.length f/\PSr ns.length cs us lv to f0 (xK cs us lv cs.length) c f/\KB w.heap.size [bm] w w'
theorem afE(ns:List Nd)(cs:List Cb)(us:List Bool)(lv:List Int)(An Ac Au Al:Option fA)(cn cc cu cl b4 b5 b6 b9 qX bm to:Nat)(f0:yX)(w0 w:aG)(hv:fT ⟨ns,cs⟩=0)(IW:us.length=cs.length)(yZ:lv.length=ns.length)(h:PE w0 w ns cs us lv An Ac Au Al cn cc cu cl b4 b5 b6 b9 qX bm)(hm:wZ w bm ns.length f0)(hS:SI ns.length cs us lv to f0):bZ aH 173 #[au (az ⟨b4,0,aj⟩),au (az ⟨b6,0,aj⟩),au (az ⟨b5,0,aj⟩),au (az ⟨qX,0,aj⟩)] w (UE w0 w ns cs us lv An Ac Au Al cn cc cu cl b4 b5 b6 b9 qX bm to f0):=by
 obtain⟨n16,Lb⟩:=oW hv;have HV:=aA hv;have Uw:=aA IW;have Jw:=aA yZ;have akD:=aA h.p10;have c40:w.cell? ⟨b4,0,aj⟩=az (ay An ns.length cn):=by rw[h.p4.cell];rfl
 have c41:w.cell? ⟨b4,1,aj⟩=az (ay Ac cs.length cc):=by rw[h.p4.cell];rfl
 have ST:aY (ZA w0 w ns cs us lv An Ac Au Al cn cc cu cl b4 b5 b6 b9 qX bm to f0 (.bool false) (ah ag 0) w):=⟨0,false,f0,bS _,rfl,rfl,h,hm,PSr.start hS,KB.refl _ _ _⟩;clear hv IW yZ h hm hS;go_enter func173,ntmps173;go_wp2_with fail;go_loopw [5,13] (fun c i wr=>ZA w0 w ns cs us lv An Ac Au Al cn cc cu cl b4 b5 b6 b9 qX bm to f0 c i wr) (fun _ i _=>cs.length-(aJ i).toNat);case atStart=>exact ST.o
 case round=>
  clear ST c40 c41;obtain⟨k,c,f,hk,rfl,rfl,pe,sm,ps,kb⟩:=hrel;have PEH:=aA pe;have SMH:=aA sm;have PSH:=aA ps;have KBH:=aA kb;by_cases nI:k<cs.length
  ·obtain⟨bc,oc,hAc,hbc,mE,ca,pG,cb,Vf,cd,Vg⟩:=mq pe.pl.2 k nI;obtain⟨bu,ou,hAu,hbu,_,cu'⟩:=Tu pe.pu k (by rw[Uw.o];exact nI);obtain⟨⟨na0,na1⟩,nb0,nb1⟩:=Fb HV.o mE;have nab:=Mt HV.o mE;have HX:aY (acP cs us lv k=if us.getD k false=true/\0<=lv.getD (cs.getD k gX).a.toNat 0/\0<=lv.getD (cs.getD k gX).b.toNat 0 then four (cs.getD k gX).a.toNat (cs.getD k gX).b.toNat else[]):=rfl;have TCH:aY (∀a b:Nat,(cs.getD k gX).a=a->(cs.getD k gX).b=b->touch (cs.getD k gX) a b/\touch (cs.getD k gX) b a):=fun a b ha hb=>⟨.inl ⟨ha,hb⟩,.inr ⟨hb,ha⟩⟩;obtain⟨x,hx⟩:∃x,cs.getD k gX=x:=⟨_,rfl⟩;rw[hx]at mE ca pG cb Vf cd Vg na0 na1 nb0 nb1 nab HX;obtain⟨xa,qF,xb,qO,xd,xc⟩:=x;simp only at ca pG cb Vf cd Vg na0 na1 nb0 nb1 nab HX;obtain⟨ia,rfl⟩:∃ia:Nat,xa=ia:=⟨xa.toNat,by omega⟩;obtain⟨ib,rfl⟩:∃ib:Nat,xb=ib:=⟨xb.toNat,by omega⟩;simp only[cK]at HX;have TC:=aA (TCH.o ia ib (by rw[hx]) (by rw[hx]));have LZ:ia<ns.length:=(by omega);have Ma:ib<ns.length:=(by omega);have Qd:aY (ia≠ib):=fun e=>nab (by rw[e]);have yZ:=Jw.o;have iaw:(ia:Int)<(lv.length:Int):=(by omega);have ibw:(ib:Int)<(lv.length:Int):=(by omega);obtain⟨bl,ol,hAl,hbl,_,ela⟩:=oC pe.plv ia (by omega);obtain⟨bl',ol',Ki,_,_,elb⟩:=oC pe.plv ib (by omega);rw[hAl]at Ki;injection Ki with Ki;injection Ki with hl1 DN;subst hl1;subst DN;subst hAc;subst hAu;subst hAl;have OP:=pe.gm;have bs0:=OP.size;have QT:=Uw.o;have kus:(k:Int)<(us.length:Int):=(by omega);have cu2:wr.cell? ⟨bu,ou+k,aj⟩=az (.bool (us.getD k false)):=(OP.cell (p:=⟨bu,ou+k,aj⟩) hbu).trans cu';have ca2:wr.cell? ⟨bc,oc+k*6,aj⟩=az (ah ag ia):=(OP.cell (p:=⟨bc,oc+k*6,aj⟩) hbc).trans ca;have cap2:wr.cell? ⟨bc,oc+k*6+1,aj⟩=az (ah ag qF):=(OP.cell (p:=⟨bc,oc+k*6+1,aj⟩) hbc).trans pG;have cb2:wr.cell? ⟨bc,oc+k*6+2,aj⟩=az (ah ag ib):=(OP.cell (p:=⟨bc,oc+k*6+2,aj⟩) hbc).trans cb;have ahq:wr.cell? ⟨bc,oc+k*6+3,aj⟩=az (ah ag qO):=(OP.cell (p:=⟨bc,oc+k*6+3,aj⟩) hbc).trans Vf;have cd2:wr.cell? ⟨bc,oc+k*6+4,aj⟩=az (ah ag xd):=(OP.cell (p:=⟨bc,oc+k*6+4,aj⟩) hbc).trans cd;have ahr:wr.cell? ⟨bc,oc+k*6+5,aj⟩=az (ah ag xc):=(OP.cell (p:=⟨bc,oc+k*6+5,aj⟩) hbc).trans Vg;have el2:wr.cell? ⟨bl,ol+ia,aj⟩=az (ah ag (lv.getD ia 0)):=(OP.cell (p:=⟨bl,ol+ia,aj⟩) hbl).trans ela;have el3:wr.cell? ⟨bl,ol+ib,aj⟩=az (ah ag (lv.getD ib 0)):=(OP.cell (p:=⟨bl,ol+ib,aj⟩) hbl).trans elb;have ayj:bu<wr.heap.size:=(by omega);have aIr:bl<wr.heap.size:=(by omega);have c5:=pe.p5.one.1;have c6:=pe.p6.one.1;have l5:=pe.p5.lt;have l6:=pe.p6.lt;have l10:=pe.p10.lt;have lm:=sm.lt;have SKIP:aY (acP cs us lv k=[]->ZA w0 w ns cs us lv An (az ⟨bc,oc,aj⟩) (az ⟨bu,ou,aj⟩) (az ⟨bl,ol,aj⟩) cn cc cu cl b4 b5 b6 b9 qX bm to f0 (.bool c) (ah ag ((k+1:Nat):Int)) (wr.alloc (af #[ah ag ia,ah ag qF,ah ag ib,ah ag qO,ah ag xd,ah ag xc] 86))):=fun e=>
    ⟨k+1,c,f,by omega,rfl,rfl,PEH.o.alloc _,SMH.o.alloc _,by rw[KJ,e,List.append_nil];exact PSH.o,KBH.o.alloc (aC _) _⟩
   clear hx mE ca pG cb Vf cd Vg nab cu' ela elb pe sm ps kb OP yZ QT TCH;cases Er:us.getD k false with
   |false=>rw[Er]at cu2 HX;have R:=aA (SKIP.o (by rw[HX.o];simp));clear Er;go_wp2_with fail;exact⟨by simpa using R.o,by simp[aJ];omega⟩
   |true=>
    rw[Er]at cu2;have HUB:=aA Er;rw[Er]at HX;clear Er;have LA:aY (lv.getD ia 0=lv.getD ia 0):=rfl;obtain⟨la,hla⟩:∃la,lv.getD ia 0=la:=⟨_,rfl⟩;obtain⟨lb,hlb⟩:∃lb,lv.getD ib 0=lb:=⟨_,rfl⟩;rw[hla]at el2 HX;rw[hlb]at el3 HX;have HLA:=aA hla;have HLB:=aA hlb;clear hla hlb LA;by_cases h1:la<0
    ·have R:=aA (SKIP.o (by rw[HX.o,if_neg (by omega)]));go_wp2_with fail;exact⟨by simpa using R.o,by simp[aJ];omega⟩
    ·by_cases h2:lb<0
     ·have R:=aA (SKIP.o (by rw[HX.o,if_neg (by omega)]));go_wp2_with fail;exact⟨by simpa using R.o,by simp[aJ];omega⟩
     ·have TR:aY (acP cs us lv k=four ia ib):=by rw[aY,HX.o,if_pos ⟨rfl,by omega,by omega⟩]
      have LA0:aY (0<=lv.getD ia 0):=(by rw[aY,HLA.o];omega);have LB0:aY (0<=lv.getD ib 0):=(by rw[aY,HLB.o];omega);have ST:aY (Ho w0 w ns cs us lv An (az ⟨bc,oc,aj⟩) (az ⟨bu,ou,aj⟩) (az ⟨bl,ol,aj⟩) cn cc cu cl b4 b5 b6 b9 qX bm to f0 k ia ib wr.heap.size #[ah ag ia,ah ag qF,ah ag ib,ah ag qO,ah ag xd,ah ag xc] (.bool c) (ah ag 0) (wr.alloc (af #[ah ag ia,ah ag qF,ah ag ib,ah ag qO,ah ag xd,ah ag xc] 86))):=
       ⟨0,c,f,by omega,rfl,rfl,PEH.o.alloc _,SMH.o.alloc _,by simpa using PSH.o,KBH.o.alloc (aC _) _,dh.new _ _ _,by omega⟩
      have i0:∀w,(xO 276 (.agg #[.bool false,.bool true]) (ah ag 0)).run aH w=.ok (.bool false) w:=fun _=>(by kernel_rfl);have i1:∀w,(xO 276 (.agg #[.bool false,.bool true]) (ah ag 1)).run aH w=.ok (.bool true) w:=fun _=>(by kernel_rfl);clear SKIP PEH SMH PSH KBH HX;have h1':0<=la:=(by omega);have h2':0<=lb:=(by omega);go_wp2_with fail;obtain⟨wo,rfl⟩:∃wo:aG,wo=wr:=⟨_,rfl⟩;clear cu2 ca2 cap2 cb2 ahq cd2 ahr el2 el3 c5 c6 h1 h2 h1' h2';go_loopw [5,42] (fun c j wr'=>Ho w0 w ns cs us lv An (az ⟨bc,oc,aj⟩) (az ⟨bu,ou,aj⟩) (az ⟨bl,ol,aj⟩) cn cc cu cl b4 b5 b6 b9 qX bm to f0 k ia ib wo.heap.size #[ah ag ia,ah ag qF,ah ag ib,ah ag qO,ah ag xd,ah ag xc] c j wr') (fun _ j _=>2-(aJ j).toNat);case atStart=>exact ST.o
      case round=>
       clear ST;obtain⟨j,c1,f1,hj,rfl,rfl,pe,sm,ps,kb,bx,QV⟩:=hrel;have PE1:=aA pe;have SM1:=aA sm;have PS1:=aA ps;have JE:=aA kb;have BX1:=aA bx;have c10:=pe.p10.one.1;have x0:wr.cell? ⟨wo.heap.size,0,aj⟩=az (ah ag ia):=by rw[bx.cell];rfl
       have x2:wr.cell? ⟨wo.heap.size,2,aj⟩=az (ah ag ib):=(by rw[bx.cell];rfl);have xl:=bx.lt;clear pe sm ps kb bx;have hj':j=0\/j=1\/j=2:=(by omega);rcases hj' with xI|xI|xI
       ·subst xI;have HC:=aA (Gt (s:=(ia,false)) (o:=ib) PE1.o SM1.o PS1.o (by omega) (by rw[Jw.o];omega) nI HUB.o TC.o.1 LZ Ma Qd.o LA0.o);go_wp2_with fail;refine HC.o.mono ?_;rintro e w2 ⟨r,f2,rfl,ps2,sm2,pe2,kb2⟩;have PE2:=aA pe2;have SM2:=aA sm2;have SN:=aA kb2;have WV:=aA (kb2.JA BX1.o BX1.o.lt (by simp;exact iy QV));have d10:=pe2.p10.one.1;have y0:w2.cell? ⟨wo.heap.size,0,aj⟩=az (ah ag ia):=by rw[WV.o.cell];rfl
        have y2:w2.cell? ⟨wo.heap.size,2,aj⟩=az (ah ag ib):=(by rw[WV.o.cell];rfl);clear pe2 sm2 kb2 x0 x2 c10 HC;cases r
        ·simp only[iX,mJ]at ps2;have HD:=aA (Gt (s:=(ib,false)) (o:=ia) PE2.o SM2.o ps2 (by omega) (by rw[Jw.o];omega) nI HUB.o TC.o.2 Ma LZ (iy Qd.o) LB0.o);clear ps2;go_wp2_with fail;refine HD.o.mono ?_;rintro e w3 ⟨r2,f3,rfl,Mm,Ug,Uc,PV⟩;have Sz:=PV.JA WV.o WV.o.lt (by simp;exact iy QV);cases r2
         ·simp only[iX,mJ]at Mm;have R:aY (Ho w0 w ns cs us lv An (az ⟨bc,oc,aj⟩) (az ⟨bu,ou,aj⟩) (az ⟨bl,ol,aj⟩) cn cc cu cl b4 b5 b6 b9 qX bm to f0 k ia ib wo.heap.size #[ah ag ia,ah ag qF,ah ag ib,ah ag qO,ah ag xd,ah ag xc] (.bool c1) (ah ag ((0+1:Nat):Int)) w3):=
           ⟨0+1,c1,f3,by omega,rfl,rfl,Uc,Ug,by simpa[four]using Mm,(JE.o.tr SN.o JE.o.size).tr PV (dZ JE.o.size SN.o.size),Sz,QV⟩
          clear Mm Ug Uc PV Sz y0 y2 d10 HD;go_wp2_with fail;exact⟨by simpa using R.o,by simp[aJ]⟩
         ·simp only[iX,mJ]at Mm;have R:aY (Ho w0 w ns cs us lv An (az ⟨bc,oc,aj⟩) (az ⟨bu,ou,aj⟩) (az ⟨bl,ol,aj⟩) cn cc cu cl b4 b5 b6 b9 qX bm to f0 k ia ib wo.heap.size #[ah ag ia,ah ag qF,ah ag ib,ah ag qO,ah ag xd,ah ag xc] (.bool true) (ah ag ((0+1:Nat):Int)) w3):=
           ⟨0+1,true,f3,by omega,rfl,rfl,Uc,Ug,by simpa[four]using Mm,(JE.o.tr SN.o JE.o.size).tr PV (dZ JE.o.size SN.o.size),Sz,QV⟩
          clear Mm Ug Uc PV Sz y0 y2 d10 HD;go_wp2_with fail;exact⟨by simpa using R.o,by simp[aJ]⟩
        ·simp only[iX,mJ]at ps2;have HD:=aA (Gt (s:=(ib,false)) (o:=ia) PE2.o SM2.o ps2 (by omega) (by rw[Jw.o];omega) nI HUB.o TC.o.2 Ma LZ (iy Qd.o) LB0.o);clear ps2;go_wp2_with fail;refine HD.o.mono ?_;rintro e w3 ⟨r2,f3,rfl,Mm,Ug,Uc,PV⟩;have Sz:=PV.JA WV.o WV.o.lt (by simp;exact iy QV);cases r2
         ·simp only[iX,mJ]at Mm;have R:aY (Ho w0 w ns cs us lv An (az ⟨bc,oc,aj⟩) (az ⟨bu,ou,aj⟩) (az ⟨bl,ol,aj⟩) cn cc cu cl b4 b5 b6 b9 qX bm to f0 k ia ib wo.heap.size #[ah ag ia,ah ag qF,ah ag ib,ah ag qO,ah ag xd,ah ag xc] (.bool true) (ah ag ((0+1:Nat):Int)) w3):=
           ⟨0+1,true,f3,by omega,rfl,rfl,Uc,Ug,by simpa[four]using Mm,(JE.o.tr SN.o JE.o.size).tr PV (dZ JE.o.size SN.o.size),Sz,QV⟩
          clear Mm Ug Uc PV Sz y0 y2 d10 HD;go_wp2_with fail;exact⟨by simpa using R.o,by simp[aJ]⟩
         ·simp only[iX,mJ]at Mm;have R:aY (Ho w0 w ns cs us lv An (az ⟨bc,oc,aj⟩) (az ⟨bu,ou,aj⟩) (az ⟨bl,ol,aj⟩) cn cc cu cl b4 b5 b6 b9 qX bm to f0 k ia ib wo.heap.size #[ah ag ia,ah ag qF,ah ag ib,ah ag qO,ah ag xd,ah ag xc] (.bool true) (ah ag ((0+1:Nat):Int)) w3):=
           ⟨0+1,true,f3,by omega,rfl,rfl,Uc,Ug,by simpa[four]using Mm,(JE.o.tr SN.o JE.o.size).tr PV (dZ JE.o.size SN.o.size),Sz,QV⟩
          clear Mm Ug Uc PV Sz y0 y2 d10 HD;go_wp2_with fail;exact⟨by simpa using R.o,by simp[aJ]⟩
       ·subst xI;have HC:=aA (Gt (s:=(ia,true)) (o:=ib) PE1.o SM1.o PS1.o (by omega) (by rw[Jw.o];omega) nI HUB.o TC.o.1 LZ Ma Qd.o LA0.o);go_wp2_with fail;refine HC.o.mono ?_;rintro e w2 ⟨r,f2,rfl,ps2,sm2,pe2,kb2⟩;have PE2:=aA pe2;have SM2:=aA sm2;have SN:=aA kb2;have WV:=aA (kb2.JA BX1.o BX1.o.lt (by simp;exact iy QV));have d10:=pe2.p10.one.1;have y0:w2.cell? ⟨wo.heap.size,0,aj⟩=az (ah ag ia):=by rw[WV.o.cell];rfl
        have y2:w2.cell? ⟨wo.heap.size,2,aj⟩=az (ah ag ib):=(by rw[WV.o.cell];rfl);clear pe2 sm2 kb2 x0 x2 c10 HC;cases r
        ·simp only[iX,mJ]at ps2;have HD:=aA (Gt (s:=(ib,true)) (o:=ia) PE2.o SM2.o ps2 (by omega) (by rw[Jw.o];omega) nI HUB.o TC.o.2 Ma LZ (iy Qd.o) LB0.o);clear ps2;go_wp2_with fail;refine HD.o.mono ?_;rintro e w3 ⟨r2,f3,rfl,Mm,Ug,Uc,PV⟩;have Sz:=PV.JA WV.o WV.o.lt (by simp;exact iy QV);cases r2
         ·simp only[iX,mJ]at Mm;have R:aY (Ho w0 w ns cs us lv An (az ⟨bc,oc,aj⟩) (az ⟨bu,ou,aj⟩) (az ⟨bl,ol,aj⟩) cn cc cu cl b4 b5 b6 b9 qX bm to f0 k ia ib wo.heap.size #[ah ag ia,ah ag qF,ah ag ib,ah ag qO,ah ag xd,ah ag xc] (.bool c1) (ah ag ((1+1:Nat):Int)) w3):=
           ⟨1+1,c1,f3,by omega,rfl,rfl,Uc,Ug,by simpa[four]using Mm,(JE.o.tr SN.o JE.o.size).tr PV (dZ JE.o.size SN.o.size),Sz,QV⟩
          clear Mm Ug Uc PV Sz y0 y2 d10 HD;go_wp2_with fail;exact⟨by simpa using R.o,by simp[aJ]⟩
         ·simp only[iX,mJ]at Mm;have R:aY (Ho w0 w ns cs us lv An (az ⟨bc,oc,aj⟩) (az ⟨bu,ou,aj⟩) (az ⟨bl,ol,aj⟩) cn cc cu cl b4 b5 b6 b9 qX bm to f0 k ia ib wo.heap.size #[ah ag ia,ah ag qF,ah ag ib,ah ag qO,ah ag xd,ah ag xc] (.bool true) (ah ag ((1+1:Nat):Int)) w3):=
           ⟨1+1,true,f3,by omega,rfl,rfl,Uc,Ug,by simpa[four]using Mm,(JE.o.tr SN.o JE.o.size).tr PV (dZ JE.o.size SN.o.size),Sz,QV⟩
          clear Mm Ug Uc PV Sz y0 y2 d10 HD;go_wp2_with fail;exact⟨by simpa using R.o,by simp[aJ]⟩
        ·simp only[iX,mJ]at ps2;have HD:=aA (Gt (s:=(ib,true)) (o:=ia) PE2.o SM2.o ps2 (by omega) (by rw[Jw.o];omega) nI HUB.o TC.o.2 Ma LZ (iy Qd.o) LB0.o);clear ps2;go_wp2_with fail;refine HD.o.mono ?_;rintro e w3 ⟨r2,f3,rfl,Mm,Ug,Uc,PV⟩;have Sz:=PV.JA WV.o WV.o.lt (by simp;exact iy QV);cases r2
         ·simp only[iX,mJ]at Mm;have R:aY (Ho w0 w ns cs us lv An (az ⟨bc,oc,aj⟩) (az ⟨bu,ou,aj⟩) (az ⟨bl,ol,aj⟩) cn cc cu cl b4 b5 b6 b9 qX bm to f0 k ia ib wo.heap.size #[ah ag ia,ah ag qF,ah ag ib,ah ag qO,ah ag xd,ah ag xc] (.bool true) (ah ag ((1+1:Nat):Int)) w3):=
           ⟨1+1,true,f3,by omega,rfl,rfl,Uc,Ug,by simpa[four]using Mm,(JE.o.tr SN.o JE.o.size).tr PV (dZ JE.o.size SN.o.size),Sz,QV⟩
          clear Mm Ug Uc PV Sz y0 y2 d10 HD;go_wp2_with fail;exact⟨by simpa using R.o,by simp[aJ]⟩
         ·simp only[iX,mJ]at Mm;have R:aY (Ho w0 w ns cs us lv An (az ⟨bc,oc,aj⟩) (az ⟨bu,ou,aj⟩) (az ⟨bl,ol,aj⟩) cn cc cu cl b4 b5 b6 b9 qX bm to f0 k ia ib wo.heap.size #[ah ag ia,ah ag qF,ah ag ib,ah ag qO,ah ag xd,ah ag xc] (.bool true) (ah ag ((1+1:Nat):Int)) w3):=
           ⟨1+1,true,f3,by omega,rfl,rfl,Uc,Ug,by simpa[four]using Mm,(JE.o.tr SN.o JE.o.size).tr PV (dZ JE.o.size SN.o.size),Sz,QV⟩
          clear Mm Ug Uc PV Sz y0 y2 d10 HD;go_wp2_with fail;exact⟨by simpa using R.o,by simp[aJ]⟩
       ·subst xI;have R:aY (ZA w0 w ns cs us lv An (az ⟨bc,oc,aj⟩) (az ⟨bu,ou,aj⟩) (az ⟨bl,ol,aj⟩) cn cc cu cl b4 b5 b6 b9 qX bm to f0 (.bool c1) (ah ag ((k+1:Nat):Int)) wr):=⟨k+1,c1,f1,by omega,rfl,rfl,PE1.o,SM1.o,by rw[KJ,TR.o];simpa[four]using PS1.o,JE.o⟩;clear x0 x2 c10;go_wp2_with fail;exact⟨by simpa using R.o,by simp[aJ];omega⟩
  ·obtain rfl:k=cs.length:=by omega
   have F:aY (UE w0 w ns cs us lv An Ac Au Al cn cc cu cl b4 b5 b6 b9 qX bm to f0 (ax (.bool c)) wr):=⟨c,f,rfl,pe,sm,ps,kb⟩;clear pe sm ps kb;go_wp2_with fail;go_ret;exact F.o
end
section
theorem Wp(n:Nat):Ql n (fun _=>aj)=2*n*1000:=by
 induction n with
 |zero=>rfl
 |succ n ih=>unfold Ql at *;rw[Lt,eY,List.sum_append,ih];simp[MQ];omega
theorem acs{n to:Nat}(h:to<n):Ql n (zY to)<=2*n*1000:=by have h1:=Ud (n:=n) (f:=fun _=>aj) (s:=(to,false)) (v:=0) h;have h2:=Ud (n:=n) (f:=wS (fun _=>aj) (to,false) 0) (s:=(to,true)) (v:=0) h;have h3:=Wp n;unfold zY;omega
def Iy(ns:List Nd)(cs:List Cb)(us:List Bool)(lv:List Int)(to:Nat)(w:aG)(e:iM)(w':aG):Prop:=
 ∃(bm:Nat) (f:yX),e=ax (.map (az bm))/\w.heap.size<=bm/\wZ w' bm ns.length f/\Found ns.length cs us lv to f/\aN w.heap.size w w'
theorem YY(ns:List Nd)(cs:List Cb)(us:List Bool)(lv:List Int)(An Ac Au Al:Option fA)(cn cc cu cl to:Nat)(w:aG)(hv:fT ⟨ns,cs⟩=0)(IW:us.length=cs.length)(yZ:lv.length=ns.length)(hto:to<ns.length)(h:jw w An Ac ⟨ns,cs⟩)(h2:gI 1 cB false w Au us.length us)(h3:gI 1 cI 0 w Al lv.length lv):bZ aH 147 #[.agg #[ay An ns.length cn,ay Ac cs.length cc],.agg #[ay Al lv.length cl],ay Au us.length cu,ah ag (to:Int)] w (Iy ns cs us lv to w):=by
 obtain⟨n16,Lb⟩:=oW hv;have HV:=aA hv;have Uw:=aA IW;have Jw:=aA yZ;have HP:=aA h;have HU:=aA h2;have HL:=aA h3;obtain⟨bl,ol,hAl,hbl,_,ela⟩:=oC h3 to (by omega);subst hAl;have tow:(to:Int)<(lv.length:Int):=by omega
 obtain⟨lt,tK⟩:∃lt,lv.getD to 0=lt:=⟨_,rfl⟩;rw[tK]at ela;have HLT:=aA tK;clear hv IW yZ h h2 h3 tK;have hmm:=@run_makeMap aH;obtain⟨w1,gK⟩:∃w1:aG,((((w.alloc (af #[ay An ns.length cn,ay Ac cs.length cc] 25)).alloc (af #[ay (az ⟨bl,ol,aj⟩) lv.length cl] 169)).alloc (af #[ay Au us.length cu] 52)).alloc (.map #[] 0)).alloc (af #[.map (az (w.heap.size+1+1+1))] 251)=w1:=⟨_,rfl⟩;have BW:aY (aN w.heap.size w w1):=by rw[<-gK];exact(((((aQ _ _).alloc (aC _) _).alloc (by simp) _).alloc (by simp;omega) _).alloc (by simp;omega) _).alloc (by simp;omega) _
 have Sk:w1.heap.size=w.heap.size+5:=by rw[<-gK];simp
 have P4:aY (dh w1 w.heap.size 25 #[ay An ns.length cn,ay Ac cs.length cc]):=by rw[<-gK];exact((((dh.new w 25 #[ay An ns.length cn,ay Ac cs.length cc]).alloc _).alloc _).alloc _).alloc _
 have P5:aY (dh w1 (w.heap.size+1) 169 #[ay (az ⟨bl,ol,aj⟩) lv.length cl]):=by rw[<-gK];have:=(((dh.new (w.alloc (af #[ay An ns.length cn,ay Ac cs.length cc] 25)) 169 #[ay (az ⟨bl,ol,aj⟩) lv.length cl]).alloc (af #[ay Au us.length cu] 52)).alloc (.map #[] 0)).alloc (af #[.map (az (w.heap.size+1+1+1))] 251);rw[aY];simpa using this
 have P6:aY (dh w1 (w.heap.size+1+1) 52 #[ay Au us.length cu]):=by rw[<-gK];have:=((dh.new ((w.alloc (af #[ay An ns.length cn,ay Ac cs.length cc] 25)).alloc (af #[ay (az ⟨bl,ol,aj⟩) lv.length cl] 169)) 52 #[ay Au us.length cu]).alloc (.map #[] 0)).alloc (af #[.map (az (w.heap.size+1+1+1))] 251);rw[aY];simpa using this
 have OM1:aY (jo w1 aH 254 (w.heap.size+1+1+1) 0 (fun _=>aj)):=by rw[<-gK];have:=(jo.made (((w.alloc (af #[ay An ns.length cn,ay Ac cs.length cc] 25)).alloc (af #[ay (az ⟨bl,ol,aj⟩) lv.length cl] 169)).alloc (af #[ay Au us.length cu] 52)) aH 254).alloc (af #[.map (az (w.heap.size+1+1+1))] 251);rw[aY];simpa using this
 have P9:aY (dh w1 (w.heap.size+1+1+1+1) 251 #[.map (az (w.heap.size+1+1+1))]):=by rw[<-gK];have:=dh.new ((((w.alloc (af #[ay An ns.length cn,ay Ac cs.length cc] 25)).alloc (af #[ay (az ⟨bl,ol,aj⟩) lv.length cl] 169)).alloc (af #[ay Au us.length cu] 52)).alloc (.map #[] 0)) 251 #[.map (az (w.heap.size+1+1+1))];rw[aY];simpa using this
 have SZ1:=aA Sk;have s5:=P5.o.one.1;have s9:=P9.o.one.1;have axL:=(BW.o.cell (p:=⟨bl,ol+to,aj⟩) hbl).trans ela;clear ela Sk;by_cases hneg:lt<0
 ·have F:aY (Iy ns cs us lv to w (ax (.map (az (w.heap.size+1+1+1)))) w1):=
   ⟨_,fun _=>aj,rfl,by omega,⟨0,_,by rw[Wp];omega,OM1.o,fun x _=>rfl⟩,.inl ⟨by rw[HLT.o];exact hneg,rfl⟩,BW.o⟩
  go_enter func147,ntmps147;go_wp2_with fail
  go_ret;exact F.o
 ·have kF:keyOf aH 254 (.agg #[ah ag (to:Int),.bool false])=az (Sc (to,false)):=PW (x:=(to,false)) (Ju (by show to<1000000;omega));have kT:keyOf aH 254 (.agg #[ah ag (to:Int),.bool true])=az (Sc (to,true)):=PW (x:=(to,true)) (Ju (by show to<1000000;omega));have KF:=aA kF;have KT:=aA kT;clear kF kT;go_enter func147,ntmps147;go_wp2_with (at_mapUpdate;refine vz _ rfl _ _ _ 251 rfl 254 3 yh underlying251 (w.heap.size+1+1+1) 0 _ rfl OM1.o ?c1 _ _ _ rfl rfl KF.o ?_);case c1=>decide
  intro w2 om2 hg2;have UB:=aA (P4.o.grown hg2 (by simp;omega));have UD:=aA (P5.o.grown hg2 (by simp));have P62:=aA (P6.o.grown hg2 (by simp));have P92:=aA (P9.o.grown hg2 (by simp));have Jv:aY (aN w.heap.size w w2):=BW.o.grown hg2 BW.o.size (by intro g e;injection e with e;omega);have OM2:=aA om2;have s92:=P92.o.one.1;clear om2 hg2 s5 s9 axL gK;go_wp2_with (at_mapUpdate;refine vz _ rfl _ _ _ 251 rfl 254 3 yh underlying251 (w.heap.size+1+1+1) 1 _ rfl OM2.o ?c2 _ _ _ rfl rfl KT.o ?_);case c2=>decide
  intro w3 om3 hg3;obtain⟨w4,Ie⟩:∃w4:aG,w3.alloc (af #[.func (.func 171) #[] #[au (az ⟨w.heap.size+1,0,aj⟩),au (az ⟨w.heap.size+1+1+1+1,0,aj⟩)]] 275)=w4:=⟨_,rfl⟩;obtain⟨qX,alU⟩:∃qX,w3.heap.size=qX:=⟨_,rfl⟩;have P43:=UB.o.grown hg3 (by simp;omega);have P53:=UD.o.grown hg3 (by simp);have P63:=P62.o.grown hg3 (by simp);have P93:=P92.o.grown hg3 (by simp);have Mx:aN w.heap.size w w3:=Jv.o.grown hg3 Jv.o.size (by intro g e;injection e with e;omega);have PE4:aY (PE w w4 ns cs us lv An Ac Au (az ⟨bl,ol,aj⟩) cn cc cu cl w.heap.size (w.heap.size+1) (w.heap.size+1+1) (w.heap.size+1+1+1+1) qX (w.heap.size+1+1+1)):=by have l9:=P93.lt;rw[<-Ie,<-alU];exact⟨P43.alloc _,P53.alloc _,P63.alloc _,P93.alloc _,dh.new _ _ _,HP.o,HU.o,HL.o,Mx.alloc Mx.size _,by omega,by omega,by omega,by omega,by omega,by omega⟩
  have SM4:aY (wZ w4 (w.heap.size+1+1+1) ns.length (zY to)):=by rw[<-Ie];have hps:=acs hto;refine⟨2,_,by omega,om3.alloc _,fun x hx=>?_⟩;exact Qm (f:=wS (fun _=>aj) (to,false) 0) (s:=(to,true)) (v:=0) (by show to<1000000;omega) (Qm (f:=fun _=>aj) (s:=(to,false)) (v:=0) (by show to<1000000;omega) (fun x _=>rfl)) x hx
  have SI4:aY (SI ns.length cs us lv to (zY to)):=SI.start hto (by rw[HLT.o];omega);have HW4:=aA Ie;have akD:=aA alU;clear alU Ie om3 hg3 P43 P53 P63 P93 Mx s92;go_wp2_with fail;rw[HW4.o,akD.out];clear akD HW4
  go_loopg [29] (Ql ns.length (zY to)) (fun g _ wr=>∃f,g=Ql ns.length f/\PE w wr ns cs us lv An Ac Au (az ⟨bl,ol,aj⟩) cn cc cu cl w.heap.size (w.heap.size+1) (w.heap.size+1+1) (w.heap.size+1+1+1+1) qX (w.heap.size+1+1+1)/\wZ wr (w.heap.size+1+1+1) ns.length f/\SI ns.length cs us lv to f)
  case atStart=>exact⟨_,rfl,PE4.o,SM4.o,SI4.o⟩
  case round=>
   clear PE4 SM4 SI4;obtain⟨f,hg,pe,sm,si⟩:=hrel;have HG:=aA hg;have HC:=aA (afE ns cs us lv An Ac Au (az ⟨bl,ol,aj⟩) cn cc cu cl w.heap.size (w.heap.size+1) (w.heap.size+1+1) (w.heap.size+1+1+1+1) qX (w.heap.size+1+1+1) to f w wr HV.o Uw.o Jw.o pe sm si);clear hg pe sm si;go_wp2_with fail;refine HC.o.mono ?_;rintro e w5 ⟨c,f5,rfl,pe5,sm5,ps5,kb5⟩;have s9:=pe5.p9.one.1;cases c
   ·have F:aY (Iy ns cs us lv to w (ax (.map (az (w.heap.size+1+1+1)))) w5):=by
     rcases ps5.2 with⟨h1,_⟩|⟨_,h2,h3⟩
     ·cases h1
     ·subst h2;exact⟨_,_,rfl,by omega,sm5,.inr ⟨ps5.1,h3⟩,pe5.gm⟩
    clear pe5 sm5 ps5 kb5 HC;go_wp2_with fail;go_ret;exact F.o
   ·have LT:aY (Ql ns.length f5<Ql ns.length f):=by
     rcases ps5.2 with⟨_,h1⟩|⟨h1,_⟩
     ·exact h1
     ·cases h1
    have R:aY (∃f,Ql ns.length f5=Ql ns.length f/\PE w w5 ns cs us lv An Ac Au (az ⟨bl,ol,aj⟩) cn cc cu cl w.heap.size (w.heap.size+1) (w.heap.size+1+1) (w.heap.size+1+1+1+1) qX (w.heap.size+1+1+1)/\wZ w5 (w.heap.size+1+1+1) ns.length f/\SI ns.length cs us lv to f):=⟨f5,rfl,pe5,sm5,ps5.1⟩;clear pe5 sm5 ps5 kb5 HC s9;go_wp2_with fail
    go_roundg (Ql ns.length f5)
    case rel=>exact R.o
    case measure=>rw[HG.o];exact LT.o
end
section
def dI:Option Nat->Int
 |none=>-1
 |some d=>d
def xB(n:Nat)(f:yX)(b:Bool):List Int:=(aO n).map fun i=>dI (f (i,b))
theorem Cq{n:Nat}(f:yX)(b:Bool){i:Nat}(h:i<n):(xB n f b).getD i 0=dI (f (i,b)):=by simp[xB,bJ,h]
theorem Si(n:Nat)(f:yX)(b:Bool):xB (n+1) f b=xB n f b++[dI (f (n,b))]:=by unfold xB;rw[dB,eY];rfl
theorem Vp(bx bm n:Nat)(f:yX)(s:St)(w:aG)(hx:dh w bx 251 #[.map (az bm)])(hm:wZ w bm n f)(hs:s.1<1000000):bZ aH 148 #[.agg #[ah ag (s.1:Int),.bool s.2],au (az ⟨bx,0,aj⟩)] w fun e w'=>e=ax (ah ag (dI (f s)))/\aN w.heap.size w w':=by
 obtain⟨u,fl⟩:=s;simp only at hs|-;have B:aY (aN w.heap.size w (w.alloc (af #[ah ag (u:Int),.bool fl] 254))):=(aQ _ _).alloc (aC _) _;have c9:=hx.one.1;have l9:=hx.lt;obtain⟨m,M,_,om,hM⟩:=hm.alloc (af #[ah ag (u:Int),.bool fl] 254);have MS:=aA (hM (u,fl) hs);have OM:=aA om;have kS:keyOf aH 254 (.agg #[ah ag (u:Int),.bool fl])=az (Sc (u,fl)):=PW (x:=(u,fl)) (Ju hs);have KS:=aA kS;clear kS om hM hx hm;cases hf:f (u,fl)with
 |none=>rw[hf]at MS;clear hf;go_enter func148,ntmps148;go_wp2_with (at_lookup;refine jJ _ rfl _ _ 251 rfl 254 3 yh underlying251 (ah ag 0) (uS _) bm m M rfl OM.o _ _ rfl KS.o ?_;rw[MS.o]);go_ret;exact⟨rfl,B.o⟩
 |some d=>rw[hf]at MS;clear hf;go_enter func148,ntmps148;go_wp2_with (at_lookup;refine jJ _ rfl _ _ 251 rfl 254 3 yh underlying251 (ah ag 0) (uS _) bm m M rfl OM.o _ _ rfl KS.o ?_;rw[MS.o]);go_ret;exact⟨rfl,B.o⟩
def afg(n:Nat)(node:Int):Bool:=decide (0<=node/\node<n)
theorem acR(An Ac:Option fA)(n cn m cc:Nat)(node:Int)(w:aG)(hl:n<=1000000):bZ aH 146 #[.agg #[ay An n cn,ay Ac m cc],ah ag node] w fun e w'=>e=ax (.bool (afg n node))/\aN w.heap.size w w':=by
 have B:aY (aN w.heap.size w (w.alloc (af #[ay An n cn,ay Ac m cc] 25))):=(aQ _ _).alloc (aC _) _;by_cases h1:0<=node
 ·by_cases h2:node<n
  ·have F:aY (afg n node=true):=decide_eq_true ⟨h1,h2⟩;go_enter func146,ntmps146;go_wp2_with fail;go_ret;exact⟨by rw[F.o];first|rfl|simp[h1,h2],B.o⟩
  ·have F:aY (afg n node=false):=decide_eq_false (by omega);go_enter func146,ntmps146;go_wp2_with fail;go_ret;exact⟨by rw[F.o];first|rfl|simp[h1,h2],B.o⟩
 ·have F:aY (afg n node=false):=decide_eq_false (by omega);go_enter func146,ntmps146;go_wp2_with fail;go_ret;exact⟨by rw[F.o];first|rfl|simp[h1],B.o⟩
theorem uD.below{w w':aG}{base:Nat}{S:List Slot}(h:uD w base S)(hb:aN w.heap.size w w'):uD w' base S:=
 ⟨fun s hs=>(h.1 s hs).kept (Bp hb aj) (by cases s.v.ownBlock with
  |none=>exact .inl rfl
  |some q=>exact .inr (by simp)),h.2⟩
theorem wZ.grown{w w':aG}{b n:Nat}{f:yX}{row:Option Nat}(h:wZ w b n f)(hg:w.grownBy w' row)(nQ:az b≠row):wZ w' b n f:=by obtain⟨m,M,h1,h2,h3⟩:=h;exact⟨m,M,h1,h2.kept hg nQ,h3⟩
def aee(n:Nat)(cs:List Cb)(us:List Bool)(lv:List Int)(to:Nat)(w:aG)(e:iM)(w':aG):Prop:=
 ∃f v1 v2,Found n cs us lv to f/\e=ax (.tuple #[v1,v2,ah ag 0])/\w'.ownsRow w.heap.size 3 1 v1 n ((xB n f false).flatMap cI)/\w'.ownsRow w.heap.size 3 1 v2 n ((xB n f true).flatMap cI)/\aN w.heap.size w w'
def adW(n:Nat)(f:yX)(base bx bm:Nat)(w5:aG)(v1 v2 i:aI)(wr:aG):Prop:=
 ∃k:Nat,k<=n/\i=ah ag k/\uD wr base [⟨v1,3,1,k,(xB k f false).flatMap cI⟩,⟨v2,3,1,k,(xB k f true).flatMap cI⟩]/\dh wr bx 251 #[.map (az bm)]/\wZ wr bm n f/\aN base w5 wr
theorem acQ(ns:List Nd)(cs:List Cb)(us:List Bool)(lv:List Int)(An Ac Au Al:Option fA)(cn cc cu cl to:Nat)(w:aG)(hv:fT ⟨ns,cs⟩=0)(Oc:oD ⟨ns,cs⟩ lv=true)(IW:us.length=cs.length)(yZ:lv.length=ns.length)(hto:to<ns.length)(tu:QI ⟨ns,cs⟩)(hwl:WfI lv)(h:jw w An Ac ⟨ns,cs⟩)(h2:gI 1 cB false w Au us.length us)(h3:gI 1 cI 0 w Al lv.length lv):bZ aH 115 #[.agg #[ay An ns.length cn,ay Ac cs.length cc],.agg #[ay Al lv.length cl],ay Au us.length cu,ah ag (to:Int)] w (aee ns.length cs us lv to w):=by
 obtain⟨n16,Lb⟩:=oW hv;obtain⟨w1,gK⟩:∃w1:aG,(w.alloc (af #[ay An ns.length cn,ay Ac cs.length cc] 25)).alloc (af #[ay Al lv.length cl] 169)=w1:=⟨_,rfl⟩;have BW:aY (aN w.heap.size w w1):=by rw[<-gK];exact((aQ _ _).alloc (aC _) _).alloc (by simp) _
 have P4:aY (dh w1 w.heap.size 25 #[ay An ns.length cn,ay Ac cs.length cc]):=by rw[<-gK];exact(dh.new w 25 #[ay An ns.length cn,ay Ac cs.length cc]).alloc _
 have P5:aY (dh w1 (w.heap.size+1) 169 #[ay Al lv.length cl]):=by rw[<-gK];have:=dh.new (w.alloc (af #[ay An ns.length cn,ay Ac cs.length cc] 25)) 169 #[ay Al lv.length cl];rw[aY];simpa using this
 have HP:=aA (h.below (aC _) BW.o);have HU:=aA (h2.below (aC _) BW.o);have HL:=aA (h3.below (aC _) BW.o);have HV:=aA hv;have Uw:=aA IW;have Jw:=aA yZ;have nQ:((us.length:Int)!=(cs.length:Int))=false:=by simp[IW]
 have HO:=Gp ⟨ns,cs⟩ lv An Ac Al cn cc cl w1 (by show ns.length<=_;omega) (by show cs.length<=_;omega) tu (by omega) hwl HP.o HL.o;rw[Oc]at HO;have HOO:=aA HO;have t0:(0:Int)<=(to:Int):=by omega
 have t1:(to:Int)<(ns.length:Int):=by omega
 have Bf:=aA gK;clear hv Oc IW yZ tu hwl h h2 h3 HO gK;go_enter func115,ntmps115;go_wp2_with fail;rw[Bf.o];refine HOO.o.mono ?_;rintro e w2 ⟨rfl,gm⟩;have UB:=aA (P4.o.below gm P4.o.lt);have UD:=aA (P5.o.below gm P5.o.lt);have c40:w2.cell? ⟨w.heap.size,0,aj⟩=az (ay An ns.length cn):=by rw[UB.o.cell];rfl
 have c41:w2.cell? ⟨w.heap.size,1,aj⟩=az (ay Ac cs.length cc):=by rw[UB.o.cell];rfl
 have c50:=UD.o.one.1;have HP2:=aA (HP.o.below (aC _) gm);have HU2:=aA (HU.o.below (aC _) gm);have HL2:=aA (HL.o.below (aC _) gm);have Jv:aY (aN w.heap.size w w2):=BW.o.trans (gm.mono BW.o.size);have HN:=acR An Ac ns.length cn cs.length cc (to:Int) w2 (by omega);rw[show afg ns.length (to:Int)=true from decide_eq_true ⟨t0,t1⟩]at HN;have HNN:=aA HN;clear gm HN HOO Bf;go_wp2_with fail;refine HNN.o.mono ?_;rintro e w3 ⟨rfl,gm⟩;have P43:=aA (UB.o.below gm UB.o.lt);have P53:=aA (UD.o.below gm UD.o.lt);have d40:w3.cell? ⟨w.heap.size,0,aj⟩=az (ay An ns.length cn):=by rw[P43.o.cell];rfl
 have d41:w3.cell? ⟨w.heap.size,1,aj⟩=az (ay Ac cs.length cc):=by rw[P43.o.cell];rfl
 have d50:=P53.o.one.1;have Mx:aY (aN w.heap.size w w3):=Jv.o.trans (gm.mono Jv.o.size);have HS:=aA (YY ns cs us lv An Ac Au Al cn cc cu cl to w3 HV.o Uw.o Jw.o hto (HP2.o.below (aC _) gm) (HU2.o.below (aC _) gm) (HL2.o.below (aC _) gm));clear gm HNN c40 c41 c50;go_wp2_with fail;refine HS.o.mono ?_;rintro e w4 ⟨bm,f,rfl,Yt,sm,aeR,gm⟩;have P44:=aA (P43.o.below gm P43.o.lt);have e40:w4.cell? ⟨w.heap.size,0,aj⟩=az (ay An ns.length cn):=by rw[P44.o.cell];rfl
 have l40:=P44.o.lt;have FND:=aA aeR;have BW4:aY (aN w.heap.size w w4):=Mx.o.trans (gm.mono Mx.o.size);obtain⟨w5,Gc⟩:∃w5:aG,w4.alloc (af #[.map (az bm)] 251)=w5:=⟨_,rfl⟩;obtain⟨bx,IQ⟩:∃bx,w4.heap.size=bx:=⟨_,rfl⟩;have BX5:aY (dh w5 bx 251 #[.map (az bm)]):=by rw[<-Gc,<-IQ];exact dh.new _ _ _
 have SM5:aY (wZ w5 bm ns.length f):=by rw[<-Gc];exact sm.alloc _
 have BW5:aY (aN w.heap.size w w5):=by rw[<-Gc];exact BW4.o.alloc BW4.o.size _
 have HW5:=aA Gc;have HBX:=aA IQ;have ST:aY (adW ns.length f w5.heap.size bx bm w5 (ay aj 0 0) (ay aj 0 0) (ah ag 0) w5):=⟨0,bS _,rfl,((uD.nil _ _).empty _ _).empty _ _,BX5.o,SM5.o,aQ _ _⟩;have S95:=aA BX5.o.lt;have M95:=aA SM5.o.lt;obtain⟨i0,hi0,wC,uX,wK⟩:=dX Dc;have HI0:=aA hi0;have HZ0:=aA wC;have HZ1:=aA uX;have HZ2:=aA wK;clear Gc IQ gm sm aeR d40 d41 d50 HS hi0 wC uX wK;go_wp2_with fail;rw[HW5.o,HBX.o];clear HW5 HBX;go_loopw [8,9,39] (fun v1 v2 i wr=>adW ns.length f w5.heap.size bx bm w5 v1 v2 i wr) (fun _ _ i _=>ns.length-(aJ i).toNat);case atStart=>exact ST.o
 case round=>
  clear ST;obtain⟨k,hk,rfl,sl,bxr,sm,gm⟩:=hrel;have SL:=aA sl;have BXR:=aA bxr;have SMR:=aA sm;have xM:=aA gm;by_cases nI:k<ns.length
  ·have HD:=aA (Vp bx bm ns.length f (k,false) wr bxr sm (by show k<1000000;omega));clear sl bxr sm gm;go_wp2_with fail;refine HD.o.mono ?_;rintro e w6 ⟨rfl,XI⟩;have SL6:=aA ((SL.o.below XI).alloc (af #[ah ag (dI (f (k,false)))] 3));have OW1:=aA SL6.o.head;have BX6:=aA ((BXR.o.below XI BXR.o.lt).alloc (af #[ah ag (dI (f (k,false)))] 3));have SM6:=aA ((SMR.o.below XI SMR.o.lt).alloc (af #[ah ag (dI (f (k,false)))] 3));have B6:=aA XI;have BE6:aY (aN w5.heap.size w5 (w6.alloc (af #[ah ag (dI (f (k,false)))] 3))):=(xM.out.trans (XI.mono xM.out.size)).alloc (by have h1:=xM.out.size;have h2:=XI.size;omega) _;have OG1:aY (∀g,u8.ownBlock=az g->w5.heap.size<=g):=fun g e=>(SL.o.head.lt g e).1;have OG2:aY (∀g,u9.ownBlock=az g->w5.heap.size<=g):=fun g e=>((SL.o.1 _ (dU _ (dH ..))).lt g e).1;clear XI HD;go_wp2_with (at_builtin;refine wpList_append_own_at _ rfl _ _ 26 rfl w5.heap.size 3 i0 _ 1 8 underlying26 HI0.o HZ0.o HZ1.o HZ2.o rfl (by decide) _ _ _ rfl OW1.o ⟨w6.heap.size,0,aj⟩ 1 1 [ah ag (dI (f (k,false)))] rfl rfl ?e11 ?e12 ?e13 ?e14 ?e15 ?_);case e11=>intro j u hu;cases j<;>simp at hu;subst hu;simp[nP,go_sem]
   case e12=>intro u hu;simp at hu;subst hu;rfl
   case e13=>unfold fB;omega
   case e14=>omega
   case e15=>have h1:=xM.out.size;have h2:=B6.o.size;simp at *;omega
   intro v1' w7 Ku gr7 _ arH;have SL7:=aA (SL6.o.push Ku gr7 (by simpa using arH));have nb:∀g,g<w5.heap.size->az g≠u8.ownBlock:=fun g hg e=>by have:=OG1.o g e.symm;omega
   have BX7:=BX6.o.grown gr7 (nb bx S95.o);have SM7:=SM6.o.grown gr7 (nb bm M95.o);have BE7:aY (aN w5.heap.size w5 w7):=BE6.o.grown gr7 BE6.o.size OG1.o;have G7:=aA gr7;have aoy:=aA BX7;have apP:=aA SM7;have HE:=aA (Vp bx bm ns.length f (k,true) w7 BX7 SM7 (by show k<1000000;omega));clear Ku gr7 arH nb BX7 SM7;go_wp2_with fail;refine HE.o.mono ?_;rintro e w8 ⟨rfl,XJ⟩;have B8:=aA XJ;have SL8:=aA (((SL7.o.below XJ).alloc (af #[ah ag (dI (f (k,true)))] 3)).perm (List.Perm.swap _ _ _));have OW2:=aA SL8.o.head;have BX8:=aA ((aoy.out.below XJ aoy.out.lt).alloc (af #[ah ag (dI (f (k,true)))] 3));have SM8:=aA ((apP.out.below XJ apP.out.lt).alloc (af #[ah ag (dI (f (k,true)))] 3));have BE8:aY (aN w5.heap.size w5 (w8.alloc (af #[ah ag (dI (f (k,true)))] 3))):=(BE7.o.trans (XJ.mono BE7.o.size)).alloc (by have h1:=BE7.o.size;have h2:=XJ.size;omega) _;clear XJ HE;go_wp2_with (at_builtin;refine wpList_append_own_at _ rfl _ _ 26 rfl w5.heap.size 3 i0 _ 1 8 underlying26 HI0.o HZ0.o HZ1.o HZ2.o rfl (by decide) _ _ _ rfl OW2.o ⟨w8.heap.size,0,aj⟩ 1 1 [ah ag (dI (f (k,true)))] rfl rfl ?e21 ?e22 ?e23 ?e24 ?e25 ?_);case e21=>intro j u hu;cases j<;>simp at hu;subst hu;simp[nP,go_sem]
   case e22=>intro u hu;simp at hu;subst hu;rfl
   case e23=>unfold fB;omega
   case e24=>omega
   case e25=>have h1:=xM.out.size;have h2:=B6.o.size;have h3:=G7.o.size;have h4:=B8.o.size;simp at *;omega
   intro v2' w9 acj gr9 _ afq;have nb:∀g,g<w5.heap.size->az g≠u9.ownBlock:=fun g hg e=>by have:=OG2.o g e.symm;omega
   have R:aY (adW ns.length f w5.heap.size bx bm w5 v1' v2' (ah ag ((k+1:Nat):Int)) w9):=(by have SL9:=(SL8.o.push acj gr9 (by simpa using afq)).perm (List.Perm.swap _ _ _);refine⟨k+1,by omega,rfl,?_,BX8.o.grown gr9 (nb bx S95.o),SM8.o.grown gr9 (nb bm M95.o),BE8.o.grown gr9 BE8.o.size OG2.o⟩;rw[Si,Si,fP,fP];exact SL9);clear acj gr9 afq nb;go_wp2_with fail;exact⟨by simpa using R.o,by simp[aJ];omega⟩
  ·obtain rfl:k=ns.length:=by omega
   have F:aY (aee ns.length cs us lv to w (ax (.tuple #[u8,u9,ah ag 0])) wr):=(by refine⟨f,u8,u9,FND.o,rfl,wH (sl.1 _ (dH ..)) BW5.o.size,wH (sl.1 _ (dU _ (dH ..))) BW5.o.size,BW5.o.trans (gm.mono BW5.o.size)⟩);clear sl bxr sm gm;go_wp2_with fail
   go_ret3
   exact F.o
end
section
def NH(cs:List Cb)(us:List Bool)(lv R F:List Int)(node:Nat)(left:Int)(mr:Bool)(i:Nat):Bool:=
 decide (1<=left)&&(kE (cs.getD i gX) (node:Int)).2&&us.getD i false&&
  (if qI lv (kE (cs.getD i gX) (node:Int)).1 (node:Int)=true then mr&&decide (R.getD (kE (cs.getD i gX) (node:Int)).1.toNat 0=left-1)else decide (F.getD (kE (cs.getD i gX) (node:Int)).1.toNat 0=left-1))
def SH(cs:List Cb)(us:List Bool)(lv R F:List Int)(node:Nat)(left:Int)(mr:Bool)(c:Int):Prop:=
 (c=-1/\∀i,i<cs.length->NH cs us lv R F node left mr i=false)\/∃i:Nat,i<cs.length/\c=i/\NH cs us lv R F node left mr i=true
structure CE(w:aG)(ns:List Nd)(cs:List Cb)(us:List Bool)(lv R F:List Int)(An Ac Au Al AR AF:Option fA)(cn cc cu cl cR cF b3 b4 b5 qX b11:Nat):Prop where
 p3:dh w b3 25 #[ay An ns.length cn,ay Ac cs.length cc]
 p4:dh w b4 169 #[ay Al lv.length cl]
 p5:dh w b5 52 #[ay Au us.length cu]
 p10:dh w qX 26 #[ay AR ns.length cR]
 p11:dh w b11 26 #[ay AF ns.length cF]
 pl:jw w An Ac ⟨ns,cs⟩
 pu:gI 1 cB false w Au us.length us
 plv:gI 1 cI 0 w Al lv.length lv
 pR:gI 1 cI 0 w AR ns.length R
 pF:gI 1 cI 0 w AF ns.length F
theorem CE.below{w w':aG}{ns:List Nd}{cs:List Cb}{us:List Bool}{lv R F:List Int}{An Ac Au Al AR AF:Option fA}{cn cc cu cl cR cF b3 b4 b5 qX b11:Nat}(h:CE w ns cs us lv R F An Ac Au Al AR AF cn cc cu cl cR cF b3 b4 b5 qX b11){B:Nat}(hB:w.heap.size<=B)(hb:aN B w w'):CE w' ns cs us lv R F An Ac Au Al AR AF cn cc cu cl cR cF b3 b4 b5 qX b11:=by have f:∀{g:Nat} {t:dL} {xs:Array aI},dh w g t xs->dh w' g t xs:=fun hx=>hx.below hb (bW hx.lt hB);exact⟨f h.p3,f h.p4,f h.p5,f h.p10,f h.p11,h.pl.below hB hb,h.pu.below hB hb,h.plv.below hB hb,h.pR.below hB hb,h.pF.below hB hb⟩
def Xn(cs:List Cb)(us:List Bool)(lv R F:List Int)(node:Nat)(left:Int)(mr:Bool)(w:aG)(i:aI)(wr:aG):Prop:=
 ∃k:Nat,k<=cs.length/\i=ah ag k/\(∀j,j<k->NH cs us lv R F node left mr j=false)/\aN w.heap.size w wr
def zq(cs:List Cb)(us:List Bool)(lv R F:List Int)(node:Nat)(left:Int)(mr:Bool)(w:aG)(e:iM)(w':aG):Prop:=
 ∃c,e=ax (ah ag c)/\SH cs us lv R F node left mr c/\aN w.heap.size w w'
theorem Pb(ns:List Nd)(cs:List Cb)(us:List Bool)(lv R F:List Int)(An Ac Au Al AR AF:Option fA)(cn cc cu cl cR cF b3 b4 b5 qX b11 node:Nat)(left:Int)(mr:Bool)(w:aG)(hv:fT ⟨ns,cs⟩=0)(IW:us.length=cs.length)(yZ:lv.length=ns.length)(aDZ:node<ns.length)(hl0:-1<=left)(hl1:left<=1000000)(h:CE w ns cs us lv R F An Ac Au Al AR AF cn cc cu cl cR cF b3 b4 b5 qX b11):bZ aH 116 #[ah ag (node:Int),ah ag left,.bool mr,au (az ⟨b3,0,aj⟩),au (az ⟨b5,0,aj⟩),au (az ⟨b4,0,aj⟩),au (az ⟨qX,0,aj⟩),au (az ⟨b11,0,aj⟩)] w (zq cs us lv R F node left mr w):=by
 obtain⟨n16,Lb⟩:=oW hv;have HV:=aA hv;have Uw:=aA IW;have Jw:=aA yZ;have H:=aA h;have c31:w.cell? ⟨b3,1,aj⟩=az (ay Ac cs.length cc):=by rw[h.p3.cell];rfl
 have ST:aY (Xn cs us lv R F node left mr w (ah ag 0) w):=⟨0,bS _,rfl,fun j hj=>by omega,aQ _ _⟩;clear hv IW yZ h;go_enter func116,ntmps116;go_wp2_with fail;go_loopw [20] (fun i wr=>Xn cs us lv R F node left mr w i wr) (fun i _=>cs.length-(aJ i).toNat);case atStart=>exact ST.o
 case round=>
  clear ST c31;obtain⟨k,hk,rfl,Pt,gm⟩:=hrel;have Xh:=aA Pt;have xM:=aA gm;clear Pt;by_cases nI:k<cs.length
  ·have CW:=H.o.below (aC _) gm;obtain⟨bc,oc,hAc,hbc,mE,ca,pG,cb,Vf,cd,Vg⟩:=mq CW.pl.2 k nI;obtain⟨⟨na0,na1⟩,nb0,nb1⟩:=Fb HV.o mE;have JJ:aY (NH cs us lv R F node left mr k=false->∀w9,aN w.heap.size w w9->Xn cs us lv R F node left mr w (ah ag ((k+1:Nat):Int)) w9):=fun e w9 hb=>by
    refine⟨k+1,by omega,rfl,fun j hj=>?_,hb⟩;by_cases hjk:j=k
    ·rw[hjk];exact e
    ·exact Xh.o j (by omega)
   have FD:aY (NH cs us lv R F node left mr k=(decide (1<=left)&&(kE (cs.getD k gX) (node:Int)).2&&us.getD k false&&
    (if qI lv (kE (cs.getD k gX) (node:Int)).1 (node:Int)=true then mr&&decide (R.getD (kE (cs.getD k gX) (node:Int)).1.toNat 0=left-1)else decide (F.getD (kE (cs.getD k gX) (node:Int)).1.toNat 0=left-1)))):=rfl
   have AR0:aY ((kE (cs.getD k gX) (node:Int)).2=true->0<=(kE (cs.getD k gX) (node:Int)).1/\(kE (cs.getD k gX) (node:Int)).1<ns.length):=by
    unfold kE;intro ht;split at ht
    ·rename_i h1;rw[if_pos h1];exact⟨nb0,nb1⟩
    ·split at ht
     ·rename_i h1 h2;rw[if_neg h1,if_pos h2];exact⟨na0,na1⟩
     ·cases ht
   obtain⟨w1,gK⟩:∃w1:aG,wr.alloc (af #[ah ag (cs.getD k gX).a,ah ag (cs.getD k gX).ap,ah ag (cs.getD k gX).b,ah ag (cs.getD k gX).bp,ah ag (cs.getD k gX).dl,ah ag (cs.getD k gX).cp] 86)=w1:=⟨_,rfl⟩;have aot:aY (aN w.heap.size w w1):=(by rw[<-gK];exact gm.alloc gm.size _);have HA:=aA (Xv (cs.getD k gX) (node:Int) w1);have Bf:=aA gK;generalize cs.getD k gX=x at *;obtain⟨av,aok⟩:∃y,kE x (node:Int)=y:=⟨_,rfl⟩;subst hAc;clear mE na0 na1 nb0 nb1 CW gK;rw[aok]at HA FD AR0;obtain⟨oth,ok⟩:=av;simp only at HA FD AR0;go_wp2_with fail;rw[Bf.o];refine HA.o.mono ?_;rintro e w2 ⟨rfl,wN⟩;have Nv:aY (aN w.heap.size w w2):=aot.out.trans (wN.mono aot.out.size);have AOK:=aA aok;clear wN gm HA ca pG cb Vf cd Vg Bf aok;by_cases hle:1<=left
   ·cases ok with
    |false=>have R:=aA (JJ.o (by rw[FD.o];simp) w2 Nv.o);have tK:¬left<1:=(by omega);clear JJ FD AR0;go_wp2_with fail;exact⟨by simpa using R.o,by simp[aJ];omega⟩
    |true=>
     obtain⟨o0,o1⟩:=AR0.o rfl;obtain⟨o,rfl⟩:∃o:Nat,oth=o:=⟨oth.toNat,by omega⟩;have hon:o<ns.length:=(by omega);have yZ:=Jw.o;have IW:=Uw.o;have CW2:=H.o.below (aC _) Nv.o;obtain⟨bu,ou,hAu,hbu,_,cu'⟩:=Tu CW2.pu k (by omega);have c5:=CW2.p5.one.1;have c4:=CW2.p4.one.1;have HAB:=aA (Ls lv Al cl (o:Int) (node:Int) w2 (by omega) CW2.plv);subst hAu;have kus:(k:Int)<(us.length:Int):=(by omega);have tK:¬left<1:=(by omega);rw[decide_eq_true hle,cK]at FD;cases Er:us.getD k false with
     |false=>rw[Er]at cu' FD;have R:=aA (JJ.o (by rw[FD.o];simp) w2 Nv.o);clear JJ FD AR0 Er CW2 yZ IW HAB;go_wp2_with fail;exact⟨by simpa using R.o,by simp[aJ];omega⟩
     |true=>
      rw[Er]at cu' FD;clear Er CW2 yZ IW;go_wp2_with fail;refine HAB.o.mono ?_;rintro e w3 ⟨rfl,xq⟩;have Li:aY (aN w.heap.size w w3):=Nv.o.trans (xq.mono Nv.o.size);have CW3:=H.o.below (aC _) Li.o;obtain⟨bR,oR,hAR,hbR,_,cR'⟩:=oC CW3.pR o hon;obtain⟨bF,oF,hAF,hbF,_,cF'⟩:=oC CW3.pF o hon;have c10:=CW3.p10.one.1;have c11:=CW3.p11.one.1;subst hAR;subst hAF;have q1:IntKind.i64.wrap (left-1)=left-1:=fE _ (by omega);have RET:aY (NH cs us lv R F node left mr k=true->zq cs us lv R F node left mr w (ax (ah ag (k:Int))) w3):=fun e=>⟨k,rfl,.inr ⟨k,nI,rfl,e⟩,Li.o⟩;clear xq CW3 HAB c4 c5 cu';obtain⟨r,hr⟩:∃r,R.getD o 0=r:=⟨_,rfl⟩;obtain⟨f,hf⟩:∃f,F.getD o 0=f:=⟨_,rfl⟩;rw[hr]at cR' FD;rw[hf]at cF' FD;clear hr hf;cases yD:qI lv (o:Int) (node:Int)with
      |true=>
       rw[yD]at FD;clear yD;cases mr with
       |false=>have R:=aA (JJ.o (by rw[FD.o];simp) w3 Li.o);clear JJ FD AR0 RET;go_wp2_with fail;exact⟨by simpa using R.o,by simp[aJ];omega⟩
       |true=>
        by_cases hq:r=left-1
        ·have F:=aA (RET.o (by rw[FD.o];simp[hq]));clear JJ FD AR0 RET;have hq2:(r==left-1)=true:=(by simpa using hq);clear hq;go_wp2_with fail;go_ret;exact F.o
        ·have R:=aA (JJ.o (by rw[FD.o];simp[hq]) w3 Li.o);clear JJ FD AR0 RET;have hq2:(r==left-1)=false:=(by simpa using hq);go_wp2_with fail;exact⟨by simpa using R.o,by simp[aJ];omega⟩
      |false=>
       rw[yD]at FD;clear yD;by_cases hq:f=left-1
       ·have F:=aA (RET.o (by rw[FD.o];simp[hq]));clear JJ FD AR0 RET;have hq2:(f==left-1)=true:=(by simpa using hq);clear hq;go_wp2_with fail;go_ret;exact F.o
       ·have R:=aA (JJ.o (by rw[FD.o];simp[hq]) w3 Li.o);clear JJ FD AR0 RET;have hq2:(f==left-1)=false:=(by simpa using hq);go_wp2_with fail;exact⟨by simpa using R.o,by simp[aJ];omega⟩
   ·have R:=aA (JJ.o (by rw[FD.o,decide_eq_false hle];simp) w2 Nv.o);have tK:left<1:=by omega
    clear JJ FD AR0 hle;cases ok;all_goals
     go_wp2_with fail;exact⟨by simpa using R.o,by simp[aJ];omega⟩
  ·obtain rfl:k=cs.length:=by omega
   have F:aY (zq cs us lv R F node left mr w (ax (ah ag (-1))) wr):=⟨-1,rfl,.inl ⟨rfl,Xh.o⟩,gm⟩;clear gm;go_wp2_with fail;go_ret;exact F.o
end
section
def QM(cs:List Cb)(us:List Bool)(l:List Int)(j:Nat):Prop:=∀i v:Nat,i<cs.length->us.getD i false=true->touch (cs.getD i gX) j v->0<=l.getD v 0
def akK(n:Nat)(cs:List Cb)(us:List Bool)(l:List Int):Prop:=∀j,j<n->0<l.getD j 0->∃i k:Nat,i<cs.length/\us.getD i false=true/\k<n/\touch (cs.getD i gX) j k/\l.getD k 0=l.getD j 0-1
structure Iq(n:Nat)(cs:List Cb)(us:List Bool)(root:Nat)(l:List Int):Prop where
 lv:SV n cs root l
 led:akK n cs us l
 QM:∀j,j<n->0<=l.getD j 0->QM cs us l j
structure CB(n:Nat)(cs:List Cb)(us:List Bool)(l q:List Int):Prop where
 led:akK n cs us l
 QM:∀j:Nat,j<n->0<=l.getD j 0->(j:Int)∈q\/QM cs us l j
structure CI(n:Nat)(cs:List Cb)(us:List Bool)(l q:List Int)(u k:Nat):Prop where
 led:akK n cs us l
 QM:∀j:Nat,j<n->j≠u->0<=l.getD j 0->(j:Int)∈q\/QM cs us l j
 cur:∀i v:Nat,i<k->us.getD i false=true->touch (cs.getD i gX) u v->0<=l.getD v 0
section
variable{n:Nat}{cs:List Cb}{us:List Bool}{l q:List Int}{u v k root:Nat}
theorem CB.start(hr:root<n):CB n cs us ((aS n (-1)).set root 0) [(root:Int)]:=by
 have hg:∀j,j<n->((aS n (-1:Int)).set root 0).getD j 0=if j=root then 0 else-1:=fun j hj=>by
  by_cases h:j=root
  ·subst h;simp[bJ,hj]
  ·rw[if_neg h];simp[bJ,iy h,hj]
 refine⟨fun j hj hp=>?_,fun j hj hp=>?_⟩
 ·rw[hg j hj]at hp;split at hp<;>omega
 ·rw[hg j hj]at hp;split at hp
  ·rename_i e;left;rw[e];simp
  ·omega
theorem CB.pop(h:CB n cs us l ((u:Int)::q)):CI n cs us l q u 0 where
 led:=h.led
 QM:=fun j hj nQ hp=>by
  rcases h.QM j hj hp with e|e
  ·rcases dG.1 e with e|e
   ·exact absurd (by omega) nQ
   ·exact .inl e
  ·exact .inr e
 cur:=fun i v hi=>by omega
theorem CI.skip(h:CI n cs us l q u k)(hs:us.getD k false=false\/∀v:Nat,¬touch (cs.getD k gX) u v):CI n cs us l q u (k+1) where
 led:=h.led
 QM:=h.QM
 cur:=fun i v hi hu ht=>by
  by_cases e:i=k
  ·subst e;rcases hs with hs|hs
   ·rw[hs]at hu;cases hu
   ·exact absurd ht (hs v)
  ·exact h.cur i v (by omega) hu ht
theorem Qw{x:Cb}{u v w:Nat}(nQ:x.a≠x.b)(h:touch x u v)(h2:touch x u w):v=w:=by unfold touch at h h2;rcases h with h|h<;>rcases h2 with h2|h2<;>omega
theorem Qv{x:Cb}{u v:Nat}(h:touch x u v):touch x v u:=by
 unfold touch at h|-;rcases h with h|h
 ·exact .inr ⟨h.2,h.1⟩
 ·exact .inl ⟨h.2,h.1⟩
theorem CI.visit(h:CI n cs us l q u k)(hl:l.length=n)(hk:k<cs.length)(hu:u<n)(hv:v<n)(hlu:0<=l.getD u 0)(hs:us.getD k false=true)(ht:touch (cs.getD k gX) u v)(nQ:(cs.getD k gX).a≠(cs.getD k gX).b):CI n cs us (wJ l q (u:Int) v).1 (wJ l q (u:Int) v).2 u (k+1):=by
 unfold wJ;by_cases h1:l.getD v 0<0
 ·rw[if_pos h1,cK];have huv:u≠v:=fun e=>by rw[e]at hlu;omega
  have gv:(l.set v (l.getD u 0+1)).getD v 0=l.getD u 0+1:=by simp[bJ,hl,hv]
  have go:∀j,j≠v->(l.set v (l.getD u 0+1)).getD j 0=l.getD j 0:=fun j e=>by simp[bJ,iy e]
  have mono:∀j,0<=l.getD j 0->0<=(l.set v (l.getD u 0+1)).getD j 0:=fun j hj=>by
   by_cases e:j=v
   ·rw[e,gv];omega
   ·rw[go j e];exact hj
  refine⟨fun j hj hp=>?_,fun j hj hne' hp=>?_,fun i w hi hu' ht'=>?_⟩
  ·simp only at hp|-;by_cases e:j=v
   ·subst e;exact⟨k,u,hk,hs,hu,Qv ht,by rw[gv,go u huv];omega⟩
   ·rw[go j e]at hp;obtain⟨i,k',a1,a2,a3,a4,a5⟩:=h.led j hj hp;have:k'≠v:=fun e2=>(by rw[e2]at a5;omega);exact⟨i,k',a1,a2,a3,a4,by rw[go k' this,go j e];exact a5⟩
  ·simp only at hp|-;by_cases e:j=v
   ·left;rw[e];simp
   ·rw[go j e]at hp;rcases h.QM j hj hne' hp with q'|q'
    ·left;exact List.mem_append_left _ q'
    ·right;exact fun i w hi hu' ht'=>mono w (q' i w hi hu' ht')
  ·simp only;by_cases e:i=k
   ·subst e;rw[<-Qw nQ ht ht',gv];omega
   ·exact mono w (h.cur i w (by omega) hu' ht')
 ·rw[if_neg h1];refine⟨h.led,h.QM,fun i w hi hu' ht'=>?_⟩;by_cases e:i=k
  ·subst e;rw[<-Qw nQ ht ht'];simp only;omega
  ·exact h.cur i w (by omega) hu' ht'
theorem CI.done(h:CI n cs us l q u cs.length):CB n cs us l q where
 led:=h.led
 QM:=fun j hj hp=>by
  by_cases e:j=u
  ·subst e;exact .inr fun i v hi=>h.cur i v hi
  ·exact h.QM j hj e hp
theorem CB.nil(h:CB n cs us l [])(hl:SV n cs root l):Iq n cs us root l:=⟨hl,h.led,fun j hj hp=>(h.QM j hj hp).resolve_left (by simp)⟩
end
theorem S2.agb{w wr w':aG}{ns:List Nd}{cs:List Cb}{root b9 gq qX u v:Nat}{pv:Array aI}{qv:aI}{l q:List Int}{x:Cb}(hS:S2 w ns cs root pv b9 gq qv l q wr)(hv:v<ns.length)(hu:u<ns.length)(hlu:0<=l.getD u 0)(hx:x∈cs)(ht:touch x v u)(hp:Ll wr ns.length w.heap.size (w.heap.size+1+1) (w.heap.size+1) qX b9 gq (u:Int) (wJ l q (u:Int) v).1 (wJ l q (u:Int) v).2 w'):∃gq' YR l' q',S2 w ns cs root pv b9 gq' YR l' q' w'/\dh w' qX 3 #[ah ag u]/\gq'≠qX/\0<=l'.getD u 0/\q'.length+without l'=q.length+without l/\KB wr.heap.size [w.heap.size+1,b9,gq] wr w'/\w.heap.size+1≠qX/\l'=(wJ l q (u:Int) v).1/\q'=(wJ l q (u:Int) v).2:=by
 obtain⟨gq',YR,D,kb,loc⟩:=hp;have hlen:=hS.lv.len;have gp:=hS.plan.lt;have n9:b9≠w.heap.size:=dh.tne hS.wR hS.plan (by decide);have n7:=hS.ne7;have m7:gq'≠w.heap.size:=by rcases loc with e|e<;>omega
 have PL:dh w' w.heap.size 25 pv:=kb.JA hS.plan gp (by simp;exact⟨iy n9,iy n7⟩);have BL:aN w.heap.size w w':=hS.below.trans (kb.toBelow (by omega) (by simp;exact⟨hS.ge9,hS.Wt.ge⟩));by_cases h1:l.getD v 0<0
 ·have e:wJ l q (u:Int) v=(l.set v (l.getD u 0+1),q++[(v:Int)]):=by unfold wJ;rw[if_pos h1,cK]
  rw[e]at D;simp only at D;have huv:v≠u:=fun e=>by rw[e]at h1;omega
  have wo:=Nr (l:=l) (v:=v) (x:=l.getD u 0+1) (by omega) h1 (by omega);have gu:(l.set v (l.getD u 0+1)).getD u 0=l.getD u 0:=by simp[bJ,huv]
  have hsum:(q++[(v:Int)]).length+without (l.set v (l.getD u 0+1))=q.length+without l:=by rw[bV,iJ];omega
  refine⟨gq',YR,_,_,⟨D.box,D.row,PL,D.wR,D.Wt,D.ne1,D.ne4,D.ne5,D.ne6,m7,hS.ge9,hS.lv.visit hv hu h1 hlu hx ht,?_,by rw[hsum];exact hS.low,BL⟩,D.node,D.ne2,by rw[gu];exact hlu,hsum,kb,D.ne3,by rw[e],by rw[e]⟩;intro y hy;have gv:(l.set v (l.getD u 0+1)).getD v 0=l.getD u 0+1:=by simp[bJ,hlen,hv]
  rcases eZ.1 hy with hy|hy
  ·obtain⟨j,rfl,hj,hl⟩:=hS.qok y hy;refine⟨j,rfl,hj,?_⟩;by_cases e:v=j
   ·rw[<-e,gv];omega
   ·have:(l.set v (l.getD u 0+1)).getD j 0=l.getD j 0:=by simp[bJ,e]
    rw[this];exact hl
  ·obtain rfl:=dz.1 hy;exact⟨v,rfl,hv,by rw[gv];omega⟩
 ·have e:wJ l q (u:Int) v=(l,q):=by unfold wJ;rw[if_neg h1]
  rw[e]at D;simp only at D;exact⟨gq',YR,_,_,⟨D.box,D.row,PL,D.wR,D.Wt,D.ne1,D.ne4,D.ne5,D.ne6,m7,hS.ge9,hS.lv,hS.qok,hS.low,BL⟩,D.node,D.ne2,hlu,rfl,kb,D.ne3,by rw[e],by rw[e]⟩
def Rj(us:List Bool)(w:aG)(ns:List Nd)(cs:List Cb)(root:Nat)(pv:Array aI)(b9 qX u M:Nat)(i:aI)(wr:aG):Prop:=
 ∃k:Nat,k<=cs.length/\i=ah ag k/\∃gq qv l q,S2 w ns cs root pv b9 gq qv l q wr/\dh wr qX 3 #[ah ag u]/\gq≠qX/\0<=l.getD u 0/\q.length+without l=M/\w.heap.size+1≠qX/\CI ns.length cs us l q u k
theorem Rv(ns:List Nd)(cs:List Cb)(us:List Bool)(root:Nat)(An Ac Au:Option fA)(cn cc cu:Nat)(w:aG)(hv:fT ⟨ns,cs⟩=0)(hr:root<ns.length)(h:jw w An Ac ⟨ns,cs⟩)(h2:gI 1 cB false w Au cs.length us):bZ aH 79 #[.agg #[ay An ns.length cn,ay Ac cs.length cc],ah ag root,ay Au cs.length cu] w fun e w'=>∃l,Iq ns.length cs us root l/\xP l w e w':=by
 obtain⟨n16,Lb⟩:=oW hv;have HV:=aA hv;have HP:=aA h;have HU:=aA h2;clear hv h h2;obtain⟨j0,xI,zb,Ad,Ae⟩:=dX Dc;obtain⟨o4,RJ⟩:∃o4,af (dS #[ah ag 0] ns.length) 3=o4:=⟨_,rfl⟩;have HO4:=aA RJ;clear RJ;go_enter func79,ntmps79;go_wp2_with (at_make;refine ko _ rfl _ _ 26 rfl 3 j0 _ 1 underlying26 xI zb Ad .i64 .i64 _ _ ns.length rfl rfl ?m1 ?m2 (by rw[Ae];omega) (by unfold fB;omega) ?_);case m1=>rfl
 case m2=>rfl
 rw[HO4.o];obtain⟨w3,zP⟩:∃w3:aG,((w.alloc (af #[ay An ns.length cn,ay Ac cs.length cc] 25)).alloc o4).alloc (af #[ay (az {block:=w.heap.size+1,off:=0}) ns.length ns.length] 26)=w3:=⟨_,rfl⟩;have Mx:aY (aN w.heap.size w w3):=by rw[<-zP];exact(((aQ _ _).alloc (aC _) _).alloc (by simp) _).alloc (by simp;omega) _
 have R3:aY (dh w3 (w.heap.size+1) 3 (FE (AV ns.length 0))):=by rw[<-zP,Yf,oQ];have:=(dh.new (w.alloc (af #[ay An ns.length cn,ay Ac cs.length cc] 25)) 3 (dS #[ah ag 0] ns.length)).alloc (af #[ay (az {block:=w.heap.size+1,off:=0}) ns.length ns.length] 26);rw[<-HO4.o,aY];simpa using this
 have B73:aY (dh w3 (w.heap.size+1+1) 26 #[ay (az ⟨w.heap.size+1,0,aj⟩) ns.length ns.length]):=by rw[<-zP];have:=dh.new ((w.alloc (af #[ay An ns.length cn,ay Ac cs.length cc] 25)).alloc o4) 26 #[ay (az {block:=w.heap.size+1,off:=0}) ns.length ns.length];rw[aY];simpa using this
 have P3:aY (dh w3 w.heap.size 25 #[ay An ns.length cn,ay Ac cs.length cc]):=by rw[<-zP];exact((dh.new w _ _).alloc _).alloc _
 have sz3:w3.heap.size=w.heap.size+3:=by rw[<-zP];simp
 have SZ3:=aA sz3;have HW3:=aA zP;have ST:aY (adF ns.length (w.heap.size+1) w w3 (ah ag 0) w3):=⟨0,bS _,rfl,R3.o,KB.refl _ _ _,Mx.o⟩;clear zP sz3 xI zb Ad Ae;go_wp2_with fail;rw[HW3.o];clear HW3 HO4;go_loopw [20] (fun i wr=>adF ns.length (w.heap.size+1) w w3 i wr) (fun i _=>ns.length-(aJ i).toNat);case atStart=>exact ST.o
 case round=>
  clear ST;obtain⟨k,hk,rfl,rb,kb,gm⟩:=hrel;have sz3:=SZ3.o;have bs:=kb.size;have c7:wr.cell? ⟨w.heap.size+1+1,0,aj⟩=az (ay (az ⟨w.heap.size+1,0,aj⟩) ns.length ns.length):=(kb.JA B73.o (by omega) (by simp)).one.1;have KBE:=aA kb;have BE:=aA gm;have RB:=aA rb;by_cases nI:k<ns.length
  ·have ck:wr.cell? ⟨w.heap.size+1,k,aj⟩=az (ah ag ((AV ns.length k).getD k 0)):=by rw[rb.cell];exact Cr _ k (by rw[Rx];exact nI)
   have fk:wr.frozen? ⟨w.heap.size+1,k,aj⟩=false:=rb.frozen k;have k1:(k:Int)<(ns.length:Int):=(by omega);have R:aY (∀q,adF ns.length (w.heap.size+1) w w3 (ah ag ((k+1:Nat):Int)) ((wr.drewN q).setCell ⟨w.heap.size+1,k,aj⟩ (ah ag (-1)))):=fun q=>
    ⟨k+1,by omega,rfl,by rw[<-abr,<-Qn];exact(RB.o.drewN q).jd k _,(KBE.o.drewN q).setCell (aC _) (.inl (by simp)) _,(below_drewN BE.o q).setCell (by simp) _⟩
   clear rb kb gm sz3;go_wp2_with fail;exact⟨by simpa[World.drewN]using R.o 0,by simp[aJ];omega⟩
  ·obtain rfl:k=ns.length:=by omega
   rw[abq]at rb;have rr:wr.frozen? ⟨w.heap.size+1,root,aj⟩=false:=rb.frozen root;have cr:wr.cell? ⟨w.heap.size+1,root,aj⟩=az (ah ag (-1)):=by rw[rb.cell,Cr _ root (by simpa using hr)];simp[bJ,hr]
   have r1:(root:Int)<(ns.length:Int):=(by omega);obtain⟨w5,Gc⟩:∃w5:aG,((wr.setCell ⟨w.heap.size+1,root,aj⟩ (ah ag 0)).alloc (af #[ah ag root] 3)).alloc (af #[ay (az ⟨wr.heap.size,0,aj⟩) 1 1] 26)=w5:=⟨_,rfl⟩;have ST2:aY (S2 w ns cs root #[ay An ns.length cn,ay Ac cs.length cc] (wr.heap.size+1) wr.heap.size (ay (az ⟨wr.heap.size,0,aj⟩) 1 1) ((aS ns.length (-1)).set root 0) [(root:Int)] w5):=by
    have z:(wr.setCell ⟨w.heap.size+1,root,aj⟩ (ah ag 0)).heap.size=wr.heap.size:=(by simp);have z2:((wr.setCell ⟨w.heap.size+1,root,aj⟩ (ah ag 0)).alloc (af #[ah ag root] 3)).heap.size=wr.heap.size+1:=(by simp);have q0:=Iw.lit (base:=w.heap.size) (wr.setCell ⟨w.heap.size+1,root,aj⟩ (ah ag 0)) (root:Int) (by rw[z];omega);have n0:=dh.new ((wr.setCell ⟨w.heap.size+1,root,aj⟩ (ah ag 0)).alloc (af #[ah ag root] 3)) 26 #[ay (az ⟨wr.heap.size,0,aj⟩) 1 1];rw[z]at q0;rw[z2]at n0;have wo:without ((aS ns.length (-1)).set root 0)+1=ns.length:=(by have:=Nr (l:=aS ns.length (-1)) (v:=root) (x:=0) (by simpa using hr) (by simp[bJ,hr]) (by omega);rw[this];simp[without,List.countP_replicate]);rw[<-Gc];refine⟨?_,?_,?_,n0,q0.alloc _,by omega,by omega,by omega,by omega,by omega,by omega,SV.start hr,?_,?_,?_⟩
    ·exact(((kb.JA B73.o (by omega) (by simp)).AU (p:=⟨w.heap.size+1,root,aj⟩) (by simp) _).alloc _).alloc _
    ·rw[<-Qn];exact((rb.jd root _).alloc _).alloc _
    ·exact(((kb.JA P3.o (by omega) (by simp)).AU (p:=⟨w.heap.size+1,root,aj⟩) (by simp) _).alloc _).alloc _
    ·intro x hx;obtain rfl:=dz.1 hx;exact⟨root,rfl,hr,by simp[bJ,hr]⟩
    ·simp only[iJ];omega
    ·exact((gm.setCell (by simp) _).alloc (by simp;omega) _).alloc (by simp;omega) _
   have HW5:=aA Gc;obtain⟨b9,hb9⟩:∃b9,wr.heap.size+1=b9:=⟨_,rfl⟩;clear rb kb gm Gc;go_wp2_with fail;rw[HW5.o];clear HW5 c7 rr cr R3 B73 P3 KBE BE RB;rw[hb9]at ST2;clear hb9 SZ3 Mx sz3 bs;go_loopw [10] (fun _ wr'=>∃gq qv l q,S2 w ns cs root #[ay An ns.length cn,ay Ac cs.length cc] b9 gq qv l q wr'/\CB ns.length cs us l q) (fun _ wr'=>ahY b9 (w.heap.size+1) wr');case atStart=>exact⟨_,_,_,_,ST2.o,CB.start hr⟩
   case round=>
    clear ST2;obtain⟨gq,qv,l,q,hS,hCB⟩:=hrel;have HS:=aA hS;have HCB:=aA hCB;clear hCB;have cq:=hS.wR.one.1;have fq:=hS.wR.one.2;cases q with
    |nil=>
     obtain⟨off,cap,cur,rfl,_⟩:=hS.Wt;have c7:=hS.box.one.1;have F:aY (∃l,Iq ns.length cs us root l/\xP l w (ax (ay (az ⟨w.heap.size+1,0,aj⟩) ns.length ns.length)) wr):=by have yZ:=hS.lv.len;refine⟨l,HCB.o.nil hS.lv,_,rfl,?_,hS.below⟩;have hm:l.flatMap cI=l.map (ah .i64):=(by rw[List.map_eq_flatMap];rfl);rw[yZ,hm];refine⟨by simp[yZ],.inr ⟨w.heap.size+1,ns.length,FE l,rfl,by omega,hS.row,?_⟩⟩;simp[FE,yZ,fB];all_goals(first|omega|exact rf (by simp[yZ])|(refine⟨by omega,?_⟩;first|omega|exact rf (by simp[yZ])))
     clear hS;go_wp2_with fail;go_ret;exact F.o
    |cons x q=>
     obtain⟨off,cap,hqv,hcap,c0,q1⟩:=hS.Wt.head;subst hqv;obtain⟨u,rfl,hu,hlu⟩:=hS.qok x (dH ..);have cp0:wr.cell? ⟨w.heap.size,0,aj⟩=az (ay An ns.length cn):=(by rw[hS.plan.cell];rfl);have cp1:wr.cell? ⟨w.heap.size,1,aj⟩=az (ay Ac cs.length cc):=(by rw[hS.plan.cell];rfl);have hpos:(0:Int)<((q.length+1:Nat):Int):=(by omega);have gl:=hS.Wt.lt;have g9:=hS.wR.lt;have gp:=hS.plan.lt;have M0:=ZR hS.row hS.wR hS.Wt;have STEP:aY (∀YR,Iw wr w.heap.size gq YR q->Rj us w ns cs root #[ay An ns.length cn,ay Ac cs.length cc] b9 wr.heap.size u (q.length+without l) (ah ag 0) ((wr.setCell ⟨b9,0,aj⟩ YR).alloc (af #[ah ag u] 3))):=fun YR q1=>(by have n9:b9≠w.heap.size:=dh.tne hS.wR hS.plan (by decide);have n9r:b9≠w.heap.size+1:=dh.tne hS.wR hS.row (by decide);have low:=hS.low;rw[eQ]at low;have gr:=hS.row.lt;have z:(wr.setCell ⟨b9,0,aj⟩ YR).heap.size=wr.heap.size:=(by simp);have nb:=dh.new (wr.setCell ⟨b9,0,aj⟩ YR) 3 #[ah ag (u:Int)];rw[z]at nb;refine⟨0,bS _,rfl,gq,YR,l,q,⟨(hS.box.AU (p:=⟨b9,0,aj⟩) hS.ne6 _).alloc _,(hS.row.AU (p:=⟨b9,0,aj⟩) (iy n9r) _).alloc _,(hS.plan.AU (p:=⟨b9,0,aj⟩) (iy n9) _).alloc _,(hS.wR.set0 _).alloc _,(q1.jd (p:=⟨b9,0,aj⟩) (iy hS.ne5) _).alloc _,hS.ne1,hS.ne4,hS.ne5,hS.ne6,hS.ne7,hS.ge9,hS.lv,fun y hy=>hS.qok y (dU _ hy),by omega,?_⟩,nb,by omega,hlu,rfl,by omega,HCB.o.pop⟩;exact(hS.below.setCell hS.ge9 _).alloc (by rw[z];omega) _);clear hS;go_wp2_with fail;all_goals(first|rw[if_pos ‹cap=1›]at q1|rw[if_neg ‹¬cap=1›]at q1)
     all_goals
      try rw[show cap-1=0 by omega]at q1
      have ST3:=aA (STEP.o _ q1);have MH:=aA M0;clear STEP q1
      first|generalize ay (az ⟨gq,off,aj⟩) q.length 0=YR at * |generalize ay (az ⟨gq,off+1,aj⟩) q.length (cap-1)=YR at *
      clear HS cq fq c0 hpos cp0 cp1 M0 g9 gp gl hcap;obtain⟨wo,rfl⟩:∃wo:aG,wo=wr:=⟨_,rfl⟩;go_loopw [44] (fun i wr'=>Rj us w ns cs root #[ay An ns.length cn,ay Ac cs.length cc] b9 wo.heap.size u (q.length+without l) i wr') (fun i _=>cs.length-(aJ i).toNat);case atStart=>exact ST3.o
      case round=>
       clear ST3;obtain⟨k,hk,rfl,gq3,qv3,l3,q3,RH,hn3,ne3,hl3,hM3,Pp,hci⟩:=hrel;have HCI:=aA hci;clear hci;have S3:=aA RH;have N3:=aA hn3;have HM3:=aA hM3;clear hM3;by_cases nI:k<cs.length
       ·obtain⟨bc,oc,hAc,hbc,mE,ca,pG,cb,Vf,cd,Vg⟩:=mq HP.o.2 k nI;obtain⟨bu,ou,hAu,hbu,_,cu⟩:=Tu HU.o k nI;obtain⟨⟨na0,na1⟩,nb0,nb1⟩:=Fb HV.o mE;have nab:=Mt HV.o mE;have aoU:=aA mE;generalize hgx:cs.getD k gX=x at *;have HGX:=aA hgx;have HKR:=aA nI;clear hgx;obtain⟨xa,qF,xb,qO,xd,xc⟩:=x;simp only at ca pG cb Vf cd Vg na0 na1 nb0 nb1 nab;obtain⟨ia,rfl⟩:∃ia:Nat,xa=ia:=⟨xa.toNat,by omega⟩;obtain⟨ib,rfl⟩:∃ib:Nat,xb=ib:=⟨xb.toNat,by omega⟩;have LZ:ia<ns.length:=(by omega);have Ma:ib<ns.length:=(by omega);subst hAc;subst hAu;clear mE;have bl0:=RH.below;have cu2:wr.cell? ⟨bu,ou+k,aj⟩=az (.bool (us.getD k false)):=(bl0.cell (p:=⟨bu,ou+k,aj⟩) hbu).trans cu;have ca2:wr.cell? ⟨bc,oc+k*6,aj⟩=az (ah ag ia):=(bl0.cell (p:=⟨bc,oc+k*6,aj⟩) hbc).trans ca;have cap2:wr.cell? ⟨bc,oc+k*6+1,aj⟩=az (ah ag qF):=(bl0.cell (p:=⟨bc,oc+k*6+1,aj⟩) hbc).trans pG;have cb2:wr.cell? ⟨bc,oc+k*6+2,aj⟩=az (ah ag ib):=(bl0.cell (p:=⟨bc,oc+k*6+2,aj⟩) hbc).trans cb;have ahq:wr.cell? ⟨bc,oc+k*6+3,aj⟩=az (ah ag qO):=(bl0.cell (p:=⟨bc,oc+k*6+3,aj⟩) hbc).trans Vf;have cd2:wr.cell? ⟨bc,oc+k*6+4,aj⟩=az (ah ag xd):=(bl0.cell (p:=⟨bc,oc+k*6+4,aj⟩) hbc).trans cd;have ahr:wr.cell? ⟨bc,oc+k*6+5,aj⟩=az (ah ag xc):=(bl0.cell (p:=⟨bc,oc+k*6+5,aj⟩) hbc).trans Vg;have c10:=hn3.one.1;have h10:=hn3.lt;have oV:w.heap.size<=wr.heap.size:=bl0.size;have hlv:l3.getD u 0<=1000000:=(by have:=RH.lv.lt hu;omega);have hql:q3.length<=1000000:=(by have:=RH.low;omega);have ayj:bu<wr.heap.size:=(by omega);cases Er:us.getD k false with
        |false=>rw[Er]at cu2;have R:aY (Rj us w ns cs root #[ay An ns.length cn,ay (az ⟨bc,oc,aj⟩) cs.length cc] b9 wo.heap.size u (q.length+without l) (ah ag ((k+1:Nat):Int)) (wr.alloc (af #[ah ag ia,ah ag qF,ah ag ib,ah ag qO,ah ag xd,ah ag xc] 86))):=⟨k+1,by omega,rfl,gq3,qv3,l3,q3,S3.o.alloc _,N3.o.alloc _,ne3,hl3,HM3.o,Pp,HCI.o.skip (.inl Er)⟩;clear RH hn3 cu ca pG cb Vf cd Vg Er bl0;go_wp2_with fail;exact⟨by simpa using R.o,by simp[aJ];omega⟩
        |true=>
         rw[Er]at cu2;have HUB:=aA Er;have Qd:ia≠ib:=fun e=>nab (by rw[e]);by_cases ha:u=ia
         ·subst ha;have nQ:¬(ib=u):=fun e=>Qd e.symm;clear Qd nab;have SA:=S3.o.alloc (af #[ah ag u,ah ag qF,ah ag ib,ah ag qO,ah ag xd,ah ag xc] 86);have NB:=dh.new wr 86 #[ah ag u,ah ag qF,ah ag ib,ah ag qO,ah ag xd,ah ag xc];have C:=Hz (wr.alloc (af #[ah ag u,ah ag qF,ah ag ib,ah ag qO,ah ag xd,ah ag xc] 86)) _ _ _ _ _ _ _ u ib qv3 l3 q3 (SA.ds (N3.o.alloc _) ne3 Pp) (by simp;omega) Ma hu (by omega) hql ⟨hl3,hlv⟩;have VS:aY (∀w4,Ll (wr.alloc (af #[ah ag u,ah ag qF,ah ag ib,ah ag qO,ah ag xd,ah ag xc] 86)) ns.length w.heap.size (w.heap.size+1+1) (w.heap.size+1) wo.heap.size b9 gq3 (u:Int) (wJ l3 q3 (u:Int) ib).1 (wJ l3 q3 (u:Int) ib).2 w4->
           Rj us w ns cs root #[ay An ns.length cn,ay (az ⟨bc,oc,aj⟩) cs.length cc] b9 wo.heap.size u (q.length+without l) (ah ag ((k+1:Nat):Int)) w4/\dh w4 wr.heap.size 86 #[ah ag u,ah ag qF,ah ag ib,ah ag qO,ah ag xd,ah ag xc]/\dh w4 wo.heap.size 3 #[ah ag u]/\aN w.heap.size w w4):=fun w4 hp=>by
           obtain⟨gq4,qv4,l4,q4,S4,N4,ne4,hl4,hM4,kb4,hb4,alZ,amf⟩:=SA.agb Ma hu hl3 aoU.out (.inr ⟨rfl,rfl⟩) hp;have alX:CI ns.length cs us l4 q4 u (k+1):=(by rw[alZ,amf];exact HCI.o.visit RH.lv.len HKR.o hu Ma hl3 HUB.o (by rw[HGX.o];exact .inl ⟨rfl,rfl⟩) (by rw[HGX.o];simp only;omega));exact⟨⟨k+1,by omega,rfl,gq4,qv4,l4,q4,S4,N4,ne4,hl4,hM4.trans HM3.o,hb4,alX⟩,kb4.JA NB (by simp) (by have e1:=RH.row.lt;have e2:=RH.wR.lt;have e3:=RH.Wt.lt;simp;omega),N4,S4.below⟩
          have HC:=aA C;have CU:=aA cu;clear RH hn3 cu ca pG cb Vf cd Vg Er bl0 SA NB C;go_wp2_with fail;refine HC.o.mono ?_;rintro en w4 ⟨rfl,hp⟩;obtain⟨R4,B4,N4,Eg⟩:=VS.o w4 hp;have R:=aA R4;have d0:w4.cell? ⟨wr.heap.size,0,aj⟩=az (ah ag u):=(by rw[B4.cell];rfl);have d2:w4.cell? ⟨wr.heap.size,2,aj⟩=az (ah ag ib):=(by rw[B4.cell];rfl);have d10:=N4.one.1;have cu4:w4.cell? ⟨bu,ou+k,aj⟩=az (.bool true):=(by rw[Eg.cell (p:=⟨bu,ou+k,aj⟩) hbu,CU.o,HUB.o]);clear hp R4 B4 N4 Eg cu2 ca2 cap2 cb2 ahq cd2 ahr c10;go_wp2_with fail;exact⟨by simpa using R.o,by simp[aJ];omega⟩
         ·by_cases hb:u=ib
          ·subst hb;have nQ:¬(ia=u):=fun e=>ha e.symm;clear Qd nab ha;have SA:=S3.o.alloc (af #[ah ag ia,ah ag qF,ah ag u,ah ag qO,ah ag xd,ah ag xc] 86);have NB:=dh.new wr 86 #[ah ag ia,ah ag qF,ah ag u,ah ag qO,ah ag xd,ah ag xc];have C:=Hz (wr.alloc (af #[ah ag ia,ah ag qF,ah ag u,ah ag qO,ah ag xd,ah ag xc] 86)) _ _ _ _ _ _ _ u ia qv3 l3 q3 (SA.ds (N3.o.alloc _) ne3 Pp) (by simp;omega) LZ hu (by omega) hql ⟨hl3,hlv⟩;have VS:aY (∀w4,Ll (wr.alloc (af #[ah ag ia,ah ag qF,ah ag u,ah ag qO,ah ag xd,ah ag xc] 86)) ns.length w.heap.size (w.heap.size+1+1) (w.heap.size+1) wo.heap.size b9 gq3 (u:Int) (wJ l3 q3 (u:Int) ia).1 (wJ l3 q3 (u:Int) ia).2 w4->
            Rj us w ns cs root #[ay An ns.length cn,ay (az ⟨bc,oc,aj⟩) cs.length cc] b9 wo.heap.size u (q.length+without l) (ah ag ((k+1:Nat):Int)) w4/\dh w4 wr.heap.size 86 #[ah ag ia,ah ag qF,ah ag u,ah ag qO,ah ag xd,ah ag xc]/\dh w4 wo.heap.size 3 #[ah ag u]/\aN w.heap.size w w4):=fun w4 hp=>by
            obtain⟨gq4,qv4,l4,q4,S4,N4,ne4,hl4,hM4,kb4,hb4,alZ,amf⟩:=SA.agb LZ hu hl3 aoU.out (.inl ⟨rfl,rfl⟩) hp;have alX:CI ns.length cs us l4 q4 u (k+1):=(by rw[alZ,amf];exact HCI.o.visit RH.lv.len HKR.o hu LZ hl3 HUB.o (by rw[HGX.o];exact .inr ⟨rfl,rfl⟩) (by rw[HGX.o];simp only;omega));exact⟨⟨k+1,by omega,rfl,gq4,qv4,l4,q4,S4,N4,ne4,hl4,hM4.trans HM3.o,hb4,alX⟩,kb4.JA NB (by simp) (by have e1:=RH.row.lt;have e2:=RH.wR.lt;have e3:=RH.Wt.lt;simp;omega),N4,S4.below⟩
           have HC:=aA C;have CU:=aA cu;clear RH hn3 cu ca pG cb Vf cd Vg Er bl0 SA NB C;go_wp2_with fail;refine HC.o.mono ?_;rintro en w4 ⟨rfl,hp⟩;obtain⟨R4,B4,N4,Eg⟩:=VS.o w4 hp;have R:=aA R4;have d0:w4.cell? ⟨wr.heap.size,0,aj⟩=az (ah ag ia):=(by rw[B4.cell];rfl);have d2:w4.cell? ⟨wr.heap.size,2,aj⟩=az (ah ag u):=(by rw[B4.cell];rfl);have d10:=N4.one.1;have cu4:w4.cell? ⟨bu,ou+k,aj⟩=az (.bool true):=(by rw[Eg.cell (p:=⟨bu,ou+k,aj⟩) hbu,CU.o,HUB.o]);clear hp R4 B4 N4 Eg cu2 ca2 cap2 cb2 ahq cd2 ahr c10;go_wp2_with fail;exact⟨by simpa using R.o,by simp[aJ];omega⟩
          ·have nQ:¬(ia=u):=fun e=>ha e.symm;have hne2:¬(ib=u):=fun e=>hb e.symm;have R:aY (Rj us w ns cs root #[ay An ns.length cn,ay (az ⟨bc,oc,aj⟩) cs.length cc] b9 wo.heap.size u (q.length+without l) (ah ag ((k+1:Nat):Int)) (wr.alloc (af #[ah ag ia,ah ag qF,ah ag ib,ah ag qO,ah ag xd,ah ag xc] 86))):=⟨k+1,by omega,rfl,gq3,qv3,l3,q3,S3.o.alloc _,N3.o.alloc _,ne3,hl3,HM3.o,Pp,HCI.o.skip (.inr fun v ht=>by rw[HGX.o]at ht;unfold touch at ht;simp only at ht;omega)⟩;clear RH hn3 cu ca pG cb Vf cd Vg Er bl0 Qd nab ha hb;go_wp2_with fail;exact⟨by simpa using R.o,by simp[aJ];omega⟩
       ·obtain rfl:k=cs.length:=by omega
        have iZ:aY (ahY b9 (w.heap.size+1) wr=q.length+without l):=(by rw[aY,ZR RH.row RH.wR RH.Wt,HM3.o]);clear hn3 RH;go_wp2_with fail;exact⟨⟨_,_,_,_,S3.o,HCI.o.done⟩,by rw[iZ.out,MH.o,eQ];omega⟩
theorem Ym(p:Pl)(us:List Bool)(root:Int)(An Ac Au:Option fA)(cn cc cu:Nat)(w:aG)(hl:p.ns.length<=1000000)(DN:p.cs.length<=1000000)(hm:us.length<=1000000)(tu:QI p)(h:jw w An Ac p)(h2:gI 1 cB false w Au us.length us)(rR:adz p us root):bZ aH 32 #[.agg #[ay An p.ns.length cn,ay Ac p.cs.length cc],ah ag root,ay Au us.length cu] w fun e w'=>∃l,Iq p.ns.length p.cs us root.toNat l/\xP l w e w':=by
 obtain⟨ns,cs⟩:=p;simp only at hl DN|-;obtain⟨hv,IW,hr0,hr1⟩:=rR;simp only at IW hr1;obtain⟨r,rfl⟩:∃r:Nat,root=r:=⟨root.toNat,by omega⟩;rw[cK];have hrn:r<ns.length:=by omega
 obtain⟨w1,gK⟩:∃w1:aG,w.alloc (af #[ay An ns.length cn,ay Ac cs.length cc] 25)=w1:=⟨_,rfl⟩;have s0:w1.cell? ⟨w.heap.size,0,aj⟩=az (ay An ns.length cn):=by rw[<-gK];simp[go_sem]
 have s1:w1.cell? ⟨w.heap.size,1,aj⟩=az (ay Ac cs.length cc):=by rw[<-gK];simp[go_sem]
 have Sk:w.heap.size<w1.heap.size:=by rw[<-gK];simp
 have BW:aY (aN w.heap.size w w1):=by rw[<-gK];exact(aQ _ _).alloc (aC _) _
 have H1:=aA (h.below (aC _) BW.o);have H2:=aA (h2.below (aC _) BW.o);have HC:=aA (Qx ⟨ns,cs⟩ An Ac Au cn cc cu us.length w1 hl DN hm tu H1.o);have HT:aY (wI ⟨ns,cs⟩ us.length=true):=by rw[aY];unfold wI;rw[decide_eq_true hv,decide_eq_true IW];rfl
 have HV:=aA hv;have Uw:=aA IW;have Bf:=aA gK;clear gK h h2 tu hv IW;go_enter func32,ntmps32;go_wp2_with fail;rw[Bf.o];refine HC.o.mono ?_;rintro e w2 ⟨rfl,gm⟩;rw[HT.o];have c0:=(gm.cell (p:=⟨w.heap.size,0,aj⟩) Sk).trans s0;have c1:=(gm.cell (p:=⟨w.heap.size,1,aj⟩) Sk).trans s1;have BF:aY (aN w.heap.size w w2):=BW.o.trans (gm.mono BW.o.size);have H12:=aA (H1.o.below (aC _) gm);have H22:=aA (H2.o.below (aC _) gm);have HD:aY (bZ aH 79 #[.agg #[ay An ns.length cn,ay Ac cs.length cc],ah ag r,ay Au us.length cu] w2 (fun e w'=>∃l,Iq ns.length cs us r l/\xP l w2 e w')):=by have h22:=H22.o;rw[Uw.o]at h22;rw[aY,Uw.o];exact Rv ns cs us r An Ac Au cn cc cu w2 HV.o hrn H12.o h22
 clear gm HC s0 s1 Bf;go_wp2_with fail;refine HD.o.mono ?_;rintro e w3 ⟨l,hl,v,rfl,own,xq⟩;have F:aY (∃l,Iq ns.length cs us r l/\xP l w (ax v) w3):=⟨l,hl,v,rfl,wH own BF.o.size,BF.o.trans (xq.mono BF.o.size)⟩;clear own xq hl;go_wp2_with fail;go_ret;exact F.o
def Tc(p:Pl)(us:List Bool)(root:Int)(w:aG)(e:iM)(w':aG):Prop:=
 aN w.heap.size w w'/\((¬adz p us root/\∃c:Int,c≠0/\e=ax (.tuple #[.agg #[ay aj 0 0],ah ag c]))\/
  (adz p us root/\∃l v,Iq p.ns.length p.cs us root.toNat l/\e=ax (.tuple #[.agg #[v],ah ag 0])/\w'.ownsRow w.heap.size 3 1 v l.length (l.flatMap cI)))
theorem afy(p:Pl)(us:List Bool)(root:Int)(An Ac Au:Option fA)(cn cc cu:Nat)(w:aG)(hl:p.ns.length<=1000000)(DN:p.cs.length<=1000000)(tu:QI p)(h:jw w An Ac p)(h2:gI 1 cB false w Au us.length us):bZ aH 88 #[.agg #[ay An p.ns.length cn,ay Ac p.cs.length cc],ay Au us.length cu,ah ag root] w (Tc p us root w):=by
 obtain⟨ns,cs⟩:=p;simp only at hl DN|-;obtain⟨w1,gK⟩:∃w1:aG,(w.alloc (af #[ay An ns.length cn,ay Ac cs.length cc] 25)).alloc (af #[ay aj 0 0] 169)=w1:=⟨_,rfl⟩;have s0:w1.cell? ⟨w.heap.size,0,aj⟩=az (ay An ns.length cn):=by rw[<-gK];simp[go_sem]
 have s1:w1.cell? ⟨w.heap.size,1,aj⟩=az (ay Ac cs.length cc):=by rw[<-gK];simp[go_sem]
 have OB1:aY (dh w1 (w.heap.size+1) 169 #[ay aj 0 0]):=by rw[<-gK];have:=dh.new (w.alloc (af #[ay An ns.length cn,ay Ac cs.length cc] 25)) 169 #[ay aj 0 0];rw[aY];simpa using this
 have Sk:w.heap.size+1<w1.heap.size:=by rw[<-gK];simp
 have BW:aY (aN w.heap.size w w1):=by rw[<-gK];exact((aQ _ _).alloc (aC _) _).alloc (by simp) _
 have H1:=aA (h.below (aC _) BW.o);have H2:=aA (h2.below (aC _) BW.o);have HC:=aA (zN ⟨ns,cs⟩ An Ac cn cc w1 hl DN tu H1.o);have HW:=aA tu;have Bf:=aA gK;clear gK h h2 tu;go_enter func88,ntmps88;go_wp2_with fail;rw[Bf.o];refine HC.o.mono ?_;rintro e w2 ⟨rfl,gm⟩;have c0:=(gm.cell (p:=⟨w.heap.size,0,aj⟩) (by show w.heap.size<_;omega)).trans s0;have c1:=(gm.cell (p:=⟨w.heap.size,1,aj⟩) (by show w.heap.size<_;omega)).trans s1;have OB2:=aA (OB1.o.below gm OB1.o.lt);have o1:=OB2.o.one.1;have o2:=OB2.o.one.2;have BF:aY (aN w.heap.size w w2):=BW.o.trans (gm.mono BW.o.size);have H12:=aA (H1.o.below (aC _) gm);have H22:=aA (H2.o.below (aC _) gm);clear gm HC s0 s1 Bf;have ERR:aY (¬adz ⟨ns,cs⟩ us root->∀c:Int,c≠0->Tc ⟨ns,cs⟩ us root w (ax (.tuple #[.agg #[ay aj 0 0],ah ag c])) (w2.setCell ⟨w.heap.size+1,0,aj⟩ (ay aj 0 0))):=fun hn c hc=>
  ⟨BF.o.setCell (by simp) _,.inl ⟨hn,c,hc,rfl⟩⟩
 cases hv:fT ⟨ns,cs⟩==0 with
 |false=>
  have F:=aA (ERR.o (fun h=>by have:=h.1;rw[this]at hv;cases hv) 1 (by decide));have hv2:(fT ⟨ns,cs⟩!=0)=true:=by simpa using hv
  generalize fT ⟨ns,cs⟩=z at *;go_wp2_with fail;refine bodyPost_ret (v:=.tuple #[.agg #[ay aj 0 0],ah ag 1]) (by simp[results,zF,go_sem,o1]) rfl ?_;exact F.o
 |true=>
  have hv0:fT ⟨ns,cs⟩=0:=by simpa using hv
  rw[hv0];have HV:=aA hv0;clear hv hv0;by_cases Ib:us.length=cs.length
  ·by_cases hr:root<0\/(ns.length:Int)<=root
   ·have F:=aA (ERR.o (fun h=>by have h1:=h.2.2.1;have h2:=h.2.2.2;simp only at h2;omega) 2 (by decide));have hr':root<0\/(0<=root/\(ns.length:Int)<=root):=by omega
    clear hr;have HM2:=aA Ib;have hm3:((us.length:Int)!=(cs.length:Int))=false:=by simp[Ib]
    clear Ib;rcases hr' with h1|⟨h1,h2⟩
    all_goals
     go_wp2_with fail;refine bodyPost_ret (v:=.tuple #[.agg #[ay aj 0 0],ah ag 2]) (by simp[results,zF,go_sem,o1]) rfl ?_
     exact F.o
   ·have rR:adz ⟨ns,cs⟩ us root:=⟨HV.o,Ib,by omega,by show root<(ns.length:Int);omega⟩;have r0:0<=root:=by omega
    have r1:root<(ns.length:Int):=(by omega);have Xi:=aA rR;have HD:=aA (Ym ⟨ns,cs⟩ us root An Ac Au cn cc cu w2 hl DN (by rw[Ib];exact DN) HW.o H12.o H22.o rR);have hm3:((us.length:Int)!=(cs.length:Int))=false:=(by simp[Ib]);clear Ib rR hr;go_wp2_with fail;refine HD.o.mono ?_;rintro e w3 ⟨l,hl,v,rfl,own,xq⟩;obtain⟨av,aln,hve,_⟩:=gZ (d:=(0:Int)) qK (by decide) own;subst hve;have OB3:=aA (OB2.o.below xq OB2.o.lt);have p1:=OB3.o.one.1;have p2:=OB3.o.one.2;have F:aY (Tc ⟨ns,cs⟩ us root w (ax (.tuple #[.agg #[ay av l.length aln],ah ag 0])) (w3.setCell ⟨w.heap.size+1,0,aj⟩ (ay av l.length aln))):=(by refine⟨(BF.o.trans (xq.mono BF.o.size)).setCell (by simp) _,.inr ⟨Xi.o,l,_,hl,rfl,?_⟩⟩;exact Mj (wH own BF.o.size) (wG (zg w3 (az (w.heap.size+1))) (.inl rfl) _) (fun q e=>by have h1:=(own.lt q e).1;have h2:=OB2.o.lt;omega));clear own xq hl;go_wp2_with fail;refine bodyPost_ret (v:=.tuple #[.agg #[ay av l.length aln],ah ag 0]) (by simp[results,zF,go_sem,p1]) rfl ?_;exact F.o
  ·have F:=aA (ERR.o (fun h=>Ib h.2.1) 1 (by decide));go_wp2_with fail;refine bodyPost_ret (v:=.tuple #[.agg #[ay aj 0 0],ah ag 1]) (by simp[results,zF,go_sem,o1]) rfl ?_;exact F.o
end
end Go.Proofs.YtnjjkgjdhljfnaaGreat
