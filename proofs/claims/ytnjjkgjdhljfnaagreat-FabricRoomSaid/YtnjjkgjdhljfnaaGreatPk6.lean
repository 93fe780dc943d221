/- Part 6. -/
import Derived.ArgAppend
import Derived.Deep.LoopGhost
import Derived.Laws.EntriesVeiled
import Derived.Test.YtnjjkgjdhljfnaaGreatPk5
open Go.Proofs.Tryz
open Array renaming length_toList->mZ
open Bool renaming false_or->iW,true_or->lZ
open Classical renaming choose->mD
open Go renaming Addr->fE,Calls->di,Ending->iL,TypeId->dP,Value->aJ,World->aG,info_parts->eQ,madeCells->eH,maxLen->fJ
open Go.Addr renaming add->nO
open Go.Ending renaming returned->ax
open Go.Instr renaming index->xY
open Go.IntKind renaming i64->ag
open Go.IntWalk renaming i64_in->fH
open Go.Lib renaming hid->aA
open Go.Obj renaming cells->af
open Go.Proofs.Tryz renaming prog->aH,results172->Ea,results88->zS
open Go.RowKit renaming Below->aO,Hid->aZ,intOf->aK
open Go.RowKit.Below renaming heap_alloc->Cj,heap_setCell->nz,refl->aS
open Go.Value renaming cells->yl,int->ah,pointer->au,slice->ay
open Int renaming toNat_natCast->cO
open List renaming all_eq_true->jS,countP_append->uU,countP_cons->oZ,countP_eq_zero->Hf,drop_eq_getElem_cons->jE,ext_getElem->tQ,flatMap_append->fU,getD->bS,getElem?_drop->rD,getElem?_eq_none->gG,getElem?_take->mq,length_append->bW,length_cons->fw,length_singleton->iH,map_append->fF,map_cons->mK,mem_append->dU,mem_cons->dM,mem_cons_of_mem->dx,mem_cons_self->bZ,mem_iff_getElem->qj,mem_range->dK,mem_singleton->dh,nodup_cons->qb,nodup_iff_pairwise_ne->zN,range->aN,range_succ->dL,replicate->aQ,take_append_drop->sK,take_of_length_le->rE
open Nat renaming le_refl->aC,le_trans->eY,lt_of_lt_of_le->bY,lt_or_ge->jG,mul_one->qm,zero_le->bJ
open Ne renaming symm->iB
open Option renaming none->aj,some->az
set_option maxRecDepth 100000
set_option maxHeartbeats 16000000
set_option linter.unusedVariables false
set_option linter.unusedSimpArgs false
namespace Go.Proofs.YtnjjkgjdhljfnaaGreat
open Go.RowKit Go.Maps
section
theorem YI{α:Type}[DecidableEq α]{C S:List α}(h:C.Nodup)(hs:∀x∈C,x∈S):C.length<=S.length:=by
 induction C generalizing S with
 |nil=>simp
 |cons x C ih=>obtain⟨h1,h2⟩:=qb.1 h;have hx:=hs x (bZ ..);have h3:=ih (S:=S.erase x) h2 (fun y hy=>(List.mem_erase_of_ne (by rintro rfl;exact h1 hy)).2 (hs y (dx _ hy)));rw[List.length_erase_of_mem hx]at h3;have:=List.length_pos_of_mem hx;simp;omega
def touch(x:Cb)(j k:Nat):Prop:=(x.a=j/\x.b=k)\/(x.b=j/\x.a=k)
structure Tj(n:Nat)(cs:List Cb)(root:Nat)(l:List Int):Prop where
 len:l.length=n
 rlt:root<n
 zero:l.getD root 0=0
 pos:∀j,j<n->j≠root->l.getD j 0=-1\/0<l.getD j 0
 led:∀j,j<n->0<l.getD j 0->∃x∈cs,∃k,k<n/\touch x j k/\l.getD k 0=l.getD j 0-1
section
variable{n:Nat}{cs:List Cb}{root:Nat}{l:List Int}
theorem Tj.ge(h:Tj n cs root l){j:Nat}(hj:j<n):-1<=l.getD j 0:=by
 rcases Classical.em (j=root)with rfl|nJ
 ·rw[h.zero];omega
 ·rcases h.pos j hj nJ with h1|h1<;>omega
theorem Tj.down(h:Tj n cs root l)(d:Nat):∀j,j<n->l.getD j 0=d->∀e,e<=d->∃k,k<n/\l.getD k 0=(e:Int):=by
 induction d with
 |zero=>
  intro j hj hd e he;have h0:e=0:=by omega
  subst h0;exact⟨j,hj,hd⟩
 |succ d ih=>
  intro j hj hd e he;rcases jG e (d+1)with h1|h1
  ·obtain⟨x,_,k,hk,_,hlk⟩:=h.led j hj (by rw[hd];omega);exact ih k hk (by rw[hlk,hd];omega) e (by omega)
  ·exact⟨j,hj,by rw[hd];omega⟩
theorem Tj.lt(h:Tj n cs root l){j:Nat}(hj:j<n):l.getD j 0<n:=by
 rcases Int.lt_or_le (l.getD j 0) 0 with h0|h0
 ·omega
 ·obtain⟨d,hd⟩:∃d:Nat,l.getD j 0=d:=⟨(l.getD j 0).toNat,by omega⟩;have hall:=h.down d j hj hd;let J:Nat->Nat:=fun e=>if he:e<=d then mD (hall e he)else 0
  have hJ:∀e,e<=d->J e<n/\l.getD (J e) 0=(e:Int):=fun e he=>by have:J e=mD (hall e he):=(by simp only[J];rw[dif_pos he]);rw[this];exact Classical.choose_spec (hall e he)
  have hnd:((aN (d+1)).map J).Nodup:=by rw[zN,List.pairwise_map];refine(zN.1 List.nodup_range).imp_of_mem ?_;intro a b ha hb nJ heq;have h1:=(hJ a (by have:=dK.1 ha;omega)).2;have h2:=(hJ b (by have:=dK.1 hb;omega)).2;rw[heq,h2]at h1;exact nJ (by omega)
  have hle:=YI hnd (S:=aN n) (fun x hx=>by rw[List.mem_map]at hx;obtain⟨e,he,rfl⟩:=hx;exact dK.2 (hJ e (by have:=dK.1 he;omega)).1);simp at hle;omega
theorem Tj.order{ns:List Nd}(h:Tj ns.length cs root l)(hv:fQ ⟨ns,cs⟩=0):oH ⟨ns,cs⟩ l=true:=by
 unfold oH;simp only[Bool.and_eq_true,decide_eq_true_eq];refine⟨⟨⟨⟨hv,h.len⟩,?_⟩,?_⟩,?_⟩
 ·rw[jS];intro x hx;obtain⟨i,hi,rfl⟩:=qj.1 hx;have e:l.getD i 0=l[i]:=by simp[bS,hi]
  have hi':i<ns.length:=by rw[<-h.len];exact hi
  have h1:=h.ge hi';have h2:=h.lt hi';rw[e]at h1 h2;unfold rQ;rw[decide_eq_true h1,decide_eq_true h2];rfl
 ·
  have hr:root<l.length:=by rw[h.len];exact h.rlt
  have hsp:l=l.take root++l[root]::l.drop (root+1):=by rw[<-jE hr];exact(sK root l).symm
  have hz:l[root]=0:=by have:=h.zero;simpa[bS,hr]using this
  have hnz:∀i (hi:i<l.length),i≠root->¬((l[i]==0)=true):=fun i hi nJ=>by have e:l.getD i 0=l[i]:=(by simp[bS,hi]);have:=h.pos i (by rw[<-h.len];exact hi) nJ;rw[e]at this;simp;omega
  rw[hsp,uU,oZ,hz];have c1:(l.take root).countP (· ==0)=0:=by rw[Hf];intro x hx;obtain⟨i,hi,rfl⟩:=List.mem_take_iff_getElem.1 hx;exact hnz i (by omega) (by omega)
  have c2:(l.drop (root+1)).countP (· ==0)=0:=by rw[Hf];intro x hx;obtain⟨i,hi,rfl⟩:=qj.1 hx;rw[List.getElem_drop];exact hnz _ (by rw[List.length_drop]at hi;omega) (by omega)
  rw[c1,c2];rfl
 ·rw[jS];intro i hi;rw[dK]at hi;have hi':i<ns.length:=by rw[<-h.len];exact hi
  unfold Af;by_cases hp:0<l.getD i 0
  ·obtain⟨x,hx,k,hk,ht,hl⟩:=h.led i hi' hp;have:Eg cs l cs.length i=true:=by
    unfold Eg;rw[List.take_length,List.any_eq_true];refine⟨x,hx,?_⟩;unfold leads Hq;rcases ht with⟨e1,e2⟩|⟨e1,e2⟩
    ·rw[e1,e2,cO,cO,if_neg (by omega),if_pos hl];simp
    ·rw[e1,e2,cO,cO,if_pos hl];simp
   rw[this];simp
  ·rw[decide_eq_false hp];rfl
theorem Tj.start(hr:root<n):Tj n cs root ((aQ n (-1)).set root 0):=by
 have hg:∀j,j<n->((aQ n (-1:Int)).set root 0).getD j 0=if j=root then 0 else-1:=fun j hj=>by
  by_cases h:j=root
  ·subst h;simp[bS,hj]
  ·rw[if_neg h];simp[bS,iB h,hj]
 refine⟨by simp,hr,by rw[hg root hr,if_pos rfl],fun j hj nJ=>.inl (by rw[hg j hj,if_neg nJ]),fun j hj hp=>?_⟩;rw[hg j hj]at hp;split at hp<;>omega
theorem Tj.visit(h:Tj n cs root l){v u:Nat}(hv:v<n)(hu:u<n)(h1:l.getD v 0<0)(h2:0<=l.getD u 0){x:Cb}(hx:x∈cs)(ht:touch x v u):Tj n cs root (l.set v (l.getD u 0+1)):=by
 have hl:=h.len;have hg:∀j,j<n->(l.set v (l.getD u 0+1)).getD j 0=if j=v then l.getD u 0+1 else l.getD j 0:=fun j hj=>by
  by_cases e:j=v
  ·subst e;rw[if_pos rfl];simp[bS,hl,hj]
  ·rw[if_neg e];simp[bS,iB e]
 have hrv:root≠v:=fun e=>by rw[<-e,h.zero]at h1;omega
 have huv:u≠v:=fun e=>by rw[e]at h2;omega
 refine⟨by simpa using hl,h.rlt,by rw[hg root h.rlt,if_neg hrv];exact h.zero,fun j hj nJ=>?_,fun j hj hp=>?_⟩
 ·rw[hg j hj];split
  ·right;omega
  ·exact h.pos j hj nJ
 ·rw[hg j hj]at hp|-;by_cases e:j=v
  ·subst e;rw[if_pos rfl];exact⟨x,hx,u,hu,ht,by rw[hg u hu,if_neg huv];omega⟩
  ·rw[if_neg e]at hp|-;obtain⟨y,hy,k,hk,htk,hlk⟩:=h.led j hj hp;have hkv:k≠v:=fun e2=>(by rw[e2]at hlk;omega);exact⟨y,hy,k,hk,htk,by rw[hg k hk,if_neg hkv];exact hlk⟩
end
def without(l:List Int):Nat:=l.countP fun x=>decide (x<0)
theorem Nv{l:List Int}{v:Nat}{x:Int}(hv:v<l.length)(h1:l.getD v 0<0)(hx:0<=x):without (l.set v x)+1=without l:=by
 have e:l.getD v 0=l[v]:=by simp[bS,hv]
 rw[e]at h1;have hsp:l=l.take v++l[v]::l.drop (v+1):=by rw[<-jE hv];exact(sK v l).symm
 have Cv:l.set v x=l.take v++x::l.drop (v+1):=List.set_eq_take_append_cons_drop ..|>.trans (by rw[if_pos hv]);unfold without;rw[Cv]
 conv=>rhs;rw[hsp]
 rw[uU,uU,oZ,oZ,decide_eq_true h1,decide_eq_false (show ¬x<0 by omega)];simp;omega
end
section
def IU(w:aG)(base g:Nat)(v:aJ)(q:List Int):Prop:=
 ∃off cap cur,v=ay (az ⟨g,off,aj⟩) q.length cap/\base<=g/\w.heap[g]?=az (.cells cur 3 (0,0))/\q.length<=cap/\off+cap<=cur.size/\(cur.toList.drop off).take q.length=q.map (ah .i64)
section
variable{w w':aG}{base g:Nat}{v:aJ}{q:List Int}
theorem IU.lt(h:IU w base g v q):g<w.heap.size:=by obtain⟨_,_,_,_,_,h,_⟩:=h;exact(Array.getElem?_eq_some_iff.1 h).1
theorem IU.ge(h:IU w base g v q):base<=g:=by obtain⟨_,_,_,_,h,_⟩:=h;exact h
theorem IU.uK(h:IU w base g v q)(hb:w'.heap[g]?=w.heap[g]?):IU w' base g v q:=by obtain⟨off,cap,cur,h1,h2,h3,r⟩:=h;exact⟨off,cap,cur,h1,h2,hb.trans h3,r⟩
theorem IU.alloc(h:IU w base g v q)(o:Obj):IU (w.alloc o) base g v q:=h.uK (Cj w o g h.lt)
theorem IU.jy(h:IU w base g v q){p:fE}(hp:p.block≠g)(u:aJ):IU (w.setCell p u) base g v q:=h.uK (nz w p u g (iB hp))
theorem IU.form(h:IU w base g v q):∃a cap,v=ay (az a) q.length cap/\q.length<=cap:=by obtain⟨off,cap,cur,h1,_,_,h4,_⟩:=h;exact⟨_,cap,h1,h4⟩
theorem IU.head{x:Int}(h:IU w base g v (x::q)):∃off cap,v=ay (az ⟨g,off,aj⟩) (q.length+1) cap/\q.length+1<=cap/\w.cell? ⟨g,off,aj⟩=az (ah ag x)/\IU w base g (ay (if cap=1 then az ⟨g,off,aj⟩else az ⟨g,off+1,aj⟩) q.length (cap-1)) q:=by
 obtain⟨off,cap,cur,h1,h2,h3,h4,h5,h6⟩:=h;rw[fw]at h1 h4 h6;have tL:off<cur.toList.length:=by rw[mZ];omega
 rw[jE tL,List.take_succ_cons,mK]at h6;injection h6 with h6 h7;have qG:=cell_of_row w g off cur 3 (0,0) h3;refine⟨off,cap,h1,h4,?_,?_⟩
 ·rw[qG,<-h6];simp[show off<cur.size by omega]
 ·by_cases hc:cap=1
  ·rw[if_pos hc];have hq:q=[]:=List.eq_nil_of_length_eq_zero (by omega);subst hq;exact⟨off,cap-1,cur,rfl,h2,h3,by simp,by omega,by simp⟩
  ·rw[if_neg hc];exact⟨off+1,cap-1,cur,rfl,h2,h3,by omega,by omega,h7⟩
theorem IU.lit(w:aG)(x:Int)(hb:base<=w.heap.size):IU (w.alloc (af #[ah ag x] 3)) base w.heap.size (ay (az ⟨w.heap.size,0,aj⟩) 1 1) [x]:=
 ⟨0,1,#[ah ag x],rfl,hb,heap_alloc_new w _,aC _,by simp,rfl⟩
theorem XR(h:IU w base g v q):∃off cap,v=ay (az ⟨g,off,aj⟩) q.length cap/\∀j u,(q.map (ah .i64))[j]?=az u->w.cell? ((⟨g,off,aj⟩:fE).add j)=az u:=by
 obtain⟨off,cap,cur,h1,h2,h3,h4,h5,h6⟩:=h;refine⟨off,cap,h1,fun j u hu=>?_⟩;have hj:j<q.length:=by
  rcases jG j q.length with h|h
  ·exact h
  ·rw[gG (by simpa using h)]at hu;cases hu
 have qG:=cell_of_row w g (off+j) cur 3 (0,0) h3;rw[Addr.add_lit,qG,<-hu,<-h6,mq,if_pos hj,rD];simp
theorem Un(h:IU w base g v q)(x:Int)(ad:fE)(c ty:Nat)(hnew:w.cell? ad=az (ah ag x))(oW:base<=w.heap.size)(hlen:q.length<=1000000):∃v' g' w',(Builtin.append_ #[26,26] ty #[v,ay (az ad) 1 c]).run aH w=.ok v' w'/\IU w' base g' v' (q++[x])/\w.grownBy w' (az g)/\(g'=g\/g'=w.heap.size):=by
 obtain⟨i0,hi0,wE,uY,wN⟩:=eQ Du;have hnews:∀j u,[ah .i64 x][j]?=az u->w.cell? (ad.add j)=az u:=fun j u hu=>by
  match j,hu with
  |0,hu=>simp at hu;subst hu;simpa[nO]using hnew
 obtain⟨aIT,cap0,hv0,hcells⟩:=XR h;obtain⟨off,cap,cur,h1,h2,h3,h4,h5,h6⟩:=h;rw[h1]at hv0;injection hv0 with e1 _ e2;injection e1 with e1;injection e1 with _ e1;subst e1;subst e2;by_cases hroom:q.length+1<=cap
 ·have qG:=cell_of_row w g (off+q.length*i0.size+0) cur 3 (0,0) h3;have hfr:=frozen_of_row w g (off+q.length*i0.size+0) cur 3 h3;have tL:off+q.length*i0.size+0<cur.size:=by rw[uY];omega
  have hsome:∀j,j<[ah .i64 x].length->(w.cell? ⟨g,off+q.length*i0.size+j,aj⟩).isSome=true:=by
   intro j hj;obtain rfl:j=0:=by simpa using hj
   rw[qG,Array.getElem?_eq_getElem tL];rfl
  have hfz:∀j,j<[ah .i64 x].length->w.frozen? ⟨g,off+q.length*i0.size+j,aj⟩=false:=by
   intro j hj;obtain rfl:j=0:=by simpa using hj
   exact hfr
  have hrun:=run_append_room_cells (P:=aH) (w:=w) 26 ty 3 i0 underlying26 hi0 g off q.length cap ad 1 c [ah ag x] (by simp[uY]) hnews (by intro u hu;simp at hu;subst hu;rfl) hroom hsome hfz;refine⟨_,g,_,by rw[h1];exact hrun,?_,?_,.inl rfl⟩
  ·refine⟨off,cap,cur.setIfInBounds (off+q.length) (ah ag x),by rw[bW];rfl,h2,?_,by simpa using hroom,by simpa using h5,?_⟩
   ·rw[uY,qm];exact heap_setCell_same w g (off+q.length) cur 3 _ h3
   ·have hcl:cur.toList.length=cur.size:=mZ;have hq:off+q.length<cur.toList.length:=by omega
    rw[Array.toList_setIfInBounds,bW,fF];apply List.ext_getElem?;intro j;rw[mq,rD];by_cases hj:j<q.length
    ·rw[if_pos (by simp;omega),List.getElem?_set_ne (by omega),List.getElem?_append_left (by simpa using hj),<-h6,mq,if_pos hj,rD]
    ·by_cases hj2:j=q.length
     ·subst hj2;rw[if_pos (by simp),List.getElem?_set_self hq,List.getElem?_append_right (by simp)];simp
     ·rw[if_neg (by simp;omega),gG (by simp;omega)]
  ·rw[uY,qm];exact⟨rfl,rfl,rfl,by simp[World.setCells,World.setCell],fun i hi nJ=>nz w ⟨g,off+q.length,aj⟩ _ i (fun e=>nJ (by rw[e]))⟩
 ·have hrun:=run_append_grow (P:=aH) (w:=w) 26 ty 3 i0 _ underlying26 hi0 wE ⟨g,off,aj⟩ q.length cap (q.map (ah .i64)) (by simp[uY]) hcells ad 1 c [ah ag x] (by simp[uY]) hnews (by omega) (by omega)
   (growslice_fits (by omega) (by rw[wN];omega))
  have hge:q.length+1<=grownCap w (q.length+1) cap 3:=by exact Go.grownCap_ge w (q.length+1) cap 3
  refine⟨_,w.heap.size,_,by rw[h1];exact hrun,?_,?_,.inr rfl⟩
  ·refine⟨0,_,_,by rw[bW];rfl,oW,heap_alloc_new w.drew _,by simpa using hge,?_,?_⟩
   ·simp[Builtin.zeroCells,yl];omega
   ·rw[bW,fF];simp only[List.drop_zero,Array.toList_append,iH,List.map_singleton];exact List.take_left' (by simp)
  ·exact⟨rfl,rfl,rfl,by simp,fun i hi _=>Cj w.drew _ i hi⟩
end
end
section
theorem NW{ops:Array Oper}{rest:List Oper}{o:Oper}{a:Act}{w:aG}{Q:Exit->Act->aG->Prop}(hgd:o.guard=aj)(s x:Operand)(ho:o.op=.call {callee:=.builtin .append,args:=#[s,x],argTypes:=#[26,26]}){base g:Nat}{v:aJ}{q:List Int}(hs:a.eval s=v)(hq:IU w base g v q)(y:Int)(ad:fE)(c:Nat)(hx:a.eval x=ay (az ad) 1 c)(hnew:w.cell? ad=az (ah ag y))(oW:base<=w.heap.size)(hlen:q.length<=1000000)(h:∀v' g' w',IU w' base g' v' (q++[y])->w.grownBy w' (az g)->(g'=g\/g'=w.heap.size)->wpList aH ops Q rest (a.put o.dst v') w'):wpList aH ops Q (o::rest) a w:=by refine wpList_plain hgd fun K hK=>?_;obtain⟨v',g',w',hrun,r1,r2,r3⟩:=Un hq y ad c o.type hnew oW hlen;unfold Oper.wp execOp;simp only[ho,resolve,invoke,builtin,Sem.run_bind,Sem.run_pure,Result.andThen_ok,List.map_toArray,mK,List.map_nil,hs,hx,hrun];exact hK _ _ (h v' g' w' r1 r2 r3)
def Ga(l:List Int):Array aJ:=(l.map (ah .i64)).toArray
theorem CJ(l:List Int)(i:Nat)(hi:i<l.length):(Ga l)[i]?=az (ah ag (l.getD i 0)):=by unfold Ga;simp[bS,hi]
theorem Qu(l:List Int)(i:Nat)(x:Int):(Ga l).setIfInBounds i (ah ag x)=Ga (l.set i x):=by unfold Ga;simp[List.map_set]
structure DS(w:aG)(n base b7 bl ry b9 gq:Nat)(node:Int)(qv:aJ)(l q:List Int):Prop where
 box:dG w b7 26 #[ay (az ⟨bl,0,aj⟩) n n]
 row:dG w bl 3 (Ga l)
 len:l.length=n
 node:dG w ry 3 #[ah ag node]
 wT:dG w b9 26 #[qv]
 Wq:IU w base gq qv q
 ne1:gq≠bl
 ne2:gq≠ry
 ne3:bl≠ry
 ne4:gq≠b7
 ne5:gq≠b9
 ne6:b7≠b9
theorem dG.tne{w:aG}{g g':Nat}{t t':dP}{cs cs':Array aJ}(h:dG w g t cs)(h':dG w g' t' cs')(nJ:t≠t'):g≠g':=dG.sZ h h' nJ
def wM(l q:List Int)(node:Int)(v:Nat):List Int×List Int:=if l.getD v 0<0 then(l.set v (l.getD node.toNat 0+1),q++[(v:Int)])else(l,q)
def Lt(w:aG)(n base b7 bl ry b9 gq:Nat)(node:Int)(l q:List Int)(w':aG):Prop:=
 ∃gq' YQ,DS w' n base b7 bl ry b9 gq' node YQ l q/\KB w.heap.size [bl,b9,gq] w w'/\(gq'=gq\/w.heap.size<=gq')
theorem Io(w:aG)(n base b7 bl ry b9 gq:Nat)(u v:Nat)(qv:aJ)(l q:List Int)(h:DS w n base b7 bl ry b9 gq (u:Int) qv l q)(oW:base<=w.heap.size)(hv:v<n)(hu:u<n)(hn:n<=1000000)(hq:q.length<=1000000)(hb:0<=l.getD u 0/\l.getD u 0<=1000000):di aH 110 #[ah ag v,au (az ⟨b7,0,aj⟩),au (az ⟨ry,0,aj⟩),au (az ⟨b9,0,aj⟩)] w fun e w'=>e=ax (.tuple #[])/\Lt w n base b7 bl ry b9 gq (u:Int) (wM l q (u:Int) v).1 (wM l q (u:Int) v).2 w':=by
 have hlen:=h.len;have c7:=h.box.one.1;have f9:=h.wT.one.2;have c9:=h.wT.one.1;have c10:=h.node.one.1;have cv:w.cell? ⟨bl,v,aj⟩=az (ah ag (l.getD v 0)):=by rw[h.row.cell];exact CJ l v (by omega)
 have cu:w.cell? ⟨bl,u,aj⟩=az (ah ag (l.getD u 0)):=by rw[h.row.cell];exact CJ l u (by omega)
 have fv:w.frozen? ⟨bl,v,aj⟩=false:=h.row.frozen v;have H:=aA h;have v0:(0:Int)<=(v:Int):=by omega
 have v1:(v:Int)<(n:Int):=by omega
 have u0:(0:Int)<=(u:Int):=by omega
 have u1:(u:Int)<(n:Int):=by omega
 have VL:aZ (wM l q (u:Int) v=if l.getD v 0<0 then(l.set v (l.getD u 0+1),q++[(v:Int)])else(l,q)):=by rw[aZ];unfold wM;rw[cO]
 obtain⟨x,hx⟩:∃x,l.getD v 0=x:=⟨_,rfl⟩;obtain⟨y,hy⟩:∃y,l.getD u 0=y:=⟨_,rfl⟩;rw[hx]at cv VL;rw[hy]at cu VL hb;clear hx hy h;by_cases hx0:x<0
 ·rw[if_pos hx0]at VL;have hq1:IntKind.i64.wrap (y+1)=y+1:=fH _ (by omega);have huv:u≠v:=fun e=>by subst e;rw[cv]at cu;injection cu with cu;injection cu with _ cu;omega
  have D:=H.o;have hg1:w.drew.grownBy (w.drew.setCell ⟨bl,v,aj⟩ (ah ag (y+1))) (az bl):=wH (zF w.drew (az bl)) (.inl rfl) _;have D1:aZ (DS (w.drew.setCell ⟨bl,v,aj⟩ (ah ag (y+1))) n base b7 bl ry b9 gq (u:Int) qv (l.set v (y+1)) q):=
   ⟨D.box.drew.Bi (p:=⟨bl,v,aj⟩) (dG.tne D.box D.row (by decide)) _,by rw[<-Qu];exact D.row.drew.jy v _,by simpa using D.len,D.node.drew.Bi (p:=⟨bl,v,aj⟩) (iB D.ne3) _,D.wT.drew.Bi (p:=⟨bl,v,aj⟩) (dG.tne D.wT D.row (by decide)) _,(D.Wq.uK (w':=w.drew) rfl).jy (p:=⟨bl,v,aj⟩) (iB D.ne1) _,D.ne1,D.ne2,D.ne3,D.ne4,D.ne5,D.ne6⟩
  have JK:aZ (KB w.heap.size [bl,b9,gq] w (w.drew.setCell ⟨bl,v,aj⟩ (ah ag (y+1)))):=((KB.refl _ _ _).drew).setCell (aC _) (.inl (by simp)) _;obtain⟨w2,Lp⟩:∃w2:aG,w.drew.setCell ⟨bl,v,aj⟩ (ah ag (y+1))=w2:=⟨_,rfl⟩;rw[Lp]at D1 JK;have KX:aZ (w2.cell? ⟨b7,0,aj⟩=az (ay (az ⟨bl,0,aj⟩) n n)/\w2.cell? ⟨ry,0,aj⟩=az (ah ag (u:Int))/\w2.cell? ⟨bl,u,aj⟩=az (ah ag y)):=by refine⟨D1.o.box.one.1,D1.o.node.one.1,?_⟩;rw[D1.o.row.cell,CJ _ u (by rw[List.length_set];omega)];have:(l.set v (y+1)).getD u 0=l.getD u 0:=(by simp[bS,iB huv]);rw[this];have h2:=D.row.cell u;rw[cu,CJ l u (by omega)]at h2;exact h2.symm
  have HW2:=aA Lp;clear hg1 D c9 f9;go_enter func110,ntmps110;go_wp2_with fail;go_region_held3 (fun W=>W.cell? ⟨b7,0,aj⟩=az (ay (az ⟨bl,0,aj⟩) n n)/\W.cell? ⟨ry,0,aj⟩=az (ah ag (u:Int))/\W.cell? ⟨bl,u,aj⟩=az (ah ag y))
   (first|exact⟨c7,c10,cu⟩|exact KX.o) (fail)
  clear Lp HW2 KX c7 c10 cv cu;have c9:=D1.o.wT.one.1;have f9:=D1.o.wT.one.2;have hsz:w.heap.size<=w2.heap.size:=JK.o.size;have aHv:=D1.o.Wq.lt;have Q1:aZ (IU (w2.alloc (af #[ah ag (v:Int)] 3)) base gq qv q):=D1.o.Wq.alloc _;have hnew:(w2.alloc (af #[ah ag (v:Int)] 3)).cell? ⟨w2.heap.size,0,aj⟩=az (ah ag (v:Int)):=by simp[go_sem]
  obtain⟨qa,qc,hqv,_⟩:=D1.o.Wq.form;subst hqv;go_wp2_with (at_builtin;refine NW rfl (.tmp 18) (.tmp 20) rfl rfl Q1.o (v:Int) ⟨w2.heap.size,0,aj⟩ 1 rfl hnew ?z1 hq ?_);case z1=>simp;omega
  intro v3 g3 w3 q3 Yl afq;obtain⟨qa3,qc3,ayl,_⟩:=q3.form;subst ayl;have s3:=Yl.size;simp at s3;have hloc:g3=gq\/w2.heap.size<=g3:=by
   rcases afq with e|e
   ·exact .inl e
   ·right;rw[e];simp
  have D2:aZ (DS (w3.setCell ⟨b9,0,aj⟩ (ay (az qa3) (q++[(v:Int)]).length qc3)) n base b7 bl ry b9 g3 (u:Int) (ay (az qa3) (q++[(v:Int)]).length qc3) (l.set v (y+1)) (q++[(v:Int)])):=by
   have D:=D1.o;have l7:=D.box.lt;have ll:=D.row.lt;have l10:=D.node.lt;have l9:=D.wT.lt;have n1:g3≠bl:=by have:=D.ne1;rcases hloc with e|e<;>omega
   have n2:g3≠ry:=by have:=D.ne2;rcases hloc with e|e<;>omega
   have n4:g3≠b7:=by have:=D.ne4;rcases hloc with e|e<;>omega
   have n5:g3≠b9:=by have:=D.ne5;rcases hloc with e|e<;>omega
   have k:∀{g:Nat} {t:dP} {cs:Array aJ},dG w2 g t cs->gq≠g->dG w3 g t cs:=fun hb nJ=>(hb.alloc _).grown Yl (by simp;exact iB nJ);exact⟨(k D.box D.ne4).Bi (p:=⟨b9,0,aj⟩) D.ne6 _,(k D.row D.ne1).Bi (p:=⟨b9,0,aj⟩) (iB (dG.tne D.wT D.row (by decide))) _,D.len,(k D.node D.ne2).Bi (p:=⟨b9,0,aj⟩) (iB (dG.tne D.wT D.node (by decide))) _,(k D.wT D.ne5).set0 _,q3.jy (p:=⟨b9,0,aj⟩) (iB n5) _,n1,n2,D.ne3,n4,n5,D.ne6⟩
  have Ti:aZ (KB w.heap.size [bl,b9,gq] w (w3.setCell ⟨b9,0,aj⟩ (ay (az qa3) (q++[(v:Int)]).length qc3))):=
   (((JK.o.alloc (aC _) _).grown (aC _) Yl (fun g e=>by injection e with e;subst e;exact .inl (by simp)))).setCell (aC _) (.inl (by simp)) _
  have F:aZ (Lt w n base b7 bl ry b9 gq (u:Int) (l.set v (y+1)) (q++[(v:Int)]) (w3.setCell ⟨b9,0,aj⟩ (ay (az qa3) (q++[(v:Int)]).length qc3))):=
   ⟨g3,_,D2.o,Ti.o,hloc.imp id (fun e=>eY hsz e)⟩
  have D:=D1.o;have cb:w3.cell? ⟨b9,0,aj⟩=az (ay (az qa) q.length qc):=(((D.wT.alloc _).grown Yl (by simp;exact iB D.ne5)).one).1;have fb:w3.frozen? ⟨b9,0,aj⟩=false:=(((D.wT.alloc _).grown Yl (by simp;exact iB D.ne5)).one).2;clear q3 Yl afq hloc D c9 f9 s3;go_wp2_with fail
  go_end0
  have F1:=F.o;rw[bW,iH]at F1;exact⟨rfl,by rw[VL.o];exact F1⟩
 ·rw[if_neg hx0]at VL;have F:aZ (Lt w n base b7 bl ry b9 gq (u:Int) l q w):=⟨gq,qv,H.o,KB.refl _ _ _,.inl rfl⟩;go_enter func110,ntmps110;go_wp2_with fail
  go_end0
  exact⟨rfl,by rw[VL.o];exact F.o⟩
end
section
def Bj(n k:Nat):List Int:=(aN n).map fun j=>if j<k then-1 else 0
theorem RL(n k:Nat):(Bj n k).length=n:=by simp[Bj]
theorem abv(n k:Nat):(Bj n k).set k (-1)=Bj n (k+1):=by apply tQ (by simp[Bj]);intro i h1 h2;rw[List.getElem_set];simp only[Bj,List.getElem_map,List.getElem_range];split<;>split<;>(try split)<;>first|rfl|omega
theorem abu(n:Nat):Bj n n=aQ n (-1):=by apply tQ (by simp[Bj]);intro i h1 h2;simp[Bj]at h1|-;omega
theorem Yd(n:Nat):Ga (Bj n 0)=eH #[ah ag 0] (n*1):=by
 apply Array.ext
 ·simp[Ga,RL,size_madeCells]
 ·intro i h1 h2;simp[Ga,Bj,eH,Nat.mod_one]
def adH(n bl:Nat)(w w3:aG)(i:aJ)(wr:aG):Prop:=
 ∃k:Nat,k<=n/\i=ah ag k/\dG wr bl 3 (Ga (Bj n k))/\KB w3.heap.size [bl] w3 wr/\aO w.heap.size w wr
def lenQ:aJ->Nat
 |.slice _ n _=>n
 |_=>0
def negs(o:Option Obj):Nat:=match o with
 |some (.cells cs _ _)=>cs.toList.countP fun v=>decide (aK v<0)
 |_=>0
def aib(b9 bl:Nat)(w:aG):Nat:=lenQ ((w.cell? ⟨b9,0,aj⟩).getD (.bool false))+negs w.heap[bl]?
def QOk(n:Nat)(l q:List Int):Prop:=∀x∈q,∃j:Nat,x=j/\j<n/\0<=l.getD j 0
structure S2(w:aG)(ns:List Nd)(cs:List Cb)(root:Nat)(pv:Array aJ)(b9 gq:Nat)(qv:aJ)(l q:List Int)(wr:aG):Prop where
 box:dG wr (w.heap.size+1+1) 26 #[ay (az ⟨w.heap.size+1,0,aj⟩) ns.length ns.length]
 row:dG wr (w.heap.size+1) 3 (Ga l)
 plan:dG wr w.heap.size 25 pv
 wT:dG wr b9 26 #[qv]
 Wq:IU wr w.heap.size gq qv q
 ne1:gq≠w.heap.size+1
 ne4:gq≠w.heap.size+1+1
 ne5:gq≠b9
 ne6:w.heap.size+1+1≠b9
 ne7:gq≠w.heap.size
 ge9:w.heap.size<=b9
 lv:Tj ns.length cs root l
 qok:QOk ns.length l q
 low:q.length+without l<=ns.length
 below:aO w.heap.size w wr
theorem ZV{w:aG}{b9 bl g base:Nat}{qv:aJ}{l q:List Int}(hr:dG w bl 3 (Ga l))(hb:dG w b9 26 #[qv])(hq:IU w base g qv q):aib b9 bl w=q.length+without l:=by obtain⟨a,c,rfl,_⟩:=hq.form;unfold aib;rw[hb.one.1];have h2:w.heap[bl]?=az (af (Ga l) 3 (0,0)):=hr;rw[h2];simp only[Option.getD_some,lenQ,negs,Ga,List.countP_map,without];rfl
theorem S2.ds{w wr:aG}{ns:List Nd}{cs:List Cb}{root b9 gq ry u:Nat}{pv:Array aJ}{qv:aJ}{l q:List Int}(hS:S2 w ns cs root pv b9 gq qv l q wr)(hn:dG wr ry 3 #[ah ag u])(nJ:gq≠ry)(h3:w.heap.size+1≠ry):DS wr ns.length w.heap.size (w.heap.size+1+1) (w.heap.size+1) ry b9 gq (u:Int) qv l q:=
 ⟨hS.box,hS.row,hS.lv.len,hn,hS.wT,hS.Wq,hS.ne1,nJ,h3,hS.ne4,hS.ne5,hS.ne6⟩
theorem S2.alloc{w wr:aG}{ns:List Nd}{cs:List Cb}{root b9 gq:Nat}{pv:Array aJ}{qv:aJ}{l q:List Int}(hS:S2 w ns cs root pv b9 gq qv l q wr)(o:Obj):S2 w ns cs root pv b9 gq qv l q (wr.alloc o):=
 ⟨hS.box.alloc _,hS.row.alloc _,hS.plan.alloc _,hS.wT.alloc _,hS.Wq.alloc _,hS.ne1,hS.ne4,hS.ne5,hS.ne6,hS.ne7,hS.ge9,hS.lv,hS.qok,hS.low,hS.below.alloc hS.below.size _⟩
theorem MJ{p:Pl}(h:fQ p=0){x:Cb}(hx:x∈p.cs):x.a≠x.b:=by
 unfold fQ at h;split at h;·cases h
 split at h;·cases h
 split at h;·cases h
 split at h;·cases h
 split at h;·cases h
 rename_i hh;simp only[Bool.not_eq_false,jS,decide_eq_true_eq]at hh;exact hh x hx
end
section
def wL(p:Pl)(n:Nat):Bool:=decide (fQ p=0)&&decide (n=p.cs.length)
theorem QH(p:Pl)(An Ac Au:Option fE)(cn cc cu m:Nat)(w:aG)(hl:p.ns.length<=1000000)(Ef:p.cs.length<=1000000)(hm:m<=1000000)(sN:QJ p)(h:jB w An Ac p):di aH 78 #[.agg #[ay An p.ns.length cn,ay Ac p.cs.length cc],ay Au m cu] w fun e w'=>e=ax (.bool (wL p m))/\aO w.heap.size w w':=by
 obtain⟨ns,cs⟩:=p;simp only at hl Ef|-;obtain⟨w1,gK⟩:∃w1:aG,w.alloc (af #[ay An ns.length cn,ay Ac cs.length cc] 25)=w1:=⟨_,rfl⟩;have s0:w1.cell? ⟨w.heap.size,0,aj⟩=az (ay An ns.length cn):=by rw[<-gK];simp[go_sem]
 have s1:w1.cell? ⟨w.heap.size,1,aj⟩=az (ay Ac cs.length cc):=by rw[<-gK];simp[go_sem]
 have Sz:w.heap.size<w1.heap.size:=by rw[<-gK];simp
 have BW:aZ (aO w.heap.size w w1):=by rw[<-gK];exact(aS _ _).alloc (aC _) _
 have H1:=aA (h.below (aC _) BW.o);have HC:=aA (zX ⟨ns,cs⟩ An Ac cn cc w1 hl Ef sN H1.o);have Bv:=aA gK;clear gK h sN;go_enter func78,ntmps78;go_wp2_with fail;rw[Bv.o];refine HC.o.mono ?_;rintro e w2 ⟨rfl,gB⟩;have c1:=(gB.cell (p:=⟨w.heap.size,1,aj⟩) Sz).trans s1;have BF:aZ (aO w.heap.size w w2):=BW.o.trans (gB.mono BW.o.size);clear gB HC s0 s1 Bv;cases hv:fQ ⟨ns,cs⟩==0 with
 |false=>
  have F:aZ (wL ⟨ns,cs⟩ m=false):=by rw[aZ];unfold wL;rw[decide_eq_false (by simpa using hv)];rfl
  generalize fQ ⟨ns,cs⟩=z at *;go_wp2_with fail;go_ret;exact⟨by rw[F.o];rfl,BF.o⟩
 |true=>
  have hv0:fQ ⟨ns,cs⟩=0:=by simpa using hv
  have F:aZ (wL ⟨ns,cs⟩ m=decide (m=cs.length)):=by rw[aZ];unfold wL;rw[decide_eq_true hv0];rfl
  rw[hv0];clear hv hv0;by_cases Iq:m=cs.length
  ·have F2:aZ (wL ⟨ns,cs⟩ m=true):=by rw[aZ,F.o,decide_eq_true Iq]
   go_wp2_with fail;go_ret
   exact⟨by rw[F2.o];first|rfl|(simp;omega),BF.o⟩
  ·have F2:aZ (wL ⟨ns,cs⟩ m=false):=by rw[aZ,F.o,decide_eq_false Iq]
   go_wp2_with fail;go_ret
   exact⟨by rw[F2.o];first|rfl|(simp;omega),BF.o⟩
def adB(p:Pl)(us:List Bool)(root:Int):Prop:=fQ p=0/\us.length=p.cs.length/\0<=root/\root<p.ns.length
end
section
abbrev St:=Nat×Bool
abbrev zA:=St->Option Nat
def wW(f:zA)(s:St)(v:Nat):zA:=fun x=>if x=s then az v else f x
def Gc(lv:List Int)(u v:Nat):Bool:=qL lv (v:Int) (u:Int)
def Mr(lv:List Int)(s:St)(o:Nat):St:=(o,!Gc lv s.1 o)
def FY(lv:List Int)(s:St)(o:Nat):Bool:=!Gc lv s.1 o||!s.2
def impr(lv:List Int)(f:zA)(s:St)(o:Nat):Option Nat:=
 if FY lv s o=true then
  match f (Mr lv s o)with
  |none=>aj
  |some d=>match f s with
   |none=>az (d+1)
   |some old=>if old<=d+1 then aj else az (d+1)
 else aj
def arM(f:zA)(s:St):Option Nat->zA
 |none=>f
 |some v=>wW f s v
def NL(n:Nat):List St:=(aN n).flatMap fun i=>[(i,false),(i,true)]
def MZ:Option Nat->Nat
 |none=>1000
 |some d=>d
def Qq(n:Nat)(f:zA):Nat:=((NL n).map fun s=>MZ (f s)).sum
def kn(n:Nat)(f:zA):Nat:=(NL n).countP fun s=>(f s).isSome
theorem FQ{n:Nat}{s:St}:s∈NL n↔s.1<n:=by
 obtain⟨i,b⟩:=s;unfold NL;simp only[List.mem_flatMap,dK,dM,List.not_mem_nil,or_false,Prod.mk.injEq];constructor
 ·rintro⟨j,hj,h|h⟩<;>omega
 ·intro h;refine⟨i,h,?_⟩;cases b<;>simp
theorem LF(n:Nat):NL (n+1)=NL n++[(n,false),(n,true)]:=by unfold NL;rw[dL,fU];simp
theorem UT(n:Nat):(NL n).length=2*n:=by
 induction n with
 |zero=>rfl
 |succ n ih=>rw[LF,bW,ih];simp;omega
theorem Xx(n:Nat):(NL n).Nodup:=by
 induction n with
 |zero=>exact List.nodup_nil
 |succ n ih=>rw[LF,List.nodup_append];refine⟨ih,by simp,fun a ha b hb=>?_⟩;have h1:=FQ.1 ha;rintro rfl;simp at hb;rcases hb with h|h<;>(rw[h]at h1;simp at h1)
theorem aiA{α:Type}[DecidableEq α](g g':α->Nat)(s:α)(hg:∀x,x≠s->g' x=g x):∀L:List α,L.Nodup->s∈L->(L.map g').sum+g s=(L.map g).sum+g' s:=by
 intro L
 induction L with
 |nil=>intro _ h;cases h
 |cons x L ih=>
  intro hn hs;obtain⟨h1,h2⟩:=qb.1 hn;rw[mK,mK,List.sum_cons,List.sum_cons];by_cases e:x=s
  ·subst e;have:L.map g'=L.map g:=List.map_congr_left fun y hy=>hg y (fun e=>h1 (e▸hy));rw[this];omega
  ·rcases dM.1 hs with h|h
   ·exact absurd h.symm e
   ·have:=ih h2 h;rw[hg x e];omega
theorem Pf{α:Type}(p q:α->Bool)(h:∀x,p x=true->q x=true)(L:List α):L.countP p<=L.countP q:=by
 induction L with
 |nil=>simp
 |cons x L ih=>
  rw[oZ,oZ];have:=h x;cases hp:p x
  ·simp;omega
  ·rw[this hp];simp;omega
theorem XZ{α:Type}(p q:α->Bool)(h:∀x,p x=true->q x=true)(s:α)(hp:p s=false)(hq:q s=true):∀L:List α,s∈L->L.countP p+1<=L.countP q:=by
 intro L
 induction L with
 |nil=>intro h;cases h
 |cons x L ih=>
  intro hs;rw[oZ,oZ];rcases dM.1 hs with e|hs
  ·subst e;rw[hp,hq];have:=Pf p q h L;simp;omega
  ·have:=ih hs;have hx:=h x;cases hpx:p x
   ·simp;omega
   ·rw[hx hpx];simp;omega
theorem Ul{n:Nat}{f:zA}{s:St}{v:Nat}(hs:s.1<n):Qq n (wW f s v)+MZ (f s)=Qq n f+v:=by
 have:=aiA (fun x=>MZ (f x)) (fun x=>MZ (wW f s v x)) s (fun x hx=>by unfold wW;rw[if_neg hx]) (NL n) (Xx n) (FQ.2 hs);unfold Qq;have e:MZ (wW f s v s)=v:=by unfold wW;rw[if_pos rfl];rfl
 rw[e]at this;exact this
theorem afi(n:Nat)(f:zA):kn n f<=2*n:=by unfold kn;have:=List.countP_le_length (p:=fun s=>(f s).isSome) (l:=NL n);rw[UT]at this;exact this
theorem SN{f:zA}{s:St}{v:Nat}(x:St)(h:(f x).isSome=true):(wW f s v x).isSome=true:=by
 unfold wW;split
 ·rfl
 ·exact h
def Sup(n:Nat)(cs:List Cb)(us:List Bool)(lv:List Int)(f:zA)(s:St)(d:Nat):Prop:=
 ∃i,i<cs.length/\us.getD i false=true/\∃o,o<n/\touch (cs.getD i gV) (s.1:Nat) o/\FY lv s o=true/\∃d',f (Mr lv s o)=az d'/\d'+1<=d
structure SI(n:Nat)(cs:List Cb)(us:List Bool)(lv:List Int)(to:Nat)(f:zA):Prop where
 tlt:to<n
 tlv:0<=lv.getD to 0
 t0:∀b,f (to,b)=az 0
 sup:∀s d,f s=az d->s.1<n/\0<=lv.getD s.1 0/\((s.1=to/\d=0)\/Sup n cs us lv f s d)
 bnd:∀s d,f s=az d->d+1<=kn n f
section
variable{n:Nat}{cs:List Cb}{us:List Bool}{lv:List Int}{to:Nat}{f:zA}
theorem abP{s:St}{o v:Nat}(h:impr lv f s o=az v):FY lv s o=true/\∃d,f (Mr lv s o)=az d/\v=d+1/\(f s=aj\/∃old,f s=az old/\d+1<old):=by
 unfold impr at h;split at h
 ·rename_i hp;refine⟨hp,?_⟩;split at h
  ·cases h
  ·rename_i d hd;refine⟨d,hd,?_⟩;split at h
   ·rename_i hs;injection h with h;exact⟨h.symm,.inl hs⟩
   ·rename_i old hs;split at h
    ·cases h
    ·injection h with h;exact⟨h.symm,.inr ⟨old,hs,by omega⟩⟩
 ·cases h
theorem SI.step(h:SI n cs us lv to f)(hn:n<=100){i o v:Nat}{s:St}(hi:i<cs.length)(hu:us.getD i false=true)(ht:touch (cs.getD i gV) s.1 o)(hs:s.1<n)(ho:o<n)(nJ:s.1≠o)(hl:0<=lv.getD s.1 0)(hv:impr lv f s o=az v):SI n cs us lv to (wW f s v)/\Qq n (wW f s v)<Qq n f:=by
 obtain⟨hp,d,hd,rfl,hold⟩:=abP hv;have Cv:s.1≠to:=by
  intro e;have:f s=az 0:=by have:=h.t0 s.2;rw[<-e]at this;exact this
  rcases hold with h1|⟨old,h1,h2⟩
  ·rw[h1]at this;cases this
  ·rw[h1]at this;injection this with this;omega
 have hnx:Mr lv s o≠s:=fun e=>nJ (by rw[<-e];rfl);have hk:kn n f<=kn n (wW f s (d+1)):=Pf _ _ (fun x hx=>SN x hx) _;have hself:wW f s (d+1) s=az (d+1):=by unfold wW;rw[if_pos rfl]
 have hoth:∀x,x≠s->wW f s (d+1) x=f x:=fun x hx=>by unfold wW;rw[if_neg hx]
 have hb:=h.bnd _ _ hd;have hbs:d+1+1<=kn n (wW f s (d+1)):=by
  rcases hold with h1|⟨old,h1,h2⟩
  ·have:kn n f+1<=kn n (wW f s (d+1)):=XZ _ _ (fun x hx=>SN x hx) s (by rw[h1];rfl) (by rw[hself];rfl) _ (FQ.2 hs);omega
  ·have:=h.bnd _ _ h1;omega
 refine⟨⟨h.tlt,h.tlv,fun b=>?_,fun x d0 hx=>?_,fun x d0 hx=>?_⟩,?_⟩
 ·rw[hoth _ (fun e=>Cv (by rw[<-e]))];exact h.t0 b
 ·by_cases e:x=s
  ·subst e;rw[hself]at hx;injection hx with hx;subst hx;exact⟨hs,hl,.inr ⟨i,hi,hu,o,ho,ht,hp,d,by rw[hoth _ hnx];exact hd,aC _⟩⟩
  ·rw[hoth _ e]at hx;obtain⟨h1,h2,h3⟩:=h.sup x d0 hx;refine⟨h1,h2,?_⟩;rcases h3 with h3|⟨j,hj,huj,o',ho',htj,hpj,d',Ap,hle⟩
   ·exact .inl h3
   ·right;refine⟨j,hj,huj,o',ho',htj,hpj,?_⟩;by_cases e2:Mr lv x o'=s
    ·rw[e2]at Ap|-;refine⟨d+1,hself,?_⟩;rcases hold with h4|⟨old,h4,h5⟩
     ·rw[h4]at Ap;cases Ap
     ·rw[h4]at Ap;injection Ap with Ap;omega
    ·exact⟨d',by rw[hoth _ e2];exact Ap,hle⟩
 ·by_cases e:x=s
  ·subst e;rw[hself]at hx;injection hx with hx;subst hx;exact hbs
  ·rw[hoth _ e]at hx;have:=h.bnd _ _ hx;omega
 ·have h1:=Ul (n:=n) (f:=f) (s:=s) (v:=d+1) hs;have h2:=afi n (wW f s (d+1));rcases hold with h3|⟨old,h3,h4⟩
  ·rw[h3]at h1;simp only[MZ]at h1;omega
  ·rw[h3]at h1;simp only[MZ]at h1;omega
def Ak(to:Nat):zA:=wW (wW (fun _=>aj) (to,false) 0) (to,true) 0
theorem Ns{s:St}{d:Nat}(h:Ak to s=az d):s.1=to/\d=0:=by
 unfold Ak wW at h;split at h
 ·rename_i e;injection h with h;exact⟨by rw[e],h.symm⟩
 ·split at h
  ·rename_i e;injection h with h;exact⟨by rw[e],h.symm⟩
  ·cases h
theorem acL(b:Bool):Ak to (to,b)=az 0:=by unfold Ak wW;cases b<;>simp
theorem SI.start(ht:to<n)(hl:0<=lv.getD to 0):SI n cs us lv to (Ak to):=by
 refine⟨ht,hl,acL,fun s d h=>?_,fun s d h=>?_⟩
 ·obtain⟨h1,h2⟩:=Ns h;exact⟨by rw[h1];exact ht,by rw[h1];exact hl,.inl ⟨h1,h2⟩⟩
 ·obtain⟨h1,rfl⟩:=Ns h;have:0<kn n (Ak to):=List.countP_pos_iff.2 ⟨s,FQ.2 (by rw[h1];exact ht),by rw[h];rfl⟩;omega
def PSr(n:Nat)(cs:List Cb)(us:List Bool)(lv:List Int)(to:Nat)(f0:zA)(L:List (St×Nat))(c:Bool)(f:zA):Prop:=
 SI n cs us lv to f/\((c=true/\Qq n f<Qq n f0)\/(c=false/\f=f0/\∀x∈L,impr lv f x.1 x.2=aj))
theorem PSr.start(h:SI n cs us lv to f):PSr n cs us lv to f [] false f:=⟨h,.inr ⟨rfl,rfl,by simp⟩⟩
theorem PSr.amR{f0:zA}{L:List (St×Nat)}{c:Bool}(h:PSr n cs us lv to f0 L c f):Qq n f<=Qq n f0:=by
 rcases h.2 with⟨_,h⟩|⟨_,h,_⟩
 ·omega
 ·rw[h];exact aC _
theorem PSr.step{f0:zA}{L:List (St×Nat)}{c:Bool}(h:PSr n cs us lv to f0 L c f)(hn:n<=100){i o:Nat}{s:St}(hi:i<cs.length)(hu:us.getD i false=true)(ht:touch (cs.getD i gV) s.1 o)(hs:s.1<n)(ho:o<n)(nJ:s.1≠o)(hl:0<=lv.getD s.1 0):PSr n cs us lv to f0 (L++[(s,o)]) ((impr lv f s o).isSome||c) (arM f s (impr lv f s o)):=by
 cases hv:impr lv f s o with
 |none=>
  refine⟨h.1,?_⟩;rcases h.2 with⟨h1,h2⟩|⟨h1,h2,h3⟩
  ·exact .inl ⟨by rw[h1];rfl,h2⟩
  ·refine .inr ⟨by rw[h1];rfl,h2,fun x hx=>?_⟩;rcases dU.1 hx with hx|hx
   ·exact h3 x hx
   ·obtain rfl:=dh.1 hx;exact hv
 |some v=>obtain⟨h1,h2⟩:=h.1.step hn hi hu ht hs ho nJ hl hv;exact⟨h1,.inl ⟨rfl,bY h2 h.amR⟩⟩
end
def acQ(cs:List Cb)(us:List Bool)(lv:List Int)(i:Nat):List (St×Nat):=
 if us.getD i false=true/\0<=lv.getD (cs.getD i gV).a.toNat 0/\0<=lv.getD (cs.getD i gV).b.toNat 0 then
  [(((cs.getD i gV).a.toNat,false),(cs.getD i gV).b.toNat),(((cs.getD i gV).b.toNat,false),(cs.getD i gV).a.toNat),(((cs.getD i gV).a.toNat,true),(cs.getD i gV).b.toNat),(((cs.getD i gV).b.toNat,true),(cs.getD i gV).a.toNat)]
 else[]
def xU(cs:List Cb)(us:List Bool)(lv:List Int)(k:Nat):List (St×Nat):=(aN k).flatMap (acQ cs us lv)
theorem Ld(cs:List Cb)(us:List Bool)(lv:List Int)(k:Nat):xU cs us lv (k+1)=xU cs us lv k++acQ cs us lv k:=by unfold xU;rw[dL,fU];simp
def Found(n:Nat)(cs:List Cb)(us:List Bool)(lv:List Int)(to:Nat)(f:zA):Prop:=
 (lv.getD to 0<0/\f=fun _=>aj)\/(SI n cs us lv to f/\∀x∈xU cs us lv cs.length,impr lv f x.1 x.2=aj)
end
section
theorem akh:(254:dP)<Tryz.prog.types.size:=of_decide_eq_true (by kernel_rfl)
theorem ZK:Tryz.prog.cellsOf 254=2:=by kernel_rfl
theorem abk:Tryz.prog.cellsOf 4=1:=by kernel_rfl
theorem alB:Tryz.prog.keyType 254=true:=by kernel_rfl
theorem ani:(match Tryz.prog.underlying 254 with|some (.array _ _)|some (.struct _)=>true|_=>false)=true:=by rw[underlying254]
theorem ahy:Tryz.prog.keyTypeAt 2 254=true:=by kernel_rfl
theorem aml:WideMaps.KeyLaw aH 254:=deep_law_laid VR (m:=2) (by omega) akh ahy ani
theorem yB:Keyed aH 254:=Keyed.of_law aml
def Po(x:St):aJ:=.agg #[ah ag (x.1:Int),.bool x.2]
def ahe(x:St):Prop:=(Lit.int .i64 (x.1:Int)).wf=true
def Sq(x:St):Lit:=.string (keyBytes [.int .i64 (x.1:Int),.bool x.2])
theorem aeI(x:St):(Po x).formed aH 254=true:=by simp[Po,Value.formed,underlying254,ZK]
theorem PZ{x:St}(h:ahe x):keyOf aH 254 (Po x)=az (Sq x):=by unfold keyOf;rw[underlying254];simp only[alB,aeI,Bool.and_self,if_true];have hs:∃n,Tryz.prog.types.size=n+1:=⟨Tryz.prog.types.size-1,by have h:0<Tryz.prog.types.size:=Nat.lt_of_le_of_lt (bJ _) akh;omega⟩;obtain⟨n,hn⟩:=hs;rw[hn];unfold ahe at h;simp[Program.keyLits,underlying254,underlying3,underlying4,ZK,Vg,abk,Po,yl,h,Sq]
theorem abp{x y:St}(h:Po x=Po y):x=y:=by unfold Po at h;simp at h;obtain⟨h1,h2⟩:=h;exact Prod.ext (by omega) h2
theorem ain{x y:St}(hx:ahe x)(hy:ahe y)(h:Sq x=Sq y):x=y:=by have h1:=PZ hx;have h2:=PZ hy;rw[<-h]at h2;exact abp (yB.inj h1 h2)
theorem aio(x:St):WideAt.IsKeyLit (Sq x):=trivial
theorem JA{i:Nat}(h:i<1000000):(Lit.int .i64 (i:Int)).wf=true:=pO _ (by omega) (by omega)
def xA(w:aG)(b n:Nat)(f:zA):Prop:=
 ∃m M,m+Qq n f<=1000000/\jL w aH 254 b m M/\∀x:St,x.1<1000000->M (Sq x)=(f x).map fun d=>ah ag (d:Int)
section
variable{w w':aG}{b n:Nat}{f:zA}
theorem xA.lt(h:xA w b n f):b<w.heap.size:=by obtain⟨_,_,_,h,_⟩:=h;exact h.lt
theorem xA.alloc(h:xA w b n f)(o:Obj):xA (w.alloc o) b n f:=by obtain⟨m,M,h1,h2,h3⟩:=h;exact⟨m,M,h1,h2.alloc o,h3⟩
theorem xA.below{B:Nat}(h:xA w b n f)(hb:aO B w w')(tL:b<B):xA w' b n f:=by obtain⟨m,M,h1,h2,h3⟩:=h;exact⟨m,M,h1,h2.below hb tL,h3⟩
theorem acv{M:Lit->Option aJ}{s:St}(v:aJ):uC M (Sq s) v (Sq s)=az v:=by unfold uC;rw[if_pos (WideAt.sameKey_self (aio s))]
theorem YO{M:Lit->Option aJ}{s x:St}(hs:s.1<1000000)(hx:x.1<1000000)(nJ:x≠s)(v:aJ):uC M (Sq s) v (Sq x)=M (Sq x):=by unfold uC;rw[if_neg];intro h;exact nJ (ain (JA hx) (JA hs) (WideAt.sameKey_eq h))
theorem Qs{M:Lit->Option aJ}{s:St}{v:Nat}(hs:s.1<1000000)(hM:∀x:St,x.1<1000000->M (Sq x)=(f x).map fun d=>ah ag (d:Int)):∀x:St,x.1<1000000->uC M (Sq s) (ah ag (v:Int)) (Sq x)=(wW f s v x).map fun d=>ah ag (d:Int):=by
 intro x hx;unfold wW;by_cases e:x=s
 ·subst e;rw[if_pos rfl,acv];rfl
 ·rw[if_neg e,YO hs hx e,hM x hx]
end
theorem afY(lv:List Int)(Al:Option fE)(cl:Nat)(s:St)(o:Nat)(w:aG)(hl:lv.length<=1000000)(h:gH 1 cI 0 w Al lv.length lv):di aH 172 #[.agg #[ay Al lv.length cl],.agg #[ah ag (s.1:Int),.bool s.2],ah ag (o:Int)] w fun e w'=>e=ax (.tuple #[.agg #[ah ag (o:Int),.bool (!Gc lv s.1 o)],.bool (FY lv s o)])/\aO w.heap.size w w':=by
 obtain⟨u,fl⟩:=s;simp only;obtain⟨w1,gK⟩:∃w1:aG,((w.alloc (af #[ay Al lv.length cl] 169)).alloc (af #[ah ag (u:Int),.bool fl] 254)).alloc (af #[ah ag 0,.bool false] 254)=w1:=⟨_,rfl⟩;have Gg:aO w.heap.size w w1:=by rw[<-gK];exact(((aS _ _).alloc (aC _) _).alloc (by simp) _).alloc (by simp;omega) _
 have s0:w1.cell? ⟨w.heap.size,0,aj⟩=az (ay Al lv.length cl):=by rw[<-gK];simp[go_sem]
 have s1:w1.cell? ⟨w.heap.size+1,0,aj⟩=az (ah ag (u:Int)):=by rw[<-gK];simp[go_sem]
 have s2:w1.cell? ⟨w.heap.size+1,1,aj⟩=az (.bool fl):=by rw[<-gK];simp[go_sem]
 have R1:aZ (dG w1 (w.heap.size+1+1) 254 #[ah ag 0,.bool false]):=by rw[<-gK];have:=dG.new ((w.alloc (af #[ay Al lv.length cl] 169)).alloc (af #[ah ag (u:Int),.bool fl] 254)) 254 #[ah ag 0,.bool false];rw[aZ];simpa using this
 have Sz:w.heap.size+1+1<w1.heap.size:=by rw[<-gK];simp
 have L1:=aA (h.below (aC _) Gg);have BW:=aA Gg;have HC:=aA (LC lv Al cl (o:Int) (u:Int) w1 hl L1.o);have Bv:=aA gK;clear h gK Gg;go_enter func172,ntmps172;go_wp2_with fail;rw[Bv.o];refine HC.o.mono ?_;rintro e w2 ⟨rfl,gB⟩;have c0:=(gB.cell (p:=⟨w.heap.size+1,0,aj⟩) (by show w.heap.size+1<_;omega)).trans s1;have c1:=(gB.cell (p:=⟨w.heap.size+1,1,aj⟩) (by show w.heap.size+1<_;omega)).trans s2;have R2:=R1.o.below gB R1.o.lt;have r0:w2.cell? ⟨w.heap.size+1+1,0,aj⟩=az (ah ag 0):=by rw[R2.cell];rfl
 have r1:w2.cell? ⟨w.heap.size+1+1,1,aj⟩=az (.bool false):=by rw[R2.cell];rfl
 have q0:w2.frozen? ⟨w.heap.size+1+1,0,aj⟩=false:=R2.frozen 0;have q1:w2.frozen? ⟨w.heap.size+1+1,1,aj⟩=false:=R2.frozen 1;have BF:aZ (aO w.heap.size w w2):=BW.o.trans (gB.mono BW.o.size);clear gB HC s0 s1 s2 Bv R2;have E:qL lv (o:Int) (u:Int)=Gc lv u o:=rfl;rw[E];clear E;have P:aZ (FY lv (u,fl) o=(!Gc lv u o||!fl)):=rfl;cases hu:Gc lv u o with
 |false=>
  have U:=aA hu;rw[hu]at P;clear hu;go_wp2_with fail;go_region;all_goals
   go_wp2_with fail;refine bodyPost_ret (v:=.tuple #[.agg #[ah ag (o:Int),.bool true],.bool true]) (by simp[results,Ea,go_sem,r0,r1]) rfl ?_
   exact⟨by rw[P.o,U.o];rfl,((BF.o.setCell (by simp;omega) _).setCell (by simp;omega) _).drew⟩
 |true=>
  have U:=aA hu;rw[hu]at P;clear hu;cases fl;all_goals
   go_wp2_with fail;go_region
   all_goals
    go_wp2_with fail
    first
     |refine bodyPost_ret (v:=.tuple #[.agg #[ah ag (o:Int),.bool false],.bool true]) (by simp[results,Ea,go_sem,r0,r1]) rfl ⟨by rw[P.o,U.o];rfl,((BF.o.setCell (by simp;omega) _).setCell (by simp;omega) _).drew⟩
     |refine bodyPost_ret (v:=.tuple #[.agg #[ah ag (o:Int),.bool false],.bool false]) (by simp[results,Ea,go_sem,r0,r1]) rfl ⟨by rw[P.o,U.o];rfl,((BF.o.setCell (by simp;omega) _).setCell (by simp;omega) _).drew⟩
end
section
def EU(w:aG)(bm n:Nat)(lv:List Int)(f:zA)(s:St)(o:Nat)(e:iL)(w':aG):Prop:=
 e=ax (.bool (impr lv f s o).isSome)/\xA w' bm n (arM f s (impr lv f s o))/\KB w.heap.size [bm] w w'
theorem afa(lv:List Int)(Al:Option fE)(cl b5 b9 bm n:Nat)(f:zA)(s:St)(o:Nat)(w:aG)(hl:lv.length<=1000000)(h:gH 1 cI 0 w Al lv.length lv)(h5:dG w b5 169 #[ay Al lv.length cl])(h9:dG w b9 251 #[.map (az bm)])(hm:xA w bm n f)(hs:s.1<1000000)(ho:o<1000000)(hb:∀x d,f x=az d->d<=1000000)(hc:∀v,impr lv f s o=az v->Qq n (wW f s v)<Qq n f):di aH 171 #[.agg #[ah ag (s.1:Int),.bool s.2],ah ag (o:Int),au (az ⟨b5,0,aj⟩),au (az ⟨b9,0,aj⟩)] w (EU w bm n lv f s o):=by
 obtain⟨u,fl⟩:=s;simp only at hs|-;obtain⟨w1,gK⟩:∃w1:aG,w.alloc (af #[ah ag (u:Int),.bool fl] 254)=w1:=⟨_,rfl⟩;have Gg:aO w.heap.size w w1:=by rw[<-gK];exact(aS _ _).alloc (aC _) _
 have c5:w.cell? ⟨b5,0,aj⟩=az (ay Al lv.length cl):=h5.one.1;have l5:=h5.lt;have D1:aZ (dG w1 w.heap.size 254 #[ah ag (u:Int),.bool fl]):=by rw[<-gK];exact dG.new _ _ _
 have B9:=aA (h9.below Gg h9.lt);have M1:=aA (hm.below Gg hm.lt);have Sz:w.heap.size<w1.heap.size:=by rw[<-gK];simp
 have L1:=aA (h.below (aC _) Gg);have BW:=aA Gg;have HC:=afY lv Al cl (u,fl) o w1 hl L1.o;obtain⟨nb,hnb⟩:∃nb,(!Gc lv u o)=nb:=⟨_,rfl⟩;obtain⟨pb,hpb⟩:∃pb,FY lv (u,fl) o=pb:=⟨_,rfl⟩;simp only[hnb,hpb]at HC;have NX:aZ (Mr lv (u,fl) o=(o,nb)):=by rw[aZ,<-hnb];rfl
 have IM:aZ (impr lv f (u,fl) o=if pb=true then(match f (o,nb)with
  |none=>aj
  |some d=>match f (u,fl)with
   |none=>az (d+1)
   |some old=>if old<=d+1 then aj else az (d+1))else aj):=by rw[aZ,<-hpb,<-NX.o];rfl
 have HCC:=aA HC;have Bv:=aA gK;have HB:=aA hb;have HCO:=aA hc;have kN:keyOf aH 254 (.agg #[ah ag (o:Int),.bool nb])=az (Sq (o,nb)):=PZ (x:=(o,nb)) (JA ho);have kS:keyOf aH 254 (.agg #[ah ag (u:Int),.bool fl])=az (Sq (u,fl)):=PZ (x:=(u,fl)) (JA hs);have KN:=aA kN;have KS:=aA kS;clear gK hnb hpb HC h h5 h9 hm hb hc Gg kN kS;go_enter func171,ntmps171;go_wp2_with fail;rw[Bv.o];refine HCC.o.mono ?_;rintro e w2 ⟨rfl,gB⟩;have D2:=aA (D1.o.below gB D1.o.lt);have d0:w2.cell? ⟨w.heap.size,0,aj⟩=az (ah ag (u:Int)):=by rw[D2.o.cell];rfl
 have d1:w2.cell? ⟨w.heap.size,1,aj⟩=az (.bool fl):=by rw[D2.o.cell];rfl
 have c9:w2.cell? ⟨b9,0,aj⟩=az (.map (az bm)):=(B9.o.below gB B9.o.lt).one.1;have l9:b9<w2.heap.size:=(B9.o.below gB B9.o.lt).lt;have ld:w.heap.size<w2.heap.size:=D2.o.lt;have BF:aZ (aO w.heap.size w w2):=BW.o.trans (gB.mono BW.o.size);obtain⟨w3,zZ⟩:∃w3:aG,w2.alloc (af #[ah ag (o:Int),.bool nb] 254)=w3:=⟨_,rfl⟩;have BF3:aZ (aO w.heap.size w w3):=by rw[<-zZ];exact BF.o.alloc BF.o.size _
 have M3:aZ (xA w3 bm n f):=by rw[<-zZ];exact(M1.o.below gB M1.o.lt).alloc _
 have SAME:impr lv f (u,fl) o=aj->aZ (EU w bm n lv f (u,fl) o (ax (.bool false)) w3):=fun e=>by rw[aZ];unfold EU;rw[e];exact⟨rfl,M3.o,(KB.refl _ _ _).below (aC _) BF3.o⟩
 obtain⟨m,M,hmm,om,hM⟩:=M3.o;have OM:aZ (jL (w2.alloc (af #[ah ag (o:Int),.bool nb] 254)) aH 254 bm m M):=by rw[zZ];exact om
 have mN:=hM (o,nb) ho;have mS:=hM (u,fl) hs;have HMM:=aA hM;have OM3:=aA om;have HW3:=aA zZ;clear zZ gB hM om c5;obtain⟨ff,hff⟩:∃ff,f (o,nb)=ff:=⟨_,rfl⟩;obtain⟨fs,hfs⟩:∃fs,f (u,fl)=fs:=⟨_,rfl⟩;rw[hff]at IM mN;rw[hfs]at IM mS;have MN:=aA mN;have MS:=aA mS;have HFF:=aA hff;have HFS:=aA hfs;clear hff hfs mN mS;cases pb with
 |false=>
  have F:=SAME (by rw[IM.o];rfl);clear SAME;cases ff<;>cases fs
  all_goals
   go_wp2_with (first
    |(at_lookup;refine jQ _ rfl _ _ 251 rfl 254 3 yB underlying251 (ah ag 0) (uT _) bm m M rfl OM.o _ _ rfl KN.o ?_;rw[MN.o])
    |(at_lookup;refine jQ _ rfl _ _ 251 rfl 254 3 yB underlying251 (ah ag 0) (uT _) bm m M rfl OM.o _ _ rfl KS.o ?_;rw[MS.o]))
   go_ret;rw[HW3.o]
   exact F.o
 |true=>
  cases ff with
  |none=>
   have F:=SAME (by rw[IM.o];rfl);clear SAME;cases fs;all_goals
    go_wp2_with (first
     |(at_lookup;refine jQ _ rfl _ _ 251 rfl 254 3 yB underlying251 (ah ag 0) (uT _) bm m M rfl OM.o _ _ rfl KN.o ?_;rw[MN.o])
     |(at_lookup;refine jQ _ rfl _ _ 251 rfl 254 3 yB underlying251 (ah ag 0) (uT _) bm m M rfl OM.o _ _ rfl KS.o ?_;rw[MS.o]))
    go_ret;rw[HW3.o]
    exact F.o
  |some d=>
   have hd:d<=1000000:=HB.o _ _ HFF.o;have UPD:aZ (impr lv f (u,fl) o=az (d+1)->∀w4,jL w4 aH 254 bm (m+1) (uC M (Sq (u,fl)) (ah ag ((d:Int)+1)))->w3.grownBy w4 (az bm)->EU w bm n lv f (u,fl) o (ax (.bool true)) w4):=fun e w4 Sb hg=>(by have aDh:=HCO.o _ e;unfold EU;rw[e];refine⟨rfl,⟨m+1,_,by show m+1+Qq n (wW f (u,fl) (d+1))<=_;omega,Sb,?_⟩,((KB.refl _ _ _).below (aC _) BF3.o).grown (aC _) hg (fun g e=>by injection e with e;subst e;exact .inl (by simp))⟩;exact Qs hs HMM.o);cases fs with
   |none=>
    have IMS:aZ (impr lv f (u,fl) o=az (d+1)):=(by rw[aZ,IM.o];rfl);clear SAME;go_wp2_with (first
     |(at_lookup;refine jQ _ rfl _ _ 251 rfl 254 3 yB underlying251 (ah ag 0) (uT _) bm m M rfl OM.o _ _ rfl KN.o ?_;rw[MN.o])
     |(at_lookup;refine jQ _ rfl _ _ 251 rfl 254 3 yB underlying251 (ah ag 0) (uT _) bm m M rfl OM.o _ _ rfl KS.o ?_;rw[MS.o])|(at_mapUpdate;refine vB _ rfl _ _ _ 251 rfl 254 3 yB underlying251 bm m M rfl OM.o ?c1 _ _ _ rfl rfl KS.o ?_))
    case c1=>unfold fJ;omega
    intro w4 Sb hg;rw[HW3.o]at hg;have F:=UPD.o IMS.o w4 Sb hg;have FF:=aA F;clear Sb hg F;go_wp2_with fail;go_ret;exact FF.o
   |some old=>
    have ho:old<=1000000:=HB.o _ _ HFS.o;by_cases hle:old<=d+1
    ·have F:=SAME (by rw[IM.o];simp[hle]);clear SAME;have hle2:(old:Int)<=(d:Int)+1:=(by omega);clear hle;go_wp2_with (first
     |(at_lookup;refine jQ _ rfl _ _ 251 rfl 254 3 yB underlying251 (ah ag 0) (uT _) bm m M rfl OM.o _ _ rfl KN.o ?_;rw[MN.o])
     |(at_lookup;refine jQ _ rfl _ _ 251 rfl 254 3 yB underlying251 (ah ag 0) (uT _) bm m M rfl OM.o _ _ rfl KS.o ?_;rw[MS.o]))
     go_ret;rw[HW3.o]
     exact F.o
    ·have IMS:aZ (impr lv f (u,fl) o=az (d+1)):=by rw[aZ,IM.o];simp[hle]
     clear SAME;have hle2:¬(old:Int)<=(d:Int)+1:=by omega
     clear hle;go_wp2_with (first
     |(at_lookup;refine jQ _ rfl _ _ 251 rfl 254 3 yB underlying251 (ah ag 0) (uT _) bm m M rfl OM.o _ _ rfl KN.o ?_;rw[MN.o])
     |(at_lookup;refine jQ _ rfl _ _ 251 rfl 254 3 yB underlying251 (ah ag 0) (uT _) bm m M rfl OM.o _ _ rfl KS.o ?_;rw[MS.o])|(at_mapUpdate;refine vB _ rfl _ _ _ 251 rfl 254 3 yB underlying251 bm m M rfl OM.o ?c2 _ _ _ rfl rfl KS.o ?_))
     case c2=>unfold fJ;omega
     intro w4 Sb hg;rw[HW3.o]at hg;have F:=UPD.o IMS.o w4 Sb hg;have FF:=aA F;clear Sb hg F;go_wp2_with fail;go_ret;exact FF.o
end
section
structure PE(w0 wr:aG)(ns:List Nd)(cs:List Cb)(us:List Bool)(lv:List Int)(An Ac Au Al:Option fE)(cn cc cu cl b4 b5 b6 b9 ry bm:Nat):Prop where
 p4:dG wr b4 25 #[ay An ns.length cn,ay Ac cs.length cc]
 p5:dG wr b5 169 #[ay Al lv.length cl]
 p6:dG wr b6 52 #[ay Au us.length cu]
 p9:dG wr b9 251 #[.map (az bm)]
 p10:dG wr ry 275 #[.func (.func 171) #[] #[au (az ⟨b5,0,aj⟩),au (az ⟨b9,0,aj⟩)]]
 pl:jB w0 An Ac ⟨ns,cs⟩
 pu:gH 1 cB false w0 Au us.length us
 plv:gH 1 cI 0 w0 Al lv.length lv
 gB:aO w0.heap.size w0 wr
 mge:w0.heap.size<=bm
 m4:bm≠b4
 m5:bm≠b5
 m6:bm≠b6
 m9:bm≠b9
 m10:bm≠ry
theorem KB.tr{B B':Nat}{X:List Nat}{w w' w'':aG}(h:KB B X w w')(h2:KB B' X w' w'')(hB:B<=B'):KB B X w w'':=
 ⟨h2.os.trans h.os,h2.tape.trans h.tape,h2.output.trans h.output,eY h.size h2.size,fun i hi hx=>(h2.block i (by omega) hx).trans (h.block i hi hx)⟩
section
variable{w0 wr w':aG}{ns:List Nd}{cs:List Cb}{us:List Bool}{lv:List Int}{An Ac Au Al:Option fE}{cn cc cu cl b4 b5 b6 b9 ry bm:Nat}
theorem PE.kb(h:PE w0 wr ns cs us lv An Ac Au Al cn cc cu cl b4 b5 b6 b9 ry bm){B:Nat}(hk:KB B [bm] wr w')(hB:B=wr.heap.size):PE w0 w' ns cs us lv An Ac Au Al cn cc cu cl b4 b5 b6 b9 ry bm:=by subst hB;have f:∀{g:Nat} {t:dP} {xs:Array aJ},dG wr g t xs->bm≠g->dG w' g t xs:=fun hb nJ=>hk.JF hb hb.lt (by simp;exact iB nJ);exact⟨f h.p4 h.m4,f h.p5 h.m5,f h.p6 h.m6,f h.p9 h.m9,f h.p10 h.m10,h.pl,h.pu,h.plv,h.gB.trans (hk.toBelow h.gB.size (by simp;exact h.mge)),h.mge,h.m4,h.m5,h.m6,h.m9,h.m10⟩
theorem PE.alloc(h:PE w0 wr ns cs us lv An Ac Au Al cn cc cu cl b4 b5 b6 b9 ry bm)(o:Obj):PE w0 (wr.alloc o) ns cs us lv An Ac Au Al cn cc cu cl b4 b5 b6 b9 ry bm:=
 h.kb ((KB.refl _ _ _).alloc (aC _) o) rfl
theorem GX{n to i o:Nat}{f0 f:zA}{L:List (St×Nat)}{c:Bool}{s:St}(h:PE w0 wr ns cs us lv An Ac Au Al cn cc cu cl b4 b5 b6 b9 ry bm)(hm:xA wr bm n f)(hP:PSr n cs us lv to f0 L c f)(hn:n<=100)(hl:lv.length<=1000000)(hi:i<cs.length)(hu:us.getD i false=true)(ht:touch (cs.getD i gV) s.1 o)(hs:s.1<n)(ho:o<n)(nJ:s.1≠o)(hlv:0<=lv.getD s.1 0):di aH 171 #[.agg #[ah ag (s.1:Int),.bool s.2],ah ag (o:Int),au (az ⟨b5,0,aj⟩),au (az ⟨b9,0,aj⟩)] wr fun e w'=>∃r f1,e=ax (.bool r)/\PSr n cs us lv to f0 (L++[(s,o)]) (r||c) f1/\xA w' bm n f1/\PE w0 w' ns cs us lv An Ac Au Al cn cc cu cl b4 b5 b6 b9 ry bm/\KB wr.heap.size [bm] wr w':=by
 refine(afa lv Al cl b5 b9 bm n f s o wr hl (h.plv.below (aC _) h.gB) h.p5 h.p9 hm (by omega) (by omega) (fun x d hd=>?_) (fun v hv=>(hP.1.step hn hi hu ht hs ho nJ hlv hv).2)).mono ?_
 ·have h1:=hP.1.bnd x d hd;have h2:=afi n f;omega
 ·rintro e w1 ⟨rfl,Pw,hk⟩;exact⟨_,_,rfl,hP.step hn hi hu ht hs ho nJ hlv,Pw,h.kb hk rfl,hk⟩
end
def four(a b:Nat):List (St×Nat):=[((a,false),b),((b,false),a),((a,true),b),((b,true),a)]
def ZA(w0 wP:aG)(ns:List Nd)(cs:List Cb)(us:List Bool)(lv:List Int)(An Ac Au Al:Option fE)(cn cc cu cl b4 b5 b6 b9 ry bm to:Nat)(f0:zA)(c i:aJ)(wr:aG):Prop:=
 ∃(k:Nat) (c':Bool) (f:zA),k<=cs.length/\i=ah ag k/\c=.bool c'/\PE w0 wr ns cs us lv An Ac Au Al cn cc cu cl b4 b5 b6 b9 ry bm/\xA wr bm ns.length f/\PSr ns.length cs us lv to f0 (xU cs us lv k) c' f/\KB wP.heap.size [bm] wP wr
def Ig(w0 wP:aG)(ns:List Nd)(cs:List Cb)(us:List Bool)(lv:List Int)(An Ac Au Al:Option fE)(cn cc cu cl b4 b5 b6 b9 ry bm to:Nat)(f0:zA)(k a b bx:Nat)(xs:Array aJ)(c j:aJ)(wr:aG):Prop:=
 ∃(j':Nat) (c':Bool) (f:zA),j'<=2/\j=ah ag j'/\c=.bool c'/\PE w0 wr ns cs us lv An Ac Au Al cn cc cu cl b4 b5 b6 b9 ry bm/\xA wr bm ns.length f/\PSr ns.length cs us lv to f0 (xU cs us lv k++(four a b).take (2*j')) c' f/\KB wP.heap.size [bm] wP wr/\dG wr bx 86 xs/\bm≠bx
def UH(w0 w:aG)(ns:List Nd)(cs:List Cb)(us:List Bool)(lv:List Int)(An Ac Au Al:Option fE)(cn cc cu cl b4 b5 b6 b9 ry bm to:Nat)(f0:zA)(e:iL)(w':aG):Prop:=
 ∃(c:Bool) (f:zA),e=ax (.bool c)/\PE w0 w' ns cs us lv An Ac Au Al cn cc cu cl b4 b5 b6 b9 ry bm/\xA w' bm ns.length f/\PSr ns.length cs us lv to f0 (xU cs us lv cs.length) c f/\KB w.heap.size [bm] w w'
theorem afF(ns:List Nd)(cs:List Cb)(us:List Bool)(lv:List Int)(An Ac Au Al:Option fE)(cn cc cu cl b4 b5 b6 b9 ry bm to:Nat)(f0:zA)(w0 w:aG)(hv:fQ ⟨ns,cs⟩=0)(Bn:us.length=cs.length)(zB:lv.length=ns.length)(h:PE w0 w ns cs us lv An Ac Au Al cn cc cu cl b4 b5 b6 b9 ry bm)(hm:xA w bm ns.length f0)(hS:SI ns.length cs us lv to f0):di aH 173 #[au (az ⟨b4,0,aj⟩),au (az ⟨b6,0,aj⟩),au (az ⟨b5,0,aj⟩),au (az ⟨ry,0,aj⟩)] w (UH w0 w ns cs us lv An Ac Au Al cn cc cu cl b4 b5 b6 b9 ry bm to f0):=by
 obtain⟨n16,Ll⟩:=nV hv;have HV:=aA hv;have UB:=aA Bn;have JC:=aA zB;have akE:=aA h.p10;have c40:w.cell? ⟨b4,0,aj⟩=az (ay An ns.length cn):=by rw[h.p4.cell];rfl
 have c41:w.cell? ⟨b4,1,aj⟩=az (ay Ac cs.length cc):=by rw[h.p4.cell];rfl
 have ST:aZ (ZA w0 w ns cs us lv An Ac Au Al cn cc cu cl b4 b5 b6 b9 ry bm to f0 (.bool false) (ah ag 0) w):=⟨0,false,f0,bJ _,rfl,rfl,h,hm,PSr.start hS,KB.refl _ _ _⟩;clear hv Bn zB h hm hS;go_enter func173,ntmps173;go_wp2_with fail;go_loopw [5,13] (fun c i wr=>ZA w0 w ns cs us lv An Ac Au Al cn cc cu cl b4 b5 b6 b9 ry bm to f0 c i wr) (fun _ i _=>cs.length-(aK i).toNat);case atStart=>exact ST.o
 case round=>
  clear ST c40 c41;obtain⟨k,c,f,hk,rfl,rfl,pe,sm,ps,kb⟩:=hrel;have PEH:=aA pe;have SMH:=aA sm;have PSH:=aA ps;have KBH:=aA kb;by_cases nH:k<cs.length
  ·obtain⟨bc,oc,hAc,hbc,mI,ca,pJ,cb,Ve,cd,Vf⟩:=mE pe.pl.2 k nH;obtain⟨bu,ou,hAu,hbu,_,cu'⟩:=TF pe.pu k (by rw[UB.o];exact nH);obtain⟨⟨na0,na1⟩,nb0,nb1⟩:=Fy HV.o mI;have nab:=MJ HV.o mI;have HX:aZ (acQ cs us lv k=if us.getD k false=true/\0<=lv.getD (cs.getD k gV).a.toNat 0/\0<=lv.getD (cs.getD k gV).b.toNat 0 then four (cs.getD k gV).a.toNat (cs.getD k gV).b.toNat else[]):=rfl;have TCH:aZ (∀a b:Nat,(cs.getD k gV).a=a->(cs.getD k gV).b=b->touch (cs.getD k gV) a b/\touch (cs.getD k gV) b a):=fun a b ha hb=>⟨.inl ⟨ha,hb⟩,.inr ⟨hb,ha⟩⟩;obtain⟨x,hx⟩:∃x,cs.getD k gV=x:=⟨_,rfl⟩;rw[hx]at mI ca pJ cb Ve cd Vf na0 na1 nb0 nb1 nab HX;obtain⟨xa,qK,xb,qQ,xd,xc⟩:=x;simp only at ca pJ cb Ve cd Vf na0 na1 nb0 nb1 nab HX;obtain⟨ia,rfl⟩:∃ia:Nat,xa=ia:=⟨xa.toNat,by omega⟩;obtain⟨ib,rfl⟩:∃ib:Nat,xb=ib:=⟨xb.toNat,by omega⟩;simp only[cO]at HX;have TC:=aA (TCH.o ia ib (by rw[hx]) (by rw[hx]));have Mg:ia<ns.length:=(by omega);have Mh:ib<ns.length:=(by omega);have Qg:aZ (ia≠ib):=fun e=>nab (by rw[e]);have zB:=JC.o;have iaw:(ia:Int)<(lv.length:Int):=(by omega);have ibw:(ib:Int)<(lv.length:Int):=(by omega);obtain⟨bl,ol,hAl,hbl,_,ela⟩:=oD pe.plv ia (by omega);obtain⟨bl',ol',Kt,_,_,elb⟩:=oD pe.plv ib (by omega);rw[hAl]at Kt;injection Kt with Kt;injection Kt with hl1 Ef;subst hl1;subst Ef;subst hAc;subst hAu;subst hAl;have OP:=pe.gB;have bs0:=OP.size;have Oe:=UB.o;have kus:(k:Int)<(us.length:Int):=(by omega);have cu2:wr.cell? ⟨bu,ou+k,aj⟩=az (.bool (us.getD k false)):=(OP.cell (p:=⟨bu,ou+k,aj⟩) hbu).trans cu';have ca2:wr.cell? ⟨bc,oc+k*6,aj⟩=az (ah ag ia):=(OP.cell (p:=⟨bc,oc+k*6,aj⟩) hbc).trans ca;have cap2:wr.cell? ⟨bc,oc+k*6+1,aj⟩=az (ah ag qK):=(OP.cell (p:=⟨bc,oc+k*6+1,aj⟩) hbc).trans pJ;have cb2:wr.cell? ⟨bc,oc+k*6+2,aj⟩=az (ah ag ib):=(OP.cell (p:=⟨bc,oc+k*6+2,aj⟩) hbc).trans cb;have ahv:wr.cell? ⟨bc,oc+k*6+3,aj⟩=az (ah ag qQ):=(OP.cell (p:=⟨bc,oc+k*6+3,aj⟩) hbc).trans Ve;have cd2:wr.cell? ⟨bc,oc+k*6+4,aj⟩=az (ah ag xd):=(OP.cell (p:=⟨bc,oc+k*6+4,aj⟩) hbc).trans cd;have ahw:wr.cell? ⟨bc,oc+k*6+5,aj⟩=az (ah ag xc):=(OP.cell (p:=⟨bc,oc+k*6+5,aj⟩) hbc).trans Vf;have el2:wr.cell? ⟨bl,ol+ia,aj⟩=az (ah ag (lv.getD ia 0)):=(OP.cell (p:=⟨bl,ol+ia,aj⟩) hbl).trans ela;have el3:wr.cell? ⟨bl,ol+ib,aj⟩=az (ah ag (lv.getD ib 0)):=(OP.cell (p:=⟨bl,ol+ib,aj⟩) hbl).trans elb;have axW:bu<wr.heap.size:=(by omega);have aHI:bl<wr.heap.size:=(by omega);have c5:=pe.p5.one.1;have c6:=pe.p6.one.1;have l5:=pe.p5.lt;have l6:=pe.p6.lt;have l10:=pe.p10.lt;have lm:=sm.lt;have SKIP:aZ (acQ cs us lv k=[]->ZA w0 w ns cs us lv An (az ⟨bc,oc,aj⟩) (az ⟨bu,ou,aj⟩) (az ⟨bl,ol,aj⟩) cn cc cu cl b4 b5 b6 b9 ry bm to f0 (.bool c) (ah ag ((k+1:Nat):Int)) (wr.alloc (af #[ah ag ia,ah ag qK,ah ag ib,ah ag qQ,ah ag xd,ah ag xc] 86))):=fun e=>
    ⟨k+1,c,f,by omega,rfl,rfl,PEH.o.alloc _,SMH.o.alloc _,by rw[Ld,e,List.append_nil];exact PSH.o,KBH.o.alloc (aC _) _⟩
   clear hx mI ca pJ cb Ve cd Vf nab cu' ela elb pe sm ps kb OP zB Oe TCH;cases EH:us.getD k false with
   |false=>rw[EH]at cu2 HX;have R:=aA (SKIP.o (by rw[HX.o];simp));clear EH;go_wp2_with fail;exact⟨by simpa using R.o,by simp[aK];omega⟩
   |true=>
    rw[EH]at cu2;have HUB:=aA EH;rw[EH]at HX;clear EH;have LA:aZ (lv.getD ia 0=lv.getD ia 0):=rfl;obtain⟨la,hla⟩:∃la,lv.getD ia 0=la:=⟨_,rfl⟩;obtain⟨lb,hlb⟩:∃lb,lv.getD ib 0=lb:=⟨_,rfl⟩;rw[hla]at el2 HX;rw[hlb]at el3 HX;have HLA:=aA hla;have HLB:=aA hlb;clear hla hlb LA;by_cases h1:la<0
    ·have R:=aA (SKIP.o (by rw[HX.o,if_neg (by omega)]));go_wp2_with fail;exact⟨by simpa using R.o,by simp[aK];omega⟩
    ·by_cases h2:lb<0
     ·have R:=aA (SKIP.o (by rw[HX.o,if_neg (by omega)]));go_wp2_with fail;exact⟨by simpa using R.o,by simp[aK];omega⟩
     ·have TR:aZ (acQ cs us lv k=four ia ib):=by rw[aZ,HX.o,if_pos ⟨rfl,by omega,by omega⟩]
      have LA0:aZ (0<=lv.getD ia 0):=(by rw[aZ,HLA.o];omega);have LB0:aZ (0<=lv.getD ib 0):=(by rw[aZ,HLB.o];omega);have ST:aZ (Ig w0 w ns cs us lv An (az ⟨bc,oc,aj⟩) (az ⟨bu,ou,aj⟩) (az ⟨bl,ol,aj⟩) cn cc cu cl b4 b5 b6 b9 ry bm to f0 k ia ib wr.heap.size #[ah ag ia,ah ag qK,ah ag ib,ah ag qQ,ah ag xd,ah ag xc] (.bool c) (ah ag 0) (wr.alloc (af #[ah ag ia,ah ag qK,ah ag ib,ah ag qQ,ah ag xd,ah ag xc] 86))):=
       ⟨0,c,f,by omega,rfl,rfl,PEH.o.alloc _,SMH.o.alloc _,by simpa using PSH.o,KBH.o.alloc (aC _) _,dG.new _ _ _,by omega⟩
      have i0:∀w,(xY 276 (.agg #[.bool false,.bool true]) (ah ag 0)).run aH w=.ok (.bool false) w:=fun _=>(by kernel_rfl);have i1:∀w,(xY 276 (.agg #[.bool false,.bool true]) (ah ag 1)).run aH w=.ok (.bool true) w:=fun _=>(by kernel_rfl);clear SKIP PEH SMH PSH KBH HX;have h1':0<=la:=(by omega);have h2':0<=lb:=(by omega);go_wp2_with fail;obtain⟨wo,rfl⟩:∃wo:aG,wo=wr:=⟨_,rfl⟩;clear cu2 ca2 cap2 cb2 ahv cd2 ahw el2 el3 c5 c6 h1 h2 h1' h2';go_loopw [5,42] (fun c j wr'=>Ig w0 w ns cs us lv An (az ⟨bc,oc,aj⟩) (az ⟨bu,ou,aj⟩) (az ⟨bl,ol,aj⟩) cn cc cu cl b4 b5 b6 b9 ry bm to f0 k ia ib wo.heap.size #[ah ag ia,ah ag qK,ah ag ib,ah ag qQ,ah ag xd,ah ag xc] c j wr') (fun _ j _=>2-(aK j).toNat);case atStart=>exact ST.o
      case round=>
       clear ST;obtain⟨j,c1,f1,hj,rfl,rfl,pe,sm,ps,kb,bx,QY⟩:=hrel;have PE1:=aA pe;have SM1:=aA sm;have PS1:=aA ps;have JK:=aA kb;have BX1:=aA bx;have c10:=pe.p10.one.1;have x0:wr.cell? ⟨wo.heap.size,0,aj⟩=az (ah ag ia):=by rw[bx.cell];rfl
       have x2:wr.cell? ⟨wo.heap.size,2,aj⟩=az (ah ag ib):=(by rw[bx.cell];rfl);have xl:=bx.lt;clear pe sm ps kb bx;have hj':j=0\/j=1\/j=2:=(by omega);rcases hj' with xQ|xQ|xQ
       ·subst xQ;have HC:=aA (GX (s:=(ia,false)) (o:=ib) PE1.o SM1.o PS1.o (by omega) (by rw[JC.o];omega) nH HUB.o TC.o.1 Mg Mh Qg.o LA0.o);go_wp2_with fail;refine HC.o.mono ?_;rintro e w2 ⟨r,f2,rfl,ps2,sm2,pe2,kb2⟩;have PE2:=aA pe2;have SM2:=aA sm2;have Ti:=aA kb2;have WT:=aA (kb2.JF BX1.o BX1.o.lt (by simp;exact iB QY));have d10:=pe2.p10.one.1;have y0:w2.cell? ⟨wo.heap.size,0,aj⟩=az (ah ag ia):=by rw[WT.o.cell];rfl
        have y2:w2.cell? ⟨wo.heap.size,2,aj⟩=az (ah ag ib):=(by rw[WT.o.cell];rfl);clear pe2 sm2 kb2 x0 x2 c10 HC;cases r
        ·simp only[iW,lZ]at ps2;have HD:=aA (GX (s:=(ib,false)) (o:=ia) PE2.o SM2.o ps2 (by omega) (by rw[JC.o];omega) nH HUB.o TC.o.2 Mh Mg (iB Qg.o) LB0.o);clear ps2;go_wp2_with fail;refine HD.o.mono ?_;rintro e w3 ⟨r2,f3,rfl,MC,Uo,Uj,PY⟩;have Ta:=PY.JF WT.o WT.o.lt (by simp;exact iB QY);cases r2
         ·simp only[iW,lZ]at MC;have R:aZ (Ig w0 w ns cs us lv An (az ⟨bc,oc,aj⟩) (az ⟨bu,ou,aj⟩) (az ⟨bl,ol,aj⟩) cn cc cu cl b4 b5 b6 b9 ry bm to f0 k ia ib wo.heap.size #[ah ag ia,ah ag qK,ah ag ib,ah ag qQ,ah ag xd,ah ag xc] (.bool c1) (ah ag ((0+1:Nat):Int)) w3):=
           ⟨0+1,c1,f3,by omega,rfl,rfl,Uj,Uo,by simpa[four]using MC,(JK.o.tr Ti.o JK.o.size).tr PY (eY JK.o.size Ti.o.size),Ta,QY⟩
          clear MC Uo Uj PY Ta y0 y2 d10 HD;go_wp2_with fail;exact⟨by simpa using R.o,by simp[aK]⟩
         ·simp only[iW,lZ]at MC;have R:aZ (Ig w0 w ns cs us lv An (az ⟨bc,oc,aj⟩) (az ⟨bu,ou,aj⟩) (az ⟨bl,ol,aj⟩) cn cc cu cl b4 b5 b6 b9 ry bm to f0 k ia ib wo.heap.size #[ah ag ia,ah ag qK,ah ag ib,ah ag qQ,ah ag xd,ah ag xc] (.bool true) (ah ag ((0+1:Nat):Int)) w3):=
           ⟨0+1,true,f3,by omega,rfl,rfl,Uj,Uo,by simpa[four]using MC,(JK.o.tr Ti.o JK.o.size).tr PY (eY JK.o.size Ti.o.size),Ta,QY⟩
          clear MC Uo Uj PY Ta y0 y2 d10 HD;go_wp2_with fail;exact⟨by simpa using R.o,by simp[aK]⟩
        ·simp only[iW,lZ]at ps2;have HD:=aA (GX (s:=(ib,false)) (o:=ia) PE2.o SM2.o ps2 (by omega) (by rw[JC.o];omega) nH HUB.o TC.o.2 Mh Mg (iB Qg.o) LB0.o);clear ps2;go_wp2_with fail;refine HD.o.mono ?_;rintro e w3 ⟨r2,f3,rfl,MC,Uo,Uj,PY⟩;have Ta:=PY.JF WT.o WT.o.lt (by simp;exact iB QY);cases r2
         ·simp only[iW,lZ]at MC;have R:aZ (Ig w0 w ns cs us lv An (az ⟨bc,oc,aj⟩) (az ⟨bu,ou,aj⟩) (az ⟨bl,ol,aj⟩) cn cc cu cl b4 b5 b6 b9 ry bm to f0 k ia ib wo.heap.size #[ah ag ia,ah ag qK,ah ag ib,ah ag qQ,ah ag xd,ah ag xc] (.bool true) (ah ag ((0+1:Nat):Int)) w3):=
           ⟨0+1,true,f3,by omega,rfl,rfl,Uj,Uo,by simpa[four]using MC,(JK.o.tr Ti.o JK.o.size).tr PY (eY JK.o.size Ti.o.size),Ta,QY⟩
          clear MC Uo Uj PY Ta y0 y2 d10 HD;go_wp2_with fail;exact⟨by simpa using R.o,by simp[aK]⟩
         ·simp only[iW,lZ]at MC;have R:aZ (Ig w0 w ns cs us lv An (az ⟨bc,oc,aj⟩) (az ⟨bu,ou,aj⟩) (az ⟨bl,ol,aj⟩) cn cc cu cl b4 b5 b6 b9 ry bm to f0 k ia ib wo.heap.size #[ah ag ia,ah ag qK,ah ag ib,ah ag qQ,ah ag xd,ah ag xc] (.bool true) (ah ag ((0+1:Nat):Int)) w3):=
           ⟨0+1,true,f3,by omega,rfl,rfl,Uj,Uo,by simpa[four]using MC,(JK.o.tr Ti.o JK.o.size).tr PY (eY JK.o.size Ti.o.size),Ta,QY⟩
          clear MC Uo Uj PY Ta y0 y2 d10 HD;go_wp2_with fail;exact⟨by simpa using R.o,by simp[aK]⟩
       ·subst xQ;have HC:=aA (GX (s:=(ia,true)) (o:=ib) PE1.o SM1.o PS1.o (by omega) (by rw[JC.o];omega) nH HUB.o TC.o.1 Mg Mh Qg.o LA0.o);go_wp2_with fail;refine HC.o.mono ?_;rintro e w2 ⟨r,f2,rfl,ps2,sm2,pe2,kb2⟩;have PE2:=aA pe2;have SM2:=aA sm2;have Ti:=aA kb2;have WT:=aA (kb2.JF BX1.o BX1.o.lt (by simp;exact iB QY));have d10:=pe2.p10.one.1;have y0:w2.cell? ⟨wo.heap.size,0,aj⟩=az (ah ag ia):=by rw[WT.o.cell];rfl
        have y2:w2.cell? ⟨wo.heap.size,2,aj⟩=az (ah ag ib):=(by rw[WT.o.cell];rfl);clear pe2 sm2 kb2 x0 x2 c10 HC;cases r
        ·simp only[iW,lZ]at ps2;have HD:=aA (GX (s:=(ib,true)) (o:=ia) PE2.o SM2.o ps2 (by omega) (by rw[JC.o];omega) nH HUB.o TC.o.2 Mh Mg (iB Qg.o) LB0.o);clear ps2;go_wp2_with fail;refine HD.o.mono ?_;rintro e w3 ⟨r2,f3,rfl,MC,Uo,Uj,PY⟩;have Ta:=PY.JF WT.o WT.o.lt (by simp;exact iB QY);cases r2
         ·simp only[iW,lZ]at MC;have R:aZ (Ig w0 w ns cs us lv An (az ⟨bc,oc,aj⟩) (az ⟨bu,ou,aj⟩) (az ⟨bl,ol,aj⟩) cn cc cu cl b4 b5 b6 b9 ry bm to f0 k ia ib wo.heap.size #[ah ag ia,ah ag qK,ah ag ib,ah ag qQ,ah ag xd,ah ag xc] (.bool c1) (ah ag ((1+1:Nat):Int)) w3):=
           ⟨1+1,c1,f3,by omega,rfl,rfl,Uj,Uo,by simpa[four]using MC,(JK.o.tr Ti.o JK.o.size).tr PY (eY JK.o.size Ti.o.size),Ta,QY⟩
          clear MC Uo Uj PY Ta y0 y2 d10 HD;go_wp2_with fail;exact⟨by simpa using R.o,by simp[aK]⟩
         ·simp only[iW,lZ]at MC;have R:aZ (Ig w0 w ns cs us lv An (az ⟨bc,oc,aj⟩) (az ⟨bu,ou,aj⟩) (az ⟨bl,ol,aj⟩) cn cc cu cl b4 b5 b6 b9 ry bm to f0 k ia ib wo.heap.size #[ah ag ia,ah ag qK,ah ag ib,ah ag qQ,ah ag xd,ah ag xc] (.bool true) (ah ag ((1+1:Nat):Int)) w3):=
           ⟨1+1,true,f3,by omega,rfl,rfl,Uj,Uo,by simpa[four]using MC,(JK.o.tr Ti.o JK.o.size).tr PY (eY JK.o.size Ti.o.size),Ta,QY⟩
          clear MC Uo Uj PY Ta y0 y2 d10 HD;go_wp2_with fail;exact⟨by simpa using R.o,by simp[aK]⟩
        ·simp only[iW,lZ]at ps2;have HD:=aA (GX (s:=(ib,true)) (o:=ia) PE2.o SM2.o ps2 (by omega) (by rw[JC.o];omega) nH HUB.o TC.o.2 Mh Mg (iB Qg.o) LB0.o);clear ps2;go_wp2_with fail;refine HD.o.mono ?_;rintro e w3 ⟨r2,f3,rfl,MC,Uo,Uj,PY⟩;have Ta:=PY.JF WT.o WT.o.lt (by simp;exact iB QY);cases r2
         ·simp only[iW,lZ]at MC;have R:aZ (Ig w0 w ns cs us lv An (az ⟨bc,oc,aj⟩) (az ⟨bu,ou,aj⟩) (az ⟨bl,ol,aj⟩) cn cc cu cl b4 b5 b6 b9 ry bm to f0 k ia ib wo.heap.size #[ah ag ia,ah ag qK,ah ag ib,ah ag qQ,ah ag xd,ah ag xc] (.bool true) (ah ag ((1+1:Nat):Int)) w3):=
           ⟨1+1,true,f3,by omega,rfl,rfl,Uj,Uo,by simpa[four]using MC,(JK.o.tr Ti.o JK.o.size).tr PY (eY JK.o.size Ti.o.size),Ta,QY⟩
          clear MC Uo Uj PY Ta y0 y2 d10 HD;go_wp2_with fail;exact⟨by simpa using R.o,by simp[aK]⟩
         ·simp only[iW,lZ]at MC;have R:aZ (Ig w0 w ns cs us lv An (az ⟨bc,oc,aj⟩) (az ⟨bu,ou,aj⟩) (az ⟨bl,ol,aj⟩) cn cc cu cl b4 b5 b6 b9 ry bm to f0 k ia ib wo.heap.size #[ah ag ia,ah ag qK,ah ag ib,ah ag qQ,ah ag xd,ah ag xc] (.bool true) (ah ag ((1+1:Nat):Int)) w3):=
           ⟨1+1,true,f3,by omega,rfl,rfl,Uj,Uo,by simpa[four]using MC,(JK.o.tr Ti.o JK.o.size).tr PY (eY JK.o.size Ti.o.size),Ta,QY⟩
          clear MC Uo Uj PY Ta y0 y2 d10 HD;go_wp2_with fail;exact⟨by simpa using R.o,by simp[aK]⟩
       ·subst xQ;have R:aZ (ZA w0 w ns cs us lv An (az ⟨bc,oc,aj⟩) (az ⟨bu,ou,aj⟩) (az ⟨bl,ol,aj⟩) cn cc cu cl b4 b5 b6 b9 ry bm to f0 (.bool c1) (ah ag ((k+1:Nat):Int)) wr):=⟨k+1,c1,f1,by omega,rfl,rfl,PE1.o,SM1.o,by rw[Ld,TR.o];simpa[four]using PS1.o,JK.o⟩;clear x0 x2 c10;go_wp2_with fail;exact⟨by simpa using R.o,by simp[aK];omega⟩
  ·obtain rfl:k=cs.length:=by omega
   have F:aZ (UH w0 w ns cs us lv An Ac Au Al cn cc cu cl b4 b5 b6 b9 ry bm to f0 (ax (.bool c)) wr):=⟨c,f,rfl,pe,sm,ps,kb⟩;clear pe sm ps kb;go_wp2_with fail;go_ret;exact F.o
end
section
theorem Wn(n:Nat):Qq n (fun _=>aj)=2*n*1000:=by
 induction n with
 |zero=>rfl
 |succ n ih=>unfold Qq at *;rw[LF,fF,List.sum_append,ih];simp[MZ];omega
theorem acu{n to:Nat}(h:to<n):Qq n (Ak to)<=2*n*1000:=by have h1:=Ul (n:=n) (f:=fun _=>aj) (s:=(to,false)) (v:=0) h;have h2:=Ul (n:=n) (f:=wW (fun _=>aj) (to,false) 0) (s:=(to,true)) (v:=0) h;have h3:=Wn n;unfold Ak;omega
def IV(ns:List Nd)(cs:List Cb)(us:List Bool)(lv:List Int)(to:Nat)(w:aG)(e:iL)(w':aG):Prop:=
 ∃(bm:Nat) (f:zA),e=ax (.map (az bm))/\w.heap.size<=bm/\xA w' bm ns.length f/\Found ns.length cs us lv to f/\aO w.heap.size w w'
theorem YX(ns:List Nd)(cs:List Cb)(us:List Bool)(lv:List Int)(An Ac Au Al:Option fE)(cn cc cu cl to:Nat)(w:aG)(hv:fQ ⟨ns,cs⟩=0)(Bn:us.length=cs.length)(zB:lv.length=ns.length)(hto:to<ns.length)(h:jB w An Ac ⟨ns,cs⟩)(h2:gH 1 cB false w Au us.length us)(h3:gH 1 cI 0 w Al lv.length lv):di aH 147 #[.agg #[ay An ns.length cn,ay Ac cs.length cc],.agg #[ay Al lv.length cl],ay Au us.length cu,ah ag (to:Int)] w (IV ns cs us lv to w):=by
 obtain⟨n16,Ll⟩:=nV hv;have HV:=aA hv;have UB:=aA Bn;have JC:=aA zB;have HP:=aA h;have HU:=aA h2;have HL:=aA h3;obtain⟨bl,ol,hAl,hbl,_,ela⟩:=oD h3 to (by omega);subst hAl;have tow:(to:Int)<(lv.length:Int):=by omega
 obtain⟨lt,tL⟩:∃lt,lv.getD to 0=lt:=⟨_,rfl⟩;rw[tL]at ela;have HLT:=aA tL;clear hv Bn zB h h2 h3 tL;have hmm:=@run_makeMap aH;obtain⟨w1,gK⟩:∃w1:aG,((((w.alloc (af #[ay An ns.length cn,ay Ac cs.length cc] 25)).alloc (af #[ay (az ⟨bl,ol,aj⟩) lv.length cl] 169)).alloc (af #[ay Au us.length cu] 52)).alloc (.map #[] 0)).alloc (af #[.map (az (w.heap.size+1+1+1))] 251)=w1:=⟨_,rfl⟩;have BW:aZ (aO w.heap.size w w1):=by rw[<-gK];exact(((((aS _ _).alloc (aC _) _).alloc (by simp) _).alloc (by simp;omega) _).alloc (by simp;omega) _).alloc (by simp;omega) _
 have Sz:w1.heap.size=w.heap.size+5:=by rw[<-gK];simp
 have P4:aZ (dG w1 w.heap.size 25 #[ay An ns.length cn,ay Ac cs.length cc]):=by rw[<-gK];exact((((dG.new w 25 #[ay An ns.length cn,ay Ac cs.length cc]).alloc _).alloc _).alloc _).alloc _
 have P5:aZ (dG w1 (w.heap.size+1) 169 #[ay (az ⟨bl,ol,aj⟩) lv.length cl]):=by rw[<-gK];have:=(((dG.new (w.alloc (af #[ay An ns.length cn,ay Ac cs.length cc] 25)) 169 #[ay (az ⟨bl,ol,aj⟩) lv.length cl]).alloc (af #[ay Au us.length cu] 52)).alloc (.map #[] 0)).alloc (af #[.map (az (w.heap.size+1+1+1))] 251);rw[aZ];simpa using this
 have P6:aZ (dG w1 (w.heap.size+1+1) 52 #[ay Au us.length cu]):=by rw[<-gK];have:=((dG.new ((w.alloc (af #[ay An ns.length cn,ay Ac cs.length cc] 25)).alloc (af #[ay (az ⟨bl,ol,aj⟩) lv.length cl] 169)) 52 #[ay Au us.length cu]).alloc (.map #[] 0)).alloc (af #[.map (az (w.heap.size+1+1+1))] 251);rw[aZ];simpa using this
 have OM1:aZ (jL w1 aH 254 (w.heap.size+1+1+1) 0 (fun _=>aj)):=by rw[<-gK];have:=(jL.made (((w.alloc (af #[ay An ns.length cn,ay Ac cs.length cc] 25)).alloc (af #[ay (az ⟨bl,ol,aj⟩) lv.length cl] 169)).alloc (af #[ay Au us.length cu] 52)) aH 254).alloc (af #[.map (az (w.heap.size+1+1+1))] 251);rw[aZ];simpa using this
 have P9:aZ (dG w1 (w.heap.size+1+1+1+1) 251 #[.map (az (w.heap.size+1+1+1))]):=by rw[<-gK];have:=dG.new ((((w.alloc (af #[ay An ns.length cn,ay Ac cs.length cc] 25)).alloc (af #[ay (az ⟨bl,ol,aj⟩) lv.length cl] 169)).alloc (af #[ay Au us.length cu] 52)).alloc (.map #[] 0)) 251 #[.map (az (w.heap.size+1+1+1))];rw[aZ];simpa using this
 have SZ1:=aA Sz;have s5:=P5.o.one.1;have s9:=P9.o.one.1;have axy:=(BW.o.cell (p:=⟨bl,ol+to,aj⟩) hbl).trans ela;clear ela Sz;by_cases hneg:lt<0
 ·have F:aZ (IV ns cs us lv to w (ax (.map (az (w.heap.size+1+1+1)))) w1):=
   ⟨_,fun _=>aj,rfl,by omega,⟨0,_,by rw[Wn];omega,OM1.o,fun x _=>rfl⟩,.inl ⟨by rw[HLT.o];exact hneg,rfl⟩,BW.o⟩
  go_enter func147,ntmps147;go_wp2_with fail
  go_ret;exact F.o
 ·have kF:keyOf aH 254 (.agg #[ah ag (to:Int),.bool false])=az (Sq (to,false)):=PZ (x:=(to,false)) (JA (by show to<1000000;omega));have kT:keyOf aH 254 (.agg #[ah ag (to:Int),.bool true])=az (Sq (to,true)):=PZ (x:=(to,true)) (JA (by show to<1000000;omega));have KF:=aA kF;have KT:=aA kT;clear kF kT;go_enter func147,ntmps147;go_wp2_with (at_mapUpdate;refine vB _ rfl _ _ _ 251 rfl 254 3 yB underlying251 (w.heap.size+1+1+1) 0 _ rfl OM1.o ?c1 _ _ _ rfl rfl KF.o ?_);case c1=>decide
  intro w2 om2 hg2;have UF:=aA (P4.o.grown hg2 (by simp;omega));have UG:=aA (P5.o.grown hg2 (by simp));have P62:=aA (P6.o.grown hg2 (by simp));have P92:=aA (P9.o.grown hg2 (by simp));have JB:aZ (aO w.heap.size w w2):=BW.o.grown hg2 BW.o.size (by intro g e;injection e with e;omega);have OM2:=aA om2;have s92:=P92.o.one.1;clear om2 hg2 s5 s9 axy gK;go_wp2_with (at_mapUpdate;refine vB _ rfl _ _ _ 251 rfl 254 3 yB underlying251 (w.heap.size+1+1+1) 1 _ rfl OM2.o ?c2 _ _ _ rfl rfl KT.o ?_);case c2=>decide
  intro w3 om3 hg3;obtain⟨w4,Ir⟩:∃w4:aG,w3.alloc (af #[.func (.func 171) #[] #[au (az ⟨w.heap.size+1,0,aj⟩),au (az ⟨w.heap.size+1+1+1+1,0,aj⟩)]] 275)=w4:=⟨_,rfl⟩;obtain⟨ry,alV⟩:∃ry,w3.heap.size=ry:=⟨_,rfl⟩;have P43:=UF.o.grown hg3 (by simp;omega);have P53:=UG.o.grown hg3 (by simp);have P63:=P62.o.grown hg3 (by simp);have P93:=P92.o.grown hg3 (by simp);have MP:aO w.heap.size w w3:=JB.o.grown hg3 JB.o.size (by intro g e;injection e with e;omega);have PE4:aZ (PE w w4 ns cs us lv An Ac Au (az ⟨bl,ol,aj⟩) cn cc cu cl w.heap.size (w.heap.size+1) (w.heap.size+1+1) (w.heap.size+1+1+1+1) ry (w.heap.size+1+1+1)):=by have l9:=P93.lt;rw[<-Ir,<-alV];exact⟨P43.alloc _,P53.alloc _,P63.alloc _,P93.alloc _,dG.new _ _ _,HP.o,HU.o,HL.o,MP.alloc MP.size _,by omega,by omega,by omega,by omega,by omega,by omega⟩
  have SM4:aZ (xA w4 (w.heap.size+1+1+1) ns.length (Ak to)):=by rw[<-Ir];have hps:=acu hto;refine⟨2,_,by omega,om3.alloc _,fun x hx=>?_⟩;exact Qs (f:=wW (fun _=>aj) (to,false) 0) (s:=(to,true)) (v:=0) (by show to<1000000;omega) (Qs (f:=fun _=>aj) (s:=(to,false)) (v:=0) (by show to<1000000;omega) (fun x _=>rfl)) x hx
  have SI4:aZ (SI ns.length cs us lv to (Ak to)):=SI.start hto (by rw[HLT.o];omega);have HW4:=aA Ir;have akE:=aA alV;clear alV Ir om3 hg3 P43 P53 P63 P93 MP s92;go_wp2_with fail;rw[HW4.o,akE.out];clear akE HW4
  go_loopg [29] (Qq ns.length (Ak to)) (fun g _ wr=>∃f,g=Qq ns.length f/\PE w wr ns cs us lv An Ac Au (az ⟨bl,ol,aj⟩) cn cc cu cl w.heap.size (w.heap.size+1) (w.heap.size+1+1) (w.heap.size+1+1+1+1) ry (w.heap.size+1+1+1)/\xA wr (w.heap.size+1+1+1) ns.length f/\SI ns.length cs us lv to f)
  case atStart=>exact⟨_,rfl,PE4.o,SM4.o,SI4.o⟩
  case round=>
   clear PE4 SM4 SI4;obtain⟨f,hg,pe,sm,si⟩:=hrel;have HG:=aA hg;have HC:=aA (afF ns cs us lv An Ac Au (az ⟨bl,ol,aj⟩) cn cc cu cl w.heap.size (w.heap.size+1) (w.heap.size+1+1) (w.heap.size+1+1+1+1) ry (w.heap.size+1+1+1) to f w wr HV.o UB.o JC.o pe sm si);clear hg pe sm si;go_wp2_with fail;refine HC.o.mono ?_;rintro e w5 ⟨c,f5,rfl,pe5,sm5,ps5,kb5⟩;have s9:=pe5.p9.one.1;cases c
   ·have F:aZ (IV ns cs us lv to w (ax (.map (az (w.heap.size+1+1+1)))) w5):=by
     rcases ps5.2 with⟨h1,_⟩|⟨_,h2,h3⟩
     ·cases h1
     ·subst h2;exact⟨_,_,rfl,by omega,sm5,.inr ⟨ps5.1,h3⟩,pe5.gB⟩
    clear pe5 sm5 ps5 kb5 HC;go_wp2_with fail;go_ret;exact F.o
   ·have LT:aZ (Qq ns.length f5<Qq ns.length f):=by
     rcases ps5.2 with⟨_,h1⟩|⟨h1,_⟩
     ·exact h1
     ·cases h1
    have R:aZ (∃f,Qq ns.length f5=Qq ns.length f/\PE w w5 ns cs us lv An Ac Au (az ⟨bl,ol,aj⟩) cn cc cu cl w.heap.size (w.heap.size+1) (w.heap.size+1+1) (w.heap.size+1+1+1+1) ry (w.heap.size+1+1+1)/\xA w5 (w.heap.size+1+1+1) ns.length f/\SI ns.length cs us lv to f):=⟨f5,rfl,pe5,sm5,ps5.1⟩;clear pe5 sm5 ps5 kb5 HC s9;go_wp2_with fail
    go_roundg (Qq ns.length f5)
    case rel=>exact R.o
    case measure=>rw[HG.o];exact LT.o
end
section
def dI:Option Nat->Int
 |none=>-1
 |some d=>d
def xL(n:Nat)(f:zA)(b:Bool):List Int:=(aN n).map fun i=>dI (f (i,b))
theorem Cz{n:Nat}(f:zA)(b:Bool){i:Nat}(h:i<n):(xL n f b).getD i 0=dI (f (i,b)):=by simp[xL,bS,h]
theorem Sv(n:Nat)(f:zA)(b:Bool):xL (n+1) f b=xL n f b++[dI (f (n,b))]:=by unfold xL;rw[dL,fF];rfl
theorem Vp(bx bm n:Nat)(f:zA)(s:St)(w:aG)(hx:dG w bx 251 #[.map (az bm)])(hm:xA w bm n f)(hs:s.1<1000000):di aH 148 #[.agg #[ah ag (s.1:Int),.bool s.2],au (az ⟨bx,0,aj⟩)] w fun e w'=>e=ax (ah ag (dI (f s)))/\aO w.heap.size w w':=by
 obtain⟨u,fl⟩:=s;simp only at hs|-;have B:aZ (aO w.heap.size w (w.alloc (af #[ah ag (u:Int),.bool fl] 254))):=(aS _ _).alloc (aC _) _;have c9:=hx.one.1;have l9:=hx.lt;obtain⟨m,M,_,om,hM⟩:=hm.alloc (af #[ah ag (u:Int),.bool fl] 254);have MS:=aA (hM (u,fl) hs);have OM:=aA om;have kS:keyOf aH 254 (.agg #[ah ag (u:Int),.bool fl])=az (Sq (u,fl)):=PZ (x:=(u,fl)) (JA hs);have KS:=aA kS;clear kS om hM hx hm;cases hf:f (u,fl)with
 |none=>rw[hf]at MS;clear hf;go_enter func148,ntmps148;go_wp2_with (at_lookup;refine jQ _ rfl _ _ 251 rfl 254 3 yB underlying251 (ah ag 0) (uT _) bm m M rfl OM.o _ _ rfl KS.o ?_;rw[MS.o]);go_ret;exact⟨rfl,B.o⟩
 |some d=>rw[hf]at MS;clear hf;go_enter func148,ntmps148;go_wp2_with (at_lookup;refine jQ _ rfl _ _ 251 rfl 254 3 yB underlying251 (ah ag 0) (uT _) bm m M rfl OM.o _ _ rfl KS.o ?_;rw[MS.o]);go_ret;exact⟨rfl,B.o⟩
def afg(n:Nat)(node:Int):Bool:=decide (0<=node/\node<n)
theorem acS(An Ac:Option fE)(n cn m cc:Nat)(node:Int)(w:aG)(hl:n<=1000000):di aH 146 #[.agg #[ay An n cn,ay Ac m cc],ah ag node] w fun e w'=>e=ax (.bool (afg n node))/\aO w.heap.size w w':=by
 have B:aZ (aO w.heap.size w (w.alloc (af #[ay An n cn,ay Ac m cc] 25))):=(aS _ _).alloc (aC _) _;by_cases h1:0<=node
 ·by_cases h2:node<n
  ·have F:aZ (afg n node=true):=decide_eq_true ⟨h1,h2⟩;go_enter func146,ntmps146;go_wp2_with fail;go_ret;exact⟨by rw[F.o];first|rfl|simp[h1,h2],B.o⟩
  ·have F:aZ (afg n node=false):=decide_eq_false (by omega);go_enter func146,ntmps146;go_wp2_with fail;go_ret;exact⟨by rw[F.o];first|rfl|simp[h1,h2],B.o⟩
 ·have F:aZ (afg n node=false):=decide_eq_false (by omega);go_enter func146,ntmps146;go_wp2_with fail;go_ret;exact⟨by rw[F.o];first|rfl|simp[h1],B.o⟩
theorem uF.below{w w':aG}{base:Nat}{S:List Slot}(h:uF w base S)(hb:aO w.heap.size w w'):uF w' base S:=
 ⟨fun s hs=>(h.1 s hs).kept (Cc hb aj) (by cases s.v.ownBlock with
  |none=>exact .inl rfl
  |some q=>exact .inr (by simp)),h.2⟩
theorem xA.grown{w w':aG}{b n:Nat}{f:zA}{row:Option Nat}(h:xA w b n f)(hg:w.grownBy w' row)(nJ:az b≠row):xA w' b n f:=by obtain⟨m,M,h1,h2,h3⟩:=h;exact⟨m,M,h1,h2.kept hg nJ,h3⟩
def aef(n:Nat)(cs:List Cb)(us:List Bool)(lv:List Int)(to:Nat)(w:aG)(e:iL)(w':aG):Prop:=
 ∃f v1 v2,Found n cs us lv to f/\e=ax (.tuple #[v1,v2,ah ag 0])/\w'.ownsRow w.heap.size 3 1 v1 n ((xL n f false).flatMap cI)/\w'.ownsRow w.heap.size 3 1 v2 n ((xL n f true).flatMap cI)/\aO w.heap.size w w'
def adX(n:Nat)(f:zA)(base bx bm:Nat)(w5:aG)(v1 v2 i:aJ)(wr:aG):Prop:=
 ∃k:Nat,k<=n/\i=ah ag k/\uF wr base [⟨v1,3,1,k,(xL k f false).flatMap cI⟩,⟨v2,3,1,k,(xL k f true).flatMap cI⟩]/\dG wr bx 251 #[.map (az bm)]/\xA wr bm n f/\aO base w5 wr
theorem acR(ns:List Nd)(cs:List Cb)(us:List Bool)(lv:List Int)(An Ac Au Al:Option fE)(cn cc cu cl to:Nat)(w:aG)(hv:fQ ⟨ns,cs⟩=0)(Od:oH ⟨ns,cs⟩ lv=true)(Bn:us.length=cs.length)(zB:lv.length=ns.length)(hto:to<ns.length)(sN:QJ ⟨ns,cs⟩)(hwl:WfI lv)(h:jB w An Ac ⟨ns,cs⟩)(h2:gH 1 cB false w Au us.length us)(h3:gH 1 cI 0 w Al lv.length lv):di aH 115 #[.agg #[ay An ns.length cn,ay Ac cs.length cc],.agg #[ay Al lv.length cl],ay Au us.length cu,ah ag (to:Int)] w (aef ns.length cs us lv to w):=by
 obtain⟨n16,Ll⟩:=nV hv;obtain⟨w1,gK⟩:∃w1:aG,(w.alloc (af #[ay An ns.length cn,ay Ac cs.length cc] 25)).alloc (af #[ay Al lv.length cl] 169)=w1:=⟨_,rfl⟩;have BW:aZ (aO w.heap.size w w1):=by rw[<-gK];exact((aS _ _).alloc (aC _) _).alloc (by simp) _
 have P4:aZ (dG w1 w.heap.size 25 #[ay An ns.length cn,ay Ac cs.length cc]):=by rw[<-gK];exact(dG.new w 25 #[ay An ns.length cn,ay Ac cs.length cc]).alloc _
 have P5:aZ (dG w1 (w.heap.size+1) 169 #[ay Al lv.length cl]):=by rw[<-gK];have:=dG.new (w.alloc (af #[ay An ns.length cn,ay Ac cs.length cc] 25)) 169 #[ay Al lv.length cl];rw[aZ];simpa using this
 have HP:=aA (h.below (aC _) BW.o);have HU:=aA (h2.below (aC _) BW.o);have HL:=aA (h3.below (aC _) BW.o);have HV:=aA hv;have UB:=aA Bn;have JC:=aA zB;have nJ:((us.length:Int)!=(cs.length:Int))=false:=by simp[Bn]
 have HO:=GJ ⟨ns,cs⟩ lv An Ac Al cn cc cl w1 (by show ns.length<=_;omega) (by show cs.length<=_;omega) sN (by omega) hwl HP.o HL.o;rw[Od]at HO;have HOO:=aA HO;have t0:(0:Int)<=(to:Int):=by omega
 have t1:(to:Int)<(ns.length:Int):=by omega
 have Bv:=aA gK;clear hv Od Bn zB sN hwl h h2 h3 HO gK;go_enter func115,ntmps115;go_wp2_with fail;rw[Bv.o];refine HOO.o.mono ?_;rintro e w2 ⟨rfl,gB⟩;have UF:=aA (P4.o.below gB P4.o.lt);have UG:=aA (P5.o.below gB P5.o.lt);have c40:w2.cell? ⟨w.heap.size,0,aj⟩=az (ay An ns.length cn):=by rw[UF.o.cell];rfl
 have c41:w2.cell? ⟨w.heap.size,1,aj⟩=az (ay Ac cs.length cc):=by rw[UF.o.cell];rfl
 have c50:=UG.o.one.1;have HP2:=aA (HP.o.below (aC _) gB);have HU2:=aA (HU.o.below (aC _) gB);have HL2:=aA (HL.o.below (aC _) gB);have JB:aZ (aO w.heap.size w w2):=BW.o.trans (gB.mono BW.o.size);have HN:=acS An Ac ns.length cn cs.length cc (to:Int) w2 (by omega);rw[show afg ns.length (to:Int)=true from decide_eq_true ⟨t0,t1⟩]at HN;have HNN:=aA HN;clear gB HN HOO Bv;go_wp2_with fail;refine HNN.o.mono ?_;rintro e w3 ⟨rfl,gB⟩;have P43:=aA (UF.o.below gB UF.o.lt);have P53:=aA (UG.o.below gB UG.o.lt);have d40:w3.cell? ⟨w.heap.size,0,aj⟩=az (ay An ns.length cn):=by rw[P43.o.cell];rfl
 have d41:w3.cell? ⟨w.heap.size,1,aj⟩=az (ay Ac cs.length cc):=by rw[P43.o.cell];rfl
 have d50:=P53.o.one.1;have MP:aZ (aO w.heap.size w w3):=JB.o.trans (gB.mono JB.o.size);have HS:=aA (YX ns cs us lv An Ac Au Al cn cc cu cl to w3 HV.o UB.o JC.o hto (HP2.o.below (aC _) gB) (HU2.o.below (aC _) gB) (HL2.o.below (aC _) gB));clear gB HNN c40 c41 c50;go_wp2_with fail;refine HS.o.mono ?_;rintro e w4 ⟨bm,f,rfl,Yq,sm,aeQ,gB⟩;have P44:=aA (P43.o.below gB P43.o.lt);have e40:w4.cell? ⟨w.heap.size,0,aj⟩=az (ay An ns.length cn):=by rw[P44.o.cell];rfl
 have l40:=P44.o.lt;have FND:=aA aeQ;have BW4:aZ (aO w.heap.size w w4):=MP.o.trans (gB.mono MP.o.size);obtain⟨w5,Gs⟩:∃w5:aG,w4.alloc (af #[.map (az bm)] 251)=w5:=⟨_,rfl⟩;obtain⟨bx,Jc⟩:∃bx,w4.heap.size=bx:=⟨_,rfl⟩;have BX5:aZ (dG w5 bx 251 #[.map (az bm)]):=by rw[<-Gs,<-Jc];exact dG.new _ _ _
 have SM5:aZ (xA w5 bm ns.length f):=by rw[<-Gs];exact sm.alloc _
 have BW5:aZ (aO w.heap.size w w5):=by rw[<-Gs];exact BW4.o.alloc BW4.o.size _
 have HW5:=aA Gs;have HBX:=aA Jc;have ST:aZ (adX ns.length f w5.heap.size bx bm w5 (ay aj 0 0) (ay aj 0 0) (ah ag 0) w5):=⟨0,bJ _,rfl,((uF.nil _ _).empty _ _).empty _ _,BX5.o,SM5.o,aS _ _⟩;have S95:=aA BX5.o.lt;have M95:=aA SM5.o.lt;obtain⟨i0,hi0,wE,uY,wN⟩:=eQ Du;have HI0:=aA hi0;have HZ0:=aA wE;have HZ1:=aA uY;have HZ2:=aA wN;clear Gs Jc gB sm aeQ d40 d41 d50 HS hi0 wE uY wN;go_wp2_with fail;rw[HW5.o,HBX.o];clear HW5 HBX;go_loopw [8,9,39] (fun v1 v2 i wr=>adX ns.length f w5.heap.size bx bm w5 v1 v2 i wr) (fun _ _ i _=>ns.length-(aK i).toNat);case atStart=>exact ST.o
 case round=>
  clear ST;obtain⟨k,hk,rfl,sl,bxr,sm,gB⟩:=hrel;have SL:=aA sl;have BXR:=aA bxr;have SMR:=aA sm;have xW:=aA gB;by_cases nH:k<ns.length
  ·have HD:=aA (Vp bx bm ns.length f (k,false) wr bxr sm (by show k<1000000;omega));clear sl bxr sm gB;go_wp2_with fail;refine HD.o.mono ?_;rintro e w6 ⟨rfl,XF⟩;have SL6:=aA ((SL.o.below XF).alloc (af #[ah ag (dI (f (k,false)))] 3));have OW1:=aA SL6.o.head;have BX6:=aA ((BXR.o.below XF BXR.o.lt).alloc (af #[ah ag (dI (f (k,false)))] 3));have SM6:=aA ((SMR.o.below XF SMR.o.lt).alloc (af #[ah ag (dI (f (k,false)))] 3));have B6:=aA XF;have BE6:aZ (aO w5.heap.size w5 (w6.alloc (af #[ah ag (dI (f (k,false)))] 3))):=(xW.out.trans (XF.mono xW.out.size)).alloc (by have h1:=xW.out.size;have h2:=XF.size;omega) _;have OG1:aZ (∀g,u8.ownBlock=az g->w5.heap.size<=g):=fun g e=>(SL.o.head.lt g e).1;have OG2:aZ (∀g,u9.ownBlock=az g->w5.heap.size<=g):=fun g e=>((SL.o.1 _ (dx _ (bZ ..))).lt g e).1;clear XF HD;go_wp2_with (at_builtin;refine wpList_append_own_at _ rfl _ _ 26 rfl w5.heap.size 3 i0 _ 1 8 underlying26 HI0.o HZ0.o HZ1.o HZ2.o rfl (by decide) _ _ _ rfl OW1.o ⟨w6.heap.size,0,aj⟩ 1 1 [ah ag (dI (f (k,false)))] rfl rfl ?e11 ?e12 ?e13 ?e14 ?e15 ?_);case e11=>intro j u hu;cases j<;>simp at hu;subst hu;simp[nO,go_sem]
   case e12=>intro u hu;simp at hu;subst hu;rfl
   case e13=>unfold fJ;omega
   case e14=>omega
   case e15=>have h1:=xW.out.size;have h2:=B6.o.size;simp at *;omega
   intro v1' w7 Rc gr7 _ arA;have SL7:=aA (SL6.o.push Rc gr7 (by simpa using arA));have nb:∀g,g<w5.heap.size->az g≠u8.ownBlock:=fun g hg e=>by have:=OG1.o g e.symm;omega
   have BX7:=BX6.o.grown gr7 (nb bx S95.o);have SM7:=SM6.o.grown gr7 (nb bm M95.o);have BE7:aZ (aO w5.heap.size w5 w7):=BE6.o.grown gr7 BE6.o.size OG1.o;have G7:=aA gr7;have aot:=aA BX7;have apJ:=aA SM7;have HE:=aA (Vp bx bm ns.length f (k,true) w7 BX7 SM7 (by show k<1000000;omega));clear Rc gr7 arA nb BX7 SM7;go_wp2_with fail;refine HE.o.mono ?_;rintro e w8 ⟨rfl,XG⟩;have B8:=aA XG;have SL8:=aA (((SL7.o.below XG).alloc (af #[ah ag (dI (f (k,true)))] 3)).perm (List.Perm.swap _ _ _));have OW2:=aA SL8.o.head;have BX8:=aA ((aot.out.below XG aot.out.lt).alloc (af #[ah ag (dI (f (k,true)))] 3));have SM8:=aA ((apJ.out.below XG apJ.out.lt).alloc (af #[ah ag (dI (f (k,true)))] 3));have BE8:aZ (aO w5.heap.size w5 (w8.alloc (af #[ah ag (dI (f (k,true)))] 3))):=(BE7.o.trans (XG.mono BE7.o.size)).alloc (by have h1:=BE7.o.size;have h2:=XG.size;omega) _;clear XG HE;go_wp2_with (at_builtin;refine wpList_append_own_at _ rfl _ _ 26 rfl w5.heap.size 3 i0 _ 1 8 underlying26 HI0.o HZ0.o HZ1.o HZ2.o rfl (by decide) _ _ _ rfl OW2.o ⟨w8.heap.size,0,aj⟩ 1 1 [ah ag (dI (f (k,true)))] rfl rfl ?e21 ?e22 ?e23 ?e24 ?e25 ?_);case e21=>intro j u hu;cases j<;>simp at hu;subst hu;simp[nO,go_sem]
   case e22=>intro u hu;simp at hu;subst hu;rfl
   case e23=>unfold fJ;omega
   case e24=>omega
   case e25=>have h1:=xW.out.size;have h2:=B6.o.size;have h3:=G7.o.size;have h4:=B8.o.size;simp at *;omega
   intro v2' w9 ack gr9 _ afr;have nb:∀g,g<w5.heap.size->az g≠u9.ownBlock:=fun g hg e=>by have:=OG2.o g e.symm;omega
   have R:aZ (adX ns.length f w5.heap.size bx bm w5 v1' v2' (ah ag ((k+1:Nat):Int)) w9):=(by have SL9:=(SL8.o.push ack gr9 (by simpa using afr)).perm (List.Perm.swap _ _ _);refine⟨k+1,by omega,rfl,?_,BX8.o.grown gr9 (nb bx S95.o),SM8.o.grown gr9 (nb bm M95.o),BE8.o.grown gr9 BE8.o.size OG2.o⟩;rw[Sv,Sv,fU,fU];exact SL9);clear ack gr9 afr nb;go_wp2_with fail;exact⟨by simpa using R.o,by simp[aK];omega⟩
  ·obtain rfl:k=ns.length:=by omega
   have F:aZ (aef ns.length cs us lv to w (ax (.tuple #[u8,u9,ah ag 0])) wr):=(by refine⟨f,u8,u9,FND.o,rfl,wI (sl.1 _ (bZ ..)) BW5.o.size,wI (sl.1 _ (dx _ (bZ ..))) BW5.o.size,BW5.o.trans (gB.mono BW5.o.size)⟩);clear sl bxr sm gB;go_wp2_with fail
   go_ret3
   exact F.o
end
section
def NQ(cs:List Cb)(us:List Bool)(lv R F:List Int)(node:Nat)(left:Int)(mr:Bool)(i:Nat):Bool:=
 decide (1<=left)&&(kX (cs.getD i gV) (node:Int)).2&&us.getD i false&&
  (if qL lv (kX (cs.getD i gV) (node:Int)).1 (node:Int)=true then mr&&decide (R.getD (kX (cs.getD i gV) (node:Int)).1.toNat 0=left-1)else decide (F.getD (kX (cs.getD i gV) (node:Int)).1.toNat 0=left-1))
def Te(cs:List Cb)(us:List Bool)(lv R F:List Int)(node:Nat)(left:Int)(mr:Bool)(c:Int):Prop:=
 (c=-1/\∀i,i<cs.length->NQ cs us lv R F node left mr i=false)\/∃i:Nat,i<cs.length/\c=i/\NQ cs us lv R F node left mr i=true
structure CE(w:aG)(ns:List Nd)(cs:List Cb)(us:List Bool)(lv R F:List Int)(An Ac Au Al AR AF:Option fE)(cn cc cu cl cR cF b3 b4 b5 ry b11:Nat):Prop where
 p3:dG w b3 25 #[ay An ns.length cn,ay Ac cs.length cc]
 p4:dG w b4 169 #[ay Al lv.length cl]
 p5:dG w b5 52 #[ay Au us.length cu]
 p10:dG w ry 26 #[ay AR ns.length cR]
 p11:dG w b11 26 #[ay AF ns.length cF]
 pl:jB w An Ac ⟨ns,cs⟩
 pu:gH 1 cB false w Au us.length us
 plv:gH 1 cI 0 w Al lv.length lv
 pR:gH 1 cI 0 w AR ns.length R
 pF:gH 1 cI 0 w AF ns.length F
theorem CE.below{w w':aG}{ns:List Nd}{cs:List Cb}{us:List Bool}{lv R F:List Int}{An Ac Au Al AR AF:Option fE}{cn cc cu cl cR cF b3 b4 b5 ry b11:Nat}(h:CE w ns cs us lv R F An Ac Au Al AR AF cn cc cu cl cR cF b3 b4 b5 ry b11){B:Nat}(hB:w.heap.size<=B)(hb:aO B w w'):CE w' ns cs us lv R F An Ac Au Al AR AF cn cc cu cl cR cF b3 b4 b5 ry b11:=by have f:∀{g:Nat} {t:dP} {xs:Array aJ},dG w g t xs->dG w' g t xs:=fun hx=>hx.below hb (bY hx.lt hB);exact⟨f h.p3,f h.p4,f h.p5,f h.p10,f h.p11,h.pl.below hB hb,h.pu.below hB hb,h.plv.below hB hb,h.pR.below hB hb,h.pF.below hB hb⟩
def Xk(cs:List Cb)(us:List Bool)(lv R F:List Int)(node:Nat)(left:Int)(mr:Bool)(w:aG)(i:aJ)(wr:aG):Prop:=
 ∃k:Nat,k<=cs.length/\i=ah ag k/\(∀j,j<k->NQ cs us lv R F node left mr j=false)/\aO w.heap.size w wr
def zJ(cs:List Cb)(us:List Bool)(lv R F:List Int)(node:Nat)(left:Int)(mr:Bool)(w:aG)(e:iL)(w':aG):Prop:=
 ∃c,e=ax (ah ag c)/\Te cs us lv R F node left mr c/\aO w.heap.size w w'
theorem Pb(ns:List Nd)(cs:List Cb)(us:List Bool)(lv R F:List Int)(An Ac Au Al AR AF:Option fE)(cn cc cu cl cR cF b3 b4 b5 ry b11 node:Nat)(left:Int)(mr:Bool)(w:aG)(hv:fQ ⟨ns,cs⟩=0)(Bn:us.length=cs.length)(zB:lv.length=ns.length)(aDu:node<ns.length)(hl0:-1<=left)(hl1:left<=1000000)(h:CE w ns cs us lv R F An Ac Au Al AR AF cn cc cu cl cR cF b3 b4 b5 ry b11):di aH 116 #[ah ag (node:Int),ah ag left,.bool mr,au (az ⟨b3,0,aj⟩),au (az ⟨b5,0,aj⟩),au (az ⟨b4,0,aj⟩),au (az ⟨ry,0,aj⟩),au (az ⟨b11,0,aj⟩)] w (zJ cs us lv R F node left mr w):=by
 obtain⟨n16,Ll⟩:=nV hv;have HV:=aA hv;have UB:=aA Bn;have JC:=aA zB;have H:=aA h;have c31:w.cell? ⟨b3,1,aj⟩=az (ay Ac cs.length cc):=by rw[h.p3.cell];rfl
 have ST:aZ (Xk cs us lv R F node left mr w (ah ag 0) w):=⟨0,bJ _,rfl,fun j hj=>by omega,aS _ _⟩;clear hv Bn zB h;go_enter func116,ntmps116;go_wp2_with fail;go_loopw [20] (fun i wr=>Xk cs us lv R F node left mr w i wr) (fun i _=>cs.length-(aK i).toNat);case atStart=>exact ST.o
 case round=>
  clear ST c31;obtain⟨k,hk,rfl,Px,gB⟩:=hrel;have Xd:=aA Px;have xW:=aA gB;clear Px;by_cases nH:k<cs.length
  ·have CW:=H.o.below (aC _) gB;obtain⟨bc,oc,hAc,hbc,mI,ca,pJ,cb,Ve,cd,Vf⟩:=mE CW.pl.2 k nH;obtain⟨⟨na0,na1⟩,nb0,nb1⟩:=Fy HV.o mI;have JP:aZ (NQ cs us lv R F node left mr k=false->∀w9,aO w.heap.size w w9->Xk cs us lv R F node left mr w (ah ag ((k+1:Nat):Int)) w9):=fun e w9 hb=>by
    refine⟨k+1,by omega,rfl,fun j hj=>?_,hb⟩;by_cases hjk:j=k
    ·rw[hjk];exact e
    ·exact Xd.o j (by omega)
   have FD:aZ (NQ cs us lv R F node left mr k=(decide (1<=left)&&(kX (cs.getD k gV) (node:Int)).2&&us.getD k false&&
    (if qL lv (kX (cs.getD k gV) (node:Int)).1 (node:Int)=true then mr&&decide (R.getD (kX (cs.getD k gV) (node:Int)).1.toNat 0=left-1)else decide (F.getD (kX (cs.getD k gV) (node:Int)).1.toNat 0=left-1)))):=rfl
   have AR0:aZ ((kX (cs.getD k gV) (node:Int)).2=true->0<=(kX (cs.getD k gV) (node:Int)).1/\(kX (cs.getD k gV) (node:Int)).1<ns.length):=by
    unfold kX;intro ht;split at ht
    ·rename_i h1;rw[if_pos h1];exact⟨nb0,nb1⟩
    ·split at ht
     ·rename_i h1 h2;rw[if_neg h1,if_pos h2];exact⟨na0,na1⟩
     ·cases ht
   obtain⟨w1,gK⟩:∃w1:aG,wr.alloc (af #[ah ag (cs.getD k gV).a,ah ag (cs.getD k gV).ap,ah ag (cs.getD k gV).b,ah ag (cs.getD k gV).bp,ah ag (cs.getD k gV).dl,ah ag (cs.getD k gV).cp] 86)=w1:=⟨_,rfl⟩;have aoo:aZ (aO w.heap.size w w1):=(by rw[<-gK];exact gB.alloc gB.size _);have HA:=aA (Xr (cs.getD k gV) (node:Int) w1);have Bv:=aA gK;generalize cs.getD k gV=x at *;obtain⟨av,aok⟩:∃y,kX x (node:Int)=y:=⟨_,rfl⟩;subst hAc;clear mI na0 na1 nb0 nb1 CW gK;rw[aok]at HA FD AR0;obtain⟨oth,ok⟩:=av;simp only at HA FD AR0;go_wp2_with fail;rw[Bv.o];refine HA.o.mono ?_;rintro e w2 ⟨rfl,wR⟩;have Nz:aZ (aO w.heap.size w w2):=aoo.out.trans (wR.mono aoo.out.size);have AOK:=aA aok;clear wR gB HA ca pJ cb Ve cd Vf Bv aok;by_cases hle:1<=left
   ·cases ok with
    |false=>have R:=aA (JP.o (by rw[FD.o];simp) w2 Nz.o);have tL:¬left<1:=(by omega);clear JP FD AR0;go_wp2_with fail;exact⟨by simpa using R.o,by simp[aK];omega⟩
    |true=>
     obtain⟨o0,o1⟩:=AR0.o rfl;obtain⟨o,rfl⟩:∃o:Nat,oth=o:=⟨oth.toNat,by omega⟩;have hon:o<ns.length:=(by omega);have zB:=JC.o;have Bn:=UB.o;have CW2:=H.o.below (aC _) Nz.o;obtain⟨bu,ou,hAu,hbu,_,cu'⟩:=TF CW2.pu k (by omega);have c5:=CW2.p5.one.1;have c4:=CW2.p4.one.1;have HAB:=aA (LC lv Al cl (o:Int) (node:Int) w2 (by omega) CW2.plv);subst hAu;have kus:(k:Int)<(us.length:Int):=(by omega);have tL:¬left<1:=(by omega);rw[decide_eq_true hle,cO]at FD;cases EH:us.getD k false with
     |false=>rw[EH]at cu' FD;have R:=aA (JP.o (by rw[FD.o];simp) w2 Nz.o);clear JP FD AR0 EH CW2 zB Bn HAB;go_wp2_with fail;exact⟨by simpa using R.o,by simp[aK];omega⟩
     |true=>
      rw[EH]at cu' FD;clear EH CW2 zB Bn;go_wp2_with fail;refine HAB.o.mono ?_;rintro e w3 ⟨rfl,xE⟩;have Ls:aZ (aO w.heap.size w w3):=Nz.o.trans (xE.mono Nz.o.size);have CW3:=H.o.below (aC _) Ls.o;obtain⟨bR,oR,hAR,hbR,_,cR'⟩:=oD CW3.pR o hon;obtain⟨bF,oF,hAF,hbF,_,cF'⟩:=oD CW3.pF o hon;have c10:=CW3.p10.one.1;have c11:=CW3.p11.one.1;subst hAR;subst hAF;have q1:IntKind.i64.wrap (left-1)=left-1:=fH _ (by omega);have RET:aZ (NQ cs us lv R F node left mr k=true->zJ cs us lv R F node left mr w (ax (ah ag (k:Int))) w3):=fun e=>⟨k,rfl,.inr ⟨k,nH,rfl,e⟩,Ls.o⟩;clear xE CW3 HAB c4 c5 cu';obtain⟨r,hr⟩:∃r,R.getD o 0=r:=⟨_,rfl⟩;obtain⟨f,hf⟩:∃f,F.getD o 0=f:=⟨_,rfl⟩;rw[hr]at cR' FD;rw[hf]at cF' FD;clear hr hf;cases yS:qL lv (o:Int) (node:Int)with
      |true=>
       rw[yS]at FD;clear yS;cases mr with
       |false=>have R:=aA (JP.o (by rw[FD.o];simp) w3 Ls.o);clear JP FD AR0 RET;go_wp2_with fail;exact⟨by simpa using R.o,by simp[aK];omega⟩
       |true=>
        by_cases hq:r=left-1
        ·have F:=aA (RET.o (by rw[FD.o];simp[hq]));clear JP FD AR0 RET;have hq2:(r==left-1)=true:=(by simpa using hq);clear hq;go_wp2_with fail;go_ret;exact F.o
        ·have R:=aA (JP.o (by rw[FD.o];simp[hq]) w3 Ls.o);clear JP FD AR0 RET;have hq2:(r==left-1)=false:=(by simpa using hq);go_wp2_with fail;exact⟨by simpa using R.o,by simp[aK];omega⟩
      |false=>
       rw[yS]at FD;clear yS;by_cases hq:f=left-1
       ·have F:=aA (RET.o (by rw[FD.o];simp[hq]));clear JP FD AR0 RET;have hq2:(f==left-1)=true:=(by simpa using hq);clear hq;go_wp2_with fail;go_ret;exact F.o
       ·have R:=aA (JP.o (by rw[FD.o];simp[hq]) w3 Ls.o);clear JP FD AR0 RET;have hq2:(f==left-1)=false:=(by simpa using hq);go_wp2_with fail;exact⟨by simpa using R.o,by simp[aK];omega⟩
   ·have R:=aA (JP.o (by rw[FD.o,decide_eq_false hle];simp) w2 Nz.o);have tL:left<1:=by omega
    clear JP FD AR0 hle;cases ok;all_goals
     go_wp2_with fail;exact⟨by simpa using R.o,by simp[aK];omega⟩
  ·obtain rfl:k=cs.length:=by omega
   have F:aZ (zJ cs us lv R F node left mr w (ax (ah ag (-1))) wr):=⟨-1,rfl,.inl ⟨rfl,Xd.o⟩,gB⟩;clear gB;go_wp2_with fail;go_ret;exact F.o
end
section
def QT(cs:List Cb)(us:List Bool)(l:List Int)(j:Nat):Prop:=∀i v:Nat,i<cs.length->us.getD i false=true->touch (cs.getD i gV) j v->0<=l.getD v 0
def akK(n:Nat)(cs:List Cb)(us:List Bool)(l:List Int):Prop:=∀j,j<n->0<l.getD j 0->∃i k:Nat,i<cs.length/\us.getD i false=true/\k<n/\touch (cs.getD i gV) j k/\l.getD k 0=l.getD j 0-1
structure Ib(n:Nat)(cs:List Cb)(us:List Bool)(root:Nat)(l:List Int):Prop where
 lv:Tj n cs root l
 led:akK n cs us l
 QT:∀j,j<n->0<=l.getD j 0->QT cs us l j
structure CB(n:Nat)(cs:List Cb)(us:List Bool)(l q:List Int):Prop where
 led:akK n cs us l
 QT:∀j:Nat,j<n->0<=l.getD j 0->(j:Int)∈q\/QT cs us l j
structure CI(n:Nat)(cs:List Cb)(us:List Bool)(l q:List Int)(u k:Nat):Prop where
 led:akK n cs us l
 QT:∀j:Nat,j<n->j≠u->0<=l.getD j 0->(j:Int)∈q\/QT cs us l j
 cur:∀i v:Nat,i<k->us.getD i false=true->touch (cs.getD i gV) u v->0<=l.getD v 0
section
variable{n:Nat}{cs:List Cb}{us:List Bool}{l q:List Int}{u v k root:Nat}
theorem CB.start(hr:root<n):CB n cs us ((aQ n (-1)).set root 0) [(root:Int)]:=by
 have hg:∀j,j<n->((aQ n (-1:Int)).set root 0).getD j 0=if j=root then 0 else-1:=fun j hj=>by
  by_cases h:j=root
  ·subst h;simp[bS,hj]
  ·rw[if_neg h];simp[bS,iB h,hj]
 refine⟨fun j hj hp=>?_,fun j hj hp=>?_⟩
 ·rw[hg j hj]at hp;split at hp<;>omega
 ·rw[hg j hj]at hp;split at hp
  ·rename_i e;left;rw[e];simp
  ·omega
theorem CB.pop(h:CB n cs us l ((u:Int)::q)):CI n cs us l q u 0 where
 led:=h.led
 QT:=fun j hj nJ hp=>by
  rcases h.QT j hj hp with e|e
  ·rcases dM.1 e with e|e
   ·exact absurd (by omega) nJ
   ·exact .inl e
  ·exact .inr e
 cur:=fun i v hi=>by omega
theorem CI.skip(h:CI n cs us l q u k)(hs:us.getD k false=false\/∀v:Nat,¬touch (cs.getD k gV) u v):CI n cs us l q u (k+1) where
 led:=h.led
 QT:=h.QT
 cur:=fun i v hi hu ht=>by
  by_cases e:i=k
  ·subst e;rcases hs with hs|hs
   ·rw[hs]at hu;cases hu
   ·exact absurd ht (hs v)
  ·exact h.cur i v (by omega) hu ht
theorem QG{x:Cb}{u v w:Nat}(nJ:x.a≠x.b)(h:touch x u v)(h2:touch x u w):v=w:=by unfold touch at h h2;rcases h with h|h<;>rcases h2 with h2|h2<;>omega
theorem QF{x:Cb}{u v:Nat}(h:touch x u v):touch x v u:=by
 unfold touch at h|-;rcases h with h|h
 ·exact .inr ⟨h.2,h.1⟩
 ·exact .inl ⟨h.2,h.1⟩
theorem CI.visit(h:CI n cs us l q u k)(hl:l.length=n)(hk:k<cs.length)(hu:u<n)(hv:v<n)(hlu:0<=l.getD u 0)(hs:us.getD k false=true)(ht:touch (cs.getD k gV) u v)(nJ:(cs.getD k gV).a≠(cs.getD k gV).b):CI n cs us (wM l q (u:Int) v).1 (wM l q (u:Int) v).2 u (k+1):=by
 unfold wM;by_cases h1:l.getD v 0<0
 ·rw[if_pos h1,cO];have huv:u≠v:=fun e=>by rw[e]at hlu;omega
  have gv:(l.set v (l.getD u 0+1)).getD v 0=l.getD u 0+1:=by simp[bS,hl,hv]
  have go:∀j,j≠v->(l.set v (l.getD u 0+1)).getD j 0=l.getD j 0:=fun j e=>by simp[bS,iB e]
  have mono:∀j,0<=l.getD j 0->0<=(l.set v (l.getD u 0+1)).getD j 0:=fun j hj=>by
   by_cases e:j=v
   ·rw[e,gv];omega
   ·rw[go j e];exact hj
  refine⟨fun j hj hp=>?_,fun j hj hne' hp=>?_,fun i w hi hu' ht'=>?_⟩
  ·simp only at hp|-;by_cases e:j=v
   ·subst e;exact⟨k,u,hk,hs,hu,QF ht,by rw[gv,go u huv];omega⟩
   ·rw[go j e]at hp;obtain⟨i,k',a1,a2,a3,a4,a5⟩:=h.led j hj hp;have:k'≠v:=fun e2=>(by rw[e2]at a5;omega);exact⟨i,k',a1,a2,a3,a4,by rw[go k' this,go j e];exact a5⟩
  ·simp only at hp|-;by_cases e:j=v
   ·left;rw[e];simp
   ·rw[go j e]at hp;rcases h.QT j hj hne' hp with q'|q'
    ·left;exact List.mem_append_left _ q'
    ·right;exact fun i w hi hu' ht'=>mono w (q' i w hi hu' ht')
  ·simp only;by_cases e:i=k
   ·subst e;rw[<-QG nJ ht ht',gv];omega
   ·exact mono w (h.cur i w (by omega) hu' ht')
 ·rw[if_neg h1];refine⟨h.led,h.QT,fun i w hi hu' ht'=>?_⟩;by_cases e:i=k
  ·subst e;rw[<-QG nJ ht ht'];simp only;omega
  ·exact h.cur i w (by omega) hu' ht'
theorem CI.done(h:CI n cs us l q u cs.length):CB n cs us l q where
 led:=h.led
 QT:=fun j hj hp=>by
  by_cases e:j=u
  ·subst e;exact .inr fun i v hi=>h.cur i v hi
  ·exact h.QT j hj e hp
theorem CB.nil(h:CB n cs us l [])(hl:Tj n cs root l):Ib n cs us root l:=⟨hl,h.led,fun j hj hp=>(h.QT j hj hp).resolve_left (by simp)⟩
end
theorem S2.agc{w wr w':aG}{ns:List Nd}{cs:List Cb}{root b9 gq ry u v:Nat}{pv:Array aJ}{qv:aJ}{l q:List Int}{x:Cb}(hS:S2 w ns cs root pv b9 gq qv l q wr)(hv:v<ns.length)(hu:u<ns.length)(hlu:0<=l.getD u 0)(hx:x∈cs)(ht:touch x v u)(hp:Lt wr ns.length w.heap.size (w.heap.size+1+1) (w.heap.size+1) ry b9 gq (u:Int) (wM l q (u:Int) v).1 (wM l q (u:Int) v).2 w'):∃gq' YQ l' q',S2 w ns cs root pv b9 gq' YQ l' q' w'/\dG w' ry 3 #[ah ag u]/\gq'≠ry/\0<=l'.getD u 0/\q'.length+without l'=q.length+without l/\KB wr.heap.size [w.heap.size+1,b9,gq] wr w'/\w.heap.size+1≠ry/\l'=(wM l q (u:Int) v).1/\q'=(wM l q (u:Int) v).2:=by
 obtain⟨gq',YQ,D,kb,loc⟩:=hp;have hlen:=hS.lv.len;have gp:=hS.plan.lt;have n9:b9≠w.heap.size:=dG.tne hS.wT hS.plan (by decide);have n7:=hS.ne7;have m7:gq'≠w.heap.size:=by rcases loc with e|e<;>omega
 have PL:dG w' w.heap.size 25 pv:=kb.JF hS.plan gp (by simp;exact⟨iB n9,iB n7⟩);have BL:aO w.heap.size w w':=hS.below.trans (kb.toBelow (by omega) (by simp;exact⟨hS.ge9,hS.Wq.ge⟩));by_cases h1:l.getD v 0<0
 ·have e:wM l q (u:Int) v=(l.set v (l.getD u 0+1),q++[(v:Int)]):=by unfold wM;rw[if_pos h1,cO]
  rw[e]at D;simp only at D;have huv:v≠u:=fun e=>by rw[e]at h1;omega
  have wo:=Nv (l:=l) (v:=v) (x:=l.getD u 0+1) (by omega) h1 (by omega);have gu:(l.set v (l.getD u 0+1)).getD u 0=l.getD u 0:=by simp[bS,huv]
  have hsum:(q++[(v:Int)]).length+without (l.set v (l.getD u 0+1))=q.length+without l:=by rw[bW,iH];omega
  refine⟨gq',YQ,_,_,⟨D.box,D.row,PL,D.wT,D.Wq,D.ne1,D.ne4,D.ne5,D.ne6,m7,hS.ge9,hS.lv.visit hv hu h1 hlu hx ht,?_,by rw[hsum];exact hS.low,BL⟩,D.node,D.ne2,by rw[gu];exact hlu,hsum,kb,D.ne3,by rw[e],by rw[e]⟩;intro y hy;have gv:(l.set v (l.getD u 0+1)).getD v 0=l.getD u 0+1:=by simp[bS,hlen,hv]
  rcases dU.1 hy with hy|hy
  ·obtain⟨j,rfl,hj,hl⟩:=hS.qok y hy;refine⟨j,rfl,hj,?_⟩;by_cases e:v=j
   ·rw[<-e,gv];omega
   ·have:(l.set v (l.getD u 0+1)).getD j 0=l.getD j 0:=by simp[bS,e]
    rw[this];exact hl
  ·obtain rfl:=dh.1 hy;exact⟨v,rfl,hv,by rw[gv];omega⟩
 ·have e:wM l q (u:Int) v=(l,q):=by unfold wM;rw[if_neg h1]
  rw[e]at D;simp only at D;exact⟨gq',YQ,_,_,⟨D.box,D.row,PL,D.wT,D.Wq,D.ne1,D.ne4,D.ne5,D.ne6,m7,hS.ge9,hS.lv,hS.qok,hS.low,BL⟩,D.node,D.ne2,hlu,rfl,kb,D.ne3,by rw[e],by rw[e]⟩
def Rn(us:List Bool)(w:aG)(ns:List Nd)(cs:List Cb)(root:Nat)(pv:Array aJ)(b9 ry u M:Nat)(i:aJ)(wr:aG):Prop:=
 ∃k:Nat,k<=cs.length/\i=ah ag k/\∃gq qv l q,S2 w ns cs root pv b9 gq qv l q wr/\dG wr ry 3 #[ah ag u]/\gq≠ry/\0<=l.getD u 0/\q.length+without l=M/\w.heap.size+1≠ry/\CI ns.length cs us l q u k
theorem RH(ns:List Nd)(cs:List Cb)(us:List Bool)(root:Nat)(An Ac Au:Option fE)(cn cc cu:Nat)(w:aG)(hv:fQ ⟨ns,cs⟩=0)(hr:root<ns.length)(h:jB w An Ac ⟨ns,cs⟩)(h2:gH 1 cB false w Au cs.length us):di aH 79 #[.agg #[ay An ns.length cn,ay Ac cs.length cc],ah ag root,ay Au cs.length cu] w fun e w'=>∃l,Ib ns.length cs us root l/\xZ l w e w':=by
 obtain⟨n16,Ll⟩:=nV hv;have HV:=aA hv;have HP:=aA h;have HU:=aA h2;clear hv h h2;obtain⟨j0,xQ,zC,Aq,Av⟩:=eQ Du;obtain⟨o4,Sb⟩:∃o4,af (eH #[ah ag 0] ns.length) 3=o4:=⟨_,rfl⟩;have HO4:=aA Sb;clear Sb;go_enter func79,ntmps79;go_wp2_with (at_make;refine kL _ rfl _ _ 26 rfl 3 j0 _ 1 underlying26 xQ zC Aq .i64 .i64 _ _ ns.length rfl rfl ?m1 ?m2 (by rw[Av];omega) (by unfold fJ;omega) ?_);case m1=>rfl
 case m2=>rfl
 rw[HO4.o];obtain⟨w3,zZ⟩:∃w3:aG,((w.alloc (af #[ay An ns.length cn,ay Ac cs.length cc] 25)).alloc o4).alloc (af #[ay (az {block:=w.heap.size+1,off:=0}) ns.length ns.length] 26)=w3:=⟨_,rfl⟩;have MP:aZ (aO w.heap.size w w3):=by rw[<-zZ];exact(((aS _ _).alloc (aC _) _).alloc (by simp) _).alloc (by simp;omega) _
 have R3:aZ (dG w3 (w.heap.size+1) 3 (Ga (Bj ns.length 0))):=by rw[<-zZ,Yd,qm];have:=(dG.new (w.alloc (af #[ay An ns.length cn,ay Ac cs.length cc] 25)) 3 (eH #[ah ag 0] ns.length)).alloc (af #[ay (az {block:=w.heap.size+1,off:=0}) ns.length ns.length] 26);rw[<-HO4.o,aZ];simpa using this
 have B73:aZ (dG w3 (w.heap.size+1+1) 26 #[ay (az ⟨w.heap.size+1,0,aj⟩) ns.length ns.length]):=by rw[<-zZ];have:=dG.new ((w.alloc (af #[ay An ns.length cn,ay Ac cs.length cc] 25)).alloc o4) 26 #[ay (az {block:=w.heap.size+1,off:=0}) ns.length ns.length];rw[aZ];simpa using this
 have P3:aZ (dG w3 w.heap.size 25 #[ay An ns.length cn,ay Ac cs.length cc]):=by rw[<-zZ];exact((dG.new w _ _).alloc _).alloc _
 have sz3:w3.heap.size=w.heap.size+3:=by rw[<-zZ];simp
 have SZ3:=aA sz3;have HW3:=aA zZ;have ST:aZ (adH ns.length (w.heap.size+1) w w3 (ah ag 0) w3):=⟨0,bJ _,rfl,R3.o,KB.refl _ _ _,MP.o⟩;clear zZ sz3 xQ zC Aq Av;go_wp2_with fail;rw[HW3.o];clear HW3 HO4;go_loopw [20] (fun i wr=>adH ns.length (w.heap.size+1) w w3 i wr) (fun i _=>ns.length-(aK i).toNat);case atStart=>exact ST.o
 case round=>
  clear ST;obtain⟨k,hk,rfl,rb,kb,gB⟩:=hrel;have sz3:=SZ3.o;have bs:=kb.size;have c7:wr.cell? ⟨w.heap.size+1+1,0,aj⟩=az (ay (az ⟨w.heap.size+1,0,aj⟩) ns.length ns.length):=(kb.JF B73.o (by omega) (by simp)).one.1;have KBE:=aA kb;have BE:=aA gB;have RB:=aA rb;by_cases nH:k<ns.length
  ·have ck:wr.cell? ⟨w.heap.size+1,k,aj⟩=az (ah ag ((Bj ns.length k).getD k 0)):=by rw[rb.cell];exact CJ _ k (by rw[RL];exact nH)
   have fk:wr.frozen? ⟨w.heap.size+1,k,aj⟩=false:=rb.frozen k;have k1:(k:Int)<(ns.length:Int):=(by omega);have R:aZ (∀q,adH ns.length (w.heap.size+1) w w3 (ah ag ((k+1:Nat):Int)) ((wr.drewN q).setCell ⟨w.heap.size+1,k,aj⟩ (ah ag (-1)))):=fun q=>
    ⟨k+1,by omega,rfl,by rw[<-abv,<-Qu];exact(RB.o.drewN q).jy k _,(KBE.o.drewN q).setCell (aC _) (.inl (by simp)) _,(below_drewN BE.o q).setCell (by simp) _⟩
   clear rb kb gB sz3;go_wp2_with fail;exact⟨by simpa[World.drewN]using R.o 0,by simp[aK];omega⟩
  ·obtain rfl:k=ns.length:=by omega
   rw[abu]at rb;have rr:wr.frozen? ⟨w.heap.size+1,root,aj⟩=false:=rb.frozen root;have cr:wr.cell? ⟨w.heap.size+1,root,aj⟩=az (ah ag (-1)):=by rw[rb.cell,CJ _ root (by simpa using hr)];simp[bS,hr]
   have r1:(root:Int)<(ns.length:Int):=(by omega);obtain⟨w5,Gs⟩:∃w5:aG,((wr.setCell ⟨w.heap.size+1,root,aj⟩ (ah ag 0)).alloc (af #[ah ag root] 3)).alloc (af #[ay (az ⟨wr.heap.size,0,aj⟩) 1 1] 26)=w5:=⟨_,rfl⟩;have ST2:aZ (S2 w ns cs root #[ay An ns.length cn,ay Ac cs.length cc] (wr.heap.size+1) wr.heap.size (ay (az ⟨wr.heap.size,0,aj⟩) 1 1) ((aQ ns.length (-1)).set root 0) [(root:Int)] w5):=by
    have z:(wr.setCell ⟨w.heap.size+1,root,aj⟩ (ah ag 0)).heap.size=wr.heap.size:=(by simp);have z2:((wr.setCell ⟨w.heap.size+1,root,aj⟩ (ah ag 0)).alloc (af #[ah ag root] 3)).heap.size=wr.heap.size+1:=(by simp);have q0:=IU.lit (base:=w.heap.size) (wr.setCell ⟨w.heap.size+1,root,aj⟩ (ah ag 0)) (root:Int) (by rw[z];omega);have n0:=dG.new ((wr.setCell ⟨w.heap.size+1,root,aj⟩ (ah ag 0)).alloc (af #[ah ag root] 3)) 26 #[ay (az ⟨wr.heap.size,0,aj⟩) 1 1];rw[z]at q0;rw[z2]at n0;have wo:without ((aQ ns.length (-1)).set root 0)+1=ns.length:=(by have:=Nv (l:=aQ ns.length (-1)) (v:=root) (x:=0) (by simpa using hr) (by simp[bS,hr]) (by omega);rw[this];simp[without,List.countP_replicate]);rw[<-Gs];refine⟨?_,?_,?_,n0,q0.alloc _,by omega,by omega,by omega,by omega,by omega,by omega,Tj.start hr,?_,?_,?_⟩
    ·exact(((kb.JF B73.o (by omega) (by simp)).Bi (p:=⟨w.heap.size+1,root,aj⟩) (by simp) _).alloc _).alloc _
    ·rw[<-Qu];exact((rb.jy root _).alloc _).alloc _
    ·exact(((kb.JF P3.o (by omega) (by simp)).Bi (p:=⟨w.heap.size+1,root,aj⟩) (by simp) _).alloc _).alloc _
    ·intro x hx;obtain rfl:=dh.1 hx;exact⟨root,rfl,hr,by simp[bS,hr]⟩
    ·simp only[iH];omega
    ·exact((gB.setCell (by simp) _).alloc (by simp;omega) _).alloc (by simp;omega) _
   have HW5:=aA Gs;obtain⟨b9,hb9⟩:∃b9,wr.heap.size+1=b9:=⟨_,rfl⟩;clear rb kb gB Gs;go_wp2_with fail;rw[HW5.o];clear HW5 c7 rr cr R3 B73 P3 KBE BE RB;rw[hb9]at ST2;clear hb9 SZ3 MP sz3 bs;go_loopw [10] (fun _ wr'=>∃gq qv l q,S2 w ns cs root #[ay An ns.length cn,ay Ac cs.length cc] b9 gq qv l q wr'/\CB ns.length cs us l q) (fun _ wr'=>aib b9 (w.heap.size+1) wr');case atStart=>exact⟨_,_,_,_,ST2.o,CB.start hr⟩
   case round=>
    clear ST2;obtain⟨gq,qv,l,q,hS,hCB⟩:=hrel;have HS:=aA hS;have HCB:=aA hCB;clear hCB;have cq:=hS.wT.one.1;have fq:=hS.wT.one.2;cases q with
    |nil=>
     obtain⟨off,cap,cur,rfl,_⟩:=hS.Wq;have c7:=hS.box.one.1;have F:aZ (∃l,Ib ns.length cs us root l/\xZ l w (ax (ay (az ⟨w.heap.size+1,0,aj⟩) ns.length ns.length)) wr):=by have zB:=hS.lv.len;refine⟨l,HCB.o.nil hS.lv,_,rfl,?_,hS.below⟩;have hm:l.flatMap cI=l.map (ah .i64):=(by rw[List.map_eq_flatMap];rfl);rw[zB,hm];refine⟨by simp[zB],.inr ⟨w.heap.size+1,ns.length,Ga l,rfl,by omega,hS.row,?_⟩⟩;simp[Ga,zB,fJ];all_goals(first|omega|exact rE (by simp[zB])|(refine⟨by omega,?_⟩;first|omega|exact rE (by simp[zB])))
     clear hS;go_wp2_with fail;go_ret;exact F.o
    |cons x q=>
     obtain⟨off,cap,hqv,hcap,c0,q1⟩:=hS.Wq.head;subst hqv;obtain⟨u,rfl,hu,hlu⟩:=hS.qok x (bZ ..);have cp0:wr.cell? ⟨w.heap.size,0,aj⟩=az (ay An ns.length cn):=(by rw[hS.plan.cell];rfl);have cp1:wr.cell? ⟨w.heap.size,1,aj⟩=az (ay Ac cs.length cc):=(by rw[hS.plan.cell];rfl);have hpos:(0:Int)<((q.length+1:Nat):Int):=(by omega);have gl:=hS.Wq.lt;have g9:=hS.wT.lt;have gp:=hS.plan.lt;have M0:=ZV hS.row hS.wT hS.Wq;have STEP:aZ (∀YQ,IU wr w.heap.size gq YQ q->Rn us w ns cs root #[ay An ns.length cn,ay Ac cs.length cc] b9 wr.heap.size u (q.length+without l) (ah ag 0) ((wr.setCell ⟨b9,0,aj⟩ YQ).alloc (af #[ah ag u] 3))):=fun YQ q1=>(by have n9:b9≠w.heap.size:=dG.tne hS.wT hS.plan (by decide);have n9r:b9≠w.heap.size+1:=dG.tne hS.wT hS.row (by decide);have low:=hS.low;rw[fw]at low;have gr:=hS.row.lt;have z:(wr.setCell ⟨b9,0,aj⟩ YQ).heap.size=wr.heap.size:=(by simp);have nb:=dG.new (wr.setCell ⟨b9,0,aj⟩ YQ) 3 #[ah ag (u:Int)];rw[z]at nb;refine⟨0,bJ _,rfl,gq,YQ,l,q,⟨(hS.box.Bi (p:=⟨b9,0,aj⟩) hS.ne6 _).alloc _,(hS.row.Bi (p:=⟨b9,0,aj⟩) (iB n9r) _).alloc _,(hS.plan.Bi (p:=⟨b9,0,aj⟩) (iB n9) _).alloc _,(hS.wT.set0 _).alloc _,(q1.jy (p:=⟨b9,0,aj⟩) (iB hS.ne5) _).alloc _,hS.ne1,hS.ne4,hS.ne5,hS.ne6,hS.ne7,hS.ge9,hS.lv,fun y hy=>hS.qok y (dx _ hy),by omega,?_⟩,nb,by omega,hlu,rfl,by omega,HCB.o.pop⟩;exact(hS.below.setCell hS.ge9 _).alloc (by rw[z];omega) _);clear hS;go_wp2_with fail;all_goals(first|rw[if_pos ‹cap=1›]at q1|rw[if_neg ‹¬cap=1›]at q1)
     all_goals
      try rw[show cap-1=0 by omega]at q1
      have ST3:=aA (STEP.o _ q1);have MH:=aA M0;clear STEP q1
      first|generalize ay (az ⟨gq,off,aj⟩) q.length 0=YQ at * |generalize ay (az ⟨gq,off+1,aj⟩) q.length (cap-1)=YQ at *
      clear HS cq fq c0 hpos cp0 cp1 M0 g9 gp gl hcap;obtain⟨wo,rfl⟩:∃wo:aG,wo=wr:=⟨_,rfl⟩;go_loopw [44] (fun i wr'=>Rn us w ns cs root #[ay An ns.length cn,ay Ac cs.length cc] b9 wo.heap.size u (q.length+without l) i wr') (fun i _=>cs.length-(aK i).toNat);case atStart=>exact ST3.o
      case round=>
       clear ST3;obtain⟨k,hk,rfl,gq3,qv3,l3,q3,Sa,hn3,ne3,hl3,hM3,Pt,hci⟩:=hrel;have HCI:=aA hci;clear hci;have S3:=aA Sa;have N3:=aA hn3;have HM3:=aA hM3;clear hM3;by_cases nH:k<cs.length
       ·obtain⟨bc,oc,hAc,hbc,mI,ca,pJ,cb,Ve,cd,Vf⟩:=mE HP.o.2 k nH;obtain⟨bu,ou,hAu,hbu,_,cu⟩:=TF HU.o k nH;obtain⟨⟨na0,na1⟩,nb0,nb1⟩:=Fy HV.o mI;have nab:=MJ HV.o mI;have aoQ:=aA mI;generalize hgx:cs.getD k gV=x at *;have HGX:=aA hgx;have HKR:=aA nH;clear hgx;obtain⟨xa,qK,xb,qQ,xd,xc⟩:=x;simp only at ca pJ cb Ve cd Vf na0 na1 nb0 nb1 nab;obtain⟨ia,rfl⟩:∃ia:Nat,xa=ia:=⟨xa.toNat,by omega⟩;obtain⟨ib,rfl⟩:∃ib:Nat,xb=ib:=⟨xb.toNat,by omega⟩;have Mg:ia<ns.length:=(by omega);have Mh:ib<ns.length:=(by omega);subst hAc;subst hAu;clear mI;have bl0:=Sa.below;have cu2:wr.cell? ⟨bu,ou+k,aj⟩=az (.bool (us.getD k false)):=(bl0.cell (p:=⟨bu,ou+k,aj⟩) hbu).trans cu;have ca2:wr.cell? ⟨bc,oc+k*6,aj⟩=az (ah ag ia):=(bl0.cell (p:=⟨bc,oc+k*6,aj⟩) hbc).trans ca;have cap2:wr.cell? ⟨bc,oc+k*6+1,aj⟩=az (ah ag qK):=(bl0.cell (p:=⟨bc,oc+k*6+1,aj⟩) hbc).trans pJ;have cb2:wr.cell? ⟨bc,oc+k*6+2,aj⟩=az (ah ag ib):=(bl0.cell (p:=⟨bc,oc+k*6+2,aj⟩) hbc).trans cb;have ahv:wr.cell? ⟨bc,oc+k*6+3,aj⟩=az (ah ag qQ):=(bl0.cell (p:=⟨bc,oc+k*6+3,aj⟩) hbc).trans Ve;have cd2:wr.cell? ⟨bc,oc+k*6+4,aj⟩=az (ah ag xd):=(bl0.cell (p:=⟨bc,oc+k*6+4,aj⟩) hbc).trans cd;have ahw:wr.cell? ⟨bc,oc+k*6+5,aj⟩=az (ah ag xc):=(bl0.cell (p:=⟨bc,oc+k*6+5,aj⟩) hbc).trans Vf;have c10:=hn3.one.1;have h10:=hn3.lt;have oW:w.heap.size<=wr.heap.size:=bl0.size;have hlv:l3.getD u 0<=1000000:=(by have:=Sa.lv.lt hu;omega);have hql:q3.length<=1000000:=(by have:=Sa.low;omega);have axW:bu<wr.heap.size:=(by omega);cases EH:us.getD k false with
        |false=>rw[EH]at cu2;have R:aZ (Rn us w ns cs root #[ay An ns.length cn,ay (az ⟨bc,oc,aj⟩) cs.length cc] b9 wo.heap.size u (q.length+without l) (ah ag ((k+1:Nat):Int)) (wr.alloc (af #[ah ag ia,ah ag qK,ah ag ib,ah ag qQ,ah ag xd,ah ag xc] 86))):=⟨k+1,by omega,rfl,gq3,qv3,l3,q3,S3.o.alloc _,N3.o.alloc _,ne3,hl3,HM3.o,Pt,HCI.o.skip (.inl EH)⟩;clear Sa hn3 cu ca pJ cb Ve cd Vf EH bl0;go_wp2_with fail;exact⟨by simpa using R.o,by simp[aK];omega⟩
        |true=>
         rw[EH]at cu2;have HUB:=aA EH;have Qg:ia≠ib:=fun e=>nab (by rw[e]);by_cases ha:u=ia
         ·subst ha;have nJ:¬(ib=u):=fun e=>Qg e.symm;clear Qg nab;have SA:=S3.o.alloc (af #[ah ag u,ah ag qK,ah ag ib,ah ag qQ,ah ag xd,ah ag xc] 86);have NB:=dG.new wr 86 #[ah ag u,ah ag qK,ah ag ib,ah ag qQ,ah ag xd,ah ag xc];have C:=Io (wr.alloc (af #[ah ag u,ah ag qK,ah ag ib,ah ag qQ,ah ag xd,ah ag xc] 86)) _ _ _ _ _ _ _ u ib qv3 l3 q3 (SA.ds (N3.o.alloc _) ne3 Pt) (by simp;omega) Mh hu (by omega) hql ⟨hl3,hlv⟩;have VS:aZ (∀w4,Lt (wr.alloc (af #[ah ag u,ah ag qK,ah ag ib,ah ag qQ,ah ag xd,ah ag xc] 86)) ns.length w.heap.size (w.heap.size+1+1) (w.heap.size+1) wo.heap.size b9 gq3 (u:Int) (wM l3 q3 (u:Int) ib).1 (wM l3 q3 (u:Int) ib).2 w4->
           Rn us w ns cs root #[ay An ns.length cn,ay (az ⟨bc,oc,aj⟩) cs.length cc] b9 wo.heap.size u (q.length+without l) (ah ag ((k+1:Nat):Int)) w4/\dG w4 wr.heap.size 86 #[ah ag u,ah ag qK,ah ag ib,ah ag qQ,ah ag xd,ah ag xc]/\dG w4 wo.heap.size 3 #[ah ag u]/\aO w.heap.size w w4):=fun w4 hp=>by
           obtain⟨gq4,qv4,l4,q4,S4,N4,ne4,hl4,hM4,kb4,hb4,ama,amg⟩:=SA.agc Mh hu hl3 aoQ.out (.inr ⟨rfl,rfl⟩) hp;have alY:CI ns.length cs us l4 q4 u (k+1):=(by rw[ama,amg];exact HCI.o.visit Sa.lv.len HKR.o hu Mh hl3 HUB.o (by rw[HGX.o];exact .inl ⟨rfl,rfl⟩) (by rw[HGX.o];simp only;omega));exact⟨⟨k+1,by omega,rfl,gq4,qv4,l4,q4,S4,N4,ne4,hl4,hM4.trans HM3.o,hb4,alY⟩,kb4.JF NB (by simp) (by have e1:=Sa.row.lt;have e2:=Sa.wT.lt;have e3:=Sa.Wq.lt;simp;omega),N4,S4.below⟩
          have HC:=aA C;have CU:=aA cu;clear Sa hn3 cu ca pJ cb Ve cd Vf EH bl0 SA NB C;go_wp2_with fail;refine HC.o.mono ?_;rintro en w4 ⟨rfl,hp⟩;obtain⟨R4,B4,N4,Et⟩:=VS.o w4 hp;have R:=aA R4;have d0:w4.cell? ⟨wr.heap.size,0,aj⟩=az (ah ag u):=(by rw[B4.cell];rfl);have d2:w4.cell? ⟨wr.heap.size,2,aj⟩=az (ah ag ib):=(by rw[B4.cell];rfl);have d10:=N4.one.1;have cu4:w4.cell? ⟨bu,ou+k,aj⟩=az (.bool true):=(by rw[Et.cell (p:=⟨bu,ou+k,aj⟩) hbu,CU.o,HUB.o]);clear hp R4 B4 N4 Et cu2 ca2 cap2 cb2 ahv cd2 ahw c10;go_wp2_with fail;exact⟨by simpa using R.o,by simp[aK];omega⟩
         ·by_cases hb:u=ib
          ·subst hb;have nJ:¬(ia=u):=fun e=>ha e.symm;clear Qg nab ha;have SA:=S3.o.alloc (af #[ah ag ia,ah ag qK,ah ag u,ah ag qQ,ah ag xd,ah ag xc] 86);have NB:=dG.new wr 86 #[ah ag ia,ah ag qK,ah ag u,ah ag qQ,ah ag xd,ah ag xc];have C:=Io (wr.alloc (af #[ah ag ia,ah ag qK,ah ag u,ah ag qQ,ah ag xd,ah ag xc] 86)) _ _ _ _ _ _ _ u ia qv3 l3 q3 (SA.ds (N3.o.alloc _) ne3 Pt) (by simp;omega) Mg hu (by omega) hql ⟨hl3,hlv⟩;have VS:aZ (∀w4,Lt (wr.alloc (af #[ah ag ia,ah ag qK,ah ag u,ah ag qQ,ah ag xd,ah ag xc] 86)) ns.length w.heap.size (w.heap.size+1+1) (w.heap.size+1) wo.heap.size b9 gq3 (u:Int) (wM l3 q3 (u:Int) ia).1 (wM l3 q3 (u:Int) ia).2 w4->
            Rn us w ns cs root #[ay An ns.length cn,ay (az ⟨bc,oc,aj⟩) cs.length cc] b9 wo.heap.size u (q.length+without l) (ah ag ((k+1:Nat):Int)) w4/\dG w4 wr.heap.size 86 #[ah ag ia,ah ag qK,ah ag u,ah ag qQ,ah ag xd,ah ag xc]/\dG w4 wo.heap.size 3 #[ah ag u]/\aO w.heap.size w w4):=fun w4 hp=>by
            obtain⟨gq4,qv4,l4,q4,S4,N4,ne4,hl4,hM4,kb4,hb4,ama,amg⟩:=SA.agc Mg hu hl3 aoQ.out (.inl ⟨rfl,rfl⟩) hp;have alY:CI ns.length cs us l4 q4 u (k+1):=(by rw[ama,amg];exact HCI.o.visit Sa.lv.len HKR.o hu Mg hl3 HUB.o (by rw[HGX.o];exact .inr ⟨rfl,rfl⟩) (by rw[HGX.o];simp only;omega));exact⟨⟨k+1,by omega,rfl,gq4,qv4,l4,q4,S4,N4,ne4,hl4,hM4.trans HM3.o,hb4,alY⟩,kb4.JF NB (by simp) (by have e1:=Sa.row.lt;have e2:=Sa.wT.lt;have e3:=Sa.Wq.lt;simp;omega),N4,S4.below⟩
           have HC:=aA C;have CU:=aA cu;clear Sa hn3 cu ca pJ cb Ve cd Vf EH bl0 SA NB C;go_wp2_with fail;refine HC.o.mono ?_;rintro en w4 ⟨rfl,hp⟩;obtain⟨R4,B4,N4,Et⟩:=VS.o w4 hp;have R:=aA R4;have d0:w4.cell? ⟨wr.heap.size,0,aj⟩=az (ah ag ia):=(by rw[B4.cell];rfl);have d2:w4.cell? ⟨wr.heap.size,2,aj⟩=az (ah ag u):=(by rw[B4.cell];rfl);have d10:=N4.one.1;have cu4:w4.cell? ⟨bu,ou+k,aj⟩=az (.bool true):=(by rw[Et.cell (p:=⟨bu,ou+k,aj⟩) hbu,CU.o,HUB.o]);clear hp R4 B4 N4 Et cu2 ca2 cap2 cb2 ahv cd2 ahw c10;go_wp2_with fail;exact⟨by simpa using R.o,by simp[aK];omega⟩
          ·have nJ:¬(ia=u):=fun e=>ha e.symm;have hne2:¬(ib=u):=fun e=>hb e.symm;have R:aZ (Rn us w ns cs root #[ay An ns.length cn,ay (az ⟨bc,oc,aj⟩) cs.length cc] b9 wo.heap.size u (q.length+without l) (ah ag ((k+1:Nat):Int)) (wr.alloc (af #[ah ag ia,ah ag qK,ah ag ib,ah ag qQ,ah ag xd,ah ag xc] 86))):=⟨k+1,by omega,rfl,gq3,qv3,l3,q3,S3.o.alloc _,N3.o.alloc _,ne3,hl3,HM3.o,Pt,HCI.o.skip (.inr fun v ht=>by rw[HGX.o]at ht;unfold touch at ht;simp only at ht;omega)⟩;clear Sa hn3 cu ca pJ cb Ve cd Vf EH bl0 Qg nab ha hb;go_wp2_with fail;exact⟨by simpa using R.o,by simp[aK];omega⟩
       ·obtain rfl:k=cs.length:=by omega
        have jm:aZ (aib b9 (w.heap.size+1) wr=q.length+without l):=(by rw[aZ,ZV Sa.row Sa.wT Sa.Wq,HM3.o]);clear hn3 Sa;go_wp2_with fail;exact⟨⟨_,_,_,_,S3.o,HCI.o.done⟩,by rw[jm.out,MH.o,fw];omega⟩
theorem Yk(p:Pl)(us:List Bool)(root:Int)(An Ac Au:Option fE)(cn cc cu:Nat)(w:aG)(hl:p.ns.length<=1000000)(Ef:p.cs.length<=1000000)(hm:us.length<=1000000)(sN:QJ p)(h:jB w An Ac p)(h2:gH 1 cB false w Au us.length us)(qX:adB p us root):di aH 32 #[.agg #[ay An p.ns.length cn,ay Ac p.cs.length cc],ah ag root,ay Au us.length cu] w fun e w'=>∃l,Ib p.ns.length p.cs us root.toNat l/\xZ l w e w':=by
 obtain⟨ns,cs⟩:=p;simp only at hl Ef|-;obtain⟨hv,Bn,hr0,hr1⟩:=qX;simp only at Bn hr1;obtain⟨r,rfl⟩:∃r:Nat,root=r:=⟨root.toNat,by omega⟩;rw[cO];have hrn:r<ns.length:=by omega
 obtain⟨w1,gK⟩:∃w1:aG,w.alloc (af #[ay An ns.length cn,ay Ac cs.length cc] 25)=w1:=⟨_,rfl⟩;have s0:w1.cell? ⟨w.heap.size,0,aj⟩=az (ay An ns.length cn):=by rw[<-gK];simp[go_sem]
 have s1:w1.cell? ⟨w.heap.size,1,aj⟩=az (ay Ac cs.length cc):=by rw[<-gK];simp[go_sem]
 have Sz:w.heap.size<w1.heap.size:=by rw[<-gK];simp
 have BW:aZ (aO w.heap.size w w1):=by rw[<-gK];exact(aS _ _).alloc (aC _) _
 have H1:=aA (h.below (aC _) BW.o);have H2:=aA (h2.below (aC _) BW.o);have HC:=aA (QH ⟨ns,cs⟩ An Ac Au cn cc cu us.length w1 hl Ef hm sN H1.o);have HT:aZ (wL ⟨ns,cs⟩ us.length=true):=by rw[aZ];unfold wL;rw[decide_eq_true hv,decide_eq_true Bn];rfl
 have HV:=aA hv;have UB:=aA Bn;have Bv:=aA gK;clear gK h h2 sN hv Bn;go_enter func32,ntmps32;go_wp2_with fail;rw[Bv.o];refine HC.o.mono ?_;rintro e w2 ⟨rfl,gB⟩;rw[HT.o];have c0:=(gB.cell (p:=⟨w.heap.size,0,aj⟩) Sz).trans s0;have c1:=(gB.cell (p:=⟨w.heap.size,1,aj⟩) Sz).trans s1;have BF:aZ (aO w.heap.size w w2):=BW.o.trans (gB.mono BW.o.size);have H12:=aA (H1.o.below (aC _) gB);have H22:=aA (H2.o.below (aC _) gB);have HD:aZ (di aH 79 #[.agg #[ay An ns.length cn,ay Ac cs.length cc],ah ag r,ay Au us.length cu] w2 (fun e w'=>∃l,Ib ns.length cs us r l/\xZ l w2 e w')):=by have h22:=H22.o;rw[UB.o]at h22;rw[aZ,UB.o];exact RH ns cs us r An Ac Au cn cc cu w2 HV.o hrn H12.o h22
 clear gB HC s0 s1 Bv;go_wp2_with fail;refine HD.o.mono ?_;rintro e w3 ⟨l,hl,v,rfl,own,xE⟩;have F:aZ (∃l,Ib ns.length cs us r l/\xZ l w (ax v) w3):=⟨l,hl,v,rfl,wI own BF.o.size,BF.o.trans (xE.mono BF.o.size)⟩;clear own xE hl;go_wp2_with fail;go_ret;exact F.o
def Tp(p:Pl)(us:List Bool)(root:Int)(w:aG)(e:iL)(w':aG):Prop:=
 aO w.heap.size w w'/\((¬adB p us root/\∃c:Int,c≠0/\e=ax (.tuple #[.agg #[ay aj 0 0],ah ag c]))\/
  (adB p us root/\∃l v,Ib p.ns.length p.cs us root.toNat l/\e=ax (.tuple #[.agg #[v],ah ag 0])/\w'.ownsRow w.heap.size 3 1 v l.length (l.flatMap cI)))
theorem afy(p:Pl)(us:List Bool)(root:Int)(An Ac Au:Option fE)(cn cc cu:Nat)(w:aG)(hl:p.ns.length<=1000000)(Ef:p.cs.length<=1000000)(sN:QJ p)(h:jB w An Ac p)(h2:gH 1 cB false w Au us.length us):di aH 88 #[.agg #[ay An p.ns.length cn,ay Ac p.cs.length cc],ay Au us.length cu,ah ag root] w (Tp p us root w):=by
 obtain⟨ns,cs⟩:=p;simp only at hl Ef|-;obtain⟨w1,gK⟩:∃w1:aG,(w.alloc (af #[ay An ns.length cn,ay Ac cs.length cc] 25)).alloc (af #[ay aj 0 0] 169)=w1:=⟨_,rfl⟩;have s0:w1.cell? ⟨w.heap.size,0,aj⟩=az (ay An ns.length cn):=by rw[<-gK];simp[go_sem]
 have s1:w1.cell? ⟨w.heap.size,1,aj⟩=az (ay Ac cs.length cc):=by rw[<-gK];simp[go_sem]
 have OB1:aZ (dG w1 (w.heap.size+1) 169 #[ay aj 0 0]):=by rw[<-gK];have:=dG.new (w.alloc (af #[ay An ns.length cn,ay Ac cs.length cc] 25)) 169 #[ay aj 0 0];rw[aZ];simpa using this
 have Sz:w.heap.size+1<w1.heap.size:=by rw[<-gK];simp
 have BW:aZ (aO w.heap.size w w1):=by rw[<-gK];exact((aS _ _).alloc (aC _) _).alloc (by simp) _
 have H1:=aA (h.below (aC _) BW.o);have H2:=aA (h2.below (aC _) BW.o);have HC:=aA (zX ⟨ns,cs⟩ An Ac cn cc w1 hl Ef sN H1.o);have HW:=aA sN;have Bv:=aA gK;clear gK h h2 sN;go_enter func88,ntmps88;go_wp2_with fail;rw[Bv.o];refine HC.o.mono ?_;rintro e w2 ⟨rfl,gB⟩;have c0:=(gB.cell (p:=⟨w.heap.size,0,aj⟩) (by show w.heap.size<_;omega)).trans s0;have c1:=(gB.cell (p:=⟨w.heap.size,1,aj⟩) (by show w.heap.size<_;omega)).trans s1;have OB2:=aA (OB1.o.below gB OB1.o.lt);have o1:=OB2.o.one.1;have o2:=OB2.o.one.2;have BF:aZ (aO w.heap.size w w2):=BW.o.trans (gB.mono BW.o.size);have H12:=aA (H1.o.below (aC _) gB);have H22:=aA (H2.o.below (aC _) gB);clear gB HC s0 s1 Bv;have ERR:aZ (¬adB ⟨ns,cs⟩ us root->∀c:Int,c≠0->Tp ⟨ns,cs⟩ us root w (ax (.tuple #[.agg #[ay aj 0 0],ah ag c])) (w2.setCell ⟨w.heap.size+1,0,aj⟩ (ay aj 0 0))):=fun hn c hc=>
  ⟨BF.o.setCell (by simp) _,.inl ⟨hn,c,hc,rfl⟩⟩
 cases hv:fQ ⟨ns,cs⟩==0 with
 |false=>
  have F:=aA (ERR.o (fun h=>by have:=h.1;rw[this]at hv;cases hv) 1 (by decide));have hv2:(fQ ⟨ns,cs⟩!=0)=true:=by simpa using hv
  generalize fQ ⟨ns,cs⟩=z at *;go_wp2_with fail;refine bodyPost_ret (v:=.tuple #[.agg #[ay aj 0 0],ah ag 1]) (by simp[results,zS,go_sem,o1]) rfl ?_;exact F.o
 |true=>
  have hv0:fQ ⟨ns,cs⟩=0:=by simpa using hv
  rw[hv0];have HV:=aA hv0;clear hv hv0;by_cases Iq:us.length=cs.length
  ·by_cases hr:root<0\/(ns.length:Int)<=root
   ·have F:=aA (ERR.o (fun h=>by have h1:=h.2.2.1;have h2:=h.2.2.2;simp only at h2;omega) 2 (by decide));have hr':root<0\/(0<=root/\(ns.length:Int)<=root):=by omega
    clear hr;have HM2:=aA Iq;have hm3:((us.length:Int)!=(cs.length:Int))=false:=by simp[Iq]
    clear Iq;rcases hr' with h1|⟨h1,h2⟩
    all_goals
     go_wp2_with fail;refine bodyPost_ret (v:=.tuple #[.agg #[ay aj 0 0],ah ag 2]) (by simp[results,zS,go_sem,o1]) rfl ?_
     exact F.o
   ·have qX:adB ⟨ns,cs⟩ us root:=⟨HV.o,Iq,by omega,by show root<(ns.length:Int);omega⟩;have r0:0<=root:=by omega
    have r1:root<(ns.length:Int):=(by omega);have Xe:=aA qX;have HD:=aA (Yk ⟨ns,cs⟩ us root An Ac Au cn cc cu w2 hl Ef (by rw[Iq];exact Ef) HW.o H12.o H22.o qX);have hm3:((us.length:Int)!=(cs.length:Int))=false:=(by simp[Iq]);clear Iq qX hr;go_wp2_with fail;refine HD.o.mono ?_;rintro e w3 ⟨l,hl,v,rfl,own,xE⟩;obtain⟨av,aln,hve,_⟩:=ic (d:=(0:Int)) rZ (by decide) own;subst hve;have OB3:=aA (OB2.o.below xE OB2.o.lt);have p1:=OB3.o.one.1;have p2:=OB3.o.one.2;have F:aZ (Tp ⟨ns,cs⟩ us root w (ax (.tuple #[.agg #[ay av l.length aln],ah ag 0])) (w3.setCell ⟨w.heap.size+1,0,aj⟩ (ay av l.length aln))):=(by refine⟨(BF.o.trans (xE.mono BF.o.size)).setCell (by simp) _,.inr ⟨Xe.o,l,_,hl,rfl,?_⟩⟩;exact Mt (wI own BF.o.size) (wH (zF w3 (az (w.heap.size+1))) (.inl rfl) _) (fun q e=>by have h1:=(own.lt q e).1;have h2:=OB2.o.lt;omega));clear own xE hl;go_wp2_with fail;refine bodyPost_ret (v:=.tuple #[.agg #[ay av l.length aln],ah ag 0]) (by simp[results,zS,go_sem,p1]) rfl ?_;exact F.o
  ·have F:=aA (ERR.o (fun h=>Iq h.2.1) 1 (by decide));go_wp2_with fail;refine bodyPost_ret (v:=.tuple #[.agg #[ay aj 0 0],ah ag 1]) (by simp[results,zS,go_sem,o1]) rfl ?_;exact F.o
end
end Go.Proofs.YtnjjkgjdhljfnaaGreat
