/- Part 1. -/
import Derived.Below
import Derived.Deep.AppendLies
import Derived.Deep.Draws
import Derived.DeepKeys4
import Derived.KernelRfl
import Derived.Laws.OwnMore
import Derived.Laws.Rows
import Derived.Lib.Hide
import Derived.Maps.AppendAt
import Derived.Maps.Own
import Derived.Maps.OwnOps
import Derived.Maps.OwnSet
import Derived.Outline
import Derived.OwnWalk
import Derived.RegionTactic
import Derived.StringKeys
import Derived.Test.YtnjjkgjdhljfnaaGreatProg
import Derived.WalkKit
import Derived.WalkLawsBesides
open Go.Proofs.Tryz
open Bool renaming and_eq_true->cZ,eq_iff_iff->jE,not_eq_false->sI,not_eq_true'->mI,or_eq_true->iq
open Go renaming Addr->fA,Calls->bZ,TypeId->dL,Value->aI,World->aG,maxLen->fB
open Go.Addr renaming add->nP
open Go.Builtin renaming append_->uK,firstCells->Il
open Go.Ending renaming returned->ax
open Go.Instr renaming index->xO,lookup->nJ
open Go.IntKind renaming i64->ag
open Go.Lib renaming hid->aA
open Go.Lit renaming int->iT
open Go.Obj renaming cells->af
open Go.Oper renaming wp->jK
open Go.Proofs.Tryz renaming prog->aH
open Go.Region renaming wanted->eH
open Go.Result renaming andThen->mP
open Go.RowKit renaming Below->aN,Hid->aY
open Go.RowKit.Below renaming heap_setCell->nz,refl->aQ
open Go.Value renaming int->ah,ownBlock->dV,slice->ay
open Go.World renaming setCell->iK
open Int renaming le_refl->gQ,natCast_nonneg->qY,toNat_natCast->cK,toNat_of_nonneg->gJ
open List renaming Nodup->Oy,all_append->uM,any_append->rO,any_eq_true->iD,append_assoc->mM,eq_nil_of_length_eq_zero->gT,ext_getElem?->nZ,filterMap_append->wT,filterMap_cons->GI,filter_append->ig,filter_cons->iE,filter_eq_nil_iff->jy,find?_some->yw,flatMap_cons->eO,foldl_append->fZ,foldl_cons->fK,foldl_nil->vU,getD->bJ,getD_cons_succ->GJ,getElem?_eq_getElem->dw,getElem?_map->cO,getElem?_range->dW,getElem?_replicate->gz,getElem?_set->kY,getElem_mem->BN,length_append->bV,length_cons->eQ,length_nil->jZ,length_set->jG,map_append->eY,mem_append->eZ,mem_cons->dG,mem_cons_of_mem->dU,mem_cons_self->dH,mem_filter->jH,mem_flatMap->iF,mem_map->gH,mem_of_find?_eq_some->ug,mem_of_mem_take->jm,mem_range->dJ,mem_singleton->dz,nodup_append->kZ,nodup_cons->pV,nodup_range->tQ,pairwise_map->sO,range->aO,range_succ->dB,range_zero->Dx,rel_of_pairwise_cons->Aj,replicate->aS,set_eq_of_length_le->nK,take_length->dY
open List.Pairwise renaming imp->Ay,of_cons->Ec
open Nat renaming add_assoc->qx,add_mul->MC,eq_zero_or_pos->nD,le_refl->aC,le_succ->vE,lt_or_ge->jB,mod_lt->nE,mul_comm->tV,zero_le->bS
open Option renaming none->aj,some->az
open Prod renaming ext->JN
open Prod.mk renaming injEq->qy
set_option maxRecDepth 100000
set_option maxHeartbeats 16000000
set_option linter.unusedVariables false
set_option linter.unusedSimpArgs false
theorem Go.RowKit.Hid.o {p:Prop}(h:Go.RowKit.Hid p):p:=h
namespace Go.Proofs.YtnjjkgjdhljfnaaGreat
section
open Go.RowKit
def dh(w:aG)(g:Nat)(t:dL)(cs:Array aI):Prop:=w.heap[g]?=az (.cells cs t (0,0))
section
variable{w w':aG}{g:Nat}{t:dL}{cs:Array aI}
theorem dh.lt(h:dh w g t cs):g<w.heap.size:=by
 rcases jB g w.heap.size with tK|hge
 ·exact tK
 ·unfold dh at h;rw[Array.getElem?_eq_none hge]at h;cases h
theorem dh.cell(h:dh w g t cs)(i:Nat):w.cell? ⟨g,i,aj⟩=cs[i]?:=cell_of_row w g i cs t (0,0) h
theorem dh.frozen(h:dh w g t cs)(i:Nat):w.frozen? ⟨g,i,aj⟩=false:=by unfold dh at h;simp[World.frozen?,h]
theorem dh.new(w:aG)(t:dL)(cs:Array aI):dh (w.alloc (.cells cs t)) w.heap.size t cs:=heap_alloc_new w _
theorem dh.drew(h:dh w g t cs):dh w.drew g t cs:=h
theorem dh.drewN(h:dh w g t cs)(n:Nat):dh (w.drewN n) g t cs:=h
theorem dh.alloc(h:dh w g t cs)(o:Obj):dh (w.alloc o) g t cs:=(Below.heap_alloc w o g h.lt).trans h
theorem dh.jd(h:dh w g t cs)(i:Nat)(u:aI):dh (w.setCell ⟨g,i,aj⟩ u) g t (cs.setIfInBounds i u):=by unfold dh at h|-;simp[iK,Array.getElem?_modify,h]
theorem dh.AU(h:dh w g t cs){p:fA}(hp:g≠p.block)(u:aI):dh (w.setCell p u) g t cs:=(nz w p u g hp).trans h
theorem dh.below{B:Nat}(h:dh w g t cs)(hb:aN B w w')(hg:g<B):dh w' g t cs:=(hb.block g hg).trans h
theorem dh.grown{row:Option Nat}(h:dh w g t cs)(hb:w.grownBy w' row)(hg:az g≠row):dh w' g t cs:=(hb.block g h.lt hg).trans h
end
theorem zg(a:aG)(row:Option Nat):a.grownBy a row:=⟨rfl,rfl,rfl,aC _,fun _ _ _=>rfl⟩
theorem Gn{a w:aG}{row:Option Nat}(h:a.grownBy w row):a.grownBy w.drew row:=⟨h.os,h.tape,h.output,h.size,h.block⟩
theorem wG{a w:aG}{g:Nat}(h:a.grownBy w (az g)){p:fA}(hp:p.block=g\/a.heap.size<=p.block)(u:aI):a.grownBy (w.setCell p u) (az g):=
 ⟨h.os,h.tape,h.output,by simpa[iK]using h.size,fun i hi nQ=>(nz w p u i (by
  rintro rfl;rcases hp with hp|hp
  ·exact nQ (by rw[hp])
  ·omega)).trans (h.block i hi nQ)⟩
theorem Bp{a w:aG}(h:aN a.heap.size a w)(row:Option Nat):a.grownBy w row:=⟨h.os,h.tape,h.output,h.size,fun i hi _=>h.block i hi⟩
end
section
open Go.RowKit
theorem JU(a:fA)(n:Nat):(a.add n).block=a.block:=by unfold nP;split<;>rfl
theorem Xy(a:fA)(i j:Nat):(a.add i).add j=a.add (i+j):=by unfold nP;by_cases hi:i=0<;>by_cases hj:j=0<;>simp[hi,hj,qx]
def Reads(w:aG)(B size:Nat)(A:Option fA)(n:Nat)(xs:List aI):Prop:=
 xs.length=n*size/\(0<n->∃ad,A=az ad/\ad.block<B/\∀j u,xs[j]?=az u->w.cell? (ad.add j)=az u)
section
variable{w w':aG}{B B' size n:Nat}{A:Option fA}{xs:List aI}
theorem Reads.none_:Reads w B size A 0 []:=⟨by simp,fun h=>absurd h (by omega)⟩
theorem Reads.at_{k:Nat}(h:Reads w B 1 A n xs)(hk:k<n):∃ad u,A=az ad/\ad.block<B/\xs[k]?=az u/\w.cell? (ad.add k)=az u:=by
 obtain⟨ad,e,hb,hc⟩:=h.2 (by omega);have hl:k<xs.length:=by have:=h.1;omega
 exact⟨ad,xs[k],e,hb,dw hl,hc k _ (dw hl)⟩
theorem Reads.uG(h:Reads w B size A n xs)(hk:∀p:fA,p.block<B->w'.cell? p=w.cell? p):Reads w' B size A n xs:=
 ⟨h.1,fun hn=>by obtain⟨ad,e,hb,hc⟩:=h.2 hn;exact⟨ad,e,hb,fun j u hu=>(hk _ (by rw[JU];exact hb)).trans (hc j u hu)⟩⟩
theorem Reads.more(h:Reads w B size A n xs)(hB:B<=B'):Reads w B' size A n xs:=
 ⟨h.1,fun hn=>by obtain⟨ad,e,hb,hc⟩:=h.2 hn;exact⟨ad,e,by omega,hc⟩⟩
theorem Reads.below(h:Reads w B size A n xs)(hb:aN B w w'):Reads w' B size A n xs:=h.uG fun _ hp=>hb.cell hp
theorem Reads.drew(h:Reads w B size A n xs):Reads w.drew B size A n xs:=h
theorem Reads.alloc(h:Reads w B size A n xs)(hB:B<=w.heap.size)(o:Obj):Reads (w.alloc o) B size A n xs:=h.uG fun p hp=>World.cell?_alloc_lt w o p (by omega)
theorem Reads.cut(h:Reads w B size A n xs){k cap:Nat}(hk:k<=n)(hc:n<=cap):Reads w B size (if cap=k then A else A.map (·.add (k*size))) (n-k) (xs.drop (k*size)):=by refine⟨by rw[List.length_drop,h.1,Nat.sub_mul],fun hn=>?_⟩;obtain⟨ad,rfl,hb,qB⟩:=h.2 (by omega);rw[if_neg (by omega)];refine⟨ad.add (k*size),rfl,by rw[JU];exact hb,fun j u hu=>?_⟩;rw[Xy];exact qB _ u (by rw[<-hu,List.getElem?_drop])
theorem Reads.Jf{base:Nat}{e:dL}{c:Nat}(h:w.ownsRow base e size (ay A n c) n xs):Reads w w.heap.size size A n xs:=by
 refine⟨h.1,fun hn=>?_⟩;obtain⟨g,cap,hv,_,tK⟩:=h.form hn;have hA:A=az ⟨g,0,aj⟩:=by injection hv
 subst hA;exact⟨_,rfl,tK,h.cells (g:=g) rfl⟩
end
section
variable{w w':aG}{g:Nat}{t:dL}{cs:Array aI}
theorem dh.sU{g':Nat}{t':dL}{cs':Array aI}(h:dh w g t cs)(h':dh w g' t' cs')(nQ:t≠t'):g≠g':=by rintro rfl;unfold dh at h h';rw[h]at h';injection h' with h';injection h' with _ ht;exact nQ ht
theorem xy{base:Nat}{e:dL}{size n:Nat}{v:aI}{xs:List aI}(h:w.ownsRow base e size v n xs)(hg:dh w g t cs)(nQ:e≠t):v.ownBlock≠az g:=by
 rcases h.2 with⟨rfl,_⟩|⟨g',cap,cur,rfl,_,hh,_⟩
 ·simp[dV]
 ·intro he;have:g'=g:=by simpa[dV]using he
  subst this;exact dh.sU (t:=e) hh hg nQ rfl
end
section
variable{P:Program}(w:aG)
theorem Ky(base:Nat)(t ty e:dL)(i:TypeInfo)(size:Nat)(ht:P.underlying t=az (.slice e))(hi:P.info? e=az i)(v:aI)(n:Nat)(xs:List aI)(yQ:w.ownsRow base e size v n xs)(c:Nat):(uK #[t,t] ty #[v,ay aj 0 c]).run P w=.ok v w:=by
 rcases yQ.2 with⟨rfl,rfl⟩|⟨g,cap,cur,rfl,_,_,hnc,_⟩
 ·simp[uK,run_underlying ht,sizeOf,typeInfo,hi,Builtin.lenOf,Il]
 ·simp[uK,run_underlying ht,sizeOf,typeInfo,hi,Builtin.lenOf,Il,hnc,storeCells]
theorem Qp(base:Nat)(t ty e:dL)(i:TypeInfo)(z:aI)(size bytes:Nat)(ht:P.underlying t=az (.slice e))(hi:P.info? e=az i)(hz:i.zero=az z)(Pv:i.size=size)(hby:i.bytes=bytes)(hzs:z.cells.size=size)(hsz:0<size)(v:aI)(n:Nat)(xs:List aI)(yQ:w.ownsRow base e size v n xs)(B:Nat)(A:Option fA)(m c:Nat)(news:List aI)(hr:Reads w B size A m news)(h1:∀u∈news,u.oneCell'=true)(h63:n+m<=fB)(IU:(n+m)*bytes<=140737488355328)(oV:base<=w.heap.size):∃v' w',(uK #[t,t] ty #[v,ay A m c]).run P w=.ok v' w'/\w'.ownsRow base e size v' (n+m) (xs++news)/\w.grownBy w' v.ownBlock/\(v'.ownBlock=v.ownBlock\/v'.ownBlock=az w.heap.size):=by
 rcases A with _|ad
 ·have hm:m=0:=by
   rcases nD m with h0|h0
   ·exact h0
   ·obtain⟨ad,h,_⟩:=hr.2 h0;cases h
  subst hm;have hn:news=[]:=gT (by simpa using hr.1);subst hn;exact⟨v,w,Ky w base t ty e i size ht hi v n xs yQ c,by simpa using yQ,World.grownBy.refl w _,.inl rfl⟩
 ·have hcells:∀j u,news[j]?=az u->w.cell? (ad.add j)=az u:=by
   intro j u hu;rcases nD m with h0|h0
   ·subst h0;have hn:news=[]:=gT (by simpa using hr.1);subst hn;simp at hu
   ·obtain⟨ad',h,_,hc⟩:=hr.2 h0;injection h with h;subst h;exact hc j u hu
  obtain⟨v',w',hrun,h2,h3,_,h5⟩:=run_append_own_at (P:=P) w base t ty e i z size bytes ht hi hz Pv hby hzs hsz v n xs yQ ad m c news hr.1 hcells h1 h63 IU oV;exact⟨v',w',hrun,h2,h3,h5⟩
theorem Ij{o:Oper}{a:Act}{K:Act->aG->Prop}{Q:Exit->Act->aG->Prop}(s x:Operand)(t:dL)(ho:o.op=.call {callee:=.builtin .append,args:=#[s,x],argTypes:=#[t,t]})(base:Nat)(e:dL)(i:TypeInfo)(z:aI)(size bytes:Nat)(ht:P.underlying t=az (.slice e))(hi:P.info? e=az i)(hz:i.zero=az z)(Pv:i.size=size)(hby:i.bytes=bytes)(hzs:z.cells.size=size)(hsz:0<size)(v:aI)(n:Nat)(xs:List aI)(hs:a.eval s=v)(yQ:w.ownsRow base e size v n xs)(B:Nat)(A:Option fA)(m c:Nat)(news:List aI)(hx:a.eval x=ay A m c)(hr:Reads w B size A m news)(h1:∀u∈news,u.oneCell'=true)(h63:n+m<=fB)(IU:(n+m)*bytes<=140737488355328)(oV:base<=w.heap.size)(h:∀v' w',w'.ownsRow base e size v' (n+m) (xs++news)->w.grownBy w' v.ownBlock->(v'.ownBlock=v.ownBlock\/v'.ownBlock=az w.heap.size)->K (a.put o.dst v') w'):o.wp P a w K Q:=by obtain⟨v',w',hrun,h2,h3,h4⟩:=Qp (P:=P) w base t o.type e i z size bytes ht hi hz Pv hby hzs hsz v n xs yQ B A m c news hr h1 h63 IU oV;unfold jK execOp;simp only[ho,resolve,invoke,builtin,Sem.run_bind,Sem.run_pure,Result.andThen_ok,List.map_toArray,List.map_cons,List.map_nil,hs,hx,hrun];exact h v' w' h2 h3 h4
theorem gW{ops:Array Oper}{rest:List Oper}{o:Oper}{a:Act}{Q:Exit->Act->aG->Prop}(hgd:o.guard=aj)(s x:Operand)(t:dL)(ho:o.op=.call {callee:=.builtin .append,args:=#[s,x],argTypes:=#[t,t]})(base:Nat)(e:dL)(i:TypeInfo)(z:aI)(size bytes:Nat)(ht:P.underlying t=az (.slice e))(hi:P.info? e=az i)(hz:i.zero=az z)(Pv:i.size=size)(hby:i.bytes=bytes)(hzs:z.cells.size=size)(hsz:0<size)(v:aI)(n:Nat)(xs:List aI)(hs:a.eval s=v)(yQ:w.ownsRow base e size v n xs)(B:Nat)(A:Option fA)(m c:Nat)(news:List aI)(hx:a.eval x=ay A m c)(hr:Reads w B size A m news)(h1:∀u∈news,u.oneCell'=true)(h63:n+m<=fB)(IU:(n+m)*bytes<=140737488355328)(oV:base<=w.heap.size)(h:∀v' w',w'.ownsRow base e size v' (n+m) (xs++news)->w.grownBy w' v.ownBlock->(v'.ownBlock=v.ownBlock\/v'.ownBlock=az w.heap.size)->wpList P ops Q rest (a.put o.dst v') w'):wpList P ops Q (o::rest) a w:=
 wpList_plain hgd fun _ hK=>Ij w s x t ho base e i z size bytes ht hi hz Pv hby hzs hsz v n xs hs yQ B A m c news hx hr h1 h63 IU oV fun v' w' h2 h3 h4=>hK _ _ (h v' w' h2 h3 h4)
theorem fV{ops:Array Oper}{o:Oper}{a:Act}{K:Act->aG->Prop}{Q:Exit->Act->aG->Prop}{E:Prop}(hgd:o.guard=aj)(s x:Operand)(t:dL)(ho:o.op=.call {callee:=.builtin .append,args:=#[s,x],argTypes:=#[t,t]})(base:Nat)(e:dL)(i:TypeInfo)(z:aI)(size bytes:Nat)(ht:P.underlying t=az (.slice e))(hi:P.info? e=az i)(hz:i.zero=az z)(Pv:i.size=size)(hby:i.bytes=bytes)(hzs:z.cells.size=size)(hsz:0<size)(v:aI)(n:Nat)(xs:List aI)(hs:a.eval s=v)(yQ:w.ownsRow base e size v n xs)(B:Nat)(A:Option fA)(m c:Nat)(news:List aI)(hx:a.eval x=ay A m c)(hr:Reads w B size A m news)(h1:∀u∈news,u.oneCell'=true)(h63:n+m<=fB)(IU:(n+m)*bytes<=140737488355328)(oV:base<=w.heap.size)(h:∀v' w',w'.ownsRow base e size v' (n+m) (xs++news)->w.grownBy w' v.ownBlock->(v'.ownBlock=v.ownBlock\/v'.ownBlock=az w.heap.size)->K (a.put o.dst v') w'):if eH o (yielded ops a.tmps)=true then jK P o a w K Q else E:=by
 have hw:eH o (yielded ops a.tmps)=true:=by simp[eH,hgd]
 rw[if_pos hw];exact Ij w s x t ho base e i z size bytes ht hi hz Pv hby hzs hsz v n xs hs yQ B A m c news hx hr h1 h63 IU oV h
end
end
section
open Go.RowKit
section
variable{α:Type}{m:Nat}{c:α->List aI}{d:α}
def gI(m:Nat)(c:α->List aI)(d:α)(w:aG)(a:Option fA)(len:Nat)(xs:List α):Prop:=
 xs.length=len/\(0<len->∃b off,a=az ⟨b,off,aj⟩/\b<w.heap.size/\∀i j,i<len->j<m->w.cell? ⟨b,off+i*m+j,aj⟩=(c (xs.getD i d))[j]?)
theorem gI.nil(w:aG):gI m c d w aj 0 []:=⟨rfl,fun h=>absurd h (by omega)⟩
theorem gI.below{w w':aG}{B len:Nat}{a:Option fA}{xs:List α}(h:gI m c d w a len xs)(hB:w.heap.size<=B)(hb:aN B w w'):gI m c d w' a len xs:=by refine⟨h.1,fun h0=>?_⟩;obtain⟨b,off,e,tK,hc⟩:=h.2 h0;refine⟨b,off,e,by have:=hb.size;omega,fun i j hi hj=>?_⟩;rw[hb.cell (p:=⟨b,off+i*m+j,aj⟩) (by show b<B;omega)];exact hc i j hi hj
theorem gI.alloc{w:aG}{len:Nat}{a:Option fA}{xs:List α}(h:gI m c d w a len xs)(o:Obj):gI m c d (w.alloc o) a len xs:=h.below (aC _) ((aQ _ _).alloc (aC _) o)
theorem Da(hc:∀x,(c x).length=m)(xs:List α):(xs.flatMap c).length=xs.length*m:=by
 induction xs with
 |nil=>simp
 |cons x l ih=>rw[eO,bV,ih,hc,eQ,MC];omega
theorem yf(hc:∀x,(c x).length=m)(xs:List α)(i j:Nat)(hi:i<xs.length)(hj:j<m):(xs.flatMap c)[i*m+j]?=(c (xs.getD i d))[j]?:=by
 induction xs generalizing i with
 |nil=>simp at hi
 |cons x l ih=>
  rw[eO];cases i with
  |zero=>rw[Nat.zero_mul,Nat.zero_add,List.getElem?_append_left (by rw[hc];exact hj)];rfl
  |succ i=>have e1:(i+1)*m+j=(c x).length+(i*m+j):=(by rw[hc,MC];omega);rw[e1,List.getElem?_append_right (by omega),Nat.add_sub_cancel_left,ih i (by simpa using hi)];simp
theorem gZ{w:aG}{base e n:Nat}{v:aI}{xs:List α}(hc:∀x,(c x).length=m)(hm:0<m)(h:w.ownsRow base e m v n (xs.flatMap c)):∃a cap,v=ay a n cap/\n<=cap/\gI m c d w a n xs/\∀x,a=az x->base<=x.block:=by
 have hl:xs.length=n:=by have:=h.1;rw[Da hc]at this;exact Nat.eq_of_mul_eq_mul_right hm this
 rcases h.2 with⟨rfl,hn⟩|⟨g,cap,cur,rfl,hb,hg,hnc,_⟩
 ·subst hn;have:xs=[]:=gT hl;subst this;exact⟨aj,0,rfl,aC _,gI.nil w,by simp⟩
 ·refine⟨_,cap,rfl,hnc,⟨hl,fun h0=>⟨g,0,rfl,(Array.getElem?_eq_some_iff.1 hg).1,fun i j hi hj=>?_⟩⟩,by intro x e;injection e with e;subst e;exact hb⟩;have hcl:=h.cells (g:=g) rfl;have e:∀k,(⟨g,0,aj⟩:fA).add k=⟨g,0+k,aj⟩:=fun k=>by unfold nP;split<;>simp_all
  have hf:=yf (d:=d) hc xs i j (by omega) hj;have hcj:j<(c (xs.getD i d)).length:=by rw[hc];exact hj
  have h1:=hcl (i*m+j) _ (by rw[hf];exact dw hcj);rw[e]at h1;rw[<-qx]at h1;rw[h1,dw hcj]
theorem tY{w:aG}{a:Option fA}{len:Nat}{xs:List α}(hc:∀x,(c x).length=m)(h:gI m c d w a len xs):Reads w w.heap.size m a len (xs.flatMap c):=by
 refine⟨by rw[Da hc,h.1],fun h0=>?_⟩;obtain⟨b,off,ha,hb,hcc⟩:=h.2 h0;refine⟨_,ha,hb,fun j u hu=>?_⟩;have hj:j<(xs.flatMap c).length:=by
  rcases jB j (xs.flatMap c).length with h|h
  ·exact h
  ·rw[List.getElem?_eq_none h]at hu;cases hu
 rw[Da hc]at hj;have hm:0<m:=by
  rcases nD m with h0|h0
  ·subst h0;simp at hj
  ·exact h0
 have e:(⟨b,off,aj⟩:fA).add j=⟨b,off+j,aj⟩:=by unfold nP;split<;>simp_all
 rw[e];have hq:j/m<xs.length:=Nat.div_lt_of_lt_mul (by rw[tV];exact hj);have hr:j%m<m:=nE _ hm;have hjj:j=j/m*m+j%m:=by rw[tV];exact(Nat.div_add_mod j m).symm
 have h1:=hcc (j/m) (j%m) (by rw[<-h.1];exact hq) hr;rw[hjj,yf (d:=d) hc xs _ _ hq hr]at hu;rw[qx,<-hjj]at h1;rw[h1,hu]
end
end
section
open Go.RowKit
structure Nd where
 name:ByteArray
 sw:Bool
 bE:Int
structure Cb where
 a:Int
 ap:Int
 b:Int
 bp:Int
 dl:Int
 cp:Int
structure Pl where
 ns:List Nd
 cs:List Cb
def jk:Nd:=⟨ByteArray.empty,false,0⟩
def gX:Cb:=⟨0,0,0,0,0,0⟩
def cN(x:Nd):List aI:=[.string x.name,.bool x.sw,ah ag x.bE]
def cC(x:Cb):List aI:=[ah ag x.a,ah ag x.ap,ah ag x.b,ah ag x.bp,ah ag x.dl,ah ag x.cp]
def WfN(x:Nd):Prop:=x.name.size<=fB/\(iT .i64 x.bE).wf=true
def WfC(x:Cb):Prop:=(iT .i64 x.a).wf=true/\(iT .i64 x.ap).wf=true/\(iT .i64 x.b).wf=true/\(iT .i64 x.bp).wf=true/\(iT .i64 x.dl).wf=true/\(iT .i64 x.cp).wf=true
def QI(p:Pl):Prop:=(∀x∈p.ns,WfN x)/\∀x∈p.cs,WfC x
def jw(w:aG)(An Ac:Option fA)(p:Pl):Prop:=gI 3 cN jk w An p.ns.length p.ns/\gI 6 cC gX w Ac p.cs.length p.cs
theorem jw.below{w w':aG}{B:Nat}{An Ac:Option fA}{p:Pl}(h:jw w An Ac p)(hB:w.heap.size<=B)(hb:aN B w w'):jw w' An Ac p:=⟨h.1.below hB hb,h.2.below hB hb⟩
theorem jw.alloc{w:aG}{An Ac:Option fA}{p:Pl}(h:jw w An Ac p)(o:Obj):jw (w.alloc o) An Ac p:=⟨h.1.alloc o,h.2.alloc o⟩
theorem uQ{w:aG}{A:Option fA}{len:Nat}{ns:List Nd}(h:gI 3 cN jk w A len ns)(k:Nat)(hk:k<len):∃b off,A=az ⟨b,off,aj⟩/\b<w.heap.size/\ns.getD k jk∈ns/\w.cell? ⟨b,off+k*3,aj⟩=az (.string (ns.getD k jk).name)/\w.cell? ⟨b,off+k*3+1,aj⟩=az (.bool (ns.getD k jk).sw)/\w.cell? ⟨b,off+k*3+1+1,aj⟩=az (ah ag (ns.getD k jk).bE):=by
 obtain⟨b,off,ha,hb,hc⟩:=h.2 (by omega);have hl:k<ns.length:=by rw[h.1];exact hk
 exact⟨b,off,ha,hb,by simp[bJ,hl],hc k 0 hk (by omega),hc k 1 hk (by omega),hc k 2 hk (by omega)⟩
theorem mq{w:aG}{A:Option fA}{len:Nat}{cs:List Cb}(h:gI 6 cC gX w A len cs)(k:Nat)(hk:k<len):∃b off,A=az ⟨b,off,aj⟩/\b<w.heap.size/\cs.getD k gX∈cs/\w.cell? ⟨b,off+k*6,aj⟩=az (ah ag (cs.getD k gX).a)/\w.cell? ⟨b,off+k*6+1,aj⟩=az (ah ag (cs.getD k gX).ap)/\w.cell? ⟨b,off+k*6+2,aj⟩=az (ah ag (cs.getD k gX).b)/\w.cell? ⟨b,off+k*6+3,aj⟩=az (ah ag (cs.getD k gX).bp)/\w.cell? ⟨b,off+k*6+4,aj⟩=az (ah ag (cs.getD k gX).dl)/\w.cell? ⟨b,off+k*6+5,aj⟩=az (ah ag (cs.getD k gX).cp):=by
 obtain⟨b,off,ha,hb,hc⟩:=h.2 (by omega);have hl:k<cs.length:=by rw[h.1];exact hk
 exact⟨b,off,ha,hb,by simp[bJ,hl],hc k 0 hk (by omega),hc k 1 hk (by omega),hc k 2 hk (by omega),hc k 3 hk (by omega),hc k 4 hk (by omega),hc k 5 hk (by omega)⟩
def VT(c:UInt8):Bool:=97<=c&&c<=122
def isDigit(c:UInt8):Bool:=48<=c&&c<=57
def Jg(i:Nat)(c:UInt8):Bool:=VT c||(decide (i≠0)&&isDigit c)
def qz(s:ByteArray):Bool:=decide (1<=s.size)&&decide (s.size<=20)&&(aO s.size).all fun i=>Jg i (s.data.getD i 0)
def kX(x:Nd):Bool:=qz x.name&&(if x.sw then decide (1<=x.bE)&&decide (x.bE<=8)else decide (x.bE=1))
def jO(ns:List Nd)(node port:Int):Bool:=decide (0<=node)&&decide (node<ns.length)&&decide (0<=port)&&decide (port<(ns.getD node.toNat jk).bE)
def lH(ns:List Nd)(x:Cb):Bool:=jO ns x.a x.ap&&jO ns x.b x.bp
def Jt{β:Type}(eq:β->β->Bool)(d:β)(l:List β)(k:Nat):Bool:=(aO k).any fun j=>(l.take j).any fun y=>eq y (l.getD j d)
def yF{β:Type}(eq:β->β->Bool)(d:β)(l:List β):Bool:=Jt eq d l l.length
theorem zh{β:Type}(eq:β->β->Bool)(d:β)(l:List β)(k:Nat):Jt eq d l (k+1)=(Jt eq d l k||(l.take k).any fun y=>eq y (l.getD k d)):=by unfold Jt;rw[dB,rO];simp
theorem Gu{β:Type}(eq:β->β->Bool)(d:β)(l:List β)(k:Nat)(h:Jt eq d l k=true):∀n,k<=n->Jt eq d l n=true:=by
 intro n hn
 induction n with
 |zero=>have:k=0:=(by omega);subst this;exact h
 |succ n ih=>
  rw[zh];by_cases hk:k=n+1
  ·subst hk;rw[zh]at h;exact h
  ·rw[ih (by omega)];rfl
def gY(cs:List Cb):List (Int×Int):=cs.flatMap fun x=>[(x.a,x.ap),(x.b,x.bp)]
def nW(x y:Nd):Bool:=x.name.data.toList==y.name.data.toList
def jq(x y:Int×Int):Bool:=x.1==y.1&&x.2==y.2
def jY(p:Pl):Bool:=yF nW jk p.ns||yF jq (0,0) (gY p.cs)
def tH(x:Cb):Bool:=decide (1<=x.dl)&&decide (x.dl<=100)&&decide (1<=x.cp)&&decide (x.cp<=1000)
def fT(p:Pl):Int:=
 if 16<p.ns.length\/32<p.cs.length then 5
 else if p.ns.all kX=false then 1
 else if p.cs.all (lH p.ns)=false then 2
 else if jY p=true then 8
 else if(p.cs.all fun x=>decide (x.a≠x.b))=false then 12
 else if p.cs.all tH=false then 3
 else 0
end
section
open Go.RowKit
def Fu(s:ByteArray)(k:Nat):Bool:=(aO k).all fun i=>Jg i (s.data.getD i 0)
theorem Gm(s:ByteArray)(k:Nat):Fu s (k+1)=(Fu s k&&Jg k (s.data.getD k 0)):=by unfold Fu;rw[dB,uM];simp
theorem Sa(s:ByteArray)(k:Nat)(h:Fu s k=false):∀n,k<=n->Fu s n=false:=by
 intro n hn
 induction n with
 |zero=>have:k=0:=(by omega);subst this;exact h
 |succ n ih=>
  rw[Gm];by_cases hk:k=n+1
  ·subst hk;rw[Gm]at h;exact h
  ·rw[ih (by omega)];rfl
theorem Qh(k:Nat)(c:UInt8):Jg k c=decide ((97<=(c.toNat:Int)/\(c.toNat:Int)<=122)\/(k≠0/\48<=(c.toNat:Int)/\(c.toNat:Int)<=57)):=by rw[jE];simp only[Jg,VT,isDigit,iq,cZ,decide_eq_true_eq,UInt8.le_iff_toNat_le];have e1:(97:UInt8).toNat=97:=rfl;have e2:(122:UInt8).toNat=122:=rfl;have e3:(48:UInt8).toNat=48:=rfl;have e4:(57:UInt8).toNat=57:=rfl;rw[e1,e2,e3,e4];omega
theorem byte_at(s:ByteArray)(k:Nat)(h:k<s.size):s.data.getD k 0=s[k]:=by have h2:k<s.data.size:=h;unfold Array.getD;rw[dif_pos h2];rfl
theorem Ko(s:ByteArray)(w:aG):bZ aH 111 #[.string s] w fun e w'=>e=ax (.bool (qz s))/\w=w':=by
 by_cases h1:s.size<1
 ·have hf:qz s=false:=by simp[qz];omega
  have HF:=aA hf;clear hf;go_enter func111,ntmps111;go_wp2;go_ret;exact⟨by rw[HF.o];rfl,rfl⟩
 by_cases h2:20<s.size
 ·have hf:qz s=false:=by simp[qz];omega
  have HF:=aA hf;clear hf;go_enter func111,ntmps111;go_wp2;go_ret;exact⟨by rw[HF.o];rfl,rfl⟩
 have hs:qz s=Fu s s.size:=by unfold qz Fu;rw[decide_eq_true (by omega:1<=s.size),decide_eq_true (by omega:s.size<=20)];rfl
 have HS:=aA hs;clear hs;go_enter func111,ntmps111;go_wp2
 go_loop [16] (fun i=>∃k:Nat,k<=s.size/\i=ah ag k/\Fu s k=true) (fun i=>s.size-(intOf i).toNat)
 case atStart=>exact⟨0,bS _,rfl,rfl⟩
 case round=>
  obtain⟨k,hk,rfl,rR⟩:=hrel;have Xi:=aA rR;clear rR;by_cases tK:k<s.size
  ·have OS:aY (Fu s (k+1)=Jg k s[k]):=by rw[aY,Gm,Xi.o,byte_at s k tK];rfl
   have OB:=aA (Qh k s[k]);by_cases hl:97<=(s[k].toNat:Int)/\(s[k].toNat:Int)<=122
   ·have fin:aY (Fu s (k+1)=true):=by rw[aY,OS.o,OB.o,decide_eq_true (.inl hl)]
    clear OS OB Xi;obtain⟨l1,l2⟩:=hl;go_wp2;all_goals
     go_round
     case rel=>exact⟨k+1,by omega,by go_num,fin.out⟩
     case measure=>simp[intOf];omega
   ·by_cases hd:k≠0/\48<=(s[k].toNat:Int)/\(s[k].toNat:Int)<=57
    ·have fin:aY (Fu s (k+1)=true):=by rw[aY,OS.o,OB.o,decide_eq_true (.inr hd)]
     clear OS OB Xi;obtain⟨d0,d1,d2⟩:=hd;have NJ:((k:Int)==0)=false:=by rw[beq_eq_false_iff_ne];omega
     have l1:(s[k].toNat:Int)<97:=(by omega);clear hl d0;go_wp2;all_goals
      go_round
      case rel=>exact⟨k+1,by omega,by go_num,fin.out⟩
      case measure=>simp[intOf];omega
    ·have fin:aY (qz s=false):=by
      rw[aY,HS.o];refine Sa s (k+1) ?_ _ (by omega);rw[OS.o,OB.o,decide_eq_false (by omega)]
     clear OS OB Xi HS;by_cases NJ:k=0
     ·have q0:((k:Int)==0)=true:=by rw[NJ];rfl
      rcases(by omega:(s[k].toNat:Int)<97\/(97<=(s[k].toNat:Int)/\122<(s[k].toNat:Int)))with l1|⟨l1,l2⟩<;>clear hl hd NJ
      all_goals
       try(have b2:decide ((s[k].toNat:Int)<=122)=false:=decide_eq_false (by omega))
       go_wp2
       all_goals
        go_ret;exact⟨by rw[fin.out];rfl,rfl⟩
     ·have q0:((k:Int)==0)=false:=by rw[beq_eq_false_iff_ne];omega
      rcases(by omega:((s[k].toNat:Int)<97/\(s[k].toNat:Int)<48)\/((s[k].toNat:Int)<97/\48<=(s[k].toNat:Int)/\57<(s[k].toNat:Int))\/(97<=(s[k].toNat:Int)/\122<(s[k].toNat:Int)))with⟨l1,l2⟩|⟨l1,l2,l3⟩|⟨l1,l2⟩<;>clear hl hd NJ
      all_goals
       try(have b2:decide ((s[k].toNat:Int)<=122)=false:=decide_eq_false (by omega))
       try(have b3:decide ((s[k].toNat:Int)<=57)=false:=decide_eq_false (by omega))
       go_wp2
       all_goals
        go_ret;exact⟨by rw[fin.out];rfl,rfl⟩
  ·have e:k=s.size:=by omega
   have fin:aY (qz s=true):=(by rw[aY,HS.o,<-e,Xi.o]);clear e Xi HS;go_wp2;go_ret;exact⟨by rw[fin.out];rfl,rfl⟩
theorem Wi(x:Nd)(w:aG):bZ aH 81 #[.agg #[.string x.name,.bool x.sw,ah ag x.bE]] w fun e w'=>e=ax (.bool (kX x))/\w.alloc (af #[.string x.name,.bool x.sw,ah ag x.bE] 83)=w':=by
 obtain⟨nm,sw,po⟩:=x;simp only;cases hn:qz nm with
 |false=>
  have hf:aY (kX ⟨nm,sw,po⟩=false):=by simp[aY,kX,hn]
  have HN:=aA hn;clear hn;go_enter func81,ntmps81;go_wp2_with (go_at_call 111;refine(Ko _ _).mono ?_;rintro r w' ⟨rfl,rfl⟩;rw[HN.o]);go_ret;exact⟨by rw[hf.out];rfl,rfl⟩
 |true=>
  cases sw with
  |true=>
   have hf:aY (kX ⟨nm,true,po⟩=(decide (1<=po)&&decide (po<=8))):=(by simp[aY,kX,hn]);have HN:=aA hn;clear hn;by_cases h1:1<=po
   ·go_enter func81,ntmps81;go_wp2_with (go_at_call 111;refine(Ko _ _).mono ?_;rintro r w' ⟨rfl,rfl⟩;rw[HN.o])
    go_ret;refine⟨?_,rfl⟩
    rw[hf.out,decide_eq_true h1]
    first|rfl|(simp;done)
   ·go_enter func81,ntmps81;go_wp2_with (go_at_call 111;refine(Ko _ _).mono ?_;rintro r w' ⟨rfl,rfl⟩;rw[HN.o])
    go_ret;refine⟨?_,rfl⟩
    rw[hf.out,decide_eq_false (by omega)]
    first|rfl|(simp;done)
  |false=>
   have hf:aY (kX ⟨nm,false,po⟩=(po==1)):=by show _=_;simp only[kX,hn];by_cases h:po=1<;>simp[h]
   have HN:=aA hn;clear hn;go_enter func81,ntmps81;go_wp2_with (go_at_call 111;refine(Ko _ _).mono ?_;rintro r w' ⟨rfl,rfl⟩;rw[HN.o]);go_ret;refine⟨?_,rfl⟩;rw[hf.out]
   first|rfl|(simp;done)
theorem afG(p:Pl)(An Ac:Option fA)(cn cc:Nat)(node port:Int)(w:aG)(hl:p.ns.length<=1000000)(h:jw w An Ac p):bZ aH 82 #[.agg #[ay An p.ns.length cn,ay Ac p.cs.length cc],ah ag node,ah ag port] w fun e w'=>e=ax (.bool (jO p.ns node port))/\w.alloc (af #[ay An p.ns.length cn,ay Ac p.cs.length cc] 25)=w':=by
 have H:=aA (h.alloc (af #[ay An p.ns.length cn,ay Ac p.cs.length cc] 25)).1;clear h;by_cases h1:0<=node
 ·by_cases h2:node<p.ns.length
  ·by_cases h3:0<=port
   ·have hf:aY (jO p.ns node port=decide (port<(p.ns.getD node.toNat jk).bE)):=by simp[aY,jO,h1,h2,h3]
    obtain⟨k,rfl⟩:∃k:Nat,node=k:=⟨node.toNat,by omega⟩;obtain⟨b,off,ha,hb,hm,c0,c1,c2⟩:=uQ H.o k (by omega);rw[cK]at hf;generalize p.ns.getD k jk=x at *;generalize hq:p.ns.length=ln at *;clear hq;subst ha;go_enter func82,ntmps82;go_wp2;go_ret;refine⟨?_,rfl⟩;rw[hf.out];rfl
   ·have hf:aY (jO p.ns node port=false):=by simp[aY,jO,h1,h2,h3]
    go_enter func82,ntmps82;go_wp2
    go_ret;exact⟨by rw[hf.out];rfl,rfl⟩
  ·have hf:aY (jO p.ns node port=false):=by simp[aY,jO,h1,h2]
   go_enter func82,ntmps82;go_wp2
   go_ret;exact⟨by rw[hf.out];rfl,rfl⟩
 ·have hf:aY (jO p.ns node port=false):=by simp[aY,jO,h1]
  go_enter func82,ntmps82;go_wp2
  go_ret;exact⟨by rw[hf.out];rfl,rfl⟩
end
section
open Go.RowKit Go.Maps
def rD(v:aI):Option (DataW aI×List MemPlace):=az (.held v,[])
def jo(w:aG)(P:Program)(k:dL)(b n:Nat)(M:Lit->Option aI):Prop:=
 ∃D:DataW aI,w.ownsMap P k rD b n D/\∀l,Maps.has D l=(M l).isSome/\∀z,D.atKey l (.held z)=.held ((M l).getD z)
def tJ(M:Lit->Option aI)(k:Lit)(v:aI):Lit->Option aI:=fun l=>if l.sameKey k then az v else M l
section
variable{w w':aG}{P:Program}{k:dL}{b n:Nat}{M:Lit->Option aI}
theorem jo.made(w:aG)(P:Program)(k:dL):jo (w.alloc (.map #[] 0)) P k w.heap.size 0 (fun _=>aj):=
 ⟨.map [],World.ownsMap_made w P k rD,fun l=>⟨rfl,fun z=>rfl⟩⟩
theorem jo.lt(h:jo w P k b n M):b<w.heap.size:=by obtain⟨D,h,_⟩:=h;exact h.lt
theorem jo.kept{row:Option Nat}(h:jo w P k b n M)(hg:w.grownBy w' row)(nQ:az b≠row):jo w' P k b n M:=by obtain⟨D,h,h2⟩:=h;exact⟨D,h.kept hg nQ,h2⟩
theorem jo.alloc(h:jo w P k b n M)(o:Obj):jo (w.alloc o) P k b n M:=by obtain⟨D,h,h2⟩:=h;exact⟨D,h.alloc o,h2⟩
theorem jo.below{B:Nat}(h:jo w P k b n M)(hb:aN B w w')(tK:b<B):jo w' P k b n M:=by obtain⟨D,⟨es,clock,e,F⟩,h2⟩:=h;exact⟨D,⟨es,clock,(hb.block b tK).trans e,F⟩,h2⟩
theorem jo.look{t e:dL}(h:jo w P k b n M)(K:Keyed P k)(ht:P.underlying t=az (.map k e)){z:aI}(hz:(zeroValue e).run P w=.ok z w){key:aI}{kl:Lit}(hkey:keyOf P k key=az kl):(nJ t (.map (az b)) key false).run P w=.ok ((M kl).getD z) w:=by obtain⟨D,h,h2⟩:=h;obtain⟨v,ps,hrun,hv⟩:=h.lookup K ht hz (zd:=.held z) (zp:=[]) rfl hkey;rw[(h2 kl).2 z]at hv;unfold rD at hv;injection hv with hv;injection hv with hv;injection hv with hv;rw[<-hv];exact hrun
theorem jo.look_ok{t e:dL}(h:jo w P k b n M)(K:Keyed P k)(ht:P.underlying t=az (.map k e)){z:aI}(hz:(zeroValue e).run P w=.ok z w){key:aI}{kl:Lit}(hkey:keyOf P k key=az kl):(nJ t (.map (az b)) key true).run P w=.ok (.tuple #[(M kl).getD z,.bool (M kl).isSome]) w:=by obtain⟨D,h,h2⟩:=h;obtain⟨v,ps,hrun,hv⟩:=h.look_ok K ht hz (zd:=.held z) (zp:=[]) rfl hkey;rw[(h2 kl).2 z]at hv;unfold rD at hv;injection hv with hv;injection hv with hv;injection hv with hv;rw[<-hv,<-(h2 kl).1];exact hrun
theorem jo.store{t e:dL}(h:jo w P k b n M)(K:Keyed P k)(ht:P.underlying t=az (.map k e))(hn:n<fB){key:aI}{kl:Lit}(hkey:keyOf P k key=az kl)(v:aI):∃w',(Instr.mapUpdate t (.map (az b)) key v).run P w=.ok () w'/\jo w' P k b (n+1) (tJ M kl v)/\w.grownBy w' (az b):=by
 obtain⟨D,h,h2⟩:=h;obtain⟨w',hrun,h3,hg⟩:=h.update K ht hn hkey (val:=v) (d:=.held v) (ps:=[]) rfl;refine⟨w',hrun,⟨_,h3,fun l=>?_⟩,hg⟩;unfold tJ;by_cases hl:l=kl
 ·subst hl;rw[if_pos (WideAt.sameKey_self (K.key hkey))];exact⟨has_put_same h.isMap (K.key hkey) _,fun z=>atKey_put_same h.isMap (K.key hkey) _ _⟩
 ·rw[if_neg (by rw[WideAt.sameKey_iff (K.key hkey)];exact hl)];exact⟨by rw[has_put_other hl];exact(h2 l).1,fun z=>by rw[atKey_put_other hl];exact(h2 l).2 z⟩
end
def Kz(l:List Lit):Lit->Option aI:=fun x=>if l.any (fun a=>x.sameKey a)then az (.bool true)else aj
theorem Ms(l:List Lit)(a:Lit):tJ (Kz l) a (.bool true)=Kz (l++[a]):=by
 funext x;unfold tJ Kz;rw[rO];by_cases h:x.sameKey a=true
 ·simp[h]
 ·simp[h]
theorem Wx(l:List Lit)(a:Lit):(Kz l a).getD (.bool false)=.bool (l.any fun b=>a.sameKey b):=by unfold Kz;cases l.any fun b=>a.sameKey b<;>rfl
section
variable{P:Program}(w:aG){ops:Array Oper}{rest:List Oper}{o:Oper}{a:Act}{Q:Exit->Act->aG->Prop}
theorem ym(hg:o.guard=aj)(m x:Operand)(t:dL)(hop:o.op=Op.lookup t m x false)(k e:dL)(K:Keyed P k)(ht:P.underlying t=az (.map k e))(z:aI)(hz:(zeroValue e).run P w=.ok z w)(b n:Nat)(M:Lit->Option aI)(hm:a.eval m=.map (az b))(yQ:jo w P k b n M)(key:aI)(kl:Lit)(hx:a.eval x=key)(hkey:keyOf P k key=az kl)(hK:wpList P ops Q rest (a.put o.dst ((M kl).getD z)) w):wpList P ops Q (o::rest) a w:=by refine wpList_plain hg fun K' hK'=>?_;have hrun:=yQ.look K ht hz hkey;unfold jK;simp[execOp,hop,hm,hx,hrun,mP];exact hK' _ _ hK
theorem jJ(hg:o.guard=aj)(m x:Operand)(t:dL)(hop:o.op=Op.lookup t m x true)(k e:dL)(K:Keyed P k)(ht:P.underlying t=az (.map k e))(z:aI)(hz:(zeroValue e).run P w=.ok z w)(b n:Nat)(M:Lit->Option aI)(hm:a.eval m=.map (az b))(yQ:jo w P k b n M)(key:aI)(kl:Lit)(hx:a.eval x=key)(hkey:keyOf P k key=az kl)(hK:wpList P ops Q rest (a.put o.dst (.tuple #[(M kl).getD z,.bool (M kl).isSome])) w):wpList P ops Q (o::rest) a w:=by refine wpList_plain hg fun K' hK'=>?_;have hrun:=yQ.look_ok K ht hz hkey;unfold jK;simp[execOp,hop,hm,hx,hrun,mP];exact hK' _ _ hK
theorem vz(hg:o.guard=aj)(m x v:Operand)(t:dL)(hop:o.op=Op.mapUpdate t m x v)(k e:dL)(K:Keyed P k)(ht:P.underlying t=az (.map k e))(b n:Nat)(M:Lit->Option aI)(hm:a.eval m=.map (az b))(yQ:jo w P k b n M)(hn:n<fB)(key val:aI)(kl:Lit)(hx:a.eval x=key)(hv:a.eval v=val)(hkey:keyOf P k key=az kl)(hK:∀w',jo w' P k b (n+1) (tJ M kl val)->w.grownBy w' (az b)->wpList P ops Q rest (a.put o.dst undef) w'):wpList P ops Q (o::rest) a w:=by refine wpList_plain hg fun K' hK'=>?_;obtain⟨w',hrun,r1,r2⟩:=yQ.store K ht hn hkey val;unfold jK;simp[execOp,hop,hm,hx,hv,hrun,mP];exact hK' _ _ (hK w' r1 r2)
end
end
section
open Go.RowKit Go.Maps
theorem YA:Keyed aH 9:=string_keyed underlying9
theorem Cw(w:aG):(zeroValue 4).run aH w=.ok (.bool false) w:=by kernel_rfl
theorem VU:laidOutB aH=true:=by kernel_rfl
theorem aab:(73:dL)<Tryz.prog.types.size:=of_decide_eq_true (by kernel_rfl)
theorem Ru:Tryz.prog.cellsOf 73=2:=by kernel_rfl
theorem Vh:Tryz.prog.cellsOf 3=1:=by kernel_rfl
theorem aeE:Tryz.prog.keyType 73=true:=by kernel_rfl
theorem agd:(match Tryz.prog.underlying 73 with|some (.array _ _)|some (.struct _)=>true|_=>false)=true:=by rw[underlying73]
theorem abl:Tryz.prog.keyTypeAt 2 73=true:=by kernel_rfl
theorem afi:WideMaps.KeyLaw aH 73:=deep_law_laid VU (m:=2) (by omega) aab abl agd
theorem Gg:Keyed aH 73:=Keyed.of_law afi
theorem Yk{c0 c1:aI}:(Value.agg #[c0,c1]).formed aH 73=true:=by simp[Value.formed,underlying73,Ru]
def pk(x:Int×Int):Lit:=.string (keyBytes [.int .i64 x.1,.int .i64 x.2])
theorem TQ{a b:Int}(ha:(iT .i64 a).wf=true)(hb:(iT .i64 b).wf=true):keyOf aH 73 (.agg #[ah ag a,ah ag b])=az (pk (a,b)):=by unfold keyOf;rw[underlying73];simp only[aeE,Yk,Bool.and_self,if_true];have hs:∃n,Tryz.prog.types.size=n+1:=⟨Tryz.prog.types.size-1,by have h:0<Tryz.prog.types.size:=Nat.lt_of_le_of_lt (bS _) aab;omega⟩;obtain⟨n,hn⟩:=hs;rw[hn];simp[Program.keyLits,underlying73,underlying3,Ru,Vh,Value.cells,ha,hb,dB,pk]
theorem amP{x y:Int×Int}(hx:(iT .i64 x.1).wf=true/\(iT .i64 x.2).wf=true)(hy:(iT .i64 y.1).wf=true/\(iT .i64 y.2).wf=true)(h:pk x=pk y):x=y:=by have h1:=TQ hx.1 hx.2;have h2:=TQ hy.1 hy.2;rw[show(y.1,y.2)=y from rfl,<-h]at h2;have:=Gg.inj h1 h2;simp at this;exact JN this.1 this.2
end
section
open Go.RowKit Go.Maps
theorem ji{α:Type}(d:α)(l:List α)(k:Nat)(h:k<l.length):l.take (k+1)=l.take k++[l.getD k d]:=by rw[List.take_succ_eq_append_getElem h];simp[bJ,h]
def wE(ns:List Nd)(k:Nat):List Lit:=(ns.take k).map fun x=>.string x.name.data.toList
theorem QW(ns:List Nd)(k:Nat)(h:k<ns.length):wE ns (k+1)=wE ns k++[.string (ns.getD k jk).name.data.toList]:=by unfold wE;rw[ji jk ns k h,eY];rfl
theorem TZ(ns:List Nd)(k:Nat)(x:Nd):((wE ns k).any fun b=>(Lit.string x.name.data.toList).sameKey b)=(ns.take k).any fun y=>nW y x:=by unfold wE;rw[List.any_map];congr 1;funext y;show(x.name.data.toList==y.name.data.toList)=(y.name.data.toList==x.name.data.toList);exact BEq.comm
def yP(es:List (Int×Int))(k:Nat):List Lit:=(es.take k).map pk
theorem Tz(es:List (Int×Int))(k:Nat)(h:k<es.length):yP es (k+1)=yP es k++[pk (es.getD k (0,0))]:=by unfold yP;rw[ji (0,0) es k h,eY];rfl
def WfE(x:Int×Int):Prop:=(iT .i64 x.1).wf=true/\(iT .i64 x.2).wf=true
theorem Vr(es:List (Int×Int))(k:Nat)(x:Int×Int)(hw:∀y∈es,WfE y)(hx:WfE x):((yP es k).any fun b=>(pk x).sameKey b)=(es.take k).any fun y=>jq y x:=by
 unfold yP;rw[List.any_map,jE,iD,iD];have key:∀y∈es,((pk x).sameKey (pk y)=true↔jq y x=true):=by
  intro y hy;have h1:((pk x).sameKey (pk y)=true)↔pk x=pk y:=by unfold pk;simp only[Lit.sameKey];simp
  rw[h1];constructor
  ·intro h;have:=amP hx (hw y hy) h;rw[this];simp[jq]
  ·intro h;simp[jq]at h;have:y=x:=JN h.1 h.2;rw[this]
 constructor
 ·rintro⟨y,hy,h⟩;exact⟨y,hy,(key y (jm hy)).1 h⟩
 ·rintro⟨y,hy,h⟩;exact⟨y,hy,(key y (jm hy)).2 h⟩
theorem Ia(cs:List Cb):(gY cs).length=2*cs.length:=by
 unfold gY
 induction cs with
 |nil=>rfl
 |cons x l ih=>rw[eO,bV,ih];simp;omega
theorem abn(cs:List Cb)(k:Nat)(h:k<cs.length):(gY cs).getD (2*k) (0,0)=((cs.getD k gX).a,(cs.getD k gX).ap)/\(gY cs).getD (2*k+1) (0,0)=((cs.getD k gX).b,(cs.getD k gX).bp):=by
 unfold gY
 induction cs generalizing k with
 |nil=>simp at h
 |cons x l ih=>
  cases k with
  |zero=>exact⟨rfl,rfl⟩
  |succ k=>have:=ih k (by simpa using h);rw[show 2*(k+1)=2*k+2 by omega,show 2*k+2+1=2*k+1+2 by omega];rw[eO];exact this
theorem abo(cs:List Cb)(h:∀x∈cs,WfC x):∀y∈gY cs,WfE y:=by
 intro y hy;unfold gY at hy;rw[iF]at hy;obtain⟨x,hx,hy⟩:=hy;have:=h x hx;simp at hy;rcases hy with rfl|rfl
 ·exact⟨this.1,this.2.1⟩
 ·exact⟨this.2.2.1,this.2.2.2.1⟩
theorem aac(a b c d:aI)(w:aG):(xO 199 (.agg #[a,b,c,d]) (ah ag 0)).run aH w=.ok (.agg #[a,b]) w:=by kernel_rfl
theorem aad(a b c d:aI)(w:aG):(xO 199 (.agg #[a,b,c,d]) (ah ag 1)).run aH w=.ok (.agg #[c,d]) w:=by kernel_rfl
def apG(ns:List Nd)(w1:aG)(b:Nat)(i:aI)(wr:aG):Prop:=
 ∃k:Nat,k<=ns.length/\i=ah ag k/\jo wr aH 9 b k (Kz (wE ns k))/\Jt nW jk ns k=false/\aN b w1 wr
def akS(es:List (Int×Int))(w1:aG)(b:Nat)(e:Nat)(wr:aG):Prop:=
 jo wr aH 73 b e (Kz (yP es e))/\Jt jq (0,0) es e=false/\aN b w1 wr
def apC(cs:List Cb)(w1:aG)(b:Nat)(i:aI)(wr:aG):Prop:=
 ∃k:Nat,k<=cs.length/\i=ah ag k/\akS (gY cs) w1 b (2*k) wr
def adE(cs:List Cb)(w1:aG)(b k:Nat)(i:aI)(wr:aG):Prop:=
 ∃j:Nat,j<=2/\i=ah ag j/\akS (gY cs) w1 b (2*k+j) wr
theorem Ni(p:Pl)(An Ac:Option fA)(cn cc:Nat)(w:aG)(hl:p.ns.length<=1000000)(DN:p.cs.length<=1000000)(tu:QI p)(h:jw w An Ac p):bZ aH 83 #[.agg #[ay An p.ns.length cn,ay Ac p.cs.length cc]] w fun e w'=>e=ax (.bool (jY p))/\aN w.heap.size w w':=by
 obtain⟨ns,cs⟩:=p;simp only at hl DN|-;have H:=aA h;have HW:=aA tu;clear h tu;have hmm:=@run_makeMap aH;have HB0:aY ((w.alloc (af #[ay An ns.length cn,ay Ac cs.length cc] 25)).cell? ⟨w.heap.size,0,aj⟩=az (ay An ns.length cn)):=by show _=_;simp[go_sem]
 have HB1:aY ((w.alloc (af #[ay An ns.length cn,ay Ac cs.length cc] 25)).cell? ⟨w.heap.size,1,aj⟩=az (ay Ac cs.length cc)):=by show _=_;simp[go_sem]
 have H1:=aA (H.o.alloc (af #[ay An ns.length cn,ay Ac cs.length cc] 25));have HBW:aY (aN w.heap.size w (w.alloc (af #[ay An ns.length cn,ay Ac cs.length cc] 25))):=(aQ _ _).alloc (aC _) _;have hsz:(w.alloc (af #[ay An ns.length cn,ay Ac cs.length cc] 25)).heap.size=w.heap.size+1:=by simp
 clear H;go_enter func83,ntmps83;go_wp2_with fail;clear hmm;go_loopw [15] (fun i wr=>apG ns (w.alloc (af #[ay An ns.length cn,ay Ac cs.length cc] 25)) (w.heap.size+1) i wr) (fun i _=>ns.length-(intOf i).toNat);case atStart=>
  refine⟨0,bS _,rfl,?_,rfl,?_⟩
  ·have:=jo.made (w.alloc (af #[ay An ns.length cn,ay Ac cs.length cc] 25)) aH 9;rw[hsz]at this;exact this
  ·rw[<-hsz];exact(aQ _ _).alloc (aC _) _
 case round=>
  generalize w.alloc (af #[ay An ns.length cn,ay Ac cs.length cc] 25)=w1 at *;obtain⟨k,hk,rfl,om,ZO,gm⟩:=hrel;have HTW:=aA ZO;clear ZO;have bs:=gm.size;have HP:=aA (H1.o.below (by omega) gm);by_cases nI:k<ns.length
  ·obtain⟨bb,off,ha,hbb,mE,c0,c1,c2⟩:=uQ HP.o.1 k nI;have hwn:(ns.getD k jk).name.size<=fB:=(HW.o.1 _ mE).1;have NS:=aA (QW ns k nI);have NA:=aA (TZ ns k (ns.getD k jk));have TS:=aA (zh nW jk ns k);generalize ns.getD k jk=x at *;have HK:aY (keyOf aH 9 (.string x.name)=az (.string x.name.data.toList)):=WideMaps.keyOf_string_mk underlying9 hwn;subst ha;have SG:=aA (Wx (wE ns k) (.string x.name.data.toList));cases Gb:(ns.take k).any fun y=>nW y x with
   |true=>
    have TG:aY ((Kz (wE ns k) (.string x.name.data.toList)).getD (.bool false)=.bool true):=(by show _=_;rw[SG.o,NA.o,Gb]);have iZ:aY (jY ⟨ns,cs⟩=true):=(by show _=_;unfold jY yF;rw[Gu nW jk ns (k+1) (by rw[TS.o,Gb];simp) ns.length (by omega)];rfl);have BW:aY (aN w.heap.size w (wr.alloc (af #[.string x.name,.bool x.sw,ah ag x.bE] 83))):=
     (HBW.o.trans (gm.mono (by omega))).alloc (by have:=HBW.o.size;omega) _
    clear NS NA SG TS Gb mE hwn HTW HP;go_wp2_with (at_lookup;refine ym _ rfl _ _ 197 rfl 9 4 YA underlying197 (.bool false) (Cw _) (w.heap.size+1) _ _ rfl (om.alloc _) _ (.string x.name.data.toList) rfl HK.o ?_;rw[TG.o]);go_ret;exact⟨by rw[iZ.out];rfl,BW.o⟩
   |false=>
    have TG:aY ((Kz (wE ns k) (.string x.name.data.toList)).getD (.bool false)=.bool false):=(by show _=_;rw[SG.o,NA.o,Gb]);have TW:aY (Jt nW jk ns (k+1)=false):=(by show _=_;rw[TS.o,HTW.o,Gb];rfl);clear SG NA TS Gb mE hwn HTW HP;go_wp2_with (first|(at_lookup;refine ym _ rfl _ _ 197 rfl 9 4 YA underlying197 (.bool false) (Cw _) (w.heap.size+1) _ _ rfl (om.alloc _) _ (.string x.name.data.toList) rfl HK.o ?_;rw[TG.o])|(at_mapUpdate;refine vz _ rfl _ _ _ 197 rfl 9 4 YA underlying197 (w.heap.size+1) k _ rfl (om.alloc _) ?d1 _ _ (.string x.name.data.toList) rfl rfl HK.o ?_));case d1=>unfold fB;omega
    intro w2 om2 GM;have R:apG ns w1 (w.heap.size+1) (ah ag ((k+1:Nat):Int)) w2:=by
     refine⟨k+1,by omega,rfl,?_,TW.o,?_⟩
     ·rw[NS.o,<-Ms];exact om2
     ·exact(gm.alloc (by omega) _).grown GM (by simp;omega) (by intro g e;injection e with e;omega)
    clear om2 GM om;go_wp2;exact⟨by simpa using R,by simp[intOf];omega⟩
  ·obtain rfl:k=ns.length:=by omega
   have d0:wr.cell? ⟨w.heap.size,0,aj⟩=az (ay An ns.length cn):=(by rw[gm.cell (by show w.heap.size<_;omega)];exact HB0.o);have d1:wr.cell? ⟨w.heap.size,1,aj⟩=az (ay Ac cs.length cc):=(by rw[gm.cell (by show w.heap.size<_;omega)];exact HB1.o);have BW:=aA (HBW.o.trans (gm.mono (by omega)));have bw:w.heap.size<wr.heap.size:=(by omega);clear HB0 HB1 H1 HBW om;have hmm:=@run_makeMap aH;obtain⟨w2,rfl⟩:∃w2:aG,w2=wr:=⟨_,rfl⟩;go_wp2_with fail;clear hmm;go_loopw [31] (fun i wr=>apC cs w2 w2.heap.size i wr) (fun i _=>cs.length-(intOf i).toNat);case atStart=>exact⟨0,bS _,rfl,jo.made _ _ _,rfl,(aQ _ _).alloc (aC _) _⟩
   case round=>
    obtain⟨k,hk2,rfl,om,ZO,Eh⟩:=hrel;have bc:=Eh.size;have Xj:=aA (HP.o.below (aC _) Eh);have hlt2:w2.heap.size<wr.heap.size:=om.lt;have OM:=aA om;have HT2:=aA ZO;clear om ZO;by_cases hkc:k<cs.length
    ·obtain⟨bb,off,ha,hbb,mE,c0,c1,c2,c3,c4,c5⟩:=mq Xj.o.2 k hkc;have EL:=aA (Ia cs);have EA:=aA (abn cs k hkc);have EW:=aA (abo cs HW.o.2);have WX:=aA (HW.o.2 _ mE);generalize cs.getD k gX=x at *;subst ha;obtain⟨xa,qF,xb,qO,Cv,He⟩:=x;simp only at c0 c1 c2 c3 c4 c5;have ST:aY (akS (gY cs) w2 w2.heap.size (2*k+0) (wr.alloc (af #[ah ag xa,ah ag qF,ah ag xb,ah ag qO,ah ag Cv,ah ag He] 86))):=
      ⟨OM.o.alloc _,HT2.o,Eh.alloc bc _⟩
     clear OM HT2 mE Xj;go_wp2_with fail;clear c0 c1 c2 c3 c4 c5;go_loopw [46] (fun i wr=>adE cs w2 w2.heap.size k i wr) (fun i _=>2-(intOf i).toNat);case atStart=>exact⟨0,by omega,rfl,ST.o⟩
     case round=>
      clear ST;obtain⟨j,hj,rfl,om,ZO,aer⟩:=hrel;have be:=aer.size;have HTE:=aA ZO;clear ZO;by_cases hj2:j<2
      ·obtain⟨y0,y1,hy,hyv⟩:∃y0 y1,(gY cs).getD (2*k+j) (0,0)=(y0,y1)/\((j=0/\y0=xa/\y1=qF)\/(j=1/\y0=xb/\y1=qO)):=by
        rcases(by omega:j=0\/j=1)with rfl|rfl
        ·exact⟨xa,qF,EA.o.1,.inl ⟨rfl,rfl,rfl⟩⟩
        ·exact⟨xb,qO,EA.o.2,.inr ⟨rfl,rfl,rfl⟩⟩
       have wy:WfE (y0,y1):=by
        rcases hyv with⟨_,rfl,rfl⟩|⟨_,rfl,rfl⟩
        ·exact⟨WX.o.1,WX.o.2.1⟩
        ·exact⟨WX.o.2.2.1,WX.o.2.2.2.1⟩
       have hle:2*k+j<(gY cs).length:=(by rw[EL.o];omega);have ES:=aA (Tz (gY cs) (2*k+j) hle);have NA:=aA (Vr (gY cs) (2*k+j) (y0,y1) EW.o wy);have TS:=aA (zh jq (0,0) (gY cs) (2*k+j));rw[hy]at ES TS;have HK:aY (keyOf aH 73 (.agg #[ah ag y0,ah ag y1])=az (pk (y0,y1))):=TQ wy.1 wy.2;have SG:=aA (Wx (yP (gY cs) (2*k+j)) (pk (y0,y1)));clear hy wy;cases Gb:((gY cs).take (2*k+j)).any fun y=>jq y (y0,y1)with
       |true=>
        have TG:aY ((Kz (yP (gY cs) (2*k+j)) (pk (y0,y1))).getD (.bool false)=.bool true):=(by show _=_;rw[SG.o,NA.o,Gb]);have iZ:aY (jY ⟨ns,cs⟩=true):=(by show _=_;unfold jY yF;simp only;rw[Gu jq (0,0) (gY cs) (2*k+j+1) (by rw[TS.o,Gb];simp) (gY cs).length hle];simp);have BWE:aY (aN w.heap.size w (wr.alloc (af #[ah ag y0,ah ag y1] 73))):=
         (BW.o.trans (aer.mono (by omega))).alloc (by omega) _
        clear ES NA SG TS Gb HTE EW EL EA WX HP HW;have ix0:=aac;have ix1:=aad;rcases hyv with⟨rfl,rfl,rfl⟩|⟨rfl,rfl,rfl⟩
        all_goals
         go_wp2_with (at_lookup;refine ym _ rfl _ _ 198 rfl 73 4 Gg underlying198 (.bool false) (Cw _) w2.heap.size _ _ rfl (om.alloc _) _ _ rfl HK.o ?_;rw[TG.o]);go_ret
         exact⟨by rw[iZ.out];rfl,BWE.o⟩
       |false=>
        have TG:aY ((Kz (yP (gY cs) (2*k+j)) (pk (y0,y1))).getD (.bool false)=.bool false):=(by show _=_;rw[SG.o,NA.o,Gb]);have TW:aY (Jt jq (0,0) (gY cs) (2*k+j+1)=false):=(by show _=_;rw[TS.o,HTE.o,Gb];rfl);clear SG NA TS Gb HTE EW EL EA WX HP HW hle;have ix0:=aac;have ix1:=aad;rcases hyv with⟨rfl,rfl,rfl⟩|⟨rfl,rfl,rfl⟩
        ·go_wp2_with (first|(at_lookup;refine ym _ rfl _ _ 198 rfl 73 4 Gg underlying198 (.bool false) (Cw _) w2.heap.size _ _ rfl (om.alloc _) _ _ rfl HK.o ?_;rw[TG.o])|(at_mapUpdate;refine vz _ rfl _ _ _ 198 rfl 73 4 Gg underlying198 w2.heap.size (2*k+0) _ rfl (om.alloc _) ?d1 _ _ _ rfl rfl HK.o ?_));case d1=>unfold fB;omega
         intro w3 om3 Yn;have R:adE cs w2 w2.heap.size k (ah ag ((0+1:Nat):Int)) w3:=by
          refine⟨0+1,by omega,rfl,?_,TW.o,?_⟩
          ·rw[<-qx,ES.o,<-Ms];exact om3
          ·exact(aer.alloc be _).grown Yn (by simp;omega) (by intro g e;injection e with e;omega)
         clear om3 Yn om;go_wp2;exact⟨by simpa using R,by simp[intOf]⟩
        ·go_wp2_with (first|(at_lookup;refine ym _ rfl _ _ 198 rfl 73 4 Gg underlying198 (.bool false) (Cw _) w2.heap.size _ _ rfl (om.alloc _) _ _ rfl HK.o ?_;rw[TG.o])|(at_mapUpdate;refine vz _ rfl _ _ _ 198 rfl 73 4 Gg underlying198 w2.heap.size (2*k+1) _ rfl (om.alloc _) ?d1 _ _ _ rfl rfl HK.o ?_));case d1=>unfold fB;omega
         intro w3 om3 Yn;have R:adE cs w2 w2.heap.size k (ah ag ((1+1:Nat):Int)) w3:=by
          refine⟨1+1,by omega,rfl,?_,TW.o,?_⟩
          ·rw[<-qx,ES.o,<-Ms];exact om3
          ·exact(aer.alloc be _).grown Yn (by simp;omega) (by intro g e;injection e with e;omega)
         clear om3 Yn om;go_wp2;exact⟨by simpa using R,by simp[intOf]⟩
      ·obtain rfl:j=2:=by omega
       have R:aY (apC cs w2 w2.heap.size (ah ag ((k+1:Nat):Int)) wr):=⟨k+1,by omega,rfl,om,HTE.o,aer⟩;clear om HTE;go_wp2;exact⟨by simpa using R.o,by simp[intOf];omega⟩
    ·obtain rfl:k=cs.length:=by omega
     have iZ:aY (jY ⟨ns,cs⟩=false):=(by show _=_;unfold jY yF;simp only;rw[Ia,HT2.o,HTW.o];rfl);have BWE:=aA (BW.o.trans (Eh.mono (by omega)));clear HTW HT2 OM Xj HP;go_wp2_with fail;go_ret;exact⟨by rw[iZ.out];rfl,BWE.o⟩
end
section
open Go.RowKit Go.Maps
def uW{α:Type}(f:α->Bool)(xs:List α)(B:Nat)(w1:aG)(i:aI)(wr:aG):Prop:=
 ∃k:Nat,k<=xs.length/\i=ah ag k/\(xs.take k).all f=true/\aN B w1 wr
theorem xX{α:Type}(f:α->Bool)(d:α)(xs:List α)(k:Nat)(h:k<xs.length):(xs.take (k+1)).all f=((xs.take k).all f&&f (xs.getD k d)):=by rw[ji d xs k h,uM];simp
theorem AJ{α:Type}(f:α->Bool)(d:α)(xs:List α)(k:Nat)(h:k<xs.length)(hf:f (xs.getD k d)=false):xs.all f=false:=by rw[List.all_eq_false];exact⟨xs.getD k d,by simp[bJ,h],by rw[hf];simp⟩
section
variable{p:Pl}
theorem Ol(h:16<p.ns.length\/32<p.cs.length):fT p=5:=by unfold fT;rw[if_pos h]
theorem aaq(h:¬(16<p.ns.length\/32<p.cs.length))(h1:p.ns.all kX=false):fT p=1:=by unfold fT;rw[if_neg h,if_pos h1]
theorem Oj(h:¬(16<p.ns.length\/32<p.cs.length))(h1:p.ns.all kX=true)(h2:p.cs.all (lH p.ns)=false):fT p=2:=by unfold fT;rw[if_neg h,if_neg (by rw[h1];simp),if_pos h2]
theorem aas(h:¬(16<p.ns.length\/32<p.cs.length))(h1:p.ns.all kX=true)(h2:p.cs.all (lH p.ns)=true)(h3:jY p=true):fT p=8:=by unfold fT;rw[if_neg h,if_neg (by rw[h1];simp),if_neg (by rw[h2];simp),if_pos h3]
theorem WO(h:¬(16<p.ns.length\/32<p.cs.length))(h1:p.ns.all kX=true)(h2:p.cs.all (lH p.ns)=true)(h3:jY p=false)(h4:(p.cs.all fun x=>decide (x.a≠x.b))=false):fT p=12:=by unfold fT;rw[if_neg h,if_neg (by rw[h1];simp),if_neg (by rw[h2];simp),if_neg (by rw[h3];simp),if_pos h4]
theorem aar(h:¬(16<p.ns.length\/32<p.cs.length))(h1:p.ns.all kX=true)(h2:p.cs.all (lH p.ns)=true)(h3:jY p=false)(h4:(p.cs.all fun x=>decide (x.a≠x.b))=true)(h5:p.cs.all tH=false):fT p=3:=by unfold fT;rw[if_neg h,if_neg (by rw[h1];simp),if_neg (by rw[h2];simp),if_neg (by rw[h3];simp),if_neg (by rw[h4];simp),if_pos h5]
theorem aap(h:¬(16<p.ns.length\/32<p.cs.length))(h1:p.ns.all kX=true)(h2:p.cs.all (lH p.ns)=true)(h3:jY p=false)(h4:(p.cs.all fun x=>decide (x.a≠x.b))=true)(h5:p.cs.all tH=true):fT p=0:=by unfold fT;rw[if_neg h,if_neg (by rw[h1];simp),if_neg (by rw[h2];simp),if_neg (by rw[h3];simp),if_neg (by rw[h4];simp),if_neg (by rw[h5];simp)]
end
theorem Co(ns:List Nd)(cs:List Cb)(An Ac:Option fA)(cn cc:Nat)(node port:Int)(w:aG)(hl:ns.length<=1000000)(h:jw w An Ac ⟨ns,cs⟩)(r:Bool)(hr:jO ns node port=r)(ob:Obj)(Oc:af #[ay An ns.length cn,ay Ac cs.length cc] 25=ob):bZ aH 82 #[.agg #[ay An ns.length cn,ay Ac cs.length cc],ah ag node,ah ag port] w fun e w'=>e=ax (.bool r)/\w.alloc ob=w':=by subst hr;subst Oc;exact afG ⟨ns,cs⟩ An Ac cn cc node port w hl h
theorem zN(p:Pl)(An Ac:Option fA)(cn cc:Nat)(w:aG)(hl:p.ns.length<=1000000)(DN:p.cs.length<=1000000)(tu:QI p)(h:jw w An Ac p):bZ aH 35 #[.agg #[ay An p.ns.length cn,ay Ac p.cs.length cc]] w fun e w'=>e=ax (ah ag (fT p))/\aN w.heap.size w w':=by
 obtain⟨ns,cs⟩:=p;simp only at hl DN|-;have H:=aA h;have HW:=aA tu;clear h tu;have HB0:aY ((w.alloc (af #[ay An ns.length cn,ay Ac cs.length cc] 25)).cell? ⟨w.heap.size,0,aj⟩=az (ay An ns.length cn)):=by show _=_;simp[go_sem]
 have HB1:aY ((w.alloc (af #[ay An ns.length cn,ay Ac cs.length cc] 25)).cell? ⟨w.heap.size,1,aj⟩=az (ay Ac cs.length cc)):=by show _=_;simp[go_sem]
 have H1:=aA (H.o.alloc (af #[ay An ns.length cn,ay Ac cs.length cc] 25));have HBW:aY (aN w.heap.size w (w.alloc (af #[ay An ns.length cn,ay Ac cs.length cc] 25))):=(aQ _ _).alloc (aC _) _;have hsz:(w.alloc (af #[ay An ns.length cn,ay Ac cs.length cc] 25)).heap.size=w.heap.size+1:=by simp
 clear H;by_cases h16:16<ns.length
 ·have iZ:=aA (Ol (p:=⟨ns,cs⟩) (.inl h16));go_enter func35,ntmps35;go_wp2_with fail;go_ret;exact⟨by rw[iZ.out];rfl,HBW.o⟩
 by_cases h32:32<cs.length
 ·have iZ:=aA (Ol (p:=⟨ns,cs⟩) (.inr h32));go_enter func35,ntmps35;go_wp2_with fail;go_ret;exact⟨by rw[iZ.out];rfl,HBW.o⟩
 have V:aY (¬(16<(⟨ns,cs⟩:Pl).ns.length\/32<(⟨ns,cs⟩:Pl).cs.length)):=by
  rintro(h|h)
  ·exact h16 h
  ·exact h32 h
 go_enter func35,ntmps35;go_wp2_with fail
 go_loopw [24] (fun i wr=>uW kX ns (w.heap.size+1) (w.alloc (af #[ay An ns.length cn,ay Ac cs.length cc] 25)) i wr) (fun i _=>ns.length-(intOf i).toNat);case atStart=>exact⟨0,bS _,rfl,rfl,aQ _ _⟩
 case round=>
  generalize w.alloc (af #[ay An ns.length cn,ay Ac cs.length cc] 25)=w1 at *;obtain⟨k,hk,rfl,hall,gm⟩:=hrel;have bs:=gm.size;have HA:=aA hall;clear hall;have HP:=aA (H1.o.below (by omega) gm);by_cases nI:k<ns.length
  ·obtain⟨bb,off,ha,hbb,mE,c0,c1,c2⟩:=uQ HP.o.1 k nI;have AS:=aA (xX kX jk ns k nI);have AB:=aA (AJ kX jk ns k nI);generalize ns.getD k jk=x at *;subst ha;cases hx:kX x with
   |false=>
    have iZ:=aA (aaq (p:=⟨ns,cs⟩) V.o (AB.o hx));have HX:=aA hx;have BW:aY (aN w.heap.size w ((wr.alloc (af #[.string x.name,.bool x.sw,ah ag x.bE] 83)).alloc (af #[.string x.name,.bool x.sw,ah ag x.bE] 83))):=
     ((HBW.o.trans (gm.mono (by omega))).alloc (by omega) _).alloc (by simp;omega) _
    clear hx AS AB HA HP mE V;go_wp2_with (go_at_call 81;refine(Wi x _).mono ?_;rintro r w' ⟨rfl,rfl⟩;rw[HX.o]);go_ret;exact⟨by rw[iZ.out];rfl,BW.o⟩
   |true=>
    have HX:=aA hx;have R:aY (uW kX ns (w.heap.size+1) w1 (ah ag ((k+1:Nat):Int)) ((wr.alloc (af #[.string x.name,.bool x.sw,ah ag x.bE] 83)).alloc (af #[.string x.name,.bool x.sw,ah ag x.bE] 83))):=
     ⟨k+1,by omega,rfl,by rw[AS.o,HA.o,hx];rfl,(gm.alloc (by omega) _).alloc (by simp;omega) _⟩
    clear hx AS AB HA HP mE V;go_wp2_with (go_at_call 81;refine(Wi x _).mono ?_;rintro r w' ⟨rfl,rfl⟩;rw[HX.o]);exact⟨by simpa using R.o,by simp[intOf];omega⟩
  ·obtain rfl:k=ns.length:=by omega
   rw[dY]at HA;have d0:wr.cell? ⟨w.heap.size,0,aj⟩=az (ay An ns.length cn):=by rw[gm.cell (by show w.heap.size<_;omega)];exact HB0.o
   have d1:wr.cell? ⟨w.heap.size,1,aj⟩=az (ay Ac cs.length cc):=(by rw[gm.cell (by show w.heap.size<_;omega)];exact HB1.o);have BW:=aA (HBW.o.trans (gm.mono (by omega)));have bw:w.heap.size<wr.heap.size:=(by omega);have D0:=aA d0;have D1:=aA d1;clear HB0 HB1 H1 HBW gm bs hsz hk nI;obtain⟨w2,rfl⟩:∃w2:aG,w2=wr:=⟨_,rfl⟩;go_wp2_with fail;go_loopw [35] (fun i wr=>uW (lH ns) cs w2.heap.size w2 i wr) (fun i _=>cs.length-(intOf i).toNat);case atStart=>exact⟨0,bS _,rfl,rfl,aQ _ _⟩
   case round=>
    clear d0 d1;obtain⟨k,hk,rfl,hall,Eh⟩:=hrel;have bc:=Eh.size;have HC:=aA hall;clear hall;have Xj:=aA (HP.o.below (aC _) Eh);have e0:wr.cell? ⟨w.heap.size,0,aj⟩=az (ay An ns.length cn):=by rw[Eh.cell (by exact bw)];exact D0.o
    have e1:wr.cell? ⟨w.heap.size,1,aj⟩=az (ay Ac cs.length cc):=(by rw[Eh.cell (by exact bw)];exact D1.o);have bwr:w.heap.size<wr.heap.size:=(by omega);by_cases nI:k<cs.length
    ·obtain⟨bb,off,ha,hbb,mE,c0,c1,c2,c3,c4,c5⟩:=mq Xj.o.2 k nI;have AS:=aA (xX (lH ns) gX cs k nI);have AB:=aA (AJ (lH ns) gX cs k nI);generalize cs.getD k gX=x at *;have HAn:aY (jw wr An (az ⟨bb,off,aj⟩) ⟨ns,cs⟩):=(by rw[<-ha];exact Xj.o);subst ha;obtain⟨xa,qF,xb,qO,Cv,He⟩:=x;simp only at c0 c1 c2 c3 c4 c5;clear mE Xj;obtain⟨ob,Oc⟩:∃ob,af #[ay An ns.length cn,ay (az ⟨bb,off,aj⟩) cs.length cc] 25=ob:=⟨_,rfl⟩;have HOB:=aA Oc;clear Oc;cases hx:jO ns xa qF with
     |false=>
      have iZ:=aA (Oj (p:=⟨ns,cs⟩) V.o HA.o (AB.o (by simp[lH,hx])));have HX:=aA hx;have Jv:aY (aN w.heap.size w ((wr.alloc (af #[ah ag xa,ah ag qF,ah ag xb,ah ag qO,ah ag Cv,ah ag He] 86)).alloc ob)):=
       ((BW.o.trans (Eh.mono (by omega))).alloc (by omega) _).alloc (by simp;omega) _
      clear hx AS AB HA HC HP V;go_wp2_with (go_at_call 82;refine(Co ns cs An _ cn cc xa qF _ hl (HAn.o.alloc _) _ HX.o ob HOB.o).mono ?_;rintro r w' ⟨rfl,rfl⟩);go_ret;exact⟨by rw[iZ.out];rfl,Jv.o⟩
     |true=>
      have HX:=aA hx;have BB:aY (aN w2.heap.size w2 (((wr.alloc (af #[ah ag xa,ah ag qF,ah ag xb,ah ag qO,ah ag Cv,ah ag He] 86)).alloc ob).alloc ob)):=
       ((Eh.alloc bc _).alloc (by simp;omega) _).alloc (by simp;omega) _
      cases hy:jO ns xb qO with
      |false=>have iZ:=aA (Oj (p:=⟨ns,cs⟩) V.o HA.o (AB.o (by simp[lH,hy])));have HY:=aA hy;clear hx hy AS AB HA HC HP V;go_wp2_with fail;refine(Co ns cs An _ cn cc xa qF _ hl (HAn.o.alloc _) _ HX.o ob HOB.o).mono ?_;rintro r w' ⟨rfl,rfl⟩;go_wp2_with fail;refine(Co ns cs An _ cn cc xb qO _ hl ((HAn.o.alloc _).alloc _) _ HY.o ob HOB.o).mono ?_;rintro r w' ⟨rfl,rfl⟩;go_wp2_with fail;go_ret;exact⟨by rw[iZ.out];rfl,BW.o.trans (BB.o.mono (by omega))⟩
      |true=>
       have HY:=aA hy;have R:aY (uW (lH ns) cs w2.heap.size w2 (ah ag ((k+1:Nat):Int)) (((wr.alloc (af #[ah ag xa,ah ag qF,ah ag xb,ah ag qO,ah ag Cv,ah ag He] 86)).alloc ob).alloc ob)):=
        ⟨k+1,by omega,rfl,by rw[AS.o,HC.o];simp[lH,hx,hy],BB.o⟩
       clear hx hy AS AB HA HC HP V BB;go_wp2_with fail;refine(Co ns cs An _ cn cc xa qF _ hl (HAn.o.alloc _) _ HX.o ob HOB.o).mono ?_;rintro r w' ⟨rfl,rfl⟩;go_wp2_with fail;refine(Co ns cs An _ cn cc xb qO _ hl ((HAn.o.alloc _).alloc _) _ HY.o ob HOB.o).mono ?_;rintro r w' ⟨rfl,rfl⟩;go_wp2_with fail;exact⟨by simpa using R.o,by simp[intOf];omega⟩
    ·obtain rfl:k=cs.length:=by omega
     rw[dY]at HC;have Jv:=aA (BW.o.trans (Eh.mono (by omega)));clear BW D0 D1 HP Eh;cases hr:jY ⟨ns,cs⟩with
     |true=>have iZ:=aA (aas (p:=⟨ns,cs⟩) V.o HA.o HC.o hr);have HR:=aA hr;clear hr V HA HC;go_wp2_with fail;refine(Ni ⟨ns,cs⟩ An Ac cn cc _ hl DN HW.o Xj.o).mono ?_;rintro r w' ⟨rfl,xq⟩;rw[HR.o];go_wp2_with fail;go_ret;exact⟨by rw[iZ.out];rfl,Jv.o.trans (xq.mono (by omega))⟩
     |false=>
      have HR:=aA hr;clear hr;go_wp2_with fail;refine(Ni ⟨ns,cs⟩ An Ac cn cc _ hl DN HW.o Xj.o).mono ?_;rintro r w' ⟨rfl,xq⟩;rw[HR.o];have f0:w'.cell? ⟨w.heap.size,0,aj⟩=az (ay An ns.length cn):=(by rw[xq.cell (by exact bwr)];exact e0);have f1:w'.cell? ⟨w.heap.size,1,aj⟩=az (ay Ac cs.length cc):=(by rw[xq.cell (by exact bwr)];exact e1);have HP3:=aA (Xj.o.below (aC _) xq);have Mx:=aA (Jv.o.trans (xq.mono (by omega)));have bw3:w.heap.size<w'.heap.size:=(by have:=xq.size;omega);have F0:=aA f0;have F1:=aA f1;clear xq Xj Jv e0 e1 bwr bc;generalize w'=w3 at *;go_wp2_with fail;go_loopw [61] (fun i wr=>uW (fun x:Cb=>decide (x.a≠x.b)) cs w3.heap.size w3 i wr) (fun i _=>cs.length-(intOf i).toNat);case atStart=>exact⟨0,bS _,rfl,rfl,aQ _ _⟩
      case round=>
       clear f0 f1;obtain⟨k,hk,rfl,hall,OV⟩:=hrel;have bd:=OV.size;have HD:=aA hall;clear hall;have HPD:=aA (HP3.o.below (aC _) OV);by_cases nI:k<cs.length
       ·obtain⟨bb,off,ha,hbb,mE,c0,c1,c2,c3,c4,c5⟩:=mq HPD.o.2 k nI;have AS:=aA (xX (fun x:Cb=>decide (x.a≠x.b)) gX cs k nI);have AB:=aA (AJ (fun x:Cb=>decide (x.a≠x.b)) gX cs k nI);generalize cs.getD k gX=x at *;subst ha;obtain⟨xa,qF,xb,qO,Cv,He⟩:=x;simp only at c0 c1 c2 c3 c4 c5;have BB:aY (aN w3.heap.size w3 (wr.alloc (af #[ah ag xa,ah ag qF,ah ag xb,ah ag qO,ah ag Cv,ah ag He] 86))):=OV.alloc bd _;by_cases hab:xa=xb
        ·have iZ:=aA (WO (p:=⟨ns,cs⟩) V.o HA.o HC.o HR.o (AB.o (by simp[hab])));have hq:(xa==xb)=true:=by rw[hab];simp
         clear mE AS AB HA HC HR V HD HPD hab;go_wp2_with fail;go_ret;exact⟨by rw[iZ.out];rfl,Mx.o.trans (BB.o.mono (by omega))⟩
        ·have R:aY (uW (fun x:Cb=>decide (x.a≠x.b)) cs w3.heap.size w3 (ah ag ((k+1:Nat):Int)) (wr.alloc (af #[ah ag xa,ah ag qF,ah ag xb,ah ag qO,ah ag Cv,ah ag He] 86))):=
          ⟨k+1,by omega,rfl,by rw[AS.o,HD.o];simp[hab],BB.o⟩
         have hq:(xa==xb)=false:=(by rw[beq_eq_false_iff_ne];exact hab);clear mE AS AB HA HC HR V HD HPD hab BB;go_wp2_with fail;exact⟨by simpa using R.o,by simp[intOf];omega⟩
       ·obtain rfl:k=cs.length:=by omega
        rw[dY]at HD;have g0:wr.cell? ⟨w.heap.size,0,aj⟩=az (ay An ns.length cn):=by rw[OV.cell (by exact bw3)];exact F0.o
        have g1:wr.cell? ⟨w.heap.size,1,aj⟩=az (ay Ac cs.length cc):=(by rw[OV.cell (by exact bw3)];exact F1.o);have BW4:=aA (Mx.o.trans (OV.mono (by omega)));have bw4:w.heap.size<wr.heap.size:=(by omega);clear Mx F0 F1 HP3 OV;obtain⟨w4,rfl⟩:∃w4:aG,w4=wr:=⟨_,rfl⟩;go_wp2_with fail;go_loopw [74] (fun i wr=>uW tH cs w4.heap.size w4 i wr) (fun i _=>cs.length-(intOf i).toNat);case atStart=>exact⟨0,bS _,rfl,rfl,aQ _ _⟩
        case round=>
         clear g0 g1;obtain⟨k,hk,rfl,hall,Vb⟩:=hrel;have bf:=Vb.size;have HF:=aA hall;clear hall;have HPF:=aA (HPD.o.below (aC _) Vb);by_cases nI:k<cs.length
         ·obtain⟨bb,off,ha,hbb,mE,c0,c1,c2,c3,c4,c5⟩:=mq HPF.o.2 k nI;have AS:=aA (xX tH gX cs k nI);have AB:=aA (AJ tH gX cs k nI);generalize cs.getD k gX=x at *;subst ha;obtain⟨xa,qF,xb,qO,Cv,He⟩:=x;simp only at c0 c1 c2 c3 c4 c5;have BB:aY (aN w4.heap.size w4 (wr.alloc (af #[ah ag xa,ah ag qF,ah ag xb,ah ag qO,ah ag Cv,ah ag He] 86))):=Vb.alloc bf _;by_cases rR:1<=Cv/\Cv<=100/\1<=He/\He<=1000
          ·have R:aY (uW tH cs w4.heap.size w4 (ah ag ((k+1:Nat):Int)) (wr.alloc (af #[ah ag xa,ah ag qF,ah ag xb,ah ag qO,ah ag Cv,ah ag He] 86))):=
            ⟨k+1,by omega,rfl,by rw[AS.o,HF.o];simp[tH,rR],BB.o⟩
           obtain⟨q1,q2,q3,q4⟩:=rR;clear mE AS AB HA HC HR HD V HF HPF HPD BB;go_wp2_with fail;exact⟨by simpa using R.o,by simp[intOf];omega⟩
          ·have iZ:=aA (aar (p:=⟨ns,cs⟩) V.o HA.o HC.o HR.o HD.o (AB.o (by
            simp only[tH];rw[Bool.eq_false_iff];intro h;simp at h;exact rR ⟨h.1.1.1,h.1.1.2,h.1.2,h.2⟩)))
           clear mE AS AB HA HC HR HD V HF HPF HPD;rcases(by omega:Cv<1\/(1<=Cv/\100<Cv)\/(1<=Cv/\Cv<=100/\He<1)\/(1<=Cv/\Cv<=100/\1<=He/\1000<He))with q1|⟨q1,q2⟩|⟨q1,q2,q3⟩|⟨q1,q2,q3,q4⟩<;>clear rR
           all_goals
            go_wp2_with fail;go_ret
            exact⟨by rw[iZ.out];rfl,BW4.o.trans (BB.o.mono (by omega))⟩
         ·obtain rfl:k=cs.length:=by omega
          rw[dY]at HF;have iZ:=aA (aap (p:=⟨ns,cs⟩) V.o HA.o HC.o HR.o HD.o HF.o);have BW5:=aA (BW4.o.trans (Vb.mono (by omega)));clear HA HC HR HD V HF HPF HPD;go_wp2_with fail;go_ret;exact⟨by rw[iZ.out];rfl,BW5.o⟩
end
section
structure Fm where
 id:Int
 jR:Int
 kU:Int
 cls:Int
 ep:Int
 data:List Int
instance:Inhabited Fm:=⟨⟨0,0,0,0,0,[]⟩⟩
structure Gv where
 room:Int
 NK:Int
 Kb:Int
instance:Inhabited Gv:=⟨⟨0,0,0⟩⟩
structure Tk where
 NQ:Int
 lim:Int
instance:Inhabited Tk:=⟨⟨0,0⟩⟩
def Gv.uH(g:Gv):Int:=g.room+g.Kb
def Gv.uR(g:Gv):Gv×Bool:=if g.uH<=g.NK then(g,false)else({g with NK:=g.NK+1},true)
def Gv.free(g:Gv):Gv:=if g.NK<=g.Kb then g else{g with Kb:=g.Kb+1}
def Tk.raise(t:Tk)(l:Int):Tk:=if l<0\/1099511627776<l then t else{t with lim:=max t.lim l}
def Tk.take(t:Tk):Tk:=if t.lim<=t.NQ then t else{t with NQ:=t.NQ+1}
def Tk.left(t:Tk):Int:=t.lim-t.NQ
def oz(n from':Nat)(s:Nat->Bool):Option Nat:=((aO n).map fun st=>(from'+st)%n).find? s
structure Nw where
 qf:List Nat
 acc:List Nat
structure Iu where
 mt:List (Option Nat)
 taken:List Bool
 iU:Nw
def jI(n:Nat)(req:Nat->Nat->Bool)(m:Iu):List (Option Nat):=
 (aO n).map fun k=>if m.taken.getD k false then aj else oz n (m.iU.qf.getD k 0) fun i=>(m.mt.getD i aj).isNone&&req i k
def accept1(n:Nat)(g:List (Option Nat))(Ep:Bool)(m:Iu)(i:Nat):Iu:=
 match oz n (m.iU.acc.getD i 0) (fun k=>g.getD k aj==az i)with
 |none=>m
 |some k=>⟨m.mt.set i (az k),m.taken.set k true,if Ep then⟨m.iU.qf.set k ((i+1)%n),m.iU.acc.set i ((k+1)%n)⟩else m.iU⟩
def uY(n:Nat)(req:Nat->Nat->Bool)(Ep:Bool)(m:Iu):Iu:=(aO n).foldl (accept1 n (jI n req m) Ep) m
def Fq(n:Nat)(req:Nat->Nat->Bool)(b:Nw):List (Option Nat)×Nw:=
 let m:=(aO n).foldl (fun m r=>uY n req (r==0) m) ⟨aS n aj,aS 8 false,b⟩
 (m.mt,m.iU)
structure Bx where
 bE:Nat
 aX:Nat
 q:List (List (List Fm))
 gv:List (List Gv)
 tk:List (List Tk)
 ptr:List Nat
 iU:Nw
 ov:Nat
instance:Inhabited Bx:=⟨⟨0,0,[],[],[],[],⟨[],[]⟩,0⟩⟩
def mW{α:Type}[Inhabited α](l:List (List α))(i j:Nat)(x:α):List (List α):=l.set i ((l.getD i []).set j x)
def dR{α:Type}[Inhabited α](l:List (List α))(i j:Nat):α:=(l.getD i []).getD j default
def qM(bE:Nat)(aK:List Int):Bx where
 bE:=bE
 aX:=aK.length
 q:=aS bE (aS aK.length [])
 gv:=aS bE (aK.map fun r=>⟨r,0,0⟩)
 tk:=aS bE (aK.map fun _=>⟨0,0⟩)
 ptr:=aS 8 0
 iU:=⟨aS 8 0,aS 8 0⟩
 ov:=0
def Bx.iR(b:Bx)(port:Nat)(f:Fm):Bx×Bool:=
 let c:=f.cls.toNat;let r:=(dR b.gv port c).uR
 if r.2 then({b with gv:=mW b.gv port c r.1,q:=mW b.q port c (dR b.q port c++[f])},true)else({b with ov:=b.ov+1},false)
def Bx.raise(b:Bx)(port c:Nat)(l:Int):Bx:={b with tk:=mW b.tk port c ((dR b.tk port c).raise l)}
def Bx.pop(b:Bx)(port c:Nat):Bx:={b with q:=mW b.q port c (dR b.q port c).tail,gv:=mW b.gv port c (dR b.gv port c).free}
def lookQ(bE:Nat)(bz:Fm->Option Nat):List Fm->Nat×Option Nat
 |[]=>(0,aj)
 |f::l=>match bz f with
  |some k=>if k<bE then(0,az k)else let r:=lookQ bE bz l;(r.1+1,r.2)
  |none=>let r:=lookQ bE bz l;(r.1+1,r.2)
abbrev Mv:=Nat×Nat×Option Nat×Fm
def popN(port c:Nat):Nat->Bx×List Mv->Bx×List Mv
 |0,s=>s
 |n+1,s=>popN port c n (s.1.pop port c,s.2++[(port,c,aj,(dR s.1.q port c).headD default)])
def Mk(b:Bx):List (Nat×Nat):=(aO b.bE).flatMap fun p=>(aO b.aX).map fun c=>(p,c)
def mR(outs:Nat->Nat->Option Nat)(b:Bx)(i k c:Nat):Bool:=outs i c==az k&&decide (0<(dR b.tk k c).left)
def Qc(outs:Nat->Nat->Option Nat)(i k:Nat)(s:Bx×List Mv):Bx×List Mv:=
 match oz s.1.aX (s.1.ptr.getD i 0) (mR outs s.1 i k)with
 |none=>s
 |some c=>
  let f:=(dR s.1.q i c).headD default;let b1:=s.1.pop i c
  ({b1 with tk:=mW b1.tk k c (dR b1.tk k c).take,ptr:=b1.ptr.set i ((c+1)%b1.aX)},s.2++[(i,c,az k,f)])
def Bx.step(b:Bx)(bz:Nat->Fm->Option Nat):Bx×List Mv:=
 let lk:=fun p c=>lookQ b.bE (bz p) (dR b.q p c);let outs:=fun p c=>(lk p c).2;let s1:=(Mk b).foldl (fun s pc=>popN pc.1 pc.2 (lk pc.1 pc.2).1 s) (b,[]);let req:=fun i k=>(aO b.aX).any fun c=>mR outs s1.1 i k c;let m:=Fq b.bE req s1.1.iU;let s2:Bx×List Mv:=({s1.1 with iU:=m.2},s1.2)
 (aO b.bE).foldl (fun s i=>match m.1.getD i aj with|none=>s|some k=>Qc outs i k s) s2
structure Rt where
 next:Nat->Nat->Nat->Int
 sQ:Nat->Nat->Bool
instance:Inhabited Rt:=⟨⟨fun _ _ _=>-1,fun _ _=>false⟩⟩
structure dx where
 aX:Nat
 aK:List Int
 boxes:List Bx
 up:List Bool
 NL:Rt
 QB:Rt
 dm:Nat
 wM:Int
 vH:Int
 kJ:Bool
 now:Nat
 last:Nat
 fl:Nat->List (Nat×Fm)
 lim:Nat->List (Nat×Nat×Int)
 came:List (List Int)
 gone:List (List Int)
 lost:List Fm
section
variable(ns:List Nd)(cs:List Cb)
def fM(c:Nat):Nat×Nat×Nat×Nat:=
 let x:=cs.getD (c/2) gX
 if c%2=0 then(x.a.toNat,x.ap.toNat,x.b.toNat,x.bp.toNat)else(x.b.toNat,x.bp.toNat,x.a.toNat,x.ap.toNat)
def iY(AQ node:Nat):Nat:=if(cs.getD AQ gX).a=(node:Int)then 2*AQ else 2*AQ+1
def mZ(node port:Nat):Option Nat:=(aO cs.length).find? fun i=>
 let x:=cs.getD i gX
 (x.a==(node:Int)&&x.ap==(port:Int))||(x.b==(node:Int)&&x.bp==(port:Int))
def Am(node:Nat):Bool:=(ns.getD node jk).sw
def dx.rt(f:dx)(ep:Int):Rt:=if ep%2=0 then f.NL else f.QB
def dx.alive(f:dx)(ep:Int):Int:=if ep<0\/(f.dm:Int)<ep\/ep<(f.dm:Int)-1 then 0 else if ep%2=0 then f.wM else f.vH
def dx.iC(f:dx)(ep d:Int):dx:=if ep%2=0 then{f with wM:=f.wM+d}else{f with vH:=f.vH+d}
def dx.rem(f:dx)(ep:Int):dx:=if f.alive ep=0 then f else f.iC ep (-1)
def dx.qQ(f:dx)(x:Fm):dx:=let g:=f.rem x.ep;{g with lost:=g.lost++[x]}
def dx.leave(f:dx)(node port:Nat)(x:Fm):Option Nat:=
 let r:=f.rt x.ep;let AQ:=r.next node (if Am ns node&&r.sQ node port then 1 else 0) x.kU.toNat
 if AQ<0 then aj else if f.up.getD AQ.toNat false then az (iY cs AQ.toNat node)else aj
def zI(node:Int):Bool:=decide (0<=node)&&decide (node<ns.length)&&!Am ns node.toNat
def dx.iL(f:dx)(jR kU cls:Int)(data:List Int):dx×Int×Int:=
 if !zI ns jR||!zI ns kU||decide (cls<0)||decide ((f.aX:Int)<=cls)||decide (64<data.length)then(f,0,2)
 else if jR=kU then(f,0,12)
 else
  let v:=cls.toNat+f.aX*(f.dm%2)
  if f.aK.getD v 0<=(dR (f.boxes.getD jR.toNat default).q 1 v).length then(f,0,5)
  else
   let x:Fm:=⟨f.last+1,jR,kU,v,f.dm,data⟩;let r:=(f.boxes.getD jR.toNat default).iR 1 x
   if r.2 then({f.iC f.dm 1 with boxes:=f.boxes.set jR.toNat r.1,last:=f.last+1},f.last+1,0)else({f with boxes:=f.boxes.set jR.toNat r.1},0,5)
def dx.ma(f:dx)(x:Nat×Nat×Int):dx:=
 let e:=fM cs x.1
 {f with boxes:=f.boxes.set e.1 ((f.boxes.getD e.1 default).raise e.2.1 x.2.1 x.2.2)}
abbrev Dl:=Nat×Nat×Fm
def dx.gV(s:dx×List Dl)(x:Nat×Fm):dx×List Dl:=
 let f:=s.1;let e:=fM cs x.1
 if Am ns e.2.2.1 then
  let r:=(f.boxes.getD e.2.2.1 default).iR e.2.2.2 x.2;let g:={f with boxes:=f.boxes.set e.2.2.1 r.1}
  (if r.2 then g else g.qQ x.2,s.2)
 else
  let g:={f with came:=mW f.came e.2.2.1 x.2.cls.toNat (dR f.came e.2.2.1 x.2.cls.toNat+1)}
  (g.rem x.2.ep,s.2++[(f.now,e.2.2.1,x.2)])
def oJ(n:Nat)(l:List (Nat×Fm)):List (Nat×Fm):=(aO n).flatMap fun c=>l.filter fun x=>x.1==c
def dx.jS(f:dx):dx×List Dl:=
 (oJ (2*cs.length) (f.fl f.now)).foldl (dx.gV ns cs) ({f with fl:=fun t=>if t=f.now then[]else f.fl t},[])
def dx.nR(node:Nat)(f:dx)(m:Mv):dx:=match m.2.2.1 with
 |none=>f.qQ m.2.2.2
 |some k=>match mZ cs node k with
  |none=>f
  |some i=>
   let due:=f.now+(cs.getD i gX).dl.toNat
   {f with fl:=fun t=>if t=due then f.fl t++[(iY cs i node,m.2.2.2)]else f.fl t}
def dx.qj(f:dx)(node:Nat):dx:=
 let r:=(f.boxes.getD node default).step fun port x=>(f.leave ns cs node port x).map fun c=>(fM cs c).2.1
 r.2.foldl (dx.nR cs node) {f with boxes:=f.boxes.set node r.1}
def dx.Np(f:dx)(c v:Nat):dx:=
 let e:=fM cs c;let due:=f.now+(cs.getD (c/2) gX).dl.toNat;let l:=if Am ns e.2.2.1 then(dR (f.boxes.getD e.2.2.1 default).gv e.2.2.2 v).uH else f.aK.getD v 0+dR f.came e.2.2.1 v
 {f with lim:=fun t=>if t=due then f.lim t++[(c,v,l+dR f.gone c v)]else f.lim t}
def dx.tell(f:dx):dx:=
 (aO (2*cs.length)).foldl (fun f c=>if f.up.getD (c/2) false then(aO f.aK.length).foldl (fun f v=>f.Np ns cs c v) f else f) f
def dx.lZ(f:dx):Bool:=decide (f.alive ((f.dm:Int)-1)<=0)
def dx.tick(f:dx)(nr:Rt):dx×List Dl:=
 let f1:={f with now:=f.now+1};let f2:=if f1.kJ&&f1.lZ then(if(f1.dm+1)%2=0 then{f1 with kJ:=false,dm:=f1.dm+1,NL:=nr}else{f1 with kJ:=false,dm:=f1.dm+1,QB:=nr})else f1
 let f3:=(f2.lim f2.now).foldl (dx.ma cs) f2;let f4:={f3 with lim:=fun t=>if t=f3.now then[]else f3.lim t};let r:=f4.jS ns cs;let f5:=(aO ns.length).foldl (dx.qj ns cs) r.1
 (f5.tell ns cs,r.2)
def jM(aK:List Int)(r:Rt):dx where
 aX:=aK.length
 aK:=aK++aK
 boxes:=ns.map fun n=>qM (if n.sw then n.bE.toNat else 2) (aK++aK)
 up:=cs.map fun _=>true
 NL:=r
 QB:=default
 dm:=0
 wM:=0
 vH:=0
 kJ:=false
 now:=0
 last:=0
 fl:=fun _=>[]
 lim:=fun _=>[]
 came:=ns.map fun _=>(aK++aK).map fun _=>0
 gone:=(aO (2*cs.length)).map fun _=>(aK++aK).map fun _=>0
 lost:=[]
end
theorem iO{α:Type}(l:List α){i:Nat}(x d:α)(h:i<l.length):(l.set i x).getD i d=x:=by simp[bJ,h]
theorem iG{α:Type}(l:List α){i j:Nat}(x d:α)(h:j≠i):(l.set i x).getD j d=l.getD j d:=by simp[bJ,kY,Ne.symm h]
theorem aio(n k:Nat):(aS n (0:Nat)).getD k 0=0:=by simp only[bJ,gz];split<;>rfl
structure Bc{α:Type}(l:List (List α))(n m:Nat):Prop where
 len:l.length=n
 row:∀i,i<n->(l.getD i []).length=m
section
variable{α:Type}[Inhabited α]{l:List (List α)}{n m i j a b:Nat}{x:α}
theorem Bc.jd(h:Bc l n m)(i j:Nat)(x:α):Bc (mW l i j x) n m:=by
 unfold mW;refine⟨by rw[jG];exact h.len,fun k hk=>?_⟩;by_cases e:k=i
 ·subst e;rw[iO _ _ _ (by rw[h.len];exact hk),jG];exact h.row k hk
 ·rw[iG _ _ _ e];exact h.row k hk
theorem nG(h:Bc l n m)(hi:i<n)(hj:j<m)(a b:Nat):dR (mW l i j x) a b=if a=i/\b=j then x else dR l a b:=by
 unfold dR mW;by_cases e:a=i
 ·subst e;rw[iO _ _ _ (by rw[h.len];exact hi)];by_cases e2:b=j
  ·subst e2;rw[if_pos ⟨rfl,rfl⟩,iO _ _ _ (by rw[h.row a hi];exact hj)]
  ·rw[if_neg (by simp[e2]),iG _ _ _ e2]
 ·rw[if_neg (by simp[e]),iG _ _ _ e]
theorem abE(h:Bc l n m)(hi:i<n)(hj:j<m):dR (mW l i j x) i j=x:=by rw[nG h hi hj,if_pos ⟨rfl,rfl⟩]
theorem VE(h:Bc l n m)(hi:i<n)(hj:j<m)(nQ:¬(a=i/\b=j)):dR (mW l i j x) a b=dR l a b:=by rw[nG h hi hj,if_neg nQ]
omit [Inhabited α] in
theorem Bc.rep(n m:Nat)(x:α):Bc (aS n (aS m x)) n m:=
 ⟨by simp,fun i hi=>by simp[bJ,hi]⟩
theorem zK{n:Nat}{r:List α}(hi:i<n):dR (aS n r) i j=r.getD j default:=by simp[dR,bJ,hi]
end
theorem acE{α:Type}[Inhabited α](l:List (List α)){n m i j:Nat}(h:Bc l n m)(hi:i<n)(hj:j<m):mW l i j (dR l i j)=l:=by
 unfold mW dR;have e1:(l.getD i []).set j ((l.getD i []).getD j default)=l.getD i []:=by
  apply nZ;intro k;rw[kY];by_cases e:j=k
  ·subst e;have:j<(l.getD i []).length:=by rw[h.row i hi];exact hj
   simp only[if_pos,this];simp[bJ,this]at this|-;simp[this]
  ·rw[if_neg e]
 rw[e1];apply nZ;intro k;rw[kY];by_cases e:i=k
 ·subst e;have:i<l.length:=by rw[h.len];exact hi
  simp[bJ,this]
 ·rw[if_neg e]
structure Xg(x:Gv)(q N:Nat):Prop where
 r0:1<=x.room
 r1:x.room<=64
 f0:0<=x.Kb
 f1:x.NK=x.Kb+q
 n1:x.NK<=N
 full:x.NK<=x.room+x.Kb
structure QH(x:Tk)(N:Nat):Prop where
 s0:0<=x.NQ
 s1:x.NQ<=N
 l0:0<=x.lim
 l1:x.lim<=1099511627776
 le:x.NQ<=x.lim
structure qR(b:Nw)(n:Nat):Prop where
 gl:b.qf.length=8
 al:b.acc.length=8
 g:∀k,b.qf.getD k 0<n
 a:∀k,b.acc.getD k 0<n
structure lW(X:Bx)(N:Nat):Prop where
 p0:1<=X.bE
 p1:X.bE<=8
 c0:1<=X.aX
 c1:X.aX<=8
 q:Bc X.q X.bE X.aX
 gv:Bc X.gv X.bE X.aX
 tk:Bc X.tk X.bE X.aX
 g:∀p c,p<X.bE->c<X.aX->Xg (dR X.gv p c) (dR X.q p c).length N
 t:∀p c,p<X.bE->c<X.aX->QH (dR X.tk p c) N
 pl:X.ptr.length=8
 pt:∀p,X.ptr.getD p 0<X.aX
 iU:qR X.iU X.bE
 ov:X.ov<=N
section
variable{X:Bx}{N M:Nat}
theorem lW.mono(h:lW X N)(hM:N<=M):lW X M:=
 ⟨h.p0,h.p1,h.c0,h.c1,h.q,h.gv,h.tk,fun p c hp hc=>let a:=h.g p c hp hc;⟨a.r0,a.r1,a.f0,a.f1,by have:=a.n1;omega,a.full⟩,fun p c hp hc=>let a:=h.t p c hp hc;⟨a.s0,by have:=a.s1;omega,a.l0,a.l1,a.le⟩,h.pl,h.pt,h.iU,by have:=h.ov;omega⟩
theorem lW.Ws(h:lW X N){p c:Nat}(hp:p<X.bE)(hc:c<X.aX):(dR X.q p c).length<=64:=by have a:=h.g p c hp hc;have:=a.r1;have:=a.f1;have:=a.full;omega
theorem lW.iR(h:lW X N){p:Nat}{f:Fm}(hp:p<X.bE)(hc:f.cls.toNat<X.aX):lW (X.iR p f).1 (N+1):=by
 unfold Bx.iR Gv.uR;have hg:=h.g p f.cls.toNat hp hc;by_cases hf:(dR X.gv p f.cls.toNat).uH<=(dR X.gv p f.cls.toNat).NK
 ·simp only[if_pos hf,Bool.false_eq_true,if_false];have h2:=h.mono (show N<=N+1 by omega);exact⟨h2.p0,h2.p1,h2.c0,h2.c1,h2.q,h2.gv,h2.tk,h2.g,h2.t,h2.pl,h2.pt,h2.iU,by have:=h.ov;simp;omega⟩
 ·simp only[if_neg hf,if_true];have h2:=h.mono (show N<=N+1 by omega);refine⟨h2.p0,h2.p1,h2.c0,h2.c1,h.q.jd _ _ _,h.gv.jd _ _ _,h2.tk,fun a c ha qg=>?_,h2.t,h2.pl,h2.pt,h2.iU,h2.ov⟩;rw[nG h.gv hp hc,nG h.q hp hc];by_cases e:a=p/\c=f.cls.toNat
  ·rw[if_pos e,if_pos e];unfold Gv.uH at hf;have e1:=hg.f1;have e2:=hg.n1;have e3:=hg.r0;have e4:=hg.r1;have e5:=hg.f0;exact⟨e3,e4,e5,by simp[e1];omega,by simp;omega,by simp;omega⟩
  ·rw[if_neg e,if_neg e];exact h2.g a c ha qg
theorem lW.raise(h:lW X N){p c:Nat}(hp:p<X.bE)(hc:c<X.aX)(l:Int):lW (X.raise p c l) N:=by
 unfold Bx.raise Tk.raise;have ht:=h.t p c hp hc;refine⟨h.p0,h.p1,h.c0,h.c1,h.q,h.gv,h.tk.jd _ _ _,h.g,fun a b ha hb=>?_,h.pl,h.pt,h.iU,h.ov⟩;simp only;rw[nG h.tk hp hc];by_cases e:a=p/\b=c
 ·rw[if_pos e];split
  ·exact ht
  ·have e1:=ht.s0;have e2:=ht.s1;have e3:=ht.l0;have e4:=ht.l1;have e5:=ht.le;exact⟨e1,e2,by simp;omega,by simp;omega,by simp;omega⟩
 ·rw[if_neg e];exact h.t a b ha hb
theorem lW.pop(h:lW X N){p c:Nat}(hp:p<X.bE)(hc:c<X.aX)(hq:0<(dR X.q p c).length):lW (X.pop p c) N:=by
 unfold Bx.pop Gv.free;have hg:=h.g p c hp hc;have e1:=hg.f1;have e2:=hg.n1;have e3:=hg.r0;have e4:=hg.r1;have e5:=hg.f0;have e6:=hg.full;refine⟨h.p0,h.p1,h.c0,h.c1,h.q.jd _ _ _,h.gv.jd _ _ _,h.tk,fun a b ha hb=>?_,h.t,h.pl,h.pt,h.iU,h.ov⟩;simp only;rw[nG h.gv hp hc,nG h.q hp hc];by_cases e:a=p/\b=c
 ·rw[if_pos e,if_pos e,if_neg (by omega)];exact⟨e3,e4,by simp;omega,by simp;omega,by simp;omega,by simp;omega⟩
 ·rw[if_neg e,if_neg e];exact h.g a b ha hb
theorem lW.Mr(h:lW X N){b:Nw}(hb:qR b X.bE):lW {X with iU:=b} N:=⟨h.p0,h.p1,h.c0,h.c1,h.q,h.gv,h.tk,h.g,h.t,h.pl,h.pt,hb,h.ov⟩
theorem lW.aaf(h:lW X N){p c:Nat}(hp:p<X.bE)(hc:c<X.aX){t:Tk}(ht:QH t N):lW {X with tk:=mW X.tk p c t} N:=
 ⟨h.p0,h.p1,h.c0,h.c1,h.q,h.gv,h.tk.jd _ _ _,h.g,fun a b ha hb=>by
  simp only;rw[nG h.tk hp hc];split
  ·exact ht
  ·exact h.t a b ha hb,h.pl,h.pt,h.iU,h.ov⟩
end
theorem lW.new{bE:Nat}{aK:List Int}(p0:1<=bE)(p1:bE<=8)(c0:1<=aK.length)(c1:aK.length<=8)(hr:∀r∈aK,1<=r/\r<=64)(N:Nat):lW (qM bE aK) N where
 p0:=p0
 p1:=p1
 c0:=c0
 c1:=c1
 q:=Bc.rep _ _ _
 gv:=⟨by simp[qM],fun i hi=>by simp only[qM]at hi|-;simp[bJ,hi]⟩
 tk:=⟨by simp[qM],fun i hi=>by simp only[qM]at hi|-;simp[bJ,hi]⟩
 g:=fun p c hp hc=>by
  simp only[qM]at hp hc|-;have e0:∀(r:List Gv),dR (aS bE r) p c=r.getD c default:=fun r=>zK hp;have e00:∀(r:List (List Fm)),dR (aS bE r) p c=r.getD c default:=fun r=>zK hp;rw[e0,e00];have e:(aK.map fun r=>(⟨r,0,0⟩:Gv)).getD c default=⟨aK[c],0,0⟩:=by simp[bJ,hc]
  have e2:(aS aK.length ([]:List Fm)).getD c default=[]:=by simp[bJ,hc]
  rw[e,e2];have:=hr _ (BN hc);exact⟨this.1,this.2,gQ _,by simp,qY _,by simp;omega⟩
 t:=fun p c hp hc=>by
  simp only[qM]at hp hc|-;have e0:∀(r:List Tk),dR (aS bE r) p c=r.getD c default:=fun r=>zK hp;rw[e0];have e:(aK.map fun _=>(⟨0,0⟩:Tk)).getD c default=⟨0,0⟩:=by simp[bJ,hc]
  rw[e];exact⟨gQ _,qY _,gQ _,by decide,gQ _⟩
 pl:=by simp[qM]
 pt:=fun p=>by simp only[qM];rw[aio];omega
 iU:=⟨by simp[qM],by simp[qM],fun k=>by simp only[qM];rw[aio];omega,fun k=>by simp only[qM];rw[aio];omega⟩
 ov:=by simp[qM]
section
variable{α β:Type}
def sm(μ:α->Nat)(l:List α):Nat:=(l.map μ).sum
theorem Dk(μ:α->Nat):sm μ []=0:=rfl
theorem lV(μ:α->Nat)(x:α)(l:List α):sm μ (x::l)=μ x+sm μ l:=by simp[sm]
theorem oq(μ:α->Nat)(a b:List α):sm μ (a++b)=sm μ a+sm μ b:=by simp[sm]
theorem Jr(μ:α->Nat)(x:α):sm μ [x]=μ x:=by simp[sm]
theorem qA(μ:β->Nat)(g:α->List β)(l:List α):sm μ (l.flatMap g)=sm (fun x=>sm μ (g x)) l:=by
 induction l with
 |nil=>rfl
 |cons x l ih=>rw[eO,oq,lV,ih]
theorem afU(μ:β->Nat)(g:α->β)(l:List α):sm μ (l.map g)=sm (fun x=>μ (g x)) l:=by simp[sm,Function.comp_def]
theorem zX{μ ν:α->Nat}{l:List α}(h:∀x∈l,μ x=ν x):sm μ l=sm ν l:=by unfold sm;rw[List.map_congr_left h]
theorem Ui(μ:α->Nat)(l:List α){i:Nat}(hi:i<l.length)(x d:α):sm μ (l.set i x)+μ (l.getD i d)=sm μ l+μ x:=by
 induction l generalizing i with
 |nil=>simp at hi
 |cons y l ih=>
  cases i with
  |zero=>simp[lV];omega
  |succ i=>have:=ih (i:=i) (by simpa using hi);simp only[List.set_cons_succ,lV,GJ];omega
theorem acH(μ:α->Nat)(p:α->Bool)(l:List α):sm μ (l.filter p)+sm μ (l.filter fun x=>!p x)=sm μ l:=by
 induction l with
 |nil=>rfl
 |cons x l ih=>rw[iE,iE,lV];cases p x<;>simp[lV]<;>omega
theorem Uh{μ:α->Nat}{a b:List α}(h:a.Perm b):sm μ a=sm μ b:=(h.map μ).sum_nat
theorem anb{μ:α->Nat}{l:List α}{x:α}(h:x∈l):μ x<=sm μ l:=by
 induction l with
 |nil=>simp at h
 |cons y l ih=>
  rw[lV];rcases dG.1 h with rfl|h
  ·omega
  ·have:=ih h;omega
theorem anc{μ:α->Nat}{l:List α}(h:0<sm μ l):∃x∈l,0<μ x:=by
 induction l with
 |nil=>simp[Dk]at h
 |cons y l ih=>
  rw[lV]at h;by_cases e:0<μ y
  ·exact⟨y,by simp,e⟩
  ·obtain⟨x,hx,h2⟩:=ih (by omega);exact⟨x,by simp[hx],h2⟩
theorem aiu{l:List α}{μ:α->Nat}(h:∀x∈l,μ x=0):sm μ l=0:=by
 by_cases e:0<sm μ l
 ·obtain⟨x,hx,h2⟩:=anc e;have:=h x hx;omega
 ·omega
theorem ana(μ ν:α->Nat)(l:List α):sm (fun x=>μ x+ν x) l=sm μ l+sm ν l:=by
 induction l with
 |nil=>rfl
 |cons y l ih=>simp only[lV,ih];omega
theorem asE{μ ν:α->Nat}{l:List α}(h:∀x∈l,μ x<=ν x):sm μ l<=sm ν l:=by
 induction l with
 |nil=>exact aC _
 |cons y l ih=>simp only[lV];have:=h y (by simp);have:=ih fun x hx=>h x (by simp[hx]);omega
theorem Dn(g:Nat->Nat)(B t v:Nat)(ht:t<B):sm (fun i=>if i=t then v else g i) (aO B)+g t=sm g (aO B)+v:=by
 induction B with
 |zero=>omega
 |succ B ih=>
  rw[dB,oq,oq,Jr,Jr];by_cases e:t=B
  ·subst e;have:sm (fun i=>if i=t then v else g i) (aO t)=sm g (aO t):=zX fun x hx=>by
    have:=dJ.1 hx;rw[if_neg (by omega)]
   rw[this,if_pos rfl];omega
  ·have:=ih (by omega);rw[if_neg (fun q=>e q.symm)];omega
theorem Jm[DecidableEq α]{a b:List α}(h:∀μ:α->Nat,sm μ a=sm μ b):a.Perm b:=by
 rw[List.perm_iff_count];intro x;have:=h fun y=>if y=x then 1 else 0
 have e:∀l:List α,sm (fun y=>if y=x then 1 else 0) l=l.count x:=fun l=>by
  induction l with
  |nil=>rfl
  |cons y l ih=>rw[lV,ih,List.count_cons];simp only[beq_iff_eq];omega
 rw[e,e]at this;exact this
end
def qW(μ:Fm->Nat)(q:List (List (List Fm))):Nat:=sm (fun r=>sm (fun l=>sm μ l) r) q
theorem YQ(μ:Fm->Nat){q:List (List (List Fm))}{n m i j:Nat}(h:Bc q n m)(hi:i<n)(hj:j<m)(l:List Fm):qW μ (mW q i j l)+sm μ (dR q i j)=qW μ q+sm μ l:=by unfold qW mW dR;have h1:=Ui (fun r=>sm (fun l=>sm μ l) r) q (i:=i) (by rw[h.len];exact hi) ((q.getD i []).set j l) [];have h2:=Ui (fun l=>sm μ l) (q.getD i []) (i:=j) (by rw[h.row i hi];exact hj) l default;omega
inductive Mi(bz:Nat->Fm->Option Nat):Bx->Mv->Bx->Prop
 |drop (b:Bx) (p c:Nat) (f:Fm) (l:List Fm):p<b.bE->c<b.aX->dR b.q p c=f::l->(∀k,bz p f=az k->¬k<b.bE)->Mi bz b (p,c,aj,f) (b.pop p c)
 |move (b:Bx) (i c k:Nat) (f:Fm) (l:List Fm) (pt:List Nat):i<b.bE->c<b.aX->k<b.bE->dR b.q i c=f::l->bz i f=az k->0<(dR b.tk k c).left->
  pt.length=8->(∀p,pt.getD p 0<b.aX)->Mi bz b (i,c,az k,f) {b.pop i c with tk:=mW b.tk k c (dR b.tk k c).take,ptr:=pt}
inductive Tr(bz:Nat->Fm->Option Nat):Bx->List Mv->Bx->Prop
 |nil (b:Bx):Tr bz b [] b
 |cons {b b1 b2:Bx} {m:Mv} {ms:List Mv}:Mi bz b m b1->Tr bz b1 ms b2->Tr bz b (m::ms) b2
 |iU {b b2:Bx} {ms:List Mv} (x:Nw):qR x b.bE->Tr bz {b with iU:=x} ms b2->Tr bz b ms b2
section
variable{bz:Nat->Fm->Option Nat}{b b1 b2:Bx}{m:Mv}{ms ns:List Mv}{N:Nat}
theorem Tr.append(h:Tr bz b ms b1)(k:Tr bz b1 ns b2):Tr bz b (ms++ns) b2:=by
 induction h with
 |nil b=>exact k
 |cons hm _ ih=>exact .cons hm (ih k)
 |iU x hx _ ih=>exact .iU x hx (ih k)
theorem Tr.one(h:Mi bz b m b1):Tr bz b [m] b1:=.cons h (.nil _)
theorem Tk.aiz{t:Tk}{N:Nat}(h:QH t N)(hl:0<t.left):QH t.take (N+1):=by unfold Tk.left at hl;unfold Tk.take;have a:=h.s0;have b:=h.s1;have c:=h.l0;have d:=h.l1;have e:=h.le;rw[if_neg (by omega)];exact⟨by simp;omega,by simp;omega,c,d,by simp;omega⟩
theorem Mi.ok(h:Mi bz b m b1)(hb:lW b N):lW b1 (N+1):=by
 cases h with
 |drop p c f l hp hc hq hr=>exact(hb.pop hp hc (by rw[hq];simp)).mono (vE _)
 |move i c k f l pt hi hc hk hq hr hl hpl hpt=>have h1:=(hb.pop hi hc (by rw[hq];simp)).mono (vE N);have ht:=Tk.aiz (hb.t k c hk hc) hl;have h2:=h1.aaf (p:=k) (c:=c) hk hc ht;exact⟨h2.p0,h2.p1,h2.c0,h2.c1,h2.q,h2.gv,h2.tk,h2.g,h2.t,hpl,hpt,h2.iU,h2.ov⟩
theorem Mi.QO(h:Mi bz b m b1):b1.bE=b.bE/\b1.aX=b.aX/\b1.ov=b.ov:=by cases h<;>exact⟨rfl,rfl,rfl⟩
theorem Tr.QO(h:Tr bz b ms b1):b1.bE=b.bE/\b1.aX=b.aX/\b1.ov=b.ov:=by
 induction h with
 |nil b=>exact⟨rfl,rfl,rfl⟩
 |cons hm _ ih=>have:=hm.QO;exact⟨ih.1.trans this.1,ih.2.1.trans this.2.1,ih.2.2.trans this.2.2⟩
 |iU x hx _ ih=>exact ih
theorem Mi.weight(μ:Fm->Nat)(h:Mi bz b m b1)(hb:lW b N):qW μ b1.q+μ m.2.2.2=qW μ b.q:=by
 cases h with
 |drop p c f l hp hc hq hr=>have:=YQ μ hb.q hp hc (dR b.q p c).tail;rw[hq,lV]at this;show qW μ (mW b.q p c (dR b.q p c).tail)+μ f=_;rw[hq];simp only[List.tail_cons]at this|-;omega
 |move i c k f l pt hi hc hk hq hr hl=>have:=YQ μ hb.q hi hc (dR b.q i c).tail;rw[hq,lV]at this;show qW μ (mW b.q i c (dR b.q i c).tail)+μ f=_;rw[hq];simp only[List.tail_cons]at this|-;omega
end
theorem VF{α:Type}(l:List α){i:Nat}(d:α)(h:l.length<=i):l.getD i d=d:=by simp[bJ,h]
theorem Fe{n f k:Nat}{s:Nat->Bool}(h:oz n f s=az k):k<n/\s k=true:=by unfold oz at h;have h1:=yw h;have h2:=ug h;simp only[gH,dJ]at h2;obtain⟨a,ha,rfl⟩:=h2;exact⟨nE _ (by omega),h1⟩
theorem LH{n f:Nat}{s:Nat->Bool}{k:Nat}(hk:k<n)(hs:s k=true):∃j,oz n f s=az j:=by
 unfold oz;cases h:((aO n).map fun st=>(f+st)%n).find? s with
 |some j=>exact⟨j,rfl⟩
 |none=>
  rw[List.find?_eq_none]at h;exfalso;refine h k ?_ hs;rw[gH];have hn:0<n:=by omega
  refine⟨(k+n-f%n)%n,dJ.2 (nE _ hn),?_⟩;have h3:=nE f hn;have h4:(f+(k+n-f%n)%n)%n=(f%n+(k+n-f%n))%n:=by rw[Nat.add_mod,Nat.mod_mod,<-Nat.add_mod,<-Nat.mod_add_mod]
  rw[h4,show f%n+(k+n-f%n)=k+n by omega,Nat.add_mod_right,Nat.mod_eq_of_lt hk]
structure Xl(n:Nat)(m:Iu):Prop where
 ml:m.mt.length=n
 tl:m.taken.length=8
 lt:∀i k,m.mt.getD i aj=az k->k<n/\m.taken.getD k false=true
 inj:∀i j k,m.mt.getD i aj=az k->m.mt.getD j aj=az k->i=j
 iU:qR m.iU n
theorem Yo{n k:Nat}(rq:Nat->Nat->Bool)(m:Iu)(hk:k<n):(jI n rq m).getD k aj=if m.taken.getD k false then aj else oz n (m.iU.qf.getD k 0) fun i=>(m.mt.getD i aj).isNone&&rq i k:=by unfold jI;rw[bJ,cO,dW hk];rfl
theorem LW{n k i:Nat}{rq:Nat->Nat->Bool}{m:Iu}(h:(jI n rq m).getD k aj=az i):k<n/\i<n/\m.taken.getD k false=false/\m.mt.getD i aj=aj/\rq i k=true:=by
 by_cases hk:k<n
 ·rw[Yo rq m hk]at h;by_cases ht:m.taken.getD k false=true
  ·rw[if_pos ht]at h;cases h
  ·rw[if_neg ht]at h;obtain⟨h1,h2⟩:=Fe h;simp only[cZ,Option.isNone_iff_eq_none]at h2;exact⟨hk,h1,by simpa using ht,h2.1,h2.2⟩
 ·rw[VF _ _ (by simp[jI];omega)]at h;cases h
structure aaH(n:Nat)(g:List (Option Nat))(m0 m:Iu)(i:Nat):Prop where
 ok:Xl n m
 new:∀j k,m.mt.getD j aj=az k->m0.mt.getD j aj=az k\/(g.getD k aj=az j/\j<i)
 uG:∀j,m0.mt.getD j aj≠aj->m.mt.getD j aj=m0.mt.getD j aj
theorem qR.set'{b:Nw}{n i k x y:Nat}(h:qR b n)(hx:x<n)(hy:y<n):qR ⟨b.qf.set k x,b.acc.set i y⟩ n:=
 ⟨by simp[h.gl],by simp[h.al],fun j=>by
  by_cases e:j=k
  ·subst e;by_cases hj:j<b.qf.length
   ·simp only;rw[iO _ _ _ hj];exact hx
   ·simp only;rw[nK (by omega)];exact h.g j
  ·simp only;rw[iG _ _ _ e];exact h.g j,fun j=>by
  by_cases e:j=i
  ·subst e;by_cases hj:j<b.acc.length
   ·simp only;rw[iO _ _ _ hj];exact hy
   ·simp only;rw[nK (by omega)];exact h.a j
  ·simp only;rw[iG _ _ _ e];exact h.a j⟩
theorem OD{n:Nat}{rq:Nat->Nat->Bool}{Ep:Bool}{m0 m:Iu}{i:Nat}(hn:n<=8)(h0:Xl n m0)(h:aaH n (jI n rq m0) m0 m i)(hi:i<n):aaH n (jI n rq m0) m0 (accept1 n (jI n rq m0) Ep m i) (i+1):=by
 unfold accept1;cases hf:oz n (m.iU.acc.getD i 0) (fun k=>(jI n rq m0).getD k aj==az i)with
 |none=>exact⟨h.ok,fun j k hj=>by rcases h.new j k hj with q|q;exact .inl q;exact .inr ⟨q.1,by omega⟩,h.uG⟩
 |some k=>
  obtain⟨hk,hg⟩:=Fe hf;simp only[beq_iff_eq]at hg;obtain⟨_,_,ht0,hm0,_⟩:=LW hg;have il:i<m.mt.length:=by rw[h.ok.ml];exact hi
  have kl:k<m.taken.length:=by rw[h.ok.tl];omega
  have nk:∀j,m.mt.getD j aj≠az k:=fun j e=>by
   rcases h.new j k e with q|q
   ·have:=(h0.lt j k q).2;rw[ht0]at this;cases this
   ·have:=q.1;rw[hg]at this;injection this with this;omega
  refine⟨⟨by simp[h.ok.ml],by simp[h.ok.tl],fun j x hj=>?_,fun j j' x hj hj'=>?_,?_⟩,fun j x hj=>?_,fun j hj=>?_⟩
  ·simp only at hj|-;by_cases e:j=i
   ·subst e;rw[iO _ _ _ il]at hj;injection hj with hj;subst hj;exact⟨hk,iO _ _ _ kl⟩
   ·rw[iG _ _ _ e]at hj;have:=h.ok.lt j x hj;refine⟨this.1,?_⟩;by_cases e2:x=k
    ·subst e2;exact iO _ _ _ kl
    ·rw[iG _ _ _ e2];exact this.2
  ·simp only at hj hj';by_cases e:j=i
   ·by_cases e':j'=i
    ·omega
    ·subst e;rw[iO _ _ _ il]at hj;injection hj with hj;subst hj;rw[iG _ _ _ e']at hj';exact absurd hj' (nk j')
   ·rw[iG _ _ _ e]at hj;by_cases e':j'=i
    ·subst e';rw[iO _ _ _ il]at hj';injection hj' with hj';subst hj';exact absurd hj (nk j)
    ·rw[iG _ _ _ e']at hj';exact h.ok.inj j j' x hj hj'
  ·simp only;split
   ·exact h.ok.iU.set' (nE _ (by omega)) (nE _ (by omega))
   ·exact h.ok.iU
  ·simp only at hj;by_cases e:j=i
   ·subst e;rw[iO _ _ _ il]at hj;injection hj with hj;subst hj;exact .inr ⟨hg,by omega⟩
   ·rw[iG _ _ _ e]at hj;rcases h.new j x hj with q|q
    ·exact .inl q
    ·exact .inr ⟨q.1,by omega⟩
  ·simp only;by_cases e:j=i
   ·subst e;exact absurd hm0 hj
   ·rw[iG _ _ _ e];exact h.uG j hj
theorem Kw{n:Nat}{rq:Nat->Nat->Bool}{Ep:Bool}{m0:Iu}(hn:n<=8)(h0:Xl n m0):aaH n (jI n rq m0) m0 (uY n rq Ep m0) n:=by
 unfold uY;have:∀i,i<=n->aaH n (jI n rq m0) m0 ((aO i).foldl (accept1 n (jI n rq m0) Ep) m0) i:=by
  intro i
  induction i with
  |zero=>exact fun _=>⟨h0,fun j k h=>.inl h,fun _ _=>rfl⟩
  |succ i ih=>intro hi;rw[dB,fZ];exact OD hn h0 (ih (by omega)) (by omega)
 exact this n (aC _)
structure Zu(n:Nat)(rq:Nat->Nat->Bool)(m:List (Option Nat)):Prop where
 lt:∀i k,m.getD i aj=az k->i<n/\k<n/\rq i k=true
 inj:∀i j k,m.getD i aj=az k->m.getD j aj=az k->i=j
theorem VY{n:Nat}{rq:Nat->Nat->Bool}{b:Nw}(hn:n<=8)(hb:qR b n):Zu n rq (Fq n rq b).1/\qR (Fq n rq b).2 n:=by
 unfold Fq;have:∀r,Xl n ((aO r).foldl (fun m r=>uY n rq (r==0) m) ⟨aS n aj,aS 8 false,b⟩)/\
  ∀i k,((aO r).foldl (fun m r=>uY n rq (r==0) m) ⟨aS n aj,aS 8 false,b⟩).mt.getD i aj=az k->rq i k=true:=by
  intro r
  induction r with
  |zero=>
   have e:∀i,(aS n (aj:Option Nat)).getD i aj=aj:=fun i=>by simp only[bJ,gz];split<;>rfl
   refine⟨⟨by simp,by simp,fun i k h=>?_,fun i j k h=>?_,hb⟩,fun i k h=>?_⟩<;>(simp only[Dx,vU]at h;rw[e]at h;cases h)
  |succ r ih=>
   rw[dB,fZ];have h1:=Kw (rq:=rq) (Ep:=(r==0)) hn ih.1;refine⟨h1.ok,fun i k h=>?_⟩;rcases h1.new i k h with q|q
   ·exact ih.2 i k q
   ·exact(LW q.1).2.2.2.2
 have h1:=this n;refine⟨⟨fun i k h=>⟨?_,(h1.1.lt i k h).1,h1.2 i k h⟩,h1.1.inj⟩,h1.1.iU⟩;by_cases hi:i<n
 ·exact hi
 ·rw[VF _ _ (by rw[h1.1.ml];omega)]at h;cases h
theorem YH{n:Nat}{rq:Nat->Nat->Bool}{b:Nw}(hn:n<=8)(hb:qR b n){i k:Nat}(hi:i<n)(hk:k<n)(h:rq i k=true):∃j x,(Fq n rq b).1.getD j aj=az x:=by
 unfold Fq;have hN:Xl n ⟨aS n aj,aS 8 false,b⟩:=by
  have e:∀i,(aS n (aj:Option Nat)).getD i aj=aj:=fun i=>by simp only[bJ,gz];split<;>rfl
  refine⟨by simp,by simp,fun i k h=>?_,fun i j k h=>?_,hb⟩<;>(simp only at h;rw[e]at h;cases h)
 have:∀r,0<r->Xl n ((aO r).foldl (fun m r=>uY n rq (r==0) m) ⟨aS n aj,aS 8 false,b⟩)/\
  ∃j x,((aO r).foldl (fun m r=>uY n rq (r==0) m) ⟨aS n aj,aS 8 false,b⟩).mt.getD j aj=az x:=by
  intro r
  induction r with
  |zero=>omega
  |succ r ih=>
   intro _;rw[dB,fZ];by_cases hr:0<r
   ·obtain⟨h1,j,x,h2⟩:=ih hr;have h3:=Kw (rq:=rq) (Ep:=(r==0)) hn h1;exact⟨h3.ok,j,x,by rw[<-h2];exact h3.uG j (by rw[h2];simp)⟩
   ·obtain rfl:r=0:=by omega
    simp only[Dx,vU,fK];have h3:=Kw (rq:=rq) (Ep:=((0:Nat)==0)) hn hN;refine⟨h3.ok,?_⟩;have eN:∀i,(aS n (aj:Option Nat)).getD i aj=aj:=fun i=>by simp only[bJ,gz];split<;>rfl
    have eT:(aS 8 false).getD k false=false:=by simp only[bJ,gz];split<;>rfl
    obtain⟨i0,hg⟩:∃i0,(jI n rq ⟨aS n aj,aS 8 false,b⟩).getD k aj=az i0:=(by obtain⟨i0,h0⟩:=LH (f:=b.qf.getD k 0) (s:=fun i=>((aS n (aj:Option Nat)).getD i aj).isNone&&rq i k) hi (by have:=eN i;simp only[this,h];rfl);refine⟨i0,?_⟩;have hx:(jI n rq ⟨aS n aj,aS 8 false,b⟩).getD k aj=(if(aS 8 false).getD k false then aj else oz n (b.qf.getD k 0) fun i=>((aS n (aj:Option Nat)).getD i aj).isNone&&rq i k):=(by unfold jI;simp only[bJ,cO,dW hk,Option.map_some,Option.getD_some]);rw[hx,eT];exact h0);have hi0:=(LW hg).2.1;unfold uY;generalize hG:jI n rq ⟨aS n aj,aS 8 false,b⟩=G at hg;have hstep:∀t,t<=n->aaH n G ⟨aS n aj,aS 8 false,b⟩ ((aO t).foldl (accept1 n G ((0:Nat)==0)) ⟨aS n aj,aS 8 false,b⟩) t/\(i0<t->∃j x,((aO t).foldl (accept1 n G ((0:Nat)==0)) ⟨aS n aj,aS 8 false,b⟩).mt.getD j aj=az x):=by
     intro t
     induction t with
     |zero=>exact fun _=>⟨⟨hN,fun j k h=>.inl h,fun _ _=>rfl⟩,fun h=>by omega⟩
     |succ t ih2=>
      intro ht;obtain⟨r1,r2⟩:=ih2 (by omega);rw[dB,fZ,fK,vU];have r3:aaH n G ⟨aS n aj,aS 8 false,b⟩ (accept1 n G ((0:Nat)==0) ((aO t).foldl (accept1 n G ((0:Nat)==0)) ⟨aS n aj,aS 8 false,b⟩) t) (t+1):=by rw[<-hG]at r1|-;exact OD hn hN r1 (by omega)
      refine⟨r3,fun tK=>?_⟩;generalize(aO t).foldl (accept1 n G ((0:Nat)==0)) ⟨aS n aj,aS 8 false,b⟩=M at r1 r2 r3|-;by_cases e:i0=t
      ·subst e;obtain⟨k1,h1⟩:=LH (n:=n) (f:=M.iU.acc.getD i0 0) (s:=fun k=>G.getD k aj==az i0) hk (beq_iff_eq.2 hg);refine⟨i0,k1,?_⟩;unfold accept1;rw[h1];exact iO _ _ _ (by rw[r1.ok.ml];exact hi0)
      ·obtain⟨j,x,h2⟩:=r2 (by omega);unfold accept1;cases hf:oz n (M.iU.acc.getD t 0) (fun k=>G.getD k aj==az t)with
       |none=>exact⟨j,x,h2⟩
       |some k1=>exact⟨t,k1,iO _ _ _ (by rw[r1.ok.ml];omega)⟩
    exact(hstep n (aC _)).2 hi0
 exact(this n (by omega)).2
theorem Jd(bE:Nat)(rt:Fm->Option Nat)(l:List Fm):(lookQ bE rt l).1<=l.length/\(∀x∈l.take (lookQ bE rt l).1,∀k,rt x=az k->¬k<bE)/\(∀k,(lookQ bE rt l).2=az k->∃f r,l.drop (lookQ bE rt l).1=f::r/\rt f=az k/\k<bE)/\((lookQ bE rt l).2=aj->(lookQ bE rt l).1=l.length):=by
 induction l with
 |nil=>simp[lookQ]
 |cons f l ih=>
  by_cases h:∃k,rt f=az k/\k<bE
  ·obtain⟨k,hk,hl⟩:=h;have e:lookQ bE rt (f::l)=(0,az k):=by unfold lookQ;simp[hk,hl]
   rw[e];exact⟨bS _,by simp,fun j hj=>⟨f,l,rfl,by simpa[hk]using hj,by simp at hj;omega⟩,by simp⟩
  ·have e:lookQ bE rt (f::l)=((lookQ bE rt l).1+1,(lookQ bE rt l).2):=by
    rw[lookQ];cases hr:rt f with
    |none=>rfl
    |some k=>simp only;rw[if_neg (fun q=>h ⟨k,hr,q⟩)]
   rw[e];refine⟨by simp;exact ih.1,fun x hx=>?_,ih.2.2.1,fun hn=>by simp;exact ih.2.2.2 hn⟩;simp only[List.take_succ_cons,dG]at hx;rcases hx with rfl|hx
   ·exact fun k hk hl=>h ⟨k,hk,hl⟩
   ·exact ih.2.1 x hx
structure Dr(b b':Bx):Prop where
 tk:b'.tk=b.tk
 iU:b'.iU=b.iU
 ptr:b'.ptr=b.ptr
theorem ZY{bz:Nat->Fm->Option Nat}{p c N:Nat}(n:Nat)(b:Bx)(acc:List Mv)(l:List Fm)(hb:lW b N)(hp:p<b.bE)(hc:c<b.aX)(hq:dR b.q p c=l)(hn:n<=l.length)(hr:∀x∈l.take n,∀k,bz p x=az k->¬k<b.bE):∃ms b',popN p c n (b,acc)=(b',acc++ms)/\Tr bz b ms b'/\dR b'.q p c=l.drop n/\(∀a d,¬(a=p/\d=c)->dR b'.q a d=dR b.q a d)/\Dr b b'/\lW b' N/\(∀m∈ms,m.2.2.1=aj)/\ms.length=n:=by
 induction n generalizing b acc l with
 |zero=>exact⟨[],b,by simp[popN],.nil _,by simpa using hq,fun _ _ _=>rfl,⟨rfl,rfl,rfl⟩,hb,by simp,rfl⟩
 |succ n ih=>
  cases l with
  |nil=>simp at hn
  |cons f l=>
   have hq1:dR (b.pop p c).q p c=l:=(by show dR (mW b.q p c (dR b.q p c).tail) p c=l;rw[abE hb.q hp hc,hq];rfl);obtain⟨ms,b',h1,h2,h3,h4,h5,h6,h7,h8⟩:=ih (b.pop p c) (acc++[(p,c,aj,f)]) l (hb.pop hp hc (by rw[hq];simp)) hp hc hq1 (by simpa using hn) (fun x hx=>hr x (by simp[hx]));refine⟨(p,c,aj,f)::ms,b',?_,.cons (.drop b p c f l hp hc hq (hr f (by simp))) h2,h3,fun a d nQ=>?_,⟨h5.tk,h5.iU,h5.ptr⟩,h6,?_,by simp[h8]⟩
   ·show popN p c n (b.pop p c,acc++[(p,c,aj,(dR b.q p c).headD default)])=_;rw[hq,List.headD_cons,h1];simp
   ·rw[h4 a d nQ];show dR (mW b.q p c _) a d=_;exact VE hb.q hp hc nQ
   ·intro m hm;rcases dG.1 hm with rfl|hm
    ·rfl
    ·exact h7 m hm
theorem Pk{bz:Nat->Fm->Option Nat}{N:Nat}(n:Nat->Nat->Nat)(L:List (Nat×Nat))(b:Bx)(acc:List Mv)(hb:lW b N)(hL:L.Nodup)(Gb:∀pc∈L,pc.1<b.bE/\pc.2<b.aX)(hn:∀p c,(p,c)∈L->n p c<=(dR b.q p c).length)(hr:∀p c,(p,c)∈L->∀x∈(dR b.q p c).take (n p c),∀k,bz p x=az k->¬k<b.bE):∃ms b',L.foldl (fun s pc=>popN pc.1 pc.2 (n pc.1 pc.2) s) (b,acc)=(b',acc++ms)/\Tr bz b ms b'/\(∀a d,dR b'.q a d=if(a,d)∈L then(dR b.q a d).drop (n a d)else dR b.q a d)/\Dr b b'/\lW b' N/\(∀m∈ms,m.2.2.1=aj)/\ms.length=sm (fun pc=>n pc.1 pc.2) L:=by
 induction L generalizing b acc with
 |nil=>exact⟨[],b,by simp,.nil _,fun _ _=>rfl,⟨rfl,rfl,rfl⟩,hb,by simp,rfl⟩
 |cons pc L ih=>
  obtain⟨p,c⟩:=pc;have hpc:=Gb (p,c) (by simp);simp only at hpc;obtain⟨ms,b1,h1,h2,h3,h4,h5,h6,h7,h8⟩:=ZY (bz:=bz) (p:=p) (c:=c) (n p c) b acc _ hb hpc.1 hpc.2 rfl (hn p c (by simp)) (hr p c (by simp));have hd:=h2.QO;have hnd:=pV.1 hL;have same:∀a d,(a,d)∈L->dR b1.q a d=dR b.q a d:=fun a d ha=>h4 a d fun e=>by obtain⟨rfl,rfl⟩:=e;exact hnd.1 ha
  obtain⟨ms2,b2,k1,k2,k3,k4,k5,k6,k7⟩:=ih b1 (acc++ms) h6 hnd.2 (fun x hx=>by have:=Gb x (by simp[hx]);rw[hd.1,hd.2.1];exact this)
   (fun a d ha=>by rw[same a d ha];exact hn a d (by simp[ha])) (fun a d ha=>by rw[same a d ha,hd.1];exact hr a d (by simp[ha]))
  refine⟨ms++ms2,b2,?_,h2.append k2,fun a d=>?_,⟨k4.tk.trans h5.tk,k4.iU.trans h5.iU,k4.ptr.trans h5.ptr⟩,k5,fun m hm=>?_,?_⟩
  ·rw[fK,h1,k1,mM]
  ·rw[k3];by_cases e:(a,d)=(p,c)
   ·injection e with e1 e2;subst e1 e2;rw[if_neg hnd.1,if_pos (by simp),h3]
   ·rw[h4 a d (fun q=>e (by rw[q.1,q.2]))];by_cases e2:(a,d)∈L
    ·rw[if_pos e2,if_pos (by simp[e2])]
    ·rw[if_neg e2,if_neg (by simp[e2];intro h;exact fun q=>e (by rw[h,q]))]
  ·rcases eZ.1 hm with h|h
   ·exact h7 m h
   ·exact k6 m h
  ·rw[bV,lV,h8,k7]
theorem Nh(a c:Nat):((aO a).flatMap fun p=>(aO c).map fun d=>(p,d)).Nodup:=by
 unfold Oy;rw[List.pairwise_flatMap];refine⟨fun p _=>?_,?_⟩
 ·rw[sO];exact Ay (fun{x y} h e=>h (by injection e)) (tQ (n:=c))
 ·refine Ay (fun{x y} h u hu v hv e=>?_) (tQ (n:=a));simp only[gH]at hu hv;obtain⟨_,_,rfl⟩:=hu;obtain⟨_,_,rfl⟩:=hv;injection e with e1 e2;exact h e1
theorem Ml{b:Bx}{p c:Nat}:(p,c)∈Mk b↔p<b.bE/\c<b.aX:=by
 unfold Mk;simp only[iF,dJ,gH,qy];constructor
 ·rintro⟨a,ha,d,hd,rfl,rfl⟩;exact⟨ha,hd⟩
 ·rintro⟨h1,h2⟩;exact⟨p,h1,c,h2,rfl,rfl⟩
def mQ(ms:List Mv):List Nat:=ms.filterMap fun m=>m.2.2.1
theorem Qb{ms:List Mv}{k:Nat}:k∈mQ ms↔∃m∈ms,m.2.2.1=az k:=by unfold mQ;rw[List.mem_filterMap]
structure Ph(bz:Nat->Fm->Option Nat)(M:List (Option Nat))(b0 b:Bx)(ms:List Mv)(i N:Nat):Prop where
 tr:Tr bz b0 ms b
 ok:lW b (N+ms.length)
 q:∀j c,i<=j->dR b.q j c=dR b0.q j c
 out:∀m∈ms,∃k,m.2.2.1=az k/\m.1<i/\M.getD m.1 aj=az k
 nd:(mQ ms).Nodup
 non0:ms=[]->b=b0
theorem moves_tr{bz:Nat->Fm->Option Nat}{N:Nat}{outs:Nat->Nat->Option Nat}{M:List (Option Nat)}(b0:Bx)(acc:List Mv)(hb:lW b0 N)(inj:∀i j k,M.getD i aj=az k->M.getD j aj=az k->i=j)(ho:∀p c k,p<b0.bE->c<b0.aX->outs p c=az k->∃f l,dR b0.q p c=f::l/\bz p f=az k/\k<b0.bE)(hM:∀i k,M.getD i aj=az k->i<b0.bE/\k<b0.bE)(i:Nat)(hi:i<=b0.bE):∃ms b,(aO i).foldl (fun s i=>match M.getD i aj with|none=>s|some k=>Qc outs i k s) (b0,acc)=(b,acc++ms)/\Ph bz M b0 b ms i N/\((∃j k,j<i/\M.getD j aj=az k/\∃c,c<b0.aX/\mR outs b0 j k c=true)->ms≠[]):=by
 induction i with
 |zero=>exact⟨[],b0,by simp,⟨.nil _,hb,fun _ _ _=>rfl,by simp,by simp[mQ],fun _=>rfl⟩,fun⟨j,k,h,_⟩=>by omega⟩
 |succ i ih=>
  obtain⟨ms,b,h1,h2,h3⟩:=ih (by omega);rw[dB,fZ,h1,fK,vU];have skip:Ph bz M b0 b ms (i+1) N:=⟨h2.tr,h2.ok,fun j c hj=>h2.q j c (by omega),fun m hm=>by obtain⟨k,a,b,c⟩:=h2.out m hm;exact⟨k,a,by omega,c⟩,h2.nd,h2.non0⟩;cases hm:M.getD i aj with
  |none=>
   refine⟨ms,b,rfl,skip,fun⟨j,k,hj,hk,hc⟩=>?_⟩;by_cases e:j=i
   ·subst e;rw[hm]at hk;cases hk
   ·exact h3 ⟨j,k,by omega,hk,hc⟩
  |some k=>
   simp only;unfold Qc;have hd:=h2.tr.QO;cases hf:oz b.aX (b.ptr.getD i 0) (mR outs b i k)with
   |none=>
    refine⟨ms,b,rfl,skip,fun⟨j,k',hj,hk,c,hc,hr⟩=>?_⟩;by_cases e:j=i
    ·subst e;rw[hm]at hk;injection hk with hk;subst hk;intro hms;have:=h2.non0 hms;subst this;obtain⟨x,hx⟩:=LH (f:=b.ptr.getD j 0) hc hr;rw[hf]at hx;cases hx
    ·exact h3 ⟨j,k',by omega,hk,c,hc,hr⟩
   |some c=>
    obtain⟨hc,hr⟩:=Fe hf;unfold mR at hr;simp only[cZ,beq_iff_eq,decide_eq_true_eq]at hr;have hc0:c<b0.aX:=(by rw[<-hd.2.1];exact hc);obtain⟨f,l,hq,hro,hk⟩:=ho i c k (by omega) hc0 hr.1;have hq':dR b.q i c=f::l:=(by rw[h2.q i c (aC _)];exact hq);have mi:Mi bz b (i,c,az k,f) {b.pop i c with tk:=mW b.tk k c (dR b.tk k c).take,ptr:=b.ptr.set i ((c+1)%b.aX)}:=
     .move b i c k f l _ (by rw[hd.1];omega) hc (by rw[hd.1];exact hk) hq' hro hr.2 (by simp[h2.ok.pl]) (fun p=>by
      by_cases e:p=i
      ·subst e;by_cases hp:p<b.ptr.length
       ·rw[iO _ _ _ hp];exact nE _ (by omega)
       ·rw[nK (by omega)];exact h2.ok.pt p
      ·rw[iG _ _ _ e];exact h2.ok.pt p)
    refine⟨ms++[(i,c,az k,f)],_,?_,⟨h2.tr.append (.one mi),?_,fun j d hj=>?_,fun m hm'=>?_,?_,fun h=>absurd h (by simp)⟩,fun _=>by simp⟩
    ·simp only;rw[hq',List.headD_cons,mM];rfl
    ·have:=mi.ok h2.ok;rw[bV];exact this.mono (by simp;omega)
    ·rw[<-h2.q j d (by omega)];show dR (mW b.q i c _) j d=_;exact VE h2.ok.q (by rw[hd.1];omega) hc (by omega)
    ·rcases eZ.1 hm' with h|h
     ·obtain⟨k,a,b,c⟩:=h2.out m h;exact⟨k,a,by omega,c⟩
     ·simp only[dz]at h;subst h;exact⟨k,rfl,Nat.lt_succ_self _,hm⟩
    ·unfold mQ;rw[wT];simp only[GI,List.filterMap_nil];rw[kZ];refine⟨h2.nd,by simp,fun x hx y hy=>?_⟩;simp only[dz]at hy;subst hy;intro e;subst e;obtain⟨m,Ps,Ib⟩:=Qb.1 hx;obtain⟨k',a,b,c'⟩:=h2.out m Ps;rw[Ib]at a;injection a with a;subst a;have:=inj _ _ _ c' hm;omega
theorem Oi{N:Nat}(b:Bx)(bz:Nat->Fm->Option Nat)(hb:lW b N):Tr bz b (b.step bz).2 (b.step bz).1/\(mQ (b.step bz).2).Nodup/\((∃p c f l,p<b.bE/\c<b.aX/\dR b.q p c=f::l/\∀k,bz p f=az k->k<b.bE->0<(dR b.tk k c).left)->(b.step bz).2≠[]):=by
 unfold Bx.step;simp only;have hl:∀p c,_:=fun p c=>Jd b.bE (bz p) (dR b.q p c);obtain⟨ms,b1,h1,h2,h3,h4,h5,h6,h7⟩:=Pk (bz:=bz) (fun p c=>(lookQ b.bE (bz p) (dR b.q p c)).1) (Mk b) b [] hb (Nh _ _) (fun pc h=>Ml.1 h) (fun p c _=>(hl p c).1) (fun p c _=>(hl p c).2.1);rw[h1];simp only[List.nil_append];have hd:=h2.QO;generalize arn:(fun i k=>(aO b.aX).any fun c=>mR (fun p c=>(lookQ b.bE (bz p) (dR b.q p c)).2) b1 i k c)=req;obtain⟨mo,bo⟩:=VY (rq:=req) (n:=b.bE) (b:=b1.iU) hb.p1 (by rw[<-hd.1];exact h5.iU);have msm:∀i k,i<b.bE->k<b.bE->req i k=true->_:=fun i k=>YH (n:=b.bE) (rq:=req) (b:=b1.iU) (i:=i) (k:=k) hb.p1 (by rw[<-hd.1];exact h5.iU);generalize Fq b.bE req b1.iU=M at mo bo msm;have ok2:lW {b1 with iU:=M.2} N:=h5.Mr (by rw[hd.1];exact bo);have hout:∀p c k,p<b.bE->c<b.aX->(lookQ b.bE (bz p) (dR b.q p c)).2=az k->∃f l,dR b1.q p c=f::l/\bz p f=az k/\k<b.bE:=fun p c k hp hc hk=>by rw[h3,if_pos (Ml.2 ⟨hp,hc⟩)];exact(hl p c).2.2.1 k hk
 obtain⟨ms2,b2,k1,k2,k3⟩:=moves_tr (bz:=bz) (N:=N) (outs:=fun p c=>(lookQ b.bE (bz p) (dR b.q p c)).2) (M:=M.1) {b1 with iU:=M.2} ms ok2 mo.inj
  (fun p c k hp hc hk=>by simp only[hd.1,hd.2.1]at hp hc|-;exact hout p c k hp hc hk) (fun i k h=>by simp only[hd.1];exact⟨(mo.lt i k h).1,(mo.lt i k h).2.1⟩) b.bE (by simp[hd.1])
 generalize hF:List.foldl _ _ (aO b.bE)=F;have hF2:F=(b2,ms++ms2):=hF.symm.trans k1;clear hF;subst hF2;simp only;refine⟨h2.append (.iU M.2 (by rw[hd.1];exact bo) k2.tr),?_,?_⟩
 ·have e:mQ ms=[]:=by
   unfold mQ;rw[List.filterMap_eq_nil_iff];exact h6
  have e2:mQ (ms++ms2)=mQ ms++mQ ms2:=by unfold mQ;rw[wT]
  rw[e2,e];exact k2.nd
 ·rintro⟨p,c,f,l,hp,hc,hq,hr⟩;by_cases hx:∃k,bz p f=az k/\k<b.bE
  ·obtain⟨k,hk1,hk2⟩:=hx;have hlk:lookQ b.bE (bz p) (dR b.q p c)=(0,az k):=by rw[hq];unfold lookQ;simp[hk1,hk2]
   have hre:mR (fun p c=>(lookQ b.bE (bz p) (dR b.q p c)).2) b1 p k c=true:=(by unfold mR;simp only[hlk,cZ,beq_self_eq_true,decide_eq_true_eq,true_and];rw[h4.tk];exact hr k hk1 hk2);have hrq:req p k=true:=(by rw[<-arn];simp only[iD,dJ];exact⟨c,hc,hre⟩);obtain⟨j,x,hj⟩:=msm p k hp hk2 hrq;have hjx:=(mo.lt j x hj).2.2;rw[<-arn]at hjx;simp only[iD,dJ]at hjx;obtain⟨d,hd1,hd2⟩:=hjx;have:=k3 ⟨j,x,(mo.lt j x hj).1,hj,d,by simp only[hd.2.1];exact hd1,by unfold mR at hd2|-;exact hd2⟩;simp[this]
  ·have h0:0<(lookQ b.bE (bz p) (dR b.q p c)).1:=by
    have e:lookQ b.bE (bz p) (dR b.q p c)=((lookQ b.bE (bz p) l).1+1,(lookQ b.bE (bz p) l).2):=by
     rw[hq,lookQ];cases hr:bz p f with
     |none=>rfl
     |some k=>simp only;rw[if_neg (fun q=>hx ⟨k,hr,q⟩)]
    rw[e];simp
   have h8:0<ms.length:=(by rw[h7];have:=anb (μ:=fun pc:Nat×Nat=>(lookQ b.bE (bz pc.1) (dR b.q pc.1 pc.2)).1) (Ml.2 ⟨hp,hc⟩);simp only at this;omega);intro e;rw[List.append_eq_nil_iff]at e;rw[e.1]at h8;simp at h8
theorem acr(p c j:Nat)(s:Bx×List Mv):popN p c (j+1) s=((popN p c j s).1.pop p c,(popN p c j s).2++[(p,c,aj,(dR (popN p c j s).1.q p c).headD default)]):=by
 induction j generalizing s with
 |zero=>rfl
 |succ j ih=>rw[popN,ih];rfl
def oL(m p c:Nat):List (Nat×Nat):=((aO p).flatMap fun a=>(aO m).map fun d=>(a,d))++(aO c).map fun d=>(p,d)
theorem acm(m p c:Nat):oL m p (c+1)=oL m p c++[(p,c)]:=by unfold oL;rw[dB,eY,mM];rfl
theorem acn(m p:Nat):oL m (p+1) 0=oL m p m:=by unfold oL;rw[dB,List.flatMap_append];simp
theorem yj{m p c a d:Nat}:(a,d)∈oL m p c↔(a<p/\d<m)\/(a=p/\d<c):=by
 unfold oL;simp only[eZ,iF,dJ,gH,qy];constructor
 ·rintro(⟨x,hx,y,hy,rfl,rfl⟩|⟨y,hy,rfl,rfl⟩)
  ·exact .inl ⟨hx,hy⟩
  ·exact .inr ⟨rfl,hy⟩
 ·rintro(⟨h1,h2⟩|⟨rfl,h2⟩)
  ·exact .inl ⟨a,h1,d,h2,rfl,rfl⟩
  ·exact .inr ⟨d,h2,rfl,rfl⟩
theorem Bq(m p c:Nat):(oL m p c).Nodup:=by
 have h0:(oL m p c).Nodup:=by
  unfold oL;rw[kZ];refine⟨Nh p m,?_,fun x hx y hy e=>?_⟩
  ·unfold Oy;rw[sO];exact Ay (fun{x y} h e=>h (by injection e)) (tQ (n:=c))
  ·simp only[iF,dJ,gH]at hx hy;obtain⟨a,ha,d,hd,rfl⟩:=hx;obtain⟨d',Ab,rfl⟩:=hy;injection e with e1 e2;omega
 exact h0
section
variable(X:Bx)(bz:Nat->Fm->Option Nat)
def wV(p c:Nat):Nat:=(lookQ X.bE (bz p) (dR X.q p c)).1
def Em(p c:Nat):Option Nat:=(lookQ X.bE (bz p) (dR X.q p c)).2
def qE(p c:Nat):Bx×List Mv:=(oL X.aX p c).foldl (fun s pc=>popN pc.1 pc.2 (wV X bz pc.1 pc.2) s) (X,[])
def rF(p c j:Nat):Bx×List Mv:=popN p c j (qE X bz p c)
theorem Rw(p:Nat):qE X bz (p+1) 0=qE X bz p X.aX:=by unfold qE;rw[acn]
theorem Pj(p c:Nat):rF X bz p c (wV X bz p c)=qE X bz p (c+1):=by unfold rF qE;rw[acm,fZ];rfl
theorem Vq(p c j:Nat):rF X bz p c (j+1)=((rF X bz p c j).1.pop p c,(rF X bz p c j).2++[(p,c,aj,(dR (rF X bz p c j).1.q p c).headD default)]):=acr p c j _
def jf:Bx×List Mv:=qE X bz X.bE 0
def Mq(i k:Nat):Bool:=(aO X.aX).any fun c=>mR (Em X bz) (jf X bz).1 i k c
def Bn:List (Option Nat)×Nw:=Fq X.bE (Mq X bz) (jf X bz).1.iU
def ZT(M:List (Option Nat))(s:Bx×List Mv)(i:Nat):Bx×List Mv:=match M.getD i aj with|none=>s|some k=>Qc (Em X bz) i k s
def jC(i:Nat):Bx×List Mv:=(aO i).foldl (ZT X bz (Bn X bz).1) ({(jf X bz).1 with iU:=(Bn X bz).2},(jf X bz).2)
theorem TV(i:Nat):jC X bz (i+1)=ZT X bz (Bn X bz).1 (jC X bz i) i:=by unfold jC;rw[dB,fZ];rfl
theorem Oh:X.step bz=jC X bz X.bE:=by
 have e:Mk X=oL X.aX X.bE 0:=by unfold Mk oL;simp
 unfold Bx.step jC Bn Mq jf qE;simp only[e];rfl
variable{X bz}{N:Nat}
theorem FY(hb:lW X N){p c j:Nat}(hp:p<X.bE)(hc:c<X.aX)(hj:j<=wV X bz p c):lW (rF X bz p c j).1 N/\(rF X bz p c j).1.bE=X.bE/\(rF X bz p c j).1.aX=X.aX/\dR (rF X bz p c j).1.q p c=(dR X.q p c).drop j/\(rF X bz p c j).2.length<=64*64/\wV X bz p c<=(dR X.q p c).length:=by
 have hl:∀p c,_:=fun p c=>Jd X.bE (bz p) (dR X.q p c);obtain⟨ms,b1,h1,h2,h3,h4,h5,h6,h7⟩:=Pk (bz:=bz) (wV X bz) (oL X.aX p c) X [] hb (Bq _ _ _)
  (fun pc h=>by rcases yj.1 h with q|q<;>omega) (fun p c _=>(hl p c).1) (fun p c _=>(hl p c).2.1)
 have hd:=h2.QO;have hq:dR b1.q p c=dR X.q p c:=by rw[h3,if_neg (fun h=>by rcases yj.1 h with q|q<;>omega)]
 have e1:qE X bz p c=(b1,ms):=by unfold qE;rw[h1];rfl
 obtain⟨ms2,b2,k1,k2,k3,k4,k5,k6,k7,k8⟩:=ZY (bz:=bz) (p:=p) (c:=c) j b1 ms _ h5 (by omega) (by omega) hq (Nat.le_trans hj (hl p c).1)
  (fun x hx=>by
   rw[hd.1];refine(hl p c).2.1 x ?_;have hle:j<=(lookQ X.bE (bz p) (dR X.q p c)).1:=hj;have:(dR X.q p c).take j=((dR X.q p c).take (lookQ X.bE (bz p) (dR X.q p c)).1).take j:=by rw[List.take_take,Nat.min_eq_left hle]
   rw[this]at hx;exact jm hx)
 have hd2:=k2.QO;unfold rF;rw[e1,k1];refine⟨k6,hd2.1.trans hd.1,hd2.2.1.trans hd.2.1,k3,?_,(hl p c).1⟩;simp only[bV];rw[h7,k8];have hw:∀(L:List (Nat×Nat)),L.Nodup->(∀pc∈L,pc.1<X.bE/\pc.2<X.aX)->sm (fun pc=>wV X bz pc.1 pc.2) L<=64*L.length:=fun L _ hL=>by
  clear h1 h2 h3 h7 e1
  induction L with
  |nil=>simp[Dk]
  |cons x L ih=>rw[lV,eQ];have h1:=hL x (by simp);have h2:=hb.Ws h1.1 h1.2;have h3:=(hl x.1 x.2).1;have h4:=ih (by rename_i h;exact(pV.1 h).2) (fun y hy=>hL y (by simp[hy]));unfold wV at *;omega
 have h8:=hw (oL X.aX p c) (Bq _ _ _) (fun pc h=>by rcases yj.1 h with q|q<;>omega);have h9:(oL X.aX p c).length=p*X.aX+c:=by unfold oL;rw[bV,List.length_flatMap,List.length_map,List.length_range];simp[List.map_const']
 rw[h9]at h8;have hp1:=hb.p1;have hc1:=hb.c1;have h10:p*X.aX<=p*8:=Nat.mul_le_mul_left _ hc1;have h11:=hb.Ws hp hc;have h12:=(hl p c).1;have h13:p*X.aX+c+1<=64:=by have:(p+1)*X.aX<=X.bE*X.aX:=Nat.mul_le_mul_right _ hp;have h14:X.bE*X.aX<=8*8:=Nat.mul_le_mul hp1 hc1;rw[Nat.succ_mul]at this;omega
 unfold wV at hj;omega
theorem xZ(hb:lW X N):lW (jf X bz).1 N/\(jf X bz).1.bE=X.bE/\(jf X bz).1.aX=X.aX/\(jf X bz).2.length<=64*64/\(∀p c k,p<X.bE->c<X.aX->Em X bz p c=az k->∃f l,dR (jf X bz).1.q p c=f::l/\bz p f=az k/\k<X.bE):=by
 have hl:∀p c,_:=fun p c=>Jd X.bE (bz p) (dR X.q p c);obtain⟨ms,b1,h1,h2,h3,h4,h5,h6,h7⟩:=Pk (bz:=bz) (wV X bz) (oL X.aX X.bE 0) X [] hb (Bq _ _ _)
  (fun pc h=>by rcases yj.1 h with q|q<;>omega) (fun p c _=>(hl p c).1) (fun p c _=>(hl p c).2.1)
 have hd:=h2.QO;have e1:jf X bz=(b1,ms):=by unfold jf qE;rw[h1];rfl
 rw[e1];refine⟨h5,hd.1,hd.2.1,?_,fun p c k hp hc hk=>?_⟩
 ·have h0:=hb.p0;have h8:=(FY (bz:=bz) hb (p:=X.bE-1) (c:=X.aX-1) (j:=wV X bz (X.bE-1) (X.aX-1)) (by omega) (by have:=hb.c0;omega) (aC _)).2.2.2.2.1;rw[Pj,show X.aX-1+1=X.aX by have:=hb.c0;omega,<-Rw,show X.bE-1+1=X.bE by omega]at h8;rw[show qE X bz X.bE 0=jf X bz from rfl,e1]at h8;exact h8
 ·show ∃f l,dR b1.q p c=f::l/\_;rw[h3,if_pos (yj.2 (.inl ⟨hp,hc⟩))];exact(hl p c).2.2.1 k hk
theorem TU(hb:lW X N):Zu X.bE (Mq X bz) (Bn X bz).1/\qR (Bn X bz).2 X.bE:=by have h:=(xZ (bz:=bz) hb);exact VY hb.p1 (by rw[<-h.2.1];exact h.1.iU)
theorem zR(hb:lW X N){i:Nat}(hi:i<=X.bE):lW (jC X bz i).1 (N+8)/\(jC X bz i).1.bE=X.bE/\(jC X bz i).1.aX=X.aX/\(jC X bz i).2.length<=64*64+8/\(∀j c,i<=j->dR (jC X bz i).1.q j c=dR (jf X bz).1.q j c):=by
 have h:=(xZ (bz:=bz) hb);have m:=TU (bz:=bz) hb;have hB:lW {(jf X bz).1 with iU:=(Bn X bz).2} N:=h.1.Mr (by rw[h.2.1];exact m.2);obtain⟨ms,b,h1,h2,h3⟩:=moves_tr (bz:=bz) (N:=N) (outs:=Em X bz) (M:=(Bn X bz).1) {(jf X bz).1 with iU:=(Bn X bz).2} (jf X bz).2 hB m.1.inj
  (fun p c k hp hc hk=>by simp only[h.2.1,h.2.2.1]at hp hc|-;exact h.2.2.2.2 p c k hp hc hk) (fun i k hk=>by simp only[h.2.1];exact⟨(m.1.lt i k hk).1,(m.1.lt i k hk).2.1⟩) i (by simp only[h.2.1];exact hi)
 have e:jC X bz i=(b,(jf X bz).2++ms):=h1;have hd:=h2.tr.QO;have hms:ms.length<=8:=by
  have h4:ms.length=(mQ ms).length:=by
   have:∀l:List Mv,(∀m∈l,∃k,m.2.2.1=az k)->l.length=(mQ l).length:=fun l hl=>by
    induction l with
    |nil=>rfl
    |cons x l ih=>obtain⟨k,hk⟩:=hl x (by simp);unfold mQ at *;rw[GI,hk,eQ,eQ,ih fun m hm=>hl m (by simp[hm])]
   exact this ms fun m hm=>by obtain⟨k,a,_⟩:=h2.out m hm;exact⟨k,a⟩
  have h5:(mQ ms).length<=8:=by have h6:∀k∈mQ ms,k<8:=fun k hk=>(by obtain⟨x,hx1,hx2⟩:=Qb.1 hk;obtain⟨k',a,b,c⟩:=h2.out x hx1;rw[hx2]at a;injection a with a;subst a;have:=(m.1.lt _ _ c).2.1;have:=hb.p1;omega);have h7:(mQ ms).Perm ((mQ ms).filter (· ∈aO 8)):=(by rw[List.filter_eq_self.2 (fun k hk=>by simpa using h6 k hk)]);have h8:∀l:List Nat,l.Nodup->(∀k∈l,k<8)->l.length<=8:=fun l hn hl=>(by have:=List.Nodup.length_le_of_subset hn (l₂:=aO 8) (fun k hk=>by simpa using hl k hk);simpa using this);exact h8 _ h2.nd h6
  omega
 rw[e];refine⟨h2.ok.mono (by omega),hd.1.trans h.2.1,hd.2.1.trans h.2.2.1,?_,fun j c hj=>h2.q j c hj⟩;simp only[bV];have:=h.2.2.2.1;omega
end
structure sS(ns:List Nd)(cs:List Cb):Prop where
 n16:ns.length<=16
 Lb:cs.length<=32
 a0:∀i,i<cs.length->0<=(cs.getD i gX).a/\(cs.getD i gX).a<ns.length
 b0:∀i,i<cs.length->0<=(cs.getD i gX).b/\(cs.getD i gX).b<ns.length
 ap:∀i,i<cs.length->0<=(cs.getD i gX).ap/\(cs.getD i gX).ap<(ns.getD (cs.getD i gX).a.toNat jk).bE
 bp:∀i,i<cs.length->0<=(cs.getD i gX).bp/\(cs.getD i gX).bp<(ns.getD (cs.getD i gX).b.toNat jk).bE
 ab:∀i,i<cs.length->(cs.getD i gX).a≠(cs.getD i gX).b
 dl:∀i,i<cs.length->1<=(cs.getD i gX).dl/\(cs.getD i gX).dl<=100
 sw:∀i,i<ns.length->1<=(ns.getD i jk).bE/\(ns.getD i jk).bE<=8/\((ns.getD i jk).sw=false->(ns.getD i jk).bE=1)
 inj:∀k j,k<2*cs.length->j<2*cs.length->(gY cs).getD k (0,0)=(gY cs).getD j (0,0)->k=j
theorem LC(cs:List Cb):(gY cs).length=2*cs.length:=by
 unfold gY
 induction cs with
 |nil=>rfl
 |cons x cs ih=>rw[eO,bV,ih,eQ];simp;omega
theorem JY(cs:List Cb){i:Nat}(h:i<cs.length):(gY cs).getD (2*i) (0,0)=((cs.getD i gX).a,(cs.getD i gX).ap)/\(gY cs).getD (2*i+1) (0,0)=((cs.getD i gX).b,(cs.getD i gX).bp):=by
 induction cs generalizing i with
 |nil=>simp at h
 |cons x cs ih=>
  have e:gY (x::cs)=(x.a,x.ap)::(x.b,x.bp)::gY cs:=by unfold gY;rw[eO];rfl
  rw[e];cases i with
  |zero=>exact⟨rfl,rfl⟩
  |succ i=>have:=ih (i:=i) (by simpa using h);rw[show 2*(i+1)=2*i+1+1 by omega];simp only[GJ];exact this
theorem Ke{α:Type}{p:α->Bool}{l:List α}{d:α}(h:l.all p=true){i:Nat}(hi:i<l.length):p (l.getD i d)=true:=by rw[List.all_eq_true]at h;exact h _ (by simp[bJ,hi])
theorem Gq{ns:List Nd}{cs:List Cb}(h:fT ⟨ns,cs⟩=0):sS ns cs:=by
 unfold fT at h;simp only at h;by_cases h1:16<ns.length\/32<cs.length
 ·rw[if_pos h1]at h;cases h
 rw[if_neg h1]at h;by_cases h2:ns.all kX=false
 ·rw[if_pos h2]at h;cases h
 rw[if_neg h2]at h;by_cases h3:cs.all (lH ns)=false
 ·rw[if_pos h3]at h;cases h
 rw[if_neg h3]at h;by_cases h4:jY ⟨ns,cs⟩=true
 ·rw[if_pos h4]at h;cases h
 rw[if_neg h4]at h;by_cases h5:(cs.all fun x=>decide (x.a≠x.b))=false
 ·rw[if_pos h5]at h;cases h
 rw[if_neg h5]at h;by_cases h6:cs.all tH=false
 ·rw[if_pos h6]at h;cases h
 simp only[sI]at h2 h3 h5 h6;have hp:∀i,i<cs.length->lH ns (cs.getD i gX)=true:=fun i hi=>Ke h3 hi;have ajC:∀{a p:Int},jO ns a p=true->(0<=a/\a<ns.length)/\0<=p/\p<(ns.getD a.toNat jk).bE:=fun{a p} hh=>by unfold jO at hh;simp only[cZ,decide_eq_true_eq]at hh;exact⟨⟨hh.1.1.1,hh.1.1.2⟩,hh.1.2,hh.2⟩
 have hpp:∀i,i<cs.length->_:=fun i hi=>by have:=hp i hi;unfold lH at this;rw[cZ]at this;exact(⟨ajC this.1,ajC this.2⟩:_/\_)
 refine⟨by omega,by omega,fun i hi=>(hpp i hi).1.1,fun i hi=>(hpp i hi).2.1,fun i hi=>(hpp i hi).1.2,fun i hi=>(hpp i hi).2.2,fun i hi=>by simpa using Ke (d:=gX) h5 hi,fun i hi=>?_,fun i hi=>?_,fun k j hk hj e=>?_⟩
 ·have:=Ke (d:=gX) h6 hi;unfold tH at this;simp only[cZ,decide_eq_true_eq]at this;exact⟨this.1.1.1,this.1.1.2⟩
 ·have:=Ke (d:=jk) h2 hi;unfold kX at this;rw[cZ]at this;have h7:=this.2;by_cases hs:(ns.getD i jk).sw=true
  ·rw[if_pos hs]at h7;simp only[cZ,decide_eq_true_eq]at h7;exact⟨h7.1,h7.2,fun e=>by rw[hs]at e;cases e⟩
  ·rw[if_neg hs]at h7;simp only[decide_eq_true_eq]at h7;rw[h7];exact⟨by decide,by decide,fun _=>rfl⟩
 ·have h8:yF jq (0,0) (gY cs)=false:=by
   unfold jY at h4;simp only[iq,not_or,Bool.not_eq_true]at h4;exact h4.2
  have key:∀k j,k<j->j<2*cs.length->(gY cs).getD k (0,0)=(gY cs).getD j (0,0)->False:=fun k j hkj hj e=>by
   have:yF jq (0,0) (gY cs)=true:=by
    unfold yF Jt;rw[iD];refine⟨j,dJ.2 (by rw[LC];exact hj),?_⟩;rw[iD];refine⟨(gY cs).getD k (0,0),?_,by rw[e];unfold jq;simp⟩;have hl:k<((gY cs).take j).length:=by rw[List.length_take,LC];omega
    have e2:(gY cs).getD k (0,0)=((gY cs).take j)[k]:=by
     rw[List.getElem_take];have:k<(gY cs).length:=by rw[LC];omega
     simp[bJ,this]
    rw[e2];exact BN hl
   rw[h8]at this;cases this
  rcases Nat.lt_trichotomy k j with q|q|q
  ·exact(key k j q hj e).elim
  ·exact q
  ·exact(key j k q hk e.symm).elim
section
variable{ns:List Nd}{cs:List Cb}(h:sS ns cs)
include h
theorem sS.Qk{i:Nat}(hi:i<ns.length):1<=(if(ns.getD i jk).sw then(ns.getD i jk).bE.toNat else 2)/\(if(ns.getD i jk).sw then(ns.getD i jk).bE.toNat else 2)<=8:=by have:=h.sw i hi;split<;>omega
theorem sS.ends{c:Nat}(hc:c<2*cs.length):(fM cs c).1<ns.length/\(fM cs c).2.2.1<ns.length/\((fM cs c).2.1:Int)<(ns.getD (fM cs c).1 jk).bE/\((fM cs c).2.2.2:Int)<(ns.getD (fM cs c).2.2.1 jk).bE/\(fM cs c).1≠(fM cs c).2.2.1:=by
 have hi:c/2<cs.length:=by omega
 have a:=h.a0 _ hi;have b:=h.b0 _ hi;have ap:=h.ap _ hi;have bp:=h.bp _ hi;have ab:=h.ab _ hi;unfold fM;simp only;by_cases e:c%2=0
 ·rw[if_pos e];simp only;refine⟨by omega,by omega,?_,?_,by omega⟩
  ·rw[gJ ap.1];exact ap.2
  ·rw[gJ bp.1];exact bp.2
 ·rw[if_neg e];simp only;refine⟨by omega,by omega,?_,?_,by omega⟩
  ·rw[gJ bp.1];exact bp.2
  ·rw[gJ ap.1];exact ap.2
theorem sS.Br{i p:Nat}(hi:i<ns.length)(hp:(p:Int)<(ns.getD i jk).bE):p<(if(ns.getD i jk).sw then(ns.getD i jk).bE.toNat else 2):=by
 have:=h.sw i hi;cases e:(ns.getD i jk).sw with
 |true=>rw[if_pos rfl];omega
 |false=>have:=this.2.2 e;rw[if_neg (by simp)];omega
theorem sS.AQ{c:Nat}(hc:c<2*cs.length):mZ cs (fM cs c).1 (fM cs c).2.1=az (c/2)/\iY cs (c/2) (fM cs c).1=c:=by
 have hi:c/2<cs.length:=by omega
 have A:=h.a0 _ hi;have B:=h.b0 _ hi;have C:=h.ap _ hi;have D:=h.bp _ hi;have ab:=h.ab _ hi;have k1:=JY cs hi;refine⟨?_,?_⟩
 ·unfold mZ;rw[List.find?_range_eq_some];refine⟨?_,by simpa using hi,fun j hj=>?_⟩
  ·unfold fM;simp only;by_cases p1:c%2=0
   ·rw[if_pos p1];simp only[gJ A.1,gJ C.1];simp
   ·rw[if_neg p1];simp only[gJ B.1,gJ D.1];simp
  ·have hjl:j<cs.length:=by omega
   have k2:=JY cs hjl;have key:∀x y,x<2*cs.length->y<2*cs.length->(gY cs).getD x (0,0)=(gY cs).getD y (0,0)->x=y:=h.inj;simp only[mI,Bool.or_eq_false_iff,Bool.and_eq_false_iff,beq_eq_false_iff_ne,ne_eq];unfold fM;simp only;by_cases p1:c%2=0
   ·rw[if_pos p1];simp only[gJ A.1,gJ C.1];constructor
    ·by_cases q:(cs.getD j gX).a=(cs.getD (c/2) gX).a
     ·exact .inr fun q2=>by have:=key (2*j) (2*(c/2)) (by omega) (by omega) (by rw[k1.1,k2.1,q,q2]);omega
     ·exact .inl q
    ·by_cases q:(cs.getD j gX).b=(cs.getD (c/2) gX).a
     ·exact .inr fun q2=>by have:=key (2*j+1) (2*(c/2)) (by omega) (by omega) (by rw[k1.1,k2.2,q,q2]);omega
     ·exact .inl q
   ·rw[if_neg p1];simp only[gJ B.1,gJ D.1];constructor
    ·by_cases q:(cs.getD j gX).a=(cs.getD (c/2) gX).b
     ·exact .inr fun q2=>by have:=key (2*j) (2*(c/2)+1) (by omega) (by omega) (by rw[k1.2,k2.1,q,q2]);omega
     ·exact .inl q
    ·by_cases q:(cs.getD j gX).b=(cs.getD (c/2) gX).b
     ·exact .inr fun q2=>by have:=key (2*j+1) (2*(c/2)+1) (by omega) (by omega) (by rw[k1.2,k2.2,q,q2]);omega
     ·exact .inl q
 ·unfold iY fM;simp only;by_cases p1:c%2=0
  ·rw[if_pos p1];simp only[gJ A.1];rw[if_pos trivial];omega
  ·rw[if_neg p1];simp only[gJ B.1];rw[if_neg ab];omega
theorem sS.chan{i u:Nat}(hi:i<cs.length)(hu:(cs.getD i gX).a=(u:Int)\/(cs.getD i gX).b=(u:Int)):iY cs i u<2*cs.length/\iY cs i u/2=i/\(fM cs (iY cs i u)).1=u:=by
 have A:=h.a0 _ hi;have B:=h.b0 _ hi;have ab:=h.ab _ hi;unfold iY;by_cases e:(cs.getD i gX).a=(u:Int)
 ·rw[if_pos e];refine⟨by omega,by omega,?_⟩;unfold fM;rw[if_pos (by omega),show 2*i/2=i by omega,e];rfl
 ·rw[if_neg e];refine⟨by omega,by omega,?_⟩;have e2:(cs.getD i gX).b=(u:Int):=by rcases hu with q|q;exact absurd q e;exact q
  unfold fM;rw[if_neg (by omega),show(2*i+1)/2=i by omega,e2];rfl
end
def kQ(n:Nd):Nat:=if n.sw then n.bE.toNat else 2
structure vK(ns:List Nd)(f:dx)(x:Fm):Prop where
 c0:0<=x.cls
 c1:x.cls.toNat<f.aK.length
 e0:0<=x.ep
 e1:x.ep<=f.dm
 t0:0<=x.kU
 t1:x.kU<ns.length
 d:x.data.length<=64
def Ef(ns:List Nd)(cs:List Cb)(r:Rt):Prop:=∀i p t,i<ns.length->p<2->t<ns.length->(r.next i p t<cs.length/\-2<=r.next i p t)/\(0<=r.next i p t->(cs.getD (r.next i p t).toNat gX).a=(i:Int)\/(cs.getD (r.next i p t).toNat gX).b=(i:Int))
structure dK(ns:List Nd)(cs:List Cb)(f:dx)(N:Nat):Prop where
 k0:1<=f.aX
 k1:f.aX<=4
 rl:f.aK.length=2*f.aX
 rv:∀r∈f.aK,1<=r/\r<=64
 bl:f.boxes.length=ns.length
 box:∀i,i<ns.length->lW (f.boxes.getD i default) N/\(f.boxes.getD i default).bE=kQ (ns.getD i jk)/\(f.boxes.getD i default).aX=f.aK.length
 q:∀i p c x,i<ns.length->p<kQ (ns.getD i jk)->c<f.aK.length->x∈dR (f.boxes.getD i default).q p c->vK ns f x
 up:f.up.length=cs.length
 r0:Ef ns cs f.NL
 r1:0<f.dm->Ef ns cs f.QB
 bn:f.dm<=f.now
 a0:0<=f.wM/\f.wM<=N
 a1:0<=f.vH/\f.vH<=N
 now:f.now<=N
 last:f.last<=N
 ll:f.lost.length<=N
 cm:Bc f.came ns.length f.aK.length
 cv:∀i v,i<ns.length->v<f.aK.length->0<=dR f.came i v/\dR f.came i v<=N
 gn:Bc f.gone (2*cs.length) f.aK.length
 gv:∀c v,c<2*cs.length->v<f.aK.length->0<=dR f.gone c v/\dR f.gone c v<=N
 fl:∀t x,x∈f.fl t->x.1<2*cs.length/\vK ns f x.2
 lim:∀t x,x∈f.lim t->x.1<2*cs.length/\x.2.1<f.aK.length/\0<=x.2.2/\x.2.2<=1000000000000000
 DK:∀t,(f.fl t).length<=N
 DV:∀t,(f.lim t).length<=N
section
variable{ns:List Nd}{cs:List Cb}{f:dx}{N M:Nat}
theorem dK.mono(h:dK ns cs f N)(hM:N<=M):dK ns cs f M where
 k0:=h.k0
 k1:=h.k1
 rl:=h.rl
 rv:=h.rv
 bl:=h.bl
 box:=fun i hi=>⟨(h.box i hi).1.mono hM,(h.box i hi).2⟩
 q:=h.q
 up:=h.up
 r0:=h.r0
 r1:=h.r1
 bn:=h.bn
 a0:=by have:=h.a0;omega
 a1:=by have:=h.a1;omega
 now:=by have:=h.now;omega
 last:=by have:=h.last;omega
 ll:=by have:=h.ll;omega
 cm:=h.cm
 cv:=fun i v hi hv=>by have:=h.cv i v hi hv;omega
 gn:=h.gn
 gv:=fun i v hi hv=>by have:=h.gv i v hi hv;omega
 fl:=h.fl
 lim:=h.lim
 DK:=fun t=>by have:=h.DK t;omega
 DV:=fun t=>by have:=h.DV t;omega
end
section
variable{ns:List Nd}{cs:List Cb}{f:dx}{N M:Nat}
theorem vK.yl{f':dx}{x:Fm}(h:vK ns f x)(e1:f'.aK=f.aK)(e2:f.dm<=f'.dm):vK ns f' x:=⟨h.c0,by rw[e1];exact h.c1,h.e0,by have:=h.e1;omega,h.t0,h.t1,h.d⟩
theorem dK.YZ(h:dK ns cs f N)(hM:N<=M){u:Nat}(hu:u<ns.length){X:Bx}(hX:lW X M)(hp:X.bE=kQ (ns.getD u jk))(hc:X.aX=f.aK.length)(hq:∀p c x,p<kQ (ns.getD u jk)->c<f.aK.length->x∈dR X.q p c->vK ns f x):dK ns cs {f with boxes:=f.boxes.set u X} M:=by
 have k:=h.mono hM;have bl:=h.bl;exact{
  k0:=k.k0,k1:=k.k1,rl:=k.rl,rv:=k.rv,bl:=by show(f.boxes.set u X).length=ns.length;rw[jG];exact bl
  box:=fun i hi=>by
   show lW ((f.boxes.set u X).getD i default) M/\((f.boxes.set u X).getD i default).bE=_/\((f.boxes.set u X).getD i default).aX=_;by_cases e:i=u
   ·subst e;rw[iO _ _ _ (by omega)];exact⟨hX,hp,hc⟩
   ·rw[iG _ _ _ e];exact k.box i hi
  q:=fun i p c x hi yI qg hx=>by
   have hx:x∈dR ((f.boxes.set u X).getD i default).q p c:=hx;by_cases e:i=u
   ·subst e;rw[iO _ _ _ (by omega)]at hx;exact(hq p c x yI qg hx).yl rfl (aC _)
   ·rw[iG _ _ _ e]at hx;exact(k.q i p c x hi yI qg hx).yl rfl (aC _)
  up:=k.up,r0:=k.r0,r1:=k.r1,bn:=k.bn,a0:=k.a0,a1:=k.a1,now:=k.now,last:=k.last,ll:=k.ll,cm:=k.cm,cv:=k.cv,gn:=k.gn,gv:=k.gv
  fl:=fun t x hx=>⟨(k.fl t x hx).1,(k.fl t x hx).2.yl rfl (aC _)⟩,lim:=k.lim,DK:=k.DK,DV:=k.DV}
theorem UX(X:Bx)(p:Nat)(x:Fm):(X.iR p x).1.bE=X.bE/\(X.iR p x).1.aX=X.aX:=by unfold Bx.iR;simp only;split<;>exact⟨rfl,rfl⟩
theorem XH{X:Bx}(hX:lW X N){p:Nat}{x y:Fm}(hp:p<X.bE)(hc:x.cls.toNat<X.aX){p' c':Nat}(h:y∈dR (X.iR p x).1.q p' c'):y∈dR X.q p' c'\/y=x:=by
 unfold Bx.iR at h;simp only at h;split at h
 ·simp only at h;rw[nG hX.q hp hc]at h;split at h
  ·rename_i e;rcases eZ.1 h with h|h
   ·left;rw[e.1,e.2];exact h
   ·right;simpa using h
  ·exact .inl h
 ·exact .inl h
theorem dK.iR(h:dK ns cs f N){u p:Nat}{x:Fm}(hu:u<ns.length)(hp:p<kQ (ns.getD u jk))(hx:vK ns f x):dK ns cs {f with boxes:=f.boxes.set u ((f.boxes.getD u default).iR p x).1} (N+1):=by
 obtain⟨b1,b2,b3⟩:=h.box u hu;have s:=UX (f.boxes.getD u default) p x;refine h.YZ (by omega) hu (b1.iR (by rw[b2];exact hp) (by rw[b3];exact hx.c1)) (by rw[s.1,b2]) (by rw[s.2,b3]) fun p' c' y yI qg hy=>?_;rcases XH b1 (by rw[b2];exact hp) (by rw[b3];exact hx.c1) hy with q|q
 ·exact h.q u p' c' y hu yI qg q
 ·rw[q];exact hx
theorem dK.raise(h:dK ns cs f N){u p c:Nat}(l:Int)(hu:u<ns.length)(hp:p<kQ (ns.getD u jk))(hc:c<f.aK.length):dK ns cs {f with boxes:=f.boxes.set u ((f.boxes.getD u default).raise p c l)} N:=by obtain⟨b1,b2,b3⟩:=h.box u hu;exact h.YZ (aC _) hu (b1.raise (by rw[b2];exact hp) (by rw[b3];exact hc) l) b2 b3 fun p' c' y yI qg hy=>h.q u p' c' y hu yI qg hy
theorem dK.iC(h:dK ns cs f N)(hM:N<=M)(e d:Int)(h0:0<=(f.iC e d).wM/\(f.iC e d).wM<=M)(h1:0<=(f.iC e d).vH/\(f.iC e d).vH<=M):dK ns cs (f.iC e d) M:=by
 have k:=h.mono hM;have E:f.iC e d={f with wM:=(f.iC e d).wM,vH:=(f.iC e d).vH}:=by unfold dx.iC;split<;>rfl
 generalize(f.iC e d).wM=x at *;generalize(f.iC e d).vH=y at *;rw[E];exact{
  k0:=k.k0,k1:=k.k1,rl:=k.rl,rv:=k.rv,bl:=k.bl,box:=k.box,q:=fun i p c x hi yI qg hx=>(k.q i p c x hi yI qg hx).yl rfl (aC _),up:=k.up,r0:=k.r0,r1:=k.r1,bn:=k.bn,a0:=h0,a1:=h1,now:=k.now,last:=k.last,ll:=k.ll,cm:=k.cm,cv:=k.cv,gn:=k.gn,gv:=k.gv
  fl:=fun t x hx=>⟨(k.fl t x hx).1,(k.fl t x hx).2.yl rfl (aC _)⟩,lim:=k.lim,DK:=k.DK,DV:=k.DV}
theorem dK.rem(h:dK ns cs f N)(e:Int):dK ns cs (f.rem e) N:=by
 unfold dx.rem;split
 ·exact h
 ·rename_i hz;have a0:=h.a0;have a1:=h.a1;refine h.iC (aC _) e (-1) ?_ ?_;all_goals
   unfold dx.alive at hz;unfold dx.iC;split at hz
   ·exact absurd rfl hz
   ·split
    ·rename_i h2;rw[if_pos h2]at hz;simp only;omega
    ·rename_i h2;rw[if_neg h2]at hz;simp only;omega
theorem dK.qQ(h:dK ns cs f N)(x:Fm):dK ns cs (f.qQ x) (N+1):=by
 have k:=(h.rem x.ep).mono (show N<=N+1 by omega);have hl:=(h.rem x.ep).ll;unfold dx.qQ;simp only;generalize f.rem x.ep=g at *;exact{
  k0:=k.k0,k1:=k.k1,rl:=k.rl,rv:=k.rv,bl:=k.bl,box:=k.box,q:=fun i p c x hi yI qg hx=>(k.q i p c x hi yI qg hx).yl rfl (aC _),up:=k.up,r0:=k.r0,r1:=k.r1,bn:=k.bn,a0:=k.a0,a1:=k.a1,now:=k.now,last:=k.last
  ll:=by show(g.lost++[x]).length<=N+1;rw[bV];simp only[eQ,jZ];omega
  cm:=k.cm,cv:=k.cv,gn:=k.gn,gv:=k.gv,fl:=fun t x hx=>⟨(k.fl t x hx).1,(k.fl t x hx).2.yl rfl (aC _)⟩,lim:=k.lim,DK:=k.DK,DV:=k.DV}
theorem dK.setLast(h:dK ns cs f N){l:Nat}(hl:l<=N):dK ns cs {f with last:=l} N:=by
 have k:=h;exact{
  k0:=k.k0,k1:=k.k1,rl:=k.rl,rv:=k.rv,bl:=k.bl,box:=k.box,q:=fun i p c x hi yI qg hx=>(k.q i p c x hi yI qg hx).yl rfl (aC _),up:=k.up,r0:=k.r0,r1:=k.r1,bn:=k.bn,a0:=k.a0,a1:=k.a1,now:=k.now,last:=hl,ll:=k.ll,cm:=k.cm,cv:=k.cv,gn:=k.gn,gv:=k.gv,fl:=fun t x hx=>⟨(k.fl t x hx).1,(k.fl t x hx).2.yl rfl (aC _)⟩,lim:=k.lim,DK:=k.DK,DV:=k.DV}
theorem dK.iL(h:dK ns cs f N)(jR kU cls:Int)(data:List Int):dK ns cs (f.iL ns jR kU cls data).1 (N+1):=by
 have k:=h.mono (show N<=N+1 by omega);unfold dx.iL;split
 ·exact k
 ·rename_i hb;split
  ·exact k
  ·simp only;split
   ·exact k
   ·simp only[iq,mI,decide_eq_true_eq,not_or,sI,Int.not_lt,Int.not_le]at hb;obtain⟨⟨⟨⟨b1,b2⟩,b3⟩,b4⟩,b5⟩:=hb;unfold zI at b1 b2;simp only[cZ,decide_eq_true_eq]at b1 b2;have hu:jR.toNat<ns.length:=by omega
    have vl:cls.toNat+f.aX*(f.dm%2)<f.aK.length:=by rw[h.rl];rcases(show f.dm%2=0\/f.dm%2=1 by omega)with q|q<;>rw[q]<;>omega
    have p2:1<kQ (ns.getD jR.toNat jk):=(by have e:(ns.getD jR.toNat jk).sw=false:=(by have:=b1.2;unfold Am at this;simpa using this);unfold kQ;rw[e,if_neg (by decide)];omega);have a:=h.iR (u:=jR.toNat) (p:=1) (x:=⟨f.last+1,jR,kU,((cls.toNat+f.aX*(f.dm%2):Nat):Int),f.dm,data⟩) hu p2 ⟨by simp only;omega,by simp only[cK];exact vl,by simp only;omega,gQ _,b2.1.1,b2.1.2,by simp only;omega⟩;generalize(f.boxes.getD jR.toNat default).iR 1 ⟨f.last+1,jR,kU,((cls.toNat+f.aX*(f.dm%2):Nat):Int),f.dm,data⟩=r at *;split
    ·have a0:=h.a0;have a1:=h.a1;have c:=a.iC (aC _) f.dm 1 (by unfold dx.iC;split<;>(simp only;omega)) (by unfold dx.iC;split<;>(simp only;omega));have d:=c.setLast (l:=f.last+1) (by have:=h.last;omega);have E:({f.iC f.dm 1 with boxes:=f.boxes.set jR.toNat r.1,last:=f.last+1}:dx)={(dx.iC {f with boxes:=f.boxes.set jR.toNat r.1} f.dm 1)with last:=f.last+1}:=by unfold dx.iC;split<;>rfl
     rw[E];exact d
    ·exact a
theorem dK.aeH(h:dK ns cs f N)(now:Nat):dK ns cs {f with fl:=fun t=>if t=now then[]else f.fl t} N:=by
 have k:=h;exact{
  k0:=k.k0,k1:=k.k1,rl:=k.rl,rv:=k.rv,bl:=k.bl,box:=k.box,q:=fun i p c x hi yI qg hx=>(k.q i p c x hi yI qg hx).yl rfl (aC _),up:=k.up,r0:=k.r0,r1:=k.r1,bn:=k.bn,a0:=k.a0,a1:=k.a1,now:=k.now,last:=k.last,ll:=k.ll,cm:=k.cm,cv:=k.cv,gn:=k.gn,gv:=k.gv,lim:=k.lim,DV:=k.DV
  fl:=fun t x hx=>by
   have hx:x∈(if t=now then[]else f.fl t):=hx;split at hx
   ·cases hx
   ·exact⟨(k.fl t x hx).1,(k.fl t x hx).2.yl rfl (aC _)⟩
  DK:=fun t=>by
   show(if t=now then[]else f.fl t).length<=N;split
   ·exact bS _
   ·exact k.DK t}
theorem dK.YD(h:dK ns cs f N)(now:Nat):dK ns cs {f with lim:=fun t=>if t=now then[]else f.lim t} N:=by
 have k:=h;exact{
  k0:=k.k0,k1:=k.k1,rl:=k.rl,rv:=k.rv,bl:=k.bl,box:=k.box,q:=fun i p c x hi yI qg hx=>(k.q i p c x hi yI qg hx).yl rfl (aC _),up:=k.up,r0:=k.r0,r1:=k.r1,bn:=k.bn,a0:=k.a0,a1:=k.a1,now:=k.now,last:=k.last,ll:=k.ll,cm:=k.cm,cv:=k.cv,gn:=k.gn,gv:=k.gv,fl:=fun t x hx=>⟨(k.fl t x hx).1,(k.fl t x hx).2.yl rfl (aC _)⟩,DK:=k.DK
  lim:=fun t x hx=>by
   have hx:x∈(if t=now then[]else f.lim t):=hx;split at hx
   ·cases hx
   ·exact k.lim t x hx
  DV:=fun t=>by
   show(if t=now then[]else f.lim t).length<=N;split
   ·exact bS _
   ·exact k.DV t}
theorem dK.aqO(h:dK ns cs f N)(due:Nat){x:Nat×Fm}(h1:x.1<2*cs.length)(h2:vK ns f x.2):dK ns cs {f with fl:=fun t=>if t=due then f.fl t++[x]else f.fl t} (N+1):=by
 have k:=h.mono (show N<=N+1 by omega);exact{
  k0:=k.k0,k1:=k.k1,rl:=k.rl,rv:=k.rv,bl:=k.bl,box:=k.box,q:=fun i p c x hi yI qg hx=>(k.q i p c x hi yI qg hx).yl rfl (aC _),up:=k.up,r0:=k.r0,r1:=k.r1,bn:=k.bn,a0:=k.a0,a1:=k.a1,now:=k.now,last:=k.last,ll:=k.ll,cm:=k.cm,cv:=k.cv,gn:=k.gn,gv:=k.gv,lim:=k.lim,DV:=k.DV
  fl:=fun t y hx=>by
   have hx:y∈(if t=due then f.fl t++[x]else f.fl t):=hx;split at hx
   ·rcases eZ.1 hx with hx|hx
    ·exact⟨(k.fl t y hx).1,(k.fl t y hx).2.yl rfl (aC _)⟩
    ·rw[dz]at hx;subst hx;exact⟨h1,h2.yl rfl (aC _)⟩
   ·exact⟨(k.fl t y hx).1,(k.fl t y hx).2.yl rfl (aC _)⟩
  DK:=fun t=>by
   have:=h.DK t;show(if t=due then f.fl t++[x]else f.fl t).length<=N+1;split
   ·rw[bV];simp only[eQ,jZ];omega
   ·omega}
theorem dK.came(h:dK ns cs f N){u v:Nat}(hu:u<ns.length)(hv:v<f.aK.length):dK ns cs {f with came:=mW f.came u v (dR f.came u v+1)} (N+1):=by
 have k:=h.mono (show N<=N+1 by omega);exact{
  k0:=k.k0,k1:=k.k1,rl:=k.rl,rv:=k.rv,bl:=k.bl,box:=k.box,q:=fun i p c x hi yI qg hx=>(k.q i p c x hi yI qg hx).yl rfl (aC _),up:=k.up,r0:=k.r0,r1:=k.r1,bn:=k.bn,a0:=k.a0,a1:=k.a1,now:=k.now,last:=k.last,ll:=k.ll,gn:=k.gn,gv:=k.gv,fl:=fun t x hx=>⟨(k.fl t x hx).1,(k.fl t x hx).2.yl rfl (aC _)⟩,DK:=k.DK,lim:=k.lim,DV:=k.DV
  cm:=h.cm.jd u v _
  cv:=fun i j hi hj=>by have h1:=h.cv u v hu hv;have h2:=h.cv i j hi hj;show 0<=dR (mW f.came u v (dR f.came u v+1)) i j/\dR (mW f.came u v (dR f.came u v+1)) i j<=((N+1:Nat):Int);rw[nG h.cm hu hv];split<;>omega}
theorem dK.afw(h:dK ns cs f N):dK ns cs {f with now:=f.now+1} (N+1):=by
 have k:=h.mono (show N<=N+1 by omega);exact{
  k0:=k.k0,k1:=k.k1,rl:=k.rl,rv:=k.rv,bl:=k.bl,box:=k.box,q:=fun i p c x hi yI qg hx=>(k.q i p c x hi yI qg hx).yl rfl (aC _),up:=k.up,r0:=k.r0,r1:=k.r1,a0:=k.a0,a1:=k.a1,last:=k.last,ll:=k.ll,cm:=k.cm,cv:=k.cv,gn:=k.gn,gv:=k.gv,fl:=fun t x hx=>⟨(k.fl t x hx).1,(k.fl t x hx).2.yl rfl (aC _)⟩,DK:=k.DK,lim:=k.lim,DV:=k.DV
  bn:=by show f.dm<=f.now+1;have:=h.bn;omega
  now:=by show f.now+1<=N+1;have:=h.now;omega}
end
theorem ZZ{b:Bx}{N:Nat}(hb:lW b N){p c:Nat}(hp:p<b.bE)(hc:c<b.aX){p' c':Nat}{x:Fm}(h:x∈dR (mW b.q p c (dR b.q p c).tail) p' c'):x∈dR b.q p' c':=by
 rw[nG hb.q hp hc]at h;split at h
 ·rename_i e;rw[e.1,e.2];exact List.mem_of_mem_tail h
 ·exact h
theorem Mi.sub{bz:Nat->Fm->Option Nat}{b b1:Bx}{m:Mv}{N:Nat}(h:Mi bz b m b1)(hb:lW b N):(∀p c x,x∈dR b1.q p c->x∈dR b.q p c)/\m.1<b.bE/\m.2.1<b.aX/\m.2.2.2∈dR b.q m.1 m.2.1/\b1.bE=b.bE/\b1.aX=b.aX:=by
 cases h with
 |drop p c f l h1 h2 h3 h4=>exact⟨fun p' c' x hx=>ZZ hb h1 h2 hx,h1,h2,by show f∈dR b.q p c;rw[h3];exact dH ..,rfl,rfl⟩
 |move i c k f l pt h1 h2 h3 h4 h5 h6 h7 h8=>exact⟨fun p' c' x hx=>ZZ hb h1 h2 hx,h1,h2,by show f∈dR b.q i c;rw[h4];exact dH ..,rfl,rfl⟩
theorem Tr.sub{bz:Nat->Fm->Option Nat}{b b1:Bx}{ms:List Mv}(h:Tr bz b ms b1):∀{N:Nat},lW b N->(∀p c x,x∈dR b1.q p c->x∈dR b.q p c)/\(∀m∈ms,m.1<b.bE/\m.2.1<b.aX/\m.2.2.2∈dR b.q m.1 m.2.1):=by
 induction h with
 |nil b=>exact fun _=>⟨fun _ _ _ h=>h,fun m hm=>by cases hm⟩
 |cons mi _ ih=>
  intro N hb;have s:=mi.sub hb;have k:=ih (mi.ok hb);refine⟨fun p c x hx=>s.1 p c x (k.1 p c x hx),fun m hm=>?_⟩;rcases dG.1 hm with e|e
  ·subst e;exact⟨s.2.1,s.2.2.1,s.2.2.2.1⟩
  ·have q:=k.2 m e;rw[s.2.2.2.2.1,s.2.2.2.2.2]at q;exact⟨q.1,q.2.1,s.1 _ _ _ q.2.2⟩
 |iU x hx _ ih=>intro N hb;exact ih (hb.Mr hx)
theorem dK.aah{ns:List Nd}{cs:List Cb}{f:dx}{N:Nat}(h:dK ns cs f N){u:Nat}(hu:u<ns.length)(bz:Nat->Fm->Option Nat):dK ns cs {f with boxes:=f.boxes.set u ((f.boxes.getD u default).step bz).1} (N+8)/\∀m∈((f.boxes.getD u default).step bz).2,vK ns f m.2.2.2:=by obtain⟨b1,b2,b3⟩:=h.box u hu;have t:=(Oi _ bz b1).1.sub b1;have k:=zR (bz:=bz) b1 (aC _);rw[<-Oh]at k;refine⟨h.YZ (by omega) hu k.1 (by rw[k.2.1,b2]) (by rw[k.2.2.1,b3]) fun p c x hp hc hx=>h.q u p c x hu hp hc (t.1 p c x hx),fun m hm=>?_⟩;obtain⟨q1,q2,q3⟩:=t.2 m hm;exact h.q u m.1 m.2.1 _ hu (by rw[<-b2];exact q1) (by rw[<-b3];exact q2) q3
theorem Mf(f:dx)(x:Fm):(f.qQ x).aK=f.aK/\(f.qQ x).dm=f.dm/\(f.qQ x).now=f.now:=by
 unfold dx.qQ dx.rem dx.iC;simp only;split
 ·exact⟨rfl,rfl,rfl⟩
 ·split<;>exact⟨rfl,rfl,rfl⟩
theorem yO{cs:List Cb}{u k i:Nat}(h:mZ cs u k=az i):i<cs.length/\((cs.getD i gX).a=(u:Int)\/(cs.getD i gX).b=(u:Int)):=by
 unfold mZ at h;have h1:=ug h;have h2:=yw h;simp only[iq,cZ,beq_iff_eq]at h2;refine⟨dJ.1 h1,?_⟩;rcases h2 with q|q
 ·exact .inl q.1
 ·exact .inr q.1
theorem dK.nR{ns:List Nd}{cs:List Cb}{f:dx}{N:Nat}(h:dK ns cs f N)(hp:sS ns cs){u:Nat}(hu:u<ns.length){m:Mv}(hm:vK ns f m.2.2.2):dK ns cs (f.nR cs u m) (N+1)/\(f.nR cs u m).aK=f.aK/\(f.nR cs u m).dm=f.dm/\(f.nR cs u m).now=f.now:=by
 unfold dx.nR;cases m.2.2.1 with
 |none=>exact⟨h.qQ _,Mf f _⟩
 |some k=>
  dsimp only;cases e:mZ cs u k with
  |none=>exact⟨h.mono (vE N),rfl,rfl,rfl⟩
  |some i=>obtain⟨c1,c2⟩:=yO e;exact⟨h.aqO _ (x:=(iY cs i u,m.2.2.2)) (hp.chan c1 c2).1 hm,rfl,rfl,rfl⟩
theorem dK.Kn{ns:List Nd}{cs:List Cb}(hp:sS ns cs){u:Nat}(hu:u<ns.length):∀(ms:List Mv) {f:dx} {N:Nat},dK ns cs f N->(∀m∈ms,vK ns f m.2.2.2)->dK ns cs (ms.foldl (dx.nR cs u) f) (N+ms.length)/\(ms.foldl (dx.nR cs u) f).aK=f.aK/\(ms.foldl (dx.nR cs u) f).dm=f.dm/\(ms.foldl (dx.nR cs u) f).now=f.now
 |[],_,_,h,_=>⟨h,rfl,rfl,rfl⟩
 |m::ms,f,N,h,hm=>by have k:=h.nR hp hu (hm m (dH ..));have r:=dK.Kn hp hu ms k.1 fun m' h'=>(hm m' (dU _ h')).yl k.2.1 (by rw[k.2.2.1];exact aC _);rw[fK];refine⟨r.1.mono (by rw[eQ];omega),r.2.1.trans k.2.1,r.2.2.1.trans k.2.2.1,r.2.2.2.trans k.2.2.2⟩
theorem dK.qj{ns:List Nd}{cs:List Cb}{f:dx}{N:Nat}(h:dK ns cs f N)(hp:sS ns cs){u:Nat}(hu:u<ns.length):dK ns cs (f.qj ns cs u) (N+5000)/\(f.qj ns cs u).aK=f.aK/\(f.qj ns cs u).dm=f.dm/\(f.qj ns cs u).now=f.now:=by obtain⟨k1,k2⟩:=h.aah hu fun port x=>(f.leave ns cs u port x).map fun c=>(fM cs c).2.1;have len:=(zR (bz:=fun port x=>(f.leave ns cs u port x).map fun c=>(fM cs c).2.1) (h.box u hu).1 (aC _)).2.2.2.1;rw[<-Oh]at len;have r:=dK.Kn hp hu _ k1 fun m hm=>(k2 m hm).yl rfl (aC _);unfold dx.qj;exact⟨r.1.mono (by omega),r.2.1,r.2.2.1,r.2.2.2⟩
theorem acv(f:dx)(e:Int):(f.rem e).aK=f.aK/\(f.rem e).dm=f.dm/\(f.rem e).now=f.now:=by
 unfold dx.rem dx.iC;split
 ·exact⟨rfl,rfl,rfl⟩
 ·split<;>exact⟨rfl,rfl,rfl⟩
theorem dK.gV{ns:List Nd}{cs:List Cb}{f:dx}{N:Nat}(h:dK ns cs f N)(hp:sS ns cs){x:Nat×Fm}(hc:x.1<2*cs.length)(hx:vK ns f x.2)(D:List Dl):dK ns cs (dx.gV ns cs (f,D) x).1 (N+2)/\(dx.gV ns cs (f,D) x).1.aK=f.aK/\(dx.gV ns cs (f,D) x).1.dm=f.dm/\(dx.gV ns cs (f,D) x).1.now=f.now:=by
 have EN:=hp.ends hc;have pl:=hp.Br EN.2.1 EN.2.2.2.1;unfold dx.gV;dsimp only;by_cases hs:Am ns (fM cs x.1).2.2.1=true
 ·rw[if_pos hs];have a:=h.iR EN.2.1 (p:=(fM cs x.1).2.2.2) (show _<kQ _ from pl) hx;dsimp only;split
  ·exact⟨a.mono (by omega),rfl,rfl,rfl⟩
  ·have l:=a.qQ x.2;have s:=Mf ({f with boxes:=f.boxes.set (fM cs x.1).2.2.1 ((f.boxes.getD (fM cs x.1).2.2.1 default).iR (fM cs x.1).2.2.2 x.2).1}:dx) x.2;exact⟨l,s⟩
 ·rw[if_neg hs];have a:=(h.came EN.2.1 hx.c1).rem x.2.ep;have s:=acv ({f with came:=mW f.came (fM cs x.1).2.2.1 x.2.cls.toNat (dR f.came (fM cs x.1).2.2.1 x.2.cls.toNat+1)}:dx) x.2.ep;exact⟨a.mono (by omega),s⟩
theorem dK.ma{ns:List Nd}{cs:List Cb}{f:dx}{N:Nat}(h:dK ns cs f N)(hp:sS ns cs){x:Nat×Nat×Int}(hc:x.1<2*cs.length)(hv:x.2.1<f.aK.length):dK ns cs (dx.ma cs f x) N/\(dx.ma cs f x).aK=f.aK/\(dx.ma cs f x).dm=f.dm/\(dx.ma cs f x).now=f.now:=by have EN:=hp.ends hc;have pl:=hp.Br EN.1 EN.2.2.1;unfold dx.ma;exact⟨h.raise x.2.2 EN.1 (show _<kQ _ from pl) hv,rfl,rfl,rfl⟩
theorem dK.Mo{ns:List Nd}{cs:List Cb}(hp:sS ns cs):∀(l:List (Nat×Nat×Int)) {f:dx} {N:Nat},dK ns cs f N->(∀x∈l,x.1<2*cs.length/\x.2.1<f.aK.length)->dK ns cs (l.foldl (dx.ma cs) f) N/\(l.foldl (dx.ma cs) f).aK=f.aK/\(l.foldl (dx.ma cs) f).dm=f.dm/\(l.foldl (dx.ma cs) f).now=f.now
 |[],_,_,h,_=>⟨h,rfl,rfl,rfl⟩
 |x::l,f,N,h,hl=>by
  have k:=h.ma hp (hl x (dH ..)).1 (hl x (dH ..)).2;have r:=dK.Mo hp l k.1 fun y hy=>by rw[k.2.1];exact hl y (dU _ hy)
  rw[fK];exact⟨r.1,r.2.1.trans k.2.1,r.2.2.1.trans k.2.2.1,r.2.2.2.trans k.2.2.2⟩
theorem dK.steps{ns:List Nd}{cs:List Cb}(hp:sS ns cs):∀(l:List Nat) {f:dx} {N:Nat},dK ns cs f N->(∀u∈l,u<ns.length)->dK ns cs (l.foldl (dx.qj ns cs) f) (N+l.length*5000)/\(l.foldl (dx.qj ns cs) f).aK=f.aK/\(l.foldl (dx.qj ns cs) f).dm=f.dm/\(l.foldl (dx.qj ns cs) f).now=f.now
 |[],_,_,h,_=>⟨by simpa using h,rfl,rfl,rfl⟩
 |u::l,f,N,h,hl=>by have k:=h.qj hp (hl u (dH ..));have r:=dK.steps hp l k.1 fun y hy=>hl y (dU _ hy);rw[fK];exact⟨r.1.mono (by rw[eQ];omega),r.2.1.trans k.2.1,r.2.2.1.trans k.2.2.1,r.2.2.2.trans k.2.2.2⟩
section
variable{α:Type}{key:α->Int}
def vS(key:α->Int)(l l':List α):Prop:=∀k,l'.filter (fun x=>key x==k)=l.filter (fun x=>key x==k)
def rA(key:α->Int)(l:List α):Prop:=l.Pairwise (fun x y=>key x<=key y)
theorem vS.refl(l:List α):vS key l l:=fun _=>rfl
theorem vS.trans{a b c:List α}(h:vS key a b)(h2:vS key b c):vS key a c:=fun k=>(h2 k).trans (h k)
theorem vS.symm{a b:List α}(h:vS key a b):vS key b a:=fun k=>(h k).symm
theorem vS.app{a b c d:List α}(h:vS key a b)(h2:vS key c d):vS key (a++c) (b++d):=fun k=>by rw[ig,ig,h k,h2 k]
theorem vS.rot{u v:List α}(h:∀x∈u,∀y∈v,key x≠key y):vS key (u++v) (v++u):=fun k=>by
 rw[ig,ig];by_cases hu:∃x∈u,key x=k
 ·obtain⟨x,hx,rfl⟩:=hu;have:v.filter (fun y=>key y==key x)=[]:=by
   rw[jy];intro y hy e;exact h x hx y hy (by have e2:key y=key x:=(by simpa using e);exact e2.symm)
  rw[this];simp
 ·have:u.filter (fun y=>key y==k)=[]:=by
   rw[jy];intro y hy e;exact hu ⟨y,hy,by simpa using e⟩
  rw[this];simp
theorem vS.mem{l l':List α}(h:vS key l l'){x:α}:x∈l'↔x∈l:=by have a:x∈l.filter (fun y=>key y==key x)↔x∈l/\(key x==key x)=true:=jH;have b:x∈l'.filter (fun y=>key y==key x)↔x∈l'/\(key x==key x)=true:=jH;rw[h (key x)]at b;simp only[beq_self_eq_true,and_true]at a b;exact b.symm.trans a
theorem vS.uniq:∀{l l':List α},rA key l->rA key l'->vS key l l'->l=l'
 |[],l',_,_,h=>by
  cases l' with
  |nil=>rfl
  |cons y t=>exact absurd ((h.mem (x:=y)).1 (dH ..)) (by simp)
 |x::t,l',s,s',h=>by
  cases l' with
  |nil=>exact absurd ((h.mem (x:=x)).2 (dH ..)) (by simp)
  |cons y t'=>
   have kx:∀z∈x::t,key x<=key z:=fun z hz=>by
    rcases dG.1 hz with rfl|hz
    ·exact gQ _
    ·exact Aj s hz
   have ky:∀z∈y::t',key y<=key z:=fun z hz=>by
    rcases dG.1 hz with rfl|hz
    ·exact gQ _
    ·exact Aj s' hz
   have e:key x=key y:=Int.le_antisymm (kx y ((h.mem).1 (dH ..))) (ky x ((h.mem).2 (dH ..)));have f:=h (key x);rw[iE,iE,if_pos (by simp[e]),if_pos (by simp)]at f;injection f with f1 f2;subst f1;have g:vS key t t':=fun k=>by
    have f:=h k;rw[iE,iE]at f;by_cases q:key y=k
    ·rw[if_pos (by simpa using q),if_pos (by simpa using q)]at f;injection f
    ·rw[if_neg (by simpa using q),if_neg (by simpa using q)]at f;exact f
   rw[vS.uniq (Ec s) (Ec s') g]
theorem vS.length:∀{l l':List α},vS key l l'->l'.length=l.length
 |[],l',h=>by
  cases l' with
  |nil=>rfl
  |cons y t=>exact absurd ((h.mem (x:=y)).1 (dH ..)) (by simp)
 |x::t,l',h=>by
  obtain⟨a,b,e,ha⟩:∃a b,l'=a++x::b/\∀z∈a,key z≠key x:=by
   have f:=h (key x);rw[iE,if_pos (by simp)]at f;clear h
   induction l' with
   |nil=>simp at f
   |cons y r ih=>
    rw[iE]at f;by_cases q:key y=key x
    ·rw[if_pos (by simpa using q)]at f;injection f with f1 f2;subst f1;exact⟨[],r,rfl,fun z hz=>(by cases hz)⟩
    ·rw[if_neg (by simpa using q)]at f;obtain⟨a,b,e,ha⟩:=ih f;exact⟨y::a,b,by rw[e];rfl,fun z hz=>by
      rcases dG.1 hz with rfl|hz
      ·exact q
      ·exact ha z hz⟩
  subst e;have g:vS key t (a++b):=fun k=>by
   have f:=h k;rw[ig,iE,iE]at f;rw[ig];by_cases q:key x=k
   ·have ea:a.filter (fun y=>key y==k)=[]:=by
     rw[jy];intro z hz e;exact ha z hz (by rw[q];simpa using e)
    rw[ea,if_pos (by simpa using q),if_pos (by simpa using q)]at f;rw[ea];injection f
   ·rw[if_neg (by simpa using q),if_neg (by simpa using q)]at f;exact f
  have:=vS.length g;simp only[bV,eQ]at this|-;omega
end
section
variable{α:Type}{key:α->Int}
theorem rA.app{l m:List α}:rA key (l++m)↔rA key l/\rA key m/\∀x∈l,∀y∈m,key x<=key y:=List.pairwise_append
theorem asF{X U V Y S1 S2:List α}(hA:rA key (X++U))(hB:rA key (V++Y))(hvu:∀u∈U,∀v∈V,key v<key u)(hxy:∀x∈X,∀y∈Y,key x<=key y)(s1:rA key S1)(s2:rA key S2)(t1:vS key (X++V) S1)(t2:vS key (U++Y) S2):rA key (S1++S2)/\vS key ((X++U)++(V++Y)) (S1++S2):=by
 obtain⟨_,_,a3⟩:=rA.app.1 hA;obtain⟨_,_,b3⟩:=rA.app.1 hB;refine⟨rA.app.2 ⟨s1,s2,fun x hx y hy=>?_⟩,?_⟩
 ·rcases eZ.1 (t1.mem.1 hx)with q|q<;>rcases eZ.1 (t2.mem.1 hy)with r|r
  ·exact a3 x q y r
  ·exact hxy x q y r
  ·exact Int.le_of_lt (hvu y r x q)
  ·exact b3 x q y r
 ·have h1:vS key (X++((U++V)++Y)) (X++((V++U)++Y)):=(vS.refl X).app ((vS.rot fun u hu v hv e=>by have:=hvu u hu v hv;omega).app (vS.refl Y));have h2:=h1.trans (show vS key (X++((V++U)++Y)) (S1++S2)from by
   have:=t1.app t2
   rwa [show(X++V)++(U++Y)=X++((V++U)++Y) by simp]at this)
  rwa [show X++((U++V)++Y)=(X++U)++(V++Y) by simp]at h2
theorem aff{S1 S2:List α}{x:α}(h:rA key (S1++S2))(h1:∀y∈S1,key y<=key x)(h2:∀y∈S2,key x<key y):rA key (S1++x::S2)/\vS key ((S1++S2)++[x]) (S1++x::S2):=by
 obtain⟨a1,a2,a3⟩:=rA.app.1 h;refine⟨rA.app.2 ⟨a1,List.pairwise_cons.2 ⟨fun y hy=>Int.le_of_lt (h2 y hy),a2⟩,fun y hy z hz=>?_⟩,?_⟩
 ·rcases dG.1 hz with rfl|hz
  ·exact h1 y hy
  ·exact a3 y hy z hz
 ·have:=(vS.refl (key:=key) S1).app (vS.rot (key:=key) (u:=S2) (v:=[x]) fun y hy z hz e=>by
   rw[dz]at hz;subst hz;have:=h2 y hy;omega)
  simpa using this
variable{d:α}
end
end
end Go.Proofs.YtnjjkgjdhljfnaaGreat
