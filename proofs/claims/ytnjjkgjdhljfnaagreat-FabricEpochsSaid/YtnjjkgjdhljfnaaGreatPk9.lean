/- Part 9. -/
import Derived.Defers
import Derived.Recover
import Derived.Test.YtnjjkgjdhljfnaaGreatPk8
open Go.Proofs.Tryz
open Array renaming ext'->sW
open Go renaming Calls->bZ,Ending->iM,Value->aI,World->aG,info_parts->dX,madeCells->dS,maxLen->fB,wp_at_succ->fH,wp_at_zero->fJ
open Go.Ending renaming returned->ax
open Go.IntKind renaming i64->ag
open Go.IntWalk renaming i64_in->fE
open Go.Lib renaming hid->aA
open Go.Obj renaming cells->af
open Go.Proofs.Tryz renaming prog->aH
open Go.Region renaming wanted->eH
open Go.RowKit renaming Below->aN,Hid->aY,intOf->aJ
open Go.RowKit.Below renaming refl->aQ
open Go.Value renaming int->ah,ownBlock->dV,pointer->au,slice->ay
open Go.World renaming alloc->MJ,block_lt_of_cell?->aZ,ownsRow_nil->dM,setCell->iK
open List renaming getD->bJ,getElem?_cons_zero->dD,getElem?_map->cO,getElem?_range->dW,getElem?_replicate->gz,getElem?_toArray->di,length->oP,map_append->eY,map_congr_left->fU,mem_cons->dG,mem_range->dJ,not_mem_nil->dP,range->aO,range_succ->dB,replicate->aS
open Nat renaming le_of_eq->vZ,le_refl->aC,le_trans->dZ,zero_le->bS
open Option renaming none->aj,some->az
set_option maxRecDepth 100000
set_option maxHeartbeats 16000000
set_option linter.unusedVariables false
set_option linter.unusedSimpArgs false
namespace Go.Proofs.YtnjjkgjdhljfnaaGreat
open Go.RowKit Go.Maps
section
attribute [local go_sem ↓] fJ fH
theorem Va(p q:Addr)(w:aG):CallsD aH 125 #[au (az p),au (az q)] .returning w fun e u' w'=>e=ax (.tuple #[])/\u'=.returning/\w=w':=by refine callsD_of_wpS func125 rfl fun c₀ cs hu=>?_;apply wpS_seq;apply wpS_region;simp[wpOpsS,go_sem,recoverD,hu,ntmps125,Exit.thenS];refine wpS_cond (t:=false) (by simp[Act.eval,Array.replicate]) ?_;simp only[Bool.false_eq_true,if_false];refine wpS_of_wp (wp_skip ?_);cases c₀;simp_all[bodyPostS,results,Tryz.results125]
theorem TH(c1 c2:Nat)(w:aG):(binOp .eql 184 (.func (.func 98) #[] #[au (az ⟨c1,0,aj⟩),au (az ⟨c2,0,aj⟩)]) .nilFunc).run aH w=.ok (.bool false) w:=by kernel_rfl
def aec(Z:Own)(o:Nat)(w:aG)(b:Nat)(X:Bx)(bz:Nat->Fm->Option Nat)(e:iM)(w':aG):Prop:=
 ∃(vM vF:aI) (Q:List (Fm×aI)) (dN:Own) (L':yM),e=ax (.tuple #[vM,vF])/\pO dN o w' b (X.step bz).1 L'/\Nx Z o w dN w'/\w'.ownsRow w.heap.size 189 3 vM (X.step bz).2.length ((X.step bz).2.flatMap cM)/\
  w'.ownsRow w.heap.size 59 6 vF Q.length (Q.flatMap Cx)/\Q.map (·.1)=(X.step bz).2.map (·.2.2.2)/\(∀x∈Q,iQ dN w' x.1.data x.2)/\(∀g,vM.ownBlock=az g->(dN g).1=0)/\∀g,vF.ownBlock=az g->(dN g).1=0
def StA(vT:Own)(w0:aG)(o b bB rM qJ bD bO:Nat)(X:Bx)(bz:Nat->Fm->Option Nat)(s:Bx×List Mv)(w:aG):Prop:=
 ∃(Z:Own) (L:yM) (vM vF:aI) (Q:List (Fm×aI)),Tp vT w0 o b bB rM qJ bD bO (fun p c=>(wV X bz p c:Int)) (fun p c=>pQ (Em X bz p c)) X.bE X.aX Z w s.1 L s.2 vM vF Q/\Q.map (·.1)=s.2.map (·.2.2.2)
theorem ZH(l:List Int):l.flatMap cI=l.map fun n=>ah .i64 n:=by
 induction l with
 |nil=>rfl
 |cons x l ih=>rw[List.flatMap_cons,ih];rfl
theorem VP:(Tryz.prog.info? 189).map (fun i=>(i.zero,i.size,i.bytes))=az (az (.agg #[ah ag 0,ah ag 0,ah ag 0]),3,24):=by kernel_rfl
def StB(vT:Own)(w0:aG)(o b bB rM qJ bD bO bM:Nat)(X:Bx)(bz:Nat->Fm->Option Nat)(s:Bx×List Mv)(w:aG):Prop:=
 ∃(Z:Own) (L:yM) (vM vF:aI) (Q:List (Fm×aI)),Tp vT w0 o b bB rM qJ bD bO (fun p c=>(wV X bz p c:Int)) (fun p c=>pQ (Em X bz p c)) X.bE X.aX Z w s.1 L s.2 vM vF Q/\Q.map (·.1)=s.2.map (·.2.2.2)/\
  dh w bM 3 (((Bn X bz).1.map optV).toArray)/\(Z bM).1=0
def adD(vT:Own)(w0:aG)(o b bB rM qJ bD bO bM:Nat)(X:Bx)(bz:Nat->Fm->Option Nat)(i:aI)(wr:aG):Prop:=
 ∃j:Nat,j<=X.bE/\i=ah ag j/\StB vT w0 o b bB rM qJ bD bO bM X bz (jC X bz j) wr
def aiZ(vT:Own)(w0:aG)(o b bB rM qJ bD bO bM j k:Nat)(X:Bx)(bz:Nat->Fm->Option Nat)(i:aI)(wr:aG):Prop:=
 ∃n:Nat,n<=X.aX/\i=ah ag n/\StB vT w0 o b bB rM qJ bD bO bM X bz (jC X bz j) wr/\
  ∀m,m<n->mR (Em X bz) (jC X bz j).1 j k (((jC X bz j).1.ptr.getD j 0+m)%X.aX)=false
theorem VW{X:Bx}{bz:Nat->Fm->Option Nat}{N:Nat}(hb:lW X N):(Bn X bz).1.length=X.bE:=by
 have h:=xZ (bz:=bz) hb;unfold Bn;have:∀r,((aO r).foldl (fun m r=>uY X.bE (Mq X bz) (r==0) m) ⟨aS X.bE aj,aS 8 false,(jf X bz).1.iU⟩).mt.length=X.bE/\Xl X.bE ((aO r).foldl (fun m r=>uY X.bE (Mq X bz) (r==0) m) ⟨aS X.bE aj,aS 8 false,(jf X bz).1.iU⟩):=by
  intro r
  induction r with
  |zero=>
   have e:∀i,(aS X.bE (aj:Option Nat)).getD i aj=aj:=fun i=>by simp only[bJ,gz];split<;>rfl
   refine⟨by simp,⟨by simp,by simp,fun i k h=>?_,fun i j k h=>?_,by rw[<-h.2.1];exact h.1.iU⟩⟩<;>(simp only[List.range_zero,List.foldl_nil]at h;rw[e]at h;cases h)
  |succ r ih=>rw[dB,List.foldl_append];have h1:=Kw (rq:=Mq X bz) (Ep:=(r==0)) hb.p1 ih.2;exact⟨h1.ok.ml,h1.ok⟩
 exact(this X.bE).1
theorem StA.cells{vT:Own}{w0 w:aG}{o b bB rM qJ bD bO:Nat}{X:Bx}{bz:Nat->Fm->Option Nat}{s:Bx×List Mv}(h:StA vT w0 o b bB rM qJ bD bO X bz s w)(hp:s.1.bE=X.bE)(hc:s.1.aX=X.aX):w.cell? ⟨bB,0,aj⟩=az (au (az ⟨b,0,aj⟩))/\w.cell? ⟨b,0,aj⟩=az (ah ag X.bE)/\w.cell? ⟨b,0+1,aj⟩=az (ah ag X.aX):=by
 obtain⟨Z,L,vM,vF,Q,h,_⟩:=h;refine⟨h.vb.1.cell 0,?_,?_⟩
 ·rw[h.bx.c0,hp]
 ·rw[h.bx.c1,hc]
theorem StB.below{vT:Own}{w0 w w':aG}{o b bB rM qJ bD bO bM:Nat}{X:Bx}{bz:Nat->Fm->Option Nat}{s:Bx×List Mv}(h:StB vT w0 o b bB rM qJ bD bO bM X bz s w)(k:aN w.heap.size w w'):StB vT w0 o b bB rM qJ bD bO bM X bz s w':=by obtain⟨Z,L,vM,vF,Q,h,hq,hm,ht⟩:=h;exact⟨_,L,vM,vF,Q,h.below k,hq,hm.below k hm.lt,by rw[gL hm.lt];exact ht⟩
theorem ahm(X:Bx)(L:yM){j c:Nat}(hj:j<8)(hl:X.ptr.length=8):(bxC X L).setIfInBounds (26+j) (ah ag c)=bxC {X with ptr:=X.ptr.set j c} L:=
 mH 36 _ _ _ _ fun i hi=>by
  by_cases e:i=26+j
  ·subst e;rw[if_pos rfl];unfold bxV;rw[if_neg (by omega),if_neg (by omega),if_neg (by omega),if_neg (by omega),if_neg (by omega),if_pos (by omega),show 26+j-26=j by omega,iO _ _ _ (by omega)]
  ·rw[if_neg e];unfold bxV;by_cases e2:26<=i/\i<34
   ·rw[if_neg (by omega),if_neg (by omega),if_neg (by omega),if_neg (by omega),if_neg (by omega),if_pos (by omega),if_neg (by omega),if_neg (by omega),if_neg (by omega),if_neg (by omega),if_neg (by omega),if_pos (by omega),iG _ _ _ (by omega)]
   ·repeat(first|(split;rfl)|rfl|split)
    all_goals first|rfl|omega
theorem StB.cells{vT:Own}{w0 w:aG}{o b bB rM qJ bD bO bM N:Nat}{X:Bx}{bz:Nat->Fm->Option Nat}{j:Nat}(h:StB vT w0 o b bB rM qJ bD bO bM X bz (jC X bz j) w)(hb:lW X N)(hj:j<=X.bE):w.cell? ⟨bB,0,aj⟩=az (au (az ⟨b,0,aj⟩))/\w.cell? ⟨b,0+1,aj⟩=az (ah ag X.aX)/\(∀i,i<X.bE->w.cell? ⟨b,26+i,aj⟩=az (ah ag ((jC X bz j).1.ptr.getD i 0:Nat)))/\∀i,i<X.bE->w.cell? ⟨bM,i,aj⟩=az (ah ag (pQ ((Bn X bz).1.getD i aj))):=by have ok:=zR (bz:=bz) hb hj;have ml:=VW (bz:=bz) hb;have p1:=hb.p1;obtain⟨Z,L,vM,vF,Q,h,_,hm,_⟩:=h;refine⟨h.vb.1.cell 0,by rw[h.bx.c1,ok.2.2.1],fun i hi=>h.bx.cp (by omega),fun i hi=>?_⟩;rw[hm.cell,xm optV aj _ (by rw[ml];exact hi),Fv]
theorem StA.alA{vT:Own}{w0 w:aG}{o b bB rM qJ bD bO:Nat}{X:Bx}{bz:Nat->Fm->Option Nat}{s:Bx×List Mv}(h:StA vT w0 o b bB rM qJ bD bO X bz s w){p c:Nat}(hp:p<X.bE)(hc:c<X.aX)(h8:X.bE<=8):∃g cap,w.cell? ⟨bD,p,aj⟩=az (ay (az ⟨g,0,aj⟩) X.aX cap)/\w.cell? ⟨g,c,aj⟩=az (ah ag (wV X bz p c:Nat)):=by obtain⟨Z,L,vM,vF,Q,h,_⟩:=h;exact h.dd.cells hp hc h8
def ajg(vT:Own)(w0:aG)(o b bB rM qJ bD bO:Nat)(X:Bx)(bz:Nat->Fm->Option Nat)(i:aI)(wr:aG):Prop:=
 ∃p:Nat,p<=X.bE/\i=ah ag p/\StA vT w0 o b bB rM qJ bD bO X bz (qE X bz p 0) wr
def ajh(vT:Own)(w0:aG)(o b bB rM qJ bD bO p:Nat)(X:Bx)(bz:Nat->Fm->Option Nat)(i:aI)(wr:aG):Prop:=
 ∃c:Nat,c<=X.aX/\i=ah ag c/\StA vT w0 o b bB rM qJ bD bO X bz (qE X bz p c) wr
def aji(vT:Own)(w0:aG)(o b bB rM qJ bD bO p c:Nat)(X:Bx)(bz:Nat->Fm->Option Nat)(i:aI)(wr:aG):Prop:=
 ∃j:Nat,j<=wV X bz p c/\i=ah ag j/\StA vT w0 o b bB rM qJ bD bO X bz (rF X bz p c j) wr
theorem JR(A:Nat->Option Addr)(Nn C:Nat->Nat):uq (fun i=>ay (A i) (Nn i) (C i))=#[ay (A 0) (Nn 0) (C 0),ay (A 1) (Nn 1) (C 1),ay (A 2) (Nn 2) (C 2),ay (A 3) (Nn 3) (C 3),ay (A 4) (Nn 4) (C 4),ay (A 5) (Nn 5) (C 5),ay (A 6) (Nn 6) (C 6),ay (A 7) (Nn 7) (C 7)]:=by simp[uq,dB]
theorem aaR(N:Nat)(bz:Nat->Fm->Option Nat)(c1 c2:Nat)(Z:Own)(o:Nat)(w:aG)(b:Nat)(X:Bx)(L:yM)(h:pO Z o w b X L)(ho:2<=o)(hx:lW X N)(hN:N<=999999999000)(hR:∀(p:Nat) (x:Fm) (v:aI) (w':aG),aN w.heap.size w w'->p<X.bE->(∃c,c<X.aX/\x∈dR X.q p c)->(∃a n cap,v=ay a n cap)->bZ aH 98 #[ah ag p,MU x v,pt c1,pt c2] w' fun e w''=>e=ax (ah ag (pQ (bz p x)))/\aN w'.heap.size w' w''):bZ aH 99 #[pt b,.func (.func 98) #[] #[pt c1,pt c2]] w (aec Z o w b X bz):=by
 obtain⟨w1,gK⟩:∃w1:aG,((w.alloc (af #[pt b] 101)).alloc (af #[ay aj 0 0] 185)).alloc (af #[ay aj 0 0] 110)=w1:=⟨_,rfl⟩;have BW:aY (aN w.heap.size w w1):=by rw[<-gK];exact(((aQ _ _).alloc (aC _) _).alloc (by simp) _).alloc (by simp;omega) _
 have S1:aY (w1.heap.size=w.heap.size+3):=by rw[<-gK,aY];simp
 have V1:aY (dh w1 w.heap.size 101 #[pt b]):=by rw[<-gK];exact((dh.new w _ _).alloc _).alloc _
 have V2:aY (dh w1 (w.heap.size+1) 185 #[ay aj 0 0]):=by rw[<-gK];have:=dh.new (w.alloc (af #[pt b] 101)) 185 #[ay aj 0 0];exact(by simpa using this:dh _ (w.heap.size+1) _ _).alloc _
 have V3:aY (dh w1 (w.heap.size+1+1) 110 #[ay aj 0 0]):=by rw[<-gK];have:=dh.new ((w.alloc (af #[pt b] 101)).alloc (af #[ay aj 0 0] 185)) 110 #[ay aj 0 0];rw[aY];simpa using this
 have H1:aY (pO Z o w1 b X L):=h.below BW.o;have LK:=aA (aaQ N bz c1 c2 Z o w1 b X L H1.o hx (fun p x v w' hb=>hR p x v w' (BW.o.trans (hb.mono BW.o.size))));have HM:=aA h;have HX:=aA hx;have c0:w1.cell? ⟨w.heap.size,0,aj⟩=az (au (az ⟨b,0,aj⟩)):=V1.o.cell 0;have HW:=aA gK;clear h hx hR gK;unfold pt at *;have hmf:∀(fn:Fn) (first cap:Array aI) (w:aG),(Instr.makeFunc fn first cap).run aH w=.ok (.func fn first cap) w:=fun _ _ _ _=>rfl;have hnf:=TH c1 c2
 go_enter_defers func99,ntmps99
 go_wp2_with fail;rw[HW.o]
 refine LK.o.mono ?_;rintro e wl ⟨V,U,rfl,rows,gm⟩;obtain⟨A,Nn,C,hA⟩:=xJ V X.bE (fun q hq=>qh (rows q hq).d);obtain⟨A',Un,C',hA'⟩:=xJ U X.bE (fun q hq=>qh (rows q hq).o);rw[hA,hA',JR,JR];have HA:=aA hA;have HA':=aA hA';have ROWS:=aA rows;have xM:=aA gm;clear hA hA' rows gm c0;have c0:wl.cell? ⟨w.heap.size,0,aj⟩=az (au (az ⟨b,0,aj⟩)):=(xM.out.cell (p:=⟨w.heap.size,0,aj⟩) V1.o.lt).trans (V1.o.cell 0);have c1z:=(H1.o.below xM.out).c0;have SL:w.heap.size+2<wl.heap.size:=by have h1:=xM.out.size;have h2:=S1.o;omega
 have LTB:=aZ _ _ c1z;simp only at LTB;have n1:w.heap.size<wl.heap.size:=by omega
 have n2:w.heap.size<wl.heap.size+1:=by omega
 have n3:b<wl.heap.size+1:=by omega
 have n4:¬w.heap.size=wl.heap.size:=by omega
 have n5:¬w.heap.size=wl.heap.size+1:=by omega
 have n6:¬b=wl.heap.size:=by omega
 have n7:¬b=wl.heap.size+1:=by omega
 obtain⟨w6,Yu⟩:∃w6:aG,(wl.alloc (af (uq (kK V X.bE (ay aj 0 0))) 231)).alloc (af (uq (kK U X.bE (ay aj 0 0))) 231)=w6:=⟨_,rfl⟩;have HW6:=aA Yu;have ST:aY (StA Z w o b w.heap.size (w.heap.size+1) (w.heap.size+1+1) wl.heap.size (wl.heap.size+1) X bz (qE X bz 0 0) w6):=by
  have b6:aN wl.heap.size wl w6:=by rw[<-Yu];exact((aQ _ _).alloc (aC _) _).alloc (by simp) _
  have s6:w6.heap.size=wl.heap.size+2:=by rw[<-Yu];simp
  have bw6:aN w.heap.size w w6:=(BW.o.trans (xM.out.mono BW.o.size)).trans (b6.mono (by omega));have hc:Ch (fun _=>False) w w6:=Ch.bY bw6;have he:∀k,k<w.heap.size->fr Z w.heap.size k=Z k:=fun k hk=>gL hk;have hf:∀k,w.heap.size<=k->(fr Z w.heap.size k).1=0:=fun k hk=>by rw[lL hk]
  have bD:dh w6 wl.heap.size 231 (uq (kK V X.bE (ay aj 0 0))):=by rw[<-Yu];exact(dh.new wl _ _).alloc _
  have bO:dh w6 (wl.heap.size+1) 231 (uq (kK U X.bE (ay aj 0 0))):=by rw[<-Yu];have:=dh.new (wl.alloc (af (uq (kK V X.bE (ay aj 0 0))) 231)) 231 (uq (kK U X.bE (ay aj 0 0)));simpa using this
  have bl1:∀{g t cs},g<w1.heap.size->dh w1 g t cs->dh w6 g t cs:=fun hg hb=>(hb.below xM.out hg).below b6 (by have:=xM.out.size;omega);refine⟨fr Z w.heap.size,L,ay aj 0 0,ay aj 0 0,[],⟨HM.o.jD hc he (fun _ s=>s.elim),Nx.bY bw6,⟨bl1 (by have:=S1.o;omega) V1.o,hf _ (aC _)⟩,⟨bl1 (by have:=S1.o;omega) V2.o,hf _ (by omega),by omega⟩,⟨bl1 (by have:=S1.o;omega) V3.o,hf _ (by omega),by omega⟩,
   ⟨dM _ _ _ _,by simp[dV]⟩,⟨dM _ _ _ _,by simp[dV]⟩,by simp,?_,?_⟩,rfl⟩
  ·refine zC.ZU (B:=w1.heap.size) (w:=wl) bD (hf _ (by omega)) HX.o.c0 (fun k h1 _=>hf k (by have:=S1.o;omega)) (fun p hp=>⟨(Ha X bz p X.aX).flatMap cI,?_,fun c qg=>?_⟩) b6
   ·have:=(ROWS.o p hp).d;rw[show(Ha X bz p X.aX).length=X.aX by simp[Ha]]at this;unfold kK;rw[if_pos hp];exact this
   ·unfold Ha;rw[ZH,cO,cO,dW qg];rfl
  ·refine zC.ZU (B:=w1.heap.size) (w:=wl) bO (hf _ (by omega)) HX.o.c0 (fun k h1 _=>hf k (by have:=S1.o;omega)) (fun p hp=>⟨(Hd X bz p X.aX).flatMap cI,?_,fun c qg=>?_⟩) b6
   ·have:=(ROWS.o p hp).o;rw[show(Hd X bz p X.aX).length=X.aX by simp[Hd]]at this;unfold kK;rw[if_pos hp];exact this
   ·unfold Hd;rw[ZH,cO,cO,dW qg];rfl
 clear Yu;go_wp2_with fail;rw[<-JR A Nn C,<-JR A' Un C',<-HA.o,<-HA'.o,HW6.o];clear c0 c1z SL LTB n1 n2 n3 n4 n5 n6 n7 HA HA' ROWS V1 V2 V3 H1 LK HW HW6 xM S1 BW;obtain⟨bB,hbB⟩:∃x,w.heap.size=x:=⟨_,rfl⟩;obtain⟨rM,alW⟩:∃x,w.heap.size+1=x:=⟨_,rfl⟩;obtain⟨qJ,alV⟩:∃x,w.heap.size+1+1=x:=⟨_,rfl⟩;have NE:aY (bB≠rM/\bB≠qJ):=by rw[aY];omega
 rw[alV,alW,hbB]at ST;rw[alV,alW,hbB];have HbB:=aA hbB;clear hbB alW alV;generalize wl.heap.size=bD at *;generalize bD+1=bO at *;have p1:=HX.o.p1;have xc1:=HX.o.c1;go_loopw [8,9,34,41,50] (fun _ _ i _ _ wr=>ajg Z w o b bB rM qJ bD bO X bz i wr) (fun _ _ i _ _ _=>X.bE-(aJ i).toNat);case atStart=>exact⟨0,bS _,rfl,ST.o⟩
 case round=>
  obtain⟨p,hp,rfl,Ic⟩:=hrel;have HST:=aA Ic;clear Ic;by_cases hpn:p<X.bE
  ·have DO:=aA (FY (bz:=bz) (p:=p) (c:=0) (j:=0) HX.o hpn HX.o.c0 (bS _));obtain⟨c0,c1,c2⟩:=HST.o.cells DO.o.2.1 DO.o.2.2.1;clear c1;go_wp2_with fail;clear c0 c2;obtain⟨wo,rfl⟩:∃wo:aG,wo=wr:=⟨_,rfl⟩;go_loopw [9,41,50] (fun _ i _ wr=>ajh Z w o b bB rM qJ bD bO p X bz i wr) (fun _ i _ _=>X.aX-(aJ i).toNat);case atStart=>exact⟨0,bS _,rfl,HST.o⟩
   case round=>
    obtain⟨c,hc,rfl,Ic⟩:=hrel;have HS2:=aA Ic;clear Ic;by_cases QA:c<X.aX
    ·obtain⟨g,cap,z1,z2⟩:=HS2.o.alA hpn QA p1;have p0':(0:Int)<=(p:Int):=by omega
     have p8':(p:Int)<8:=(by omega);have c0':(0:Int)<=(c:Int):=(by omega);have c8':(c:Int)<(X.aX:Int):=(by omega);have DN8:wV X bz p c<=64:=(by have h1:=(FY (bz:=bz) (p:=p) (c:=c) (j:=0) HX.o hpn QA (bS _)).2.2.2.2.2;have:=HX.o.Ws hpn QA;omega);go_wp2_with fail;clear z1 z2;obtain⟨wp,rfl⟩:∃wp:aG,wp=wr:=⟨_,rfl⟩;go_loopw [50] (fun i wr=>aji Z w o b bB rM qJ bD bO p c X bz i wr) (fun i _=>wV X bz p c-(aJ i).toNat);case atStart=>exact⟨0,bS _,rfl,HS2.o⟩
     case round=>
      obtain⟨j,hj,rfl,Ic⟩:=hrel;have HS3:=aA Ic;clear Ic;by_cases Ob:j<wV X bz p c
      ·
       obtain⟨τj,Lj,vM,vF,Q,hS,hq⟩:=HS3.o;have DO:=FY (bz:=bz) (p:=p) (c:=c) (j:=j) HX.o hpn QA hj;obtain⟨f,rest,hfr⟩:∃f rest,dR (rF X bz p c j).1.q p c=f::rest:=by
        cases e:dR (rF X bz p c j).1.q p c with
        |nil=>have h1:=DO.2.2.2.1;rw[e]at h1;have h2:=congrArg oP h1;simp at h2;have:=DO.2.2.2.2.2;omega
        |cons f rest=>exact⟨f,rest,rfl⟩
       have SUC:aY (rF X bz p c (j+1)=((rF X bz p c j).1.pop p c,(rF X bz p c j).2++[(p,c,aj,f)])):=(by rw[aY,Vq,hfr];rfl);generalize rF X bz p c j=s at *;obtain⟨B,mm⟩:=s;simp only at hS DO hfr SUC hq;have ML:mm.length<=4096:=DO.2.2.2.2.1;have QL:Q.length=mm.length:=(by have:=congrArg oP hq;simpa using this);have BOK:=aA DO.1;have BP:=aA DO.2.1;have BC:=aA DO.2.2.1;have HS:=aA hS;have HQ:=aA hq;have HFR:=aA hfr;have HQL:=aA QL;have XR:=hS.vm.1.cell 0;have cF0:=hS.vf.1.cell 0;have cB0:=hS.vb.1.cell 0;have WSZ:aY (w.heap.size<=wr.heap.size):=hS.nx.ch.size;obtain⟨aM,nM,kM,eM⟩:=qh hS.om.1;obtain⟨aF,nF,kF,eF⟩:=qh hS.Ih.1;have nMe:nM=mm.length:=(by obtain⟨a,cap,e,_⟩:=gZ (d:=((0,0,aj,default):Mv)) Lv (by decide) hS.om.1;rw[eM]at e;injection e);have nFe:nF=Q.length:=(by obtain⟨a,cap,e,_⟩:=gZ (d:=Ut) xw (by decide) hS.Ih.1;rw[eF]at e;injection e);subst eM eF nMe nFe;simp only[di,dD]at XR cF0 cB0;have OWM:aY ((wr.alloc (af #[ah ag p,ah ag c,ah ag (-1)] 189)).ownsRow w.heap.size 189 3 (ay aM mm.length kM) mm.length (mm.flatMap cM)):=hS.om.1.alloc _;have LT:rM<wr.heap.size:=hS.vm.1.lt;obtain⟨i0,hi0,wC,uX,wK⟩:=dX VP;clear hS DO hfr hq QL cF0 cB0;go_wp2_with (first
        |(at_builtin;refine gW _ rfl (.tmp 52) (.tmp 56) 185 rfl w.heap.size 189 i0 _ 3 24 underlying185 hi0 wC uX wK rfl (by decide) _ _ _ rfl OWM.o _ (az ⟨wr.heap.size,0,aj⟩) 1 1 [ah ag p,ah ag c,ah ag (-1)] rfl (iB wr _ [ah ag p,ah ag c,ah ag (-1)] (n:=1) (size:=3) rfl) ?c3 ?c4 ?c5 ?c6 ?_))
       case c3=>intro u hu;simp only[dG,dP,or_false]at hu;rcases hu with rfl|rfl|rfl<;>rfl
       case c4=>unfold fB;omega
       case c5=>omega
       case c6=>have:=WSZ.o;simp;omega
       intro v1 w2 nV yo Ao;obtain⟨Yt,hS1,_⟩:=HS.o.ajU (mv:=(p,c,aj,f)) ho WSZ.o NE.o.1 nV yo (by simpa using Ao);obtain⟨aM1,nM1,kM1,rfl⟩:=qh nV;have cm1:=Yt.cell 0;have fm1:=Yt.frozen 0;simp only[di,dD]at cm1;have HS1:=aA hS1.drew;have aHu:aY (w.heap.size<=(w2.setCell ⟨rM,0,aj⟩ (ay aM1 nM1 kM1)).heap.size):=hS1.nx.ch.size;have PP:=aA (Vd p c N f _ o _ b B Lj hS1.bx.drew ho BOK.o (by omega) (by rw[BP.o];exact hpn) (by rw[BC.o];exact QA) HFR.o);have KS:aY ((w2.setCell ⟨rM,0,aj⟩ (ay aM1 nM1 kM1)).drew.cell? ⟨qJ,0,aj⟩=az (ay aF Q.length kF)/\(w2.setCell ⟨rM,0,aj⟩ (ay aM1 nM1 kM1)).drew.cell? ⟨bB,0,aj⟩=az (au (az ⟨b,0,aj⟩))):=⟨hS1.vf.1.cell 0,hS1.vb.1.cell 0⟩;clear nV yo Ao Yt hS1 OWM LT;go_wp2_with fail;clear cm1 fm1 XR;generalize zP:w2.setCell ⟨rM,0,aj⟩ (ay aM1 nM1 kM1)=w3 at *;clear zP;refine wp_region_noPanic ?_;refine fQ 7 (fun w'=>w'.cell? ⟨qJ,0,aj⟩=az (ay aF Q.length kF)/\w'.cell? ⟨bB,0,aj⟩=az (au (az ⟨b,0,aj⟩))) (by kernel_rfl) KS.o (fun aW=>?_);refine bH.tk 0 aW ?_;try simp only[bI]
       refine bH.tk 1 aW ?_;try simp only[bI]
       refine bH.tk 2 aW ?_;try simp only[bI]
       refine bH.tk 3 aW ?_;try simp only[bI]
       refine bH.one (i:=4) (by kernel_rfl) rfl (fun K hK=>?_);go_simp;refine PP.o.mono ?_;rintro e wq ⟨v,rfl,IV,τq,Lq,IQ,hnx⟩;have QG:=aA (HS1.o.post ho IQ hnx);have DAT:=aA (IV.nx hnx ho);obtain⟨da,dc,rfl,_⟩:=IV;have KQ:aY (wq.cell? ⟨qJ,0,aj⟩=az (ay aF Q.length kF)/\wq.cell? ⟨bB,0,aj⟩=az (au (az ⟨b,0,aj⟩))):=⟨QG.o.vf.1.cell 0,QG.o.vb.1.cell 0⟩;clear IQ hnx;refine hK.out _ _ (fun _=>KQ.o) (fun bU=>?_);have aW:=bU (by decide);clear hK bU;try simp only[bI]
       try simp only[MU]
       refine bH.one (i:=5) (by kernel_rfl) rfl (fun K hK=>?_);go_simp;have KA:aY ((wq.alloc (af #[ah ag f.id,ah ag f.jR,ah ag f.kU,ah ag f.cls,ah ag f.ep,ay da f.data.length dc] 59)).cell? ⟨qJ,0,aj⟩=az (ay aF Q.length kF)/\(wq.alloc (af #[ah ag f.id,ah ag f.jR,ah ag f.kU,ah ag f.cls,ah ag f.ep,ay da f.data.length dc] 59)).cell? ⟨bB,0,aj⟩=az (au (az ⟨b,0,aj⟩))):=⟨(QG.o.vf.1.alloc _).cell 0,(QG.o.vb.1.alloc _).cell 0⟩;refine hK.out _ _ (fun _=>KA.o) (fun bU=>?_);have aW:=bU (by decide);clear hK bU;try simp only[bI]
       have OQ:aY ((wq.alloc (af #[ah ag f.id,ah ag f.jR,ah ag f.kU,ah ag f.cls,ah ag f.ep,ay da f.data.length dc] 59)).ownsRow w.heap.size 59 6 (ay aF Q.length kF) Q.length (Q.flatMap Cx)):=QG.o.Ih.1.alloc _;obtain⟨j0,xI,zb,Ad,Ae⟩:=dX Ck;have WSQ:aY (w.heap.size<=wq.heap.size):=QG.o.nx.ch.size;have RN:aY (Reads (wq.alloc (af #[ah ag f.id,ah ag f.jR,ah ag f.kU,ah ag f.cls,ah ag f.ep,ay da f.data.length dc] 59)) (wq.heap.size+1) 6 (az ⟨wq.heap.size,0,aj⟩) 1 [ah ag f.id,ah ag f.jR,ah ag f.kU,ah ag f.cls,ah ag f.ep,ay da f.data.length dc]):=iB wq 59 [ah ag f.id,ah ag f.jR,ah ag f.kU,ah ag f.cls,ah ag f.ep,ay da f.data.length dc] (n:=1) (size:=6) rfl;refine bH.one (i:=6) (by kernel_rfl) rfl (fun K hK=>?_);refine fV _ (by rfl) (.tmp 58) (.tmp 63) 110 (by rfl) w.heap.size 59 j0 _ 6 64 underlying110 xI zb Ad Ae rfl (by decide) _ _ _ (by rfl) OQ.o _ (az ⟨wq.heap.size,0,aj⟩) 1 1 [ah ag f.id,ah ag f.jR,ah ag f.kU,ah ag f.cls,ah ag f.ep,ay da f.data.length dc] (by rfl) RN.o ?_ ?_ ?_ ?_ ?_
       ·intro u hu;simp only[dG,dP,or_false]at hu;rcases hu with rfl|rfl|rfl|rfl|rfl|rfl<;>rfl
       ·have:=HQL.o;unfold fB;omega
       ·have:=HQL.o;omega
       ·have:=WSQ.o;simp;omega
       intro v5 w5 uI zM Df;obtain⟨hbf,hS5,_⟩:=QG.o.ajT (x:=f) (v:=ay da f.data.length dc) ho WSQ.o NE.o.2 DAT.o uI zM (by simpa using Df);obtain⟨aF5,nF5,kF5,rfl⟩:=qh uI;have KZ:aY (w5.cell? ⟨qJ,0,aj⟩=az (ay aF Q.length kF)/\w5.cell? ⟨bB,0,aj⟩=az (au (az ⟨b,0,aj⟩))):=⟨hbf.cell 0,by have h1:=((QG.o.vb.1.alloc (af #[ah ag f.id,ah ag f.jR,ah ag f.kU,ah ag f.cls,ah ag f.ep,ay da f.data.length dc] 59)).grown zM fun e=>by obtain⟨cs,hb⟩:=kH QG.o.Ih.1 _ e.symm;exact dh.sU QG.o.vb.1 hb (by decide) rfl);exact h1.cell 0⟩;have HS5:=aA hS5;have cf5:=hbf.cell 0;have ff5:=hbf.frozen 0;simp only[di,dD]at cf5;clear uI zM Df hbf hS5;refine hK.out _ _ (fun _=>KZ.o) (fun bU=>?_);have aW:=bU (by decide);clear hK bU;try simp only[bI]
       refine bH.one (i:=7) (by kernel_rfl) rfl (fun K hK=>?_);go_simp;refine hK.out _ _ (fun h=>absurd rfl h) (fun _=>?_);clear hK;refine bH.done (by kernel_rfl) ?_ _;try simp only[bI]
       refine NoPanic.normal ?_;have iZ:aY (aji Z w o b bB rM qJ bD bO p c X bz (ah ag ((j+1:Nat):Int)) (w5.setCell ⟨qJ,0,aj⟩ (ay aF5 nF5 kF5))):=⟨j+1,by omega,rfl,by rw[SUC.o];exact⟨_,_,_,_,_,HS5.o,by simp[HQ.o]⟩⟩;clear cf5 ff5;go_wp2_with fail;exact⟨by simpa using iZ.out,by simp[aJ];omega⟩
      ·obtain rfl:wV X bz p c=j:=by omega
       have iZ:aY (ajh Z w o b bB rM qJ bD bO p X bz (ah ag ((c+1:Nat):Int)) wr):=⟨c+1,by omega,rfl,by rw[<-Pj];exact HS3.o⟩;go_wp2_with fail;exact⟨by simpa using iZ.out,by simp[aJ];omega⟩
    ·obtain rfl:X.aX=c:=by omega
     have iZ:aY (ajg Z w o b bB rM qJ bD bO X bz (ah ag ((p+1:Nat):Int)) wr):=⟨p+1,by omega,rfl,by rw[Rw];exact HS2.o⟩;go_wp2_with fail;exact⟨by simpa using iZ.out,by simp[aJ];omega⟩
  ·obtain rfl:X.bE=p:=by omega
   obtain⟨τe,Le,vM,vF,Q,hS,hq⟩:=HST.o;have DE:=xZ (bz:=bz) HX.o;have MO:=aA (TU (bz:=bz) HX.o);have ML:=aA (VW (bz:=bz) HX.o);have RQ:aY (acy (Em X bz) (jf X bz).1=Mq X bz):=(by rw[aY];unfold acy Mq;rw[DE.2.2.1]);have MT:aY ((DY X.bE (Mq X bz) (jf X bz).1.iU X.bE).mt=(Bn X bz).1/\(DY X.bE (Mq X bz) (jf X bz).1.iU X.bE).iU=(Bn X bz).2):=⟨rfl,rfl⟩;have M0:aY (jC X bz 0=({(jf X bz).1 with iU:=(Bn X bz).2},(jf X bz).2)):=rfl;have ES:aY (qE X bz X.bE 0=jf X bz):=rfl;rw[ES.o]at hS hq;generalize jf X bz=E at *;obtain⟨E,mm⟩:=E;simp only at hS hq DE RQ MT M0;have EP:=DE.2.1;have EC:=DE.2.2.1;have RC:aY (∀w',aN wr.heap.size wr w'->bZ aH 131 #[au (az ⟨b,0,aj⟩),.func (.func 128) #[] #[au (az ⟨bO,0,aj⟩),au (az ⟨bB,0,aj⟩)]] w' (Tn X.bE (Mq X bz) w')):=fun w' hb=>(by have h1:=hS.below hb;have h2:=QK N (Em X bz) bO bB _ o w' b E Le h1.bx DE.1 (by omega) (by rw[EP,EC];exact h1.oo) (h1.vb.1.cell 0);rw[EP,RQ.o]at h2;exact h2);have HSe:=aA hS;have HQ:=aA hq;have EOK:=aA DE.1;have HEP:=aA EP;have HEC:=aA EC;have KC:aY (∀w',aN wr.heap.size wr w'->w'.cell? ⟨bB,0,aj⟩=az (au (az ⟨b,0,aj⟩))/\w'.cell? ⟨b,34,aj⟩=az (au (az ⟨Le.bb,0,aj⟩))/\w'.cell? ⟨b,0,aj⟩=az (ah ag X.bE)/\dh w' Le.bb 201 (((yA E.iU X.bE).map Ur).toArray)):=fun w' hb=>(by have h1:=HSe.o.below hb;exact⟨h1.vb.1.cell 0,h1.bx.cb,by rw[h1.bx.c0,HEP.o],by have:=h1.bx.iU.1;rw[HEP.o]at this;exact this⟩);have KM:aY (∀wq wm,aN wr.heap.size wr wq->Ch (· =Le.bb) wq wm->wm.cell? ⟨bB,0,aj⟩=az (au (az ⟨b,0,aj⟩))/\wm.cell? ⟨b,34,aj⟩=az (au (az ⟨Le.bb,0,aj⟩))/\wm.cell? ⟨b,0,aj⟩=az (ah ag X.bE)):=fun wq wm hb hc=>(by have h1:=HSe.o.below hb;obtain⟨k1,k2,k3,_⟩:=KC.o wq hb;have n1:¬bB=Le.bb:=fun e=>(by have q1:=h1.vb.2;have q2:=h1.bx.iU.2;rw[e,q2]at q1;simp at q1;omega);have n2:¬b=Le.bb:=fun e=>(by have q1:=h1.bx.root.2;have q2:=h1.bx.iU.2;rw[<-e,q1]at q2;simp at q2);exact⟨(hc.cell (p:=⟨bB,0,aj⟩) h1.vb.1.lt n1).trans k1,(hc.cell (p:=⟨b,34,aj⟩) h1.bx.root.1.lt n2).trans k2,(hc.cell (p:=⟨b,0,aj⟩) h1.bx.root.1.lt n2).trans k3⟩);have aoH:aY (∀wq wm bM bT,aN wr.heap.size wr wq->Ch (· =Le.bb) wq wm->wr.heap.size<=bM->bM<wq.heap.size\/wq.heap.size<=bM->ru wm Le.bb bM bT X.bE (DY X.bE (Mq X bz) E.iU X.bE)->StB Z w o b bB rM qJ bD bO bM X bz (jC X bz 0) wm):=fun wq wm bM bT hb hc hl _ hM=>by
    have h1:=HSe.o.below hb;have h2:=h1.bx.iU.2;have nx:Nx (fr τe wr.heap.size) o wq (fr (fr τe wr.heap.size) wq.heap.size) wm:=Nx.RV hc fun k e=>(by rw[e,h2]);have h3:=h1.bx.Zj.Mr ho (B:=(Bn X bz).2) hc (by have:=hM.iU;rw[MT.o.2]at this;rw[HEP.o];exact this);refine⟨_,_,_,_,_,by rw[M0.o];exact h1.post ho h3 nx,by rw[M0.o];exact HQ.o,by have:=hM.mt;rw[MT.o.1]at this;exact this,?_⟩;by_cases e:bM<wq.heap.size
    ·rw[gL e,lL hl]
    ·rw[lL (by omega)]
   have BO2:aY (qR E.iU X.bE):=(by rw[<-HEP.o];exact EOK.o.iU);clear hS hq DE EP EC;go_wp2_with fail;go_region_held3 (fun w'=>w'.cell? ⟨bB,0,aj⟩=az (au (az ⟨b,0,aj⟩))/\w'.cell? ⟨b,34,aj⟩=az (au (az ⟨Le.bb,0,aj⟩))/\w'.cell? ⟨b,0,aj⟩=az (ah ag X.bE))
    (first|exact⟨(KC.o _ ((aQ _ _).drew)).1,(KC.o _ ((aQ _ _).drew)).2.1,(KC.o _ ((aQ _ _).drew)).2.2.1⟩|exact⟨(KC.o _ BQ.o).1,(KC.o _ BQ.o).2.1,(KC.o _ BQ.o).2.2.1⟩|exact KM.o _ _ BQ.o CM.o)
    (first
     |(go_at_call 131;refine(RC.o _ (aQ _ _).drew).mono ?_;rintro e wq ⟨R,rfl,hR,bq,lR⟩;have HR:=aA hR;have BQ:aY (aN wr.heap.size wr wq):=(show aN wr.heap.size wr wq from⟨bq.os,bq.tape,bq.output,bq.size,bq.block⟩);clear hR bq lR)
     |(go_at_call 130;refine(XL X.bE X.bE (az ⟨R,0,aj⟩) (Mq X bz) E.iU Le.bb wq HR.o (KC.o _ BQ.o).2.2.2 BO2.o).mono ?_;rintro e wm ⟨bM,bT,rfl,lM,hM,cm⟩;have HMM:=aA hM;have CM:=aA cm;have LM:=aA lM;clear hM cm lM))
   have STB:=aA (aoH.out wq wm bM bT BQ.o CM.o (dZ BQ.o.size LM.o) (by omega) HMM.o);clear aoH KM HMM CM LM BO2 HR BQ KC RC;go_wp2_with fail;clear HST HSe HQ EOK HEP HEC MO ML RQ MT M0 ES;obtain⟨wz,rfl⟩:∃wz:aG,wz=wr:=⟨_,rfl⟩;go_loopw [13,14,15,16,86,97] (fun _ _ _ _ i _ wr=>adD Z w o b bB rM qJ bD bO bM X bz i wr) (fun _ _ _ _ i _ _=>X.bE-(aJ i).toNat);case atStart=>exact⟨0,bS _,rfl,STB.o⟩
   case round=>
    obtain⟨j,hj,rfl,Ic⟩:=hrel;have HB1:=aA Ic;clear Ic STB;by_cases Ob:j<X.bE
    ·obtain⟨c0,c1,c2,c3⟩:=HB1.o.cells HX.o hj;have cm:=c3 j Ob;have j0:(0:Int)<=(j:Int):=(by omega);have j8:(j:Int)<(X.bE:Int):=(by omega);have MS:=aA (TV X bz j);clear c2 c3;cases hk:(Bn X bz).1.getD j aj with
     |none=>rw[hk,aci]at cm;have iZ:aY (adD Z w o b bB rM qJ bD bO bM X bz (ah ag ((j+1:Nat):Int)) wr):=⟨j+1,by omega,rfl,by rw[MS.o];unfold ZT;rw[hk];exact HB1.o⟩;clear hk c0 c1;go_wp2_with fail;exact⟨by simpa using iZ.out,by simp[aJ];omega⟩
     |some k=>
      rw[hk,Sb]at cm;have MK:aY (jC X bz (j+1)=Qc (Em X bz) j k (jC X bz j)):=by rw[aY,MS.o];unfold ZT;rw[hk]
      have kn:k<X.bE:=((TU (bz:=bz) HX.o).1.lt j k hk).2.1;clear hk MS;have kk0:(0:Int)<=(k:Int):=(by omega);have aoG:aY (∀wx,StB Z w o b bB rM qJ bD bO bM X bz (jC X bz (j+1)) wx->adD Z w o b bB rM qJ bD bO bM X bz (ah ag ((j:Int)+1)) wx):=fun wx hx=>⟨j+1,by omega,by simp,hx⟩;go_wp2_with fail;clear c0 c1 cm;obtain⟨wy,rfl⟩:∃wy:aG,wy=wr:=⟨_,rfl⟩;go_loopw [15,16,97] (fun _ _ i wr=>aiZ Z w o b bB rM qJ bD bO bM j k X bz i wr) (fun _ _ i _=>X.aX-(aJ i).toNat);case atStart=>exact⟨0,bS _,rfl,HB1.o,fun m hm=>by omega⟩
      case round=>
       obtain⟨n,hn,rfl,Ic,Pt⟩:=hrel;have HB2:=aA Ic;have Xh:=aA Pt;clear Ic Pt;have WW:=aA (zR (bz:=bz) HX.o hj);by_cases hnn:n<X.aX
       ·obtain⟨c0,c1,c2,_⟩:=HB2.o.cells HX.o hj;have cp:=c2 j Ob;have PT:(jC X bz j).1.ptr.getD j 0<8:=(by have h1:=WW.o.1.pt j;rw[WW.o.2.2.1]at h1;omega);clear c2;have aoV:=aA MK.o;generalize hs:jC X bz j=s at *;obtain⟨B,mm⟩:=s;simp only at cp PT;have MDc:aY ((((B.ptr.getD j 0:Nat):Int)+(n:Int))%(X.aX:Int)=(((B.ptr.getD j 0+n)%X.aX:Nat):Int)):=(by rw[aY];push_cast;rfl);have clt:(B.ptr.getD j 0+n)%X.aX<X.aX:=Nat.mod_lt _ (by omega);generalize hpj:B.ptr.getD j 0=pj at cp PT MDc clt;have Hpj:=aA hpj;have Hs:=aA hs;clear hpj hs MK;have nn8:(n:Int)<8:=(by omega);have q1:IntKind.i64.wrap ((pj:Int)+(n:Int))=(pj:Int)+(n:Int):=fE _ (by omega);go_wp2_with fail;go_quiet (fail);clear q1;go_wp2_with fail;have SBn:aY (StB Z w o b bB rM qJ bD bO bM X bz (B,mm) (wr.drewN nq)):=HB2.o.below (below_drewN (aQ _ _) nq);obtain⟨τB,LB,vM,vF,Q,hS,hq,hm,ht⟩:=SBn.o;have RDY:=aA (OY j k ((pj+n)%X.aX) (N+8) (Em X bz) bO bB τB τB o (wr.drewN nq) b B LB hS.bx WW.o.1 (by omega) (by rw[WW.o.2.1];exact Ob) (by rw[WW.o.2.1];exact kn) (by rw[WW.o.2.2.1];exact clt) (by rw[WW.o.2.1,WW.o.2.2.1];exact hS.oo) (hS.vb.1.cell 0));clear hS hq hm ht c0 c1 cp;rw[MDc.o];have FC:aY (mR (Em X bz) B j k ((pj+n)%X.aX)=true->oz B.aX (B.ptr.getD j 0) (mR (Em X bz) B j k)=az ((pj+n)%X.aX)):=fun h=>by
         rw[WW.o.2.2.1,Hpj.o];exact yC hnn h (fun m hm=>by have:=Xh.o m hm;rw[Hpj.o]at this;exact this)
        have NO2:aY (mR (Em X bz) B j k ((pj+n)%X.aX)=false->∀m,m<n+1->mR (Em X bz) B j k ((B.ptr.getD j 0+m)%X.aX)=false):=fun h m hm=>by
         by_cases e:m=n
         ·subst e;rw[Hpj.o];exact h
         ·exact Xh.o m (by omega)
        generalize(pj+n)%X.aX=cl at *;clear Xh MDc;cases hr:mR (Em X bz) B j k cl with
        |false=>rw[hr]at RDY;have NO3:=aA (NO2.o hr);clear hr NO2 FC;refine RDY.o.mono ?_;rintro e wq ⟨rfl,bq⟩;have SBq:=aA (SBn.o.below bq);clear bq;have iZ:aY (aiZ Z w o b bB rM qJ bD bO bM j k X bz (ah ag ((n:Int)+1)) wq):=⟨n+1,by omega,by simp,by rw[Hs.o];exact SBq.o,by rw[Hs.o];exact NO3.o⟩;go_wp2_with fail;exact⟨iZ.out,by simp[aJ];omega⟩
        |true=>
         rw[hr]at RDY;have FC2:=aA (FC.o hr);have RB:aY (Em X bz j cl=az k/\0<(dR B.tk k cl).left):=by rw[aY];unfold mR at hr;simpa using hr
         clear hr NO2 FC;refine RDY.o.mono ?_;rintro e wq ⟨rfl,bq⟩;have SBq:=aA (SBn.o.below bq);clear bq RDY SBn HB2;obtain⟨τj,Lj,vM,vF,Q,hS,hq,hm,ht⟩:=SBq.o;simp only at hS hq;have DE:=xZ (bz:=bz) HX.o;obtain⟨f,rest,ard,hrf,_⟩:=DE.2.2.2.2 j cl k Ob clt RB.o.1;have hfr:dR B.q j cl=f::rest:=(WW.o.2.2.2.2 j cl (aC _)).trans ard;have MI:aY (jC X bz (j+1)=({B.pop j cl with tk:=mW (B.pop j cl).tk k cl (dR (B.pop j cl).tk k cl).take,ptr:=(B.pop j cl).ptr.set j ((cl+1)%(B.pop j cl).aX)},mm++[(j,cl,az k,f)])):=by rw[aY,aoV.out];unfold Qc;simp only;rw[FC2.o];simp only;rw[hfr];rfl
         have ML:mm.length<=5000:=dZ WW.o.2.2.2.1 (by decide);have QL:Q.length=mm.length:=(by have:=congrArg oP hq;simpa using this);have BOK:aY (lW B (N+8)):=WW.o.1;have BP:aY (B.bE=X.bE):=WW.o.2.1;have BC:aY (B.aX=X.aX):=WW.o.2.2.1;have HS:=aA hS;have HQ:=aA hq;have HM2:=aA hm;have HT2:=aA ht;have HFR:=aA hfr;have HQL:=aA QL;have XR:=hS.vm.1.cell 0;have WSZ:aY (w.heap.size<=wq.heap.size):=hS.nx.ch.size;obtain⟨aM,nM,kM,eM⟩:=qh hS.om.1;obtain⟨aF,nF,kF,eF⟩:=qh hS.Ih.1;have nMe:nM=mm.length:=(by obtain⟨a,cap,e,_⟩:=gZ (d:=((0,0,aj,default):Mv)) Lv (by decide) hS.om.1;rw[eM]at e;injection e);have nFe:nF=Q.length:=(by obtain⟨a,cap,e,_⟩:=gZ (d:=Ut) xw (by decide) hS.Ih.1;rw[eF]at e;injection e);subst eM eF nMe nFe;simp only[di,dD]at XR;have OWM:aY ((wq.alloc (af #[ah ag j,ah ag cl,ah ag k] 189)).ownsRow w.heap.size 189 3 (ay aM mm.length kM) mm.length (mm.flatMap cM)):=hS.om.1.alloc _;have LT:rM<wq.heap.size:=hS.vm.1.lt;obtain⟨i0,hi0,wC,uX,wK⟩:=dX VP;clear hS hfr hq QL hm ht DE ard hrf WW aoV FC2;go_wp2_with (first
          |(at_builtin;refine gW _ rfl (.tmp 119) (.tmp 124) 185 rfl w.heap.size 189 i0 _ 3 24 underlying185 hi0 wC uX wK rfl (by decide) _ _ _ rfl OWM.o _ (az ⟨wq.heap.size,0,aj⟩) 1 1 [ah ag j,ah ag cl,ah ag k] rfl (iB wq _ [ah ag j,ah ag cl,ah ag k] (n:=1) (size:=3) rfl) ?d3 ?d4 ?d5 ?d6 ?_))
         case d3=>intro u hu;simp only[dG,dP,or_false]at hu;rcases hu with rfl|rfl|rfl<;>rfl
         case d4=>unfold fB;omega
         case d5=>omega
         case d6=>have:=WSZ.o;simp;omega
         intro v1 w2 nV yo Ao;obtain⟨Yt,hS1,hI1⟩:=HS.o.ajU (mv:=(j,cl,az k,f)) ho WSZ.o NE.o.1 nV yo (by simpa using Ao);obtain⟨aM1,nM1,kM1,rfl⟩:=qh nV;have cm1:=Yt.cell 0;have fm1:=Yt.frozen 0;simp only[di,dD]at cm1;have HS1:=aA hS1.drew;have HM3:=aA (hI1 bM _ HM2.o);have PP:=aA (Vd j cl (N+8) f _ o _ b B Lj hS1.bx.drew ho BOK.o (by omega) (by rw[BP.o];exact Ob) (by rw[BC.o];exact clt) HFR.o);have KS:aY ((w2.setCell ⟨rM,0,aj⟩ (ay aM1 nM1 kM1)).drew.cell? ⟨qJ,0,aj⟩=az (ay aF Q.length kF)/\(w2.setCell ⟨rM,0,aj⟩ (ay aM1 nM1 kM1)).drew.cell? ⟨bB,0,aj⟩=az (au (az ⟨b,0,aj⟩))):=⟨hS1.vf.1.cell 0,hS1.vb.1.cell 0⟩;clear nV yo Ao Yt hS1 OWM LT hI1;go_wp2_with fail;clear cm1 fm1 XR;generalize zP:w2.setCell ⟨rM,0,aj⟩ (ay aM1 nM1 kM1)=w3 at *;clear zP;refine wp_region_noPanic ?_;refine fQ 7 (fun w'=>w'.cell? ⟨qJ,0,aj⟩=az (ay aF Q.length kF)/\w'.cell? ⟨bB,0,aj⟩=az (au (az ⟨b,0,aj⟩))) (by kernel_rfl) KS.o (fun aW=>?_);refine bH.tk 0 aW ?_;try simp only[bI]
         refine bH.tk 1 aW ?_;try simp only[bI]
         refine bH.tk 2 aW ?_;try simp only[bI]
         refine bH.tk 3 aW ?_;try simp only[bI]
         refine bH.one (i:=4) (by kernel_rfl) rfl (fun K hK=>?_);go_simp;refine PP.o.mono ?_;rintro e wp ⟨v,rfl,IV,τq,Lq,IQ,hnx⟩;have QG:=aA (HS1.o.post ho IQ hnx);have HM4:aY (dh wp bM 3 (((Bn X bz).1.map optV).toArray)/\(τq bM).1=0):=(by have h1:=HM3.o.1;have h2:(fr τj wq.heap.size bM).1=0:=(by rw[HM3.o.2];exact HT2.o);exact⟨h1.drew.ch hnx.ch (by rw[h2];omega),by rw[hnx.ext _ h1.lt];exact h2⟩);have DAT:=aA (IV.nx hnx ho);obtain⟨da,dc,rfl,_⟩:=IV;have KQ:aY (wp.cell? ⟨qJ,0,aj⟩=az (ay aF Q.length kF)/\wp.cell? ⟨bB,0,aj⟩=az (au (az ⟨b,0,aj⟩))):=⟨QG.o.vf.1.cell 0,QG.o.vb.1.cell 0⟩;clear IQ hnx;refine hK.out _ _ (fun _=>KQ.o) (fun bU=>?_);have aW:=bU (by decide);clear hK bU;try simp only[bI]
         try simp only[MU]
         refine bH.one (i:=5) (by kernel_rfl) rfl (fun K hK=>?_);go_simp;have KA:aY ((wp.alloc (af #[ah ag f.id,ah ag f.jR,ah ag f.kU,ah ag f.cls,ah ag f.ep,ay da f.data.length dc] 59)).cell? ⟨qJ,0,aj⟩=az (ay aF Q.length kF)/\(wp.alloc (af #[ah ag f.id,ah ag f.jR,ah ag f.kU,ah ag f.cls,ah ag f.ep,ay da f.data.length dc] 59)).cell? ⟨bB,0,aj⟩=az (au (az ⟨b,0,aj⟩))):=⟨(QG.o.vf.1.alloc _).cell 0,(QG.o.vb.1.alloc _).cell 0⟩;refine hK.out _ _ (fun _=>KA.o) (fun bU=>?_);have aW:=bU (by decide);clear hK bU;try simp only[bI]
         have OQ:aY ((wp.alloc (af #[ah ag f.id,ah ag f.jR,ah ag f.kU,ah ag f.cls,ah ag f.ep,ay da f.data.length dc] 59)).ownsRow w.heap.size 59 6 (ay aF Q.length kF) Q.length (Q.flatMap Cx)):=QG.o.Ih.1.alloc _;obtain⟨j0',xI,zb,Ad,Ae⟩:=dX Ck;have WSQ:aY (w.heap.size<=wp.heap.size):=QG.o.nx.ch.size;have RN:aY (Reads (wp.alloc (af #[ah ag f.id,ah ag f.jR,ah ag f.kU,ah ag f.cls,ah ag f.ep,ay da f.data.length dc] 59)) (wp.heap.size+1) 6 (az ⟨wp.heap.size,0,aj⟩) 1 [ah ag f.id,ah ag f.jR,ah ag f.kU,ah ag f.cls,ah ag f.ep,ay da f.data.length dc]):=iB wp 59 [ah ag f.id,ah ag f.jR,ah ag f.kU,ah ag f.cls,ah ag f.ep,ay da f.data.length dc] (n:=1) (size:=6) rfl;refine bH.one (i:=6) (by kernel_rfl) rfl (fun K hK=>?_);refine fV _ (by rfl) (.tmp 126) (.tmp 131) 110 (by rfl) w.heap.size 59 j0' _ 6 64 underlying110 xI zb Ad Ae rfl (by decide) _ _ _ (by rfl) OQ.o _ (az ⟨wp.heap.size,0,aj⟩) 1 1 [ah ag f.id,ah ag f.jR,ah ag f.kU,ah ag f.cls,ah ag f.ep,ay da f.data.length dc] (by rfl) RN.o ?_ ?_ ?_ ?_ ?_
         ·intro u hu;simp only[dG,dP,or_false]at hu;rcases hu with rfl|rfl|rfl|rfl|rfl|rfl<;>rfl
         ·have:=HQL.o;unfold fB;omega
         ·have:=HQL.o;omega
         ·have:=WSQ.o;simp;omega
         intro v5 w5 uI zM Df;obtain⟨hbf,hS5,hI5⟩:=QG.o.ajT (x:=f) (v:=ay da f.data.length dc) ho WSQ.o NE.o.2 DAT.o uI zM (by simpa using Df);obtain⟨aF5,nF5,kF5,rfl⟩:=qh uI;have KZ:aY (w5.cell? ⟨qJ,0,aj⟩=az (ay aF Q.length kF)/\w5.cell? ⟨bB,0,aj⟩=az (au (az ⟨b,0,aj⟩))):=⟨hbf.cell 0,by have h1:=((QG.o.vb.1.alloc (af #[ah ag f.id,ah ag f.jR,ah ag f.kU,ah ag f.cls,ah ag f.ep,ay da f.data.length dc] 59)).grown zM fun e=>by obtain⟨cs,hb⟩:=kH QG.o.Ih.1 _ e.symm;exact dh.sU QG.o.vb.1 hb (by decide) rfl);exact h1.cell 0⟩;have HS5:=aA hS5;have HM5:aY (dh (w5.setCell ⟨qJ,0,aj⟩ (ay aF5 nF5 kF5)) bM 3 (((Bn X bz).1.map optV).toArray)/\(fr τq wp.heap.size bM).1=0):=(by have h1:=hI5 bM _ HM4.o.1;exact⟨h1.1,by rw[h1.2];exact HM4.o.2⟩);have cf5:=hbf.cell 0;have ff5:=hbf.frozen 0;simp only[di,dD]at cf5;clear uI zM Df hbf hS5 hI5;refine hK.out _ _ (fun _=>KZ.o) (fun bU=>?_);have aW:=bU (by decide);clear hK bU;try simp only[bI]
         refine bH.one (i:=7) (by kernel_rfl) rfl (fun K hK=>?_);go_simp;refine hK.out _ _ (fun h=>absurd rfl h) (fun _=>?_);clear hK;refine bH.done (by kernel_rfl) ?_ _;try simp only[bI]
         refine NoPanic.normal ?_;clear cf5 ff5;generalize Yu:w5.setCell ⟨qJ,0,aj⟩ (ay aF5 nF5 kF5)=w6' at *;clear Yu;have jP:j<(B.pop j cl).bE:=(by rw[show(B.pop j cl).bE=B.bE from rfl,BP.o];exact Ob);have kP:k<(B.pop j cl).bE:=(by rw[show(B.pop j cl).bE=B.bE from rfl,BP.o];exact kn);have cP:cl<(B.pop j cl).aX:=(by rw[show(B.pop j cl).aX=B.aX from rfl,BC.o];exact clt);have POK:=aA (BOK.o.pop (p:=j) (c:=cl) jP cP (by rw[HFR.o];simp));obtain⟨hg,t1,t2⟩:=HS5.o.bx.tt k cl kP cP;have HG:=aA (Zi _ (N+8) _ _ w6' (POK.o.t k cl kP cP) (by omega) (by have:=RB.o.2;unfold Tk.left at this;show(dR B.tk k cl).NQ<(dR B.tk k cl).lim;omega) hg);have HT5:=aA t2;obtain⟨g1,⟨abf,cs1,e1,e2,e3⟩,tg⟩:=HS5.o.bx.t k kP;have ct:=HS5.o.bx.ct kP POK.o.p1;rw[e1]at ct;have cc:w6'.cell? ⟨g1,cl,aj⟩=az (au (az ⟨Lq.tb k cl,0,aj⟩)):=(by rw[e2.cell];exact e3 cl cP);have cb:=HS5.o.vb.1.cell 0;simp only[di,dD,pt]at cb;have cl0:(0:Int)<=(cl:Int):=(by omega);have cl8:(cl:Int)<((B.pop j cl).aX:Int):=(by omega);have kk8:(k:Int)<8:=(by omega);have jj8:(j:Int)<8:=(by omega);clear hg t1 t2 e1 e2 e3 tg;go_wp2_with (first
          |(go_at_call 132;refine HG.o.mono ?_;rintro e w7 ⟨rfl,b1,b2⟩;have B1:=aA b1;have B2:=aA b2;clear b1 b2))
         have Xk:=aA (HS5.o.post ho (HS5.o.bx.Zj.aaf (p:=k) (c:=cl) kP cP POK.o.tk ho B2.o B1.o) (Nx.RV B2.o fun i e=>by rw[e,HT5.o]));have HM7:aY (dh w7 bM 3 (((Bn X bz).1.map optV).toArray)/\(fr (fr τq wp.heap.size) w6'.heap.size bM).1=0):=(by have h1:=HM5.o.1.lt;exact⟨HM5.o.1.ch B2.o (fun e=>by have q:=HM5.o.2;rw[e,HT5.o]at q;simp at q;omega),by rw[gL h1];exact HM5.o.2⟩);have cb7:=Xk.o.vb.1.cell 0;simp only[di,dD,pt]at cb7;have c17:=Xk.o.bx.c1;have cp7:=Xk.o.bx.cp (p:=j) (by omega);have fp7:=Xk.o.bx.root.1.frozen (26+j);have qc:IntKind.i64.wrap ((cl:Int)+1)=(cl:Int)+1:=fE _ (by omega);have hm0:¬(B.pop j cl).aX=0:=(by omega);have K8:aY ((w7.drew.setCell ⟨b,26+j,aj⟩ (ah ag (((cl:Int)+1)%((B.pop j cl).aX:Int)))).cell? ⟨bB,0,aj⟩=az (au (az ⟨b,0,aj⟩))/\(w7.drew.setCell ⟨b,26+j,aj⟩ (ah ag (((cl:Int)+1)%((B.pop j cl).aX:Int)))).cell? ⟨b,0+1,aj⟩=az (ah ag (B.pop j cl).aX)):=(by have nb:bB≠b:=fun e=>(by have q:=Xk.o.vb.2;rw[e,Xk.o.bx.root.2]at q;simp at q;omega);have h1:=Xk.o.bx.root.1.drew.jd (26+j) (ah ag (((cl:Int)+1)%((B.pop j cl).aX:Int)));refine⟨(Xk.o.vb.1.drew.AU (by simp only;exact nb) _).cell 0,?_⟩;rw[h1.cell];have h2:=Xk.o.bx.c1;rw[Xk.o.bx.root.1.cell]at h2;rw[Array.getElem?_setIfInBounds,if_neg (by omega)];exact h2);have ctm:((cl:Int)+1).tmod ((B.pop j cl).aX:Int)=(((cl+1)%(B.pop j cl).aX:Nat):Int):=(by rw[Int.tmod_eq_emod_of_nonneg (by omega)];push_cast;rfl);clear cb ct cc;go_wp2_with fail;go_region_held3 (fun w'=>w'.cell? ⟨bB,0,aj⟩=az (au (az ⟨b,0,aj⟩))/\w'.cell? ⟨b,0+1,aj⟩=az (ah ag (B.pop j cl).aX))
          (first|exact⟨cb7,c17⟩|exact K8.o) (fail)
         have nx8:Nx (fr (fr τq wp.heap.size) w6'.heap.size) o w7 (fr (fr (fr τq wp.heap.size) w6'.heap.size) w7.heap.size) (w7.setCell ⟨b,26+j,aj⟩ (ah ag (((cl+1)%(B.pop j cl).aX:Nat):Int))):=
          Nx.RV (S:=(· =b)) ((Ch.refl (· =b) _).setCell (p:=⟨b,26+j,aj⟩) (.inl rfl) _) fun i e=>by rw[e,Xk.o.bx.root.2]
         have bx8:=Xk.o.bx.Zj.aae (ptr':=(B.pop j cl).ptr.set j ((cl+1)%(B.pop j cl).aX)) (ov':=(B.pop j cl).ov) ho ((Ch.refl (· =b) w7).setCell (p:=⟨b,26+j,aj⟩) (.inl rfl) (ah ag (((cl+1)%(B.pop j cl).aX:Nat):Int))) (by
          have h1:=Xk.o.bx.root.1.jd (26+j) (ah ag (((cl+1)%(B.pop j cl).aX:Nat):Int));rw[ahm]at h1
          ·exact h1
          ·omega
          ·exact BOK.o.pl)
         have S8:=aA (Xk.o.post ho bx8 nx8);have FB8:aY (StB Z w o b bB rM qJ bD bO bM X bz (jC X bz (j+1)) (w7.setCell ⟨b,26+j,aj⟩ (ah ag (((cl+1)%(B.pop j cl).aX:Nat):Int))).drew):=by
          rw[aY,MI.o];refine⟨_,_,_,_,_,S8.o.drew,by simp[HQ.o],?_,?_⟩
          ·exact(HM7.o.1.AU (fun e=>by have q:=HM7.o.2;simp only at e;rw[e,Xk.o.bx.root.2]at q;simp at q;omega) _).drew
          ·rw[gL (show bM<w7.heap.size from HM7.o.1.lt)];exact HM7.o.2
         have EV:(((cl+1)%(B.pop j cl).aX:Nat):Int)=((cl:Int)+1)%((B.pop j cl).aX:Int):=(by push_cast;rfl);rw[EV]at FB8;clear nx8 bx8 cb7 c17 cp7 fp7 qc hm0 ctm EV K8;go_wp2_with fail;exact⟨aoG.out _ FB8.o,by simp[aJ];omega⟩
       ·obtain rfl:X.aX=n:=by omega
        have iZ:aY (StB Z w o b bB rM qJ bD bO bM X bz (jC X bz (j+1)) wr):=(by have h1:oz (jC X bz j).1.aX ((jC X bz j).1.ptr.getD j 0) (mR (Em X bz) (jC X bz j).1 j k)=aj:=(by rw[WW.o.2.2.1];exact yB Xh.o);rw[aY,MK.o];unfold Qc;rw[h1];exact HB2.o);go_wp2_with fail;exact⟨aoG.out _ iZ.out,by simp[aJ];omega⟩
    ·
     obtain rfl:X.bE=j:=(by omega);obtain⟨τf,Lf,vM2,vF2,Q2,hS,hq,_⟩:=HB1.o;have SI:aY (X.step bz=jC X bz X.bE):=Oh X bz;have XR:=hS.vm.1.cell 0;have cF0:=hS.vf.1.cell 0;have fM0:=hS.vm.1.frozen 0;have fF0:=hS.vf.1.frozen 0;have sM:=hS.vm.1.rJ (i:=0) (u:=vM2) rfl;have sF:=hS.vf.1.rJ (i:=0) (u:=vF2) rfl;obtain⟨aM,nM,kM,rfl⟩:=qh hS.om.1;obtain⟨aF,nF,kF,rfl⟩:=qh hS.Ih.1;simp only[di,dD]at XR cF0;have HSf:=aA hS.drew;have HQf:=aA hq;clear hS hq;go_wp2_with fail;go_region;go_wp2_with fail;refine leaves_cons (f:=125) (args:=#[au (az ⟨rM,0,aj⟩),au (az ⟨qJ,0,aj⟩)]) (by simp) (by simp[go_sem]) ?_;refine(Va ⟨rM,0,aj⟩ ⟨qJ,0,aj⟩ _).mono ?_;rintro e u' w'' ⟨rfl,rfl,rfl⟩;try simp only[sM,sF]
     refine⟨.tuple #[ay aM nM kM,ay aF nF kF],by simp[results,Tryz.results99,go_sem,XR,cF0],_,_,Q2,τf,Lf,rfl,?_⟩;rw[SI.o];exact⟨HSf.o.bx,HSf.o.nx,HSf.o.om.1,HSf.o.Ih.1,HQf.o,HSf.o.Qz,HSf.o.om.2,HSf.o.Ih.2⟩
theorem abO:(Tryz.prog.info? 206).map (fun i=>(i.zero,i.size,i.bytes))=az (az (.agg #[ah ag 0,ah ag 0,ah ag 0]),3,24):=by kernel_rfl
theorem abP:(Tryz.prog.info? 228).map (fun i=>(i.zero,i.size,i.bytes))=az (az (.agg #[ah ag 0,ah ag 0]),2,16):=by kernel_rfl
theorem arN:dS #[ah .i64 0,ah ag 0,ah ag 0] 3=#[ah ag 0,ah ag 0,ah ag 0]:=by unfold dS;apply sW;simp[dB]
theorem arM:dS #[ah .i64 0,ah ag 0] 2=#[ah ag 0,ah ag 0]:=by unfold dS;apply sW;simp[dB]
def aiT(r:Int)(w:aG)(e:iM)(w':aG):Prop:=∃g h,e=ax (.tuple #[au (az ⟨g,0,aj⟩),ah ag 0])/\Ey w' g h ⟨r,0,0⟩/\w.heap.size<=g/\w.heap.size<=h/\aN w.heap.size w w'
def apj(w:aG)(e:iM)(w':aG):Prop:=∃g h,e=ax (.tuple #[au (az ⟨g,0,aj⟩),ah ag 0])/\Lm w' g h ⟨0,0⟩/\w.heap.size<=g/\w.heap.size<=h/\aN w.heap.size w w'
def apD(r:Int)(g h:Nat)(w1:aG)(i:aI)(wr:aG):Prop:=∃k:Nat,k<=1/\i=ah ag k/\Ey wr g h ⟨if k=0 then 0 else r,0,0⟩/\Ch (· =h) w1 wr
theorem abI(r:Int)(a cap:Nat)(w:aG)(hr:1<=r/\r<=64)(ha:w.cell? ⟨a,0,aj⟩=az (ah ag r)):bZ aH 85 #[ay (az ⟨a,0,aj⟩) 1 cap] w (aiT r w):=by
 obtain⟨i0,hi0,wC,uX,wK⟩:=dX abO;obtain⟨w1,gK⟩:∃w1:aG,(w.alloc (af (dS #[ah ag 0,ah ag 0,ah ag 0] 3) 206)).alloc (af #[ay (az ⟨w.heap.size,0,aj⟩) 1 1] 204)=w1:=⟨_,rfl⟩;have LA:a<w.heap.size:=aZ _ _ ha;go_enter func85,ntmps85;go_wp2_with (at_make;refine ko _ rfl _ _ 202 rfl 206 i0 _ 3 underlying202 hi0 wC uX .i64 .i64 _ _ 1 rfl rfl rfl rfl (by rw[wK];omega) (by unfold fB;omega) ?_);have S1:w1.heap.size=w.heap.size+2:=by rw[<-gK];simp
 have B1:aY (aN w.heap.size w w1):=by rw[<-gK];exact((aQ _ _).alloc (aC _) _).alloc (by simp) _
 have G1:aY (Ey w1 (w.heap.size+1) w.heap.size ⟨0,0,0⟩):=by rw[<-gK,arN];refine⟨?_,(dh.new w _ _).alloc _⟩;have:=dh.new (w.alloc (af #[ah ag 0,ah ag 0,ah ag 0] 206)) 204 #[ay (az ⟨w.heap.size,0,aj⟩) 1 1];simpa using this
 have HA:aY (w.cell? ⟨a,0,aj⟩=az (ah ag r)):=ha;have HS:=aA S1;obtain⟨h,hh⟩:∃x,w.heap.size=x:=⟨_,rfl⟩;obtain⟨g,hg⟩:∃x,h+1=x:=⟨_,rfl⟩;rw[hh,hg]at G1;rw[hh,hg];have HH:=aA hh;have HG:=aA hg;have r0:1<=r:=hr.1;have r1:r<=64:=hr.2;clear gK ha S1 hh hg hr;go_loopw [5,6,22] (fun _ _ i wr=>apD r g h w1 i wr) (fun _ _ i _=>1-(aJ i).toNat);case atStart=>exact⟨0,by omega,rfl,G1.o,Ch.refl _ _⟩
 case round=>
  obtain⟨k,hk,rfl,hG,hc⟩:=hrel;have BW:aY (aN w.heap.size w wr):=B1.o.trans (hc.below B1.o.size (by rintro k rfl;exact vZ HH.o));by_cases h1:k<1
  ·obtain rfl:k=0:=by omega
   have ca:wr.cell? ⟨a,0,aj⟩=az (ah ag r):=(BW.o.cell (p:=⟨a,0,aj⟩) LA).trans HA.o;have c0:wr.cell? ⟨g,0,aj⟩=az (ay (az ⟨h,0,aj⟩) 1 1):=hG.p.cell 0;have c1:wr.cell? ⟨h,0,aj⟩=az (ah ag 0):=hG.c.cell 0;have f1:wr.frozen? ⟨h,0,aj⟩=false:=hG.c.frozen 0;have GG:=aA hG;have HC:=aA hc;clear hG hc;go_wp2_with fail;refine⟨⟨1,aC _,by simp,⟨?_,?_⟩,HC.o.setCell (p:=⟨h,0,aj⟩) (.inl rfl) _⟩,by simp[aJ]⟩
   ·exact GG.o.p.AU (by simp only;have:=HG.o;omega) _
   ·have:=GG.o.c.jd 0 (ah ag r);simpa using this
  ·obtain rfl:k=1:=by omega
   have iZ:aY (aiT r w (ax (.tuple #[au (az ⟨g,0,aj⟩),ah ag 0])) wr):=⟨g,h,rfl,by simpa using hG,by have:=HG.o;have:=HH.o;omega,vZ HH.o,BW.o⟩;clear hG hc;go_wp2_with fail;go_ret2;exact iZ.out
theorem acO(w:aG):bZ aH 86 #[ah ag 1] w (apj w):=by
 obtain⟨i0,hi0,wC,uX,wK⟩:=dX abP;obtain⟨w1,gK⟩:∃w1:aG,(w.alloc (af (dS #[ah ag 0,ah ag 0] 2) 228)).alloc (af #[ay (az ⟨w.heap.size,0,aj⟩) 1 1] 209)=w1:=⟨_,rfl⟩;have B1:aY (aN w.heap.size w w1):=by rw[<-gK];exact((aQ _ _).alloc (aC _) _).alloc (by simp) _
 have G1:aY (Lm w1 (w.heap.size+1) w.heap.size ⟨0,0⟩):=by rw[<-gK,arM];refine⟨?_,(dh.new w _ _).alloc _⟩;have:=dh.new (w.alloc (af #[ah ag 0,ah ag 0] 228)) 209 #[ay (az ⟨w.heap.size,0,aj⟩) 1 1];simpa using this
 go_enter func86,ntmps86;go_wp2_with (at_make;refine ko _ rfl _ _ 207 rfl 228 i0 _ 2 underlying207 hi0 wC uX .i64 .i64 _ _ 1 rfl rfl rfl rfl (by rw[wK];omega) (by unfold fB;omega) ?_)
 go_ret2;exact⟨_,_,rfl,G1.o,by omega,aC _,B1.o⟩
end
section
def bnV(bE m pq:Nat)(L:yM)(i:Nat):aI:=
 if i=0 then ah ag bE else if i=1 then ah ag m
 else if i<10 then(if i-2<pq then ay (az ⟨L.qr (i-2),0,aj⟩) m m else ay aj 0 0)
 else if i<18 then L.gr (i-10)else if i<26 then L.tr (i-18)else if i<34 then ah ag 0 else if i=34 then pt L.bb else ah ag 0
def OX(bE m pq:Nat)(L:yM):Array aI:=((aO 36).map (bnV bE m pq L)).toArray
def vQ(m p c q:Nat):Nat:=if q<p then m else if q=p then c else 0
theorem Gh(m p:Nat):vQ m (p+1) 0=vQ m p m:=by
 funext q;unfold vQ;by_cases h:q<p
 ·rw[if_pos h,if_pos (by omega)]
 ·by_cases h2:q=p
  ·subst h2;simp
  ·rw[if_neg h,if_neg h2,if_neg (by omega)];simp
theorem Gi(m p c q:Nat):vQ m p (c+1) q=if q=p then c+1 else vQ m p c q:=by
 unfold vQ;by_cases h:q<p
 ·rw[if_pos h,if_pos h,if_neg (by omega)]
 ·by_cases h2:q=p
  ·subst h2;simp
  ·rw[if_neg h,if_neg h2,if_neg h,if_neg h2,if_neg h2]
structure SE(vT:Own)(w0:aG)(o b bE m:Nat)(aK:List Int)(Z:Own)(w:aG)(L:yM)(pq p c:Nat):Prop where
 nx:Nx vT o w0 Z w
 root:dh w b 158 (OX bE m pq L)/\Z b=(o,0,0,0)/\w0.heap.size<=b
 iU:dh w L.bb 201 (((yA ⟨aS 8 0,aS 8 0⟩ bE).map Ur).toArray)/\Z L.bb=(o,9,0,0)
 qv:L.qv=fun _ _=>ay aj 0 0
 qr:∀q,q<pq->dh w (L.qr q) 110 (((aO m).map fun _=>ay aj 0 0).toArray)/\Z (L.qr q)=(o,1,q,0)
 g:∀q,w.ownsRow w0.heap.size 159 1 (L.gr q) (vQ m p c q) ((aO (vQ m p c q)).map fun d=>pt (L.gb q d))/\∀g,(L.gr q).ownBlock=az g->Z g=(o,3,q,0)
 gg:∀q d,d<vQ m p c q->Ey w (L.gb q d) (L.gc q d) ⟨aK.getD d 0,0,0⟩/\Z (L.gb q d)=(o,4,q,d)/\Z (L.gc q d)=(o,5,q,d)
 t:∀q,w.ownsRow w0.heap.size 162 1 (L.tr q) (vQ m p c q) ((aO (vQ m p c q)).map fun d=>pt (L.tb q d))/\∀g,(L.tr q).ownBlock=az g->Z g=(o,6,q,0)
 tt:∀q d,d<vQ m p c q->Lm w (L.tb q d) (L.tc q d) ⟨0,0⟩/\Z (L.tb q d)=(o,7,q,d)/\Z (L.tc q d)=(o,8,q,d)
 nil:∀q,p<q\/(q=p/\c=0)->L.gr q=ay aj 0 0/\L.tr q=ay aj 0 0
section
variable{vT Z dN:Own}{w0 w w' wA wB wD:aG}{o b bE m pq p c:Nat}{aK:List Int}{L:yM}{v1 v2:aI}{gb gc tb tc:Nat}{o1 o2:Obj}
theorem SE.next(h:SE vT w0 o b bE m aK Z w L pq p m)(hm:0<m):SE vT w0 o b bE m aK Z w L pq (p+1) 0 where
 nx:=h.nx
 root:=h.root
 iU:=h.iU
 qv:=h.qv
 qr:=h.qr
 g:=fun q=>by rw[Gh];exact h.g q
 gg:=fun q d hd=>by rw[Gh]at hd;exact h.gg q d hd
 t:=fun q=>by rw[Gh];exact h.t q
 tt:=fun q d hd=>by rw[Gh]at hd;exact h.tt q d hd
 nil:=fun q hq=>h.nil q (.inl (by omega))
theorem SE.below(h:SE vT w0 o b bE m aK Z w L pq p c)(k:aN w.heap.size w w'):SE vT w0 o b bE m aK (fr Z w.heap.size) w' L pq p c:=by
 have hc:Ch (fun _=>False) w w':=Ch.bY k;have he:∀i,i<w.heap.size->fr Z w.heap.size i=Z i:=fun i hi=>gL hi;exact{
  nx:=h.nx.loc hc (fun _ s=>s.elim)
  root:=⟨h.root.1.below k h.root.1.lt,by rw[he _ h.root.1.lt];exact h.root.2.1,h.root.2.2⟩
  iU:=⟨h.iU.1.below k h.iU.1.lt,by rw[he _ h.iU.1.lt];exact h.iU.2⟩
  qv:=h.qv
  qr:=fun q hq=>⟨(h.qr q hq).1.below k (h.qr q hq).1.lt,by rw[he _ (h.qr q hq).1.lt];exact(h.qr q hq).2⟩
  g:=fun q=>⟨fO (h.g q).1 hc (fun _ _ s=>s.elim),fun g hg=>by rw[he _ ((h.g q).1.lt g hg).2];exact(h.g q).2 g hg⟩
  gg:=fun q d hd=>by obtain⟨h1,h2,h3⟩:=h.gg q d hd;exact⟨h1.ch hc id id,by rw[he _ h1.p.lt];exact h2,by rw[he _ h1.c.lt];exact h3⟩
  t:=fun q=>⟨fO (h.t q).1 hc (fun _ _ s=>s.elim),fun g hg=>by rw[he _ ((h.t q).1.lt g hg).2];exact(h.t q).2 g hg⟩
  tt:=fun q d hd=>by obtain⟨h1,h2,h3⟩:=h.tt q d hd;exact⟨h1.ch hc id id,by rw[he _ h1.p.lt];exact h2,by rw[he _ h1.c.lt];exact h3⟩
  nil:=h.nil}
theorem SE.queues(h:SE vT w0 o b bE m aK Z w L p p 0)(hb:w0.heap.size<=w.heap.size)(hp:p<8){g:Nat}(hg:g=w.heap.size)(hw:w'=(w.alloc (af (((aO m).map fun _=>ay aj 0 0).toArray) 110)).setCell ⟨b,2+p,aj⟩ (ay (az ⟨g,0,aj⟩) m m)):SE vT w0 o b bE m aK (afX Z g (o,1,p,0)) w' {L with qr:=fun q=>if q=p then g else L.qr q} (p+1) p 0:=by
 subst hg;have he:∀i,i<w.heap.size->afX Z w.heap.size (o,1,p,0) i=Z i:=fun i hi=>aiy _ _ (by omega);have hc:Ch (· =b) w w':=by rw[hw];exact((Ch.refl (· =b) w).alloc _).setCell (p:=⟨b,2+p,aj⟩) (.inl rfl) _
 have nb:∀{i t},Z i=t->t≠(o,0,0,0)->¬(i=b):=fun h1 h2 e=>h2 (by rw[<-h1,e,h.root.2.1]);have sz:w'.heap.size=w.heap.size+1:=by rw[hw];simp[iK]
 have nx:Nx vT o w0 (afX Z w.heap.size (o,1,p,0)) w':=by
  refine⟨h.nx.ch.trans hc fun i hi s=>by have:=h.root.2.2;omega,fun i hi=>(he i (by omega)).trans (h.nx.ext i hi),fun k h1 h2=>?_⟩;by_cases e:k<w.heap.size
  ·rw[he k e];exact h.nx.fresh k h1 e
  ·obtain rfl:k=w.heap.size:=by omega
   rw[aaj];exact .inl rfl
 exact{
  nx:=nx
  root:=by
   refine⟨?_,by rw[he _ h.root.1.lt];exact h.root.2.1,h.root.2.2⟩;rw[hw];have:=(h.root.1.alloc (af (((aO m).map fun _=>ay aj 0 0).toArray) 110)).jd (2+p) (ay (az ⟨w.heap.size,0,aj⟩) m m);unfold OX at this|-;rw[mH 36 (bnV bE m p L) (bnV bE m (p+1) {L with qr:=fun q=>if q=p then w.heap.size else L.qr q}) (2+p) _ (fun i hi=>by
    unfold bnV;by_cases e:i=2+p
    ·subst e;rw[if_pos rfl,if_neg (by omega),if_neg (by omega),if_pos (by omega),if_pos (by omega)];simp only[show 2+p-2=p by omega,if_true]
    ·by_cases e2:2<=i/\i<10
     ·have e3:¬i=0:=by omega
      have e4:¬i=1:=(by omega);have e5:¬i-2=p:=(by omega);by_cases e6:i-2<p
      ·have e7:i-2<p+1:=by omega
       simp only[e,e3,e4,e5,e6,e7,e2.2,if_true,if_false]
      ·have e7:¬i-2<p+1:=by omega
       simp only[e,e3,e4,e5,e6,e7,e2.2,if_true,if_false]
     ·by_cases e3:i=0
      ·simp only[e,e3,if_true,if_false];rw[if_neg (by omega)]
      ·by_cases e4:i=1
       ·simp only[e,e3,e4,if_true,if_false];rw[if_neg (by omega),if_neg (by omega)]
       ·have e5:¬i<10:=by omega
        simp only[e,e3,e4,e5,if_false])]at this
   exact this
  iU:=⟨h.iU.1.ch hc (nb h.iU.2 (by simp)),by rw[he _ h.iU.1.lt];exact h.iU.2⟩
  qv:=h.qv
  qr:=fun q hq=>by
   by_cases e:q=p
   ·subst e;simp only[if_true];refine⟨?_,aaj _ _ _⟩;rw[hw];exact(dh.new w _ _).AU (by simp only;have:=h.root.1.lt;omega) _
   ·simp only[e,if_false];have r:=h.qr q (by omega);exact⟨r.1.ch hc (nb r.2 (by simp)),by rw[he _ r.1.lt];exact r.2⟩
  g:=fun q=>⟨fO (h.g q).1 hc (fun g hg=>nb ((h.g q).2 g hg) (by simp)),fun g hg=>by rw[he _ ((h.g q).1.lt g hg).2];exact(h.g q).2 g hg⟩
  gg:=fun q d hd=>by obtain⟨h1,h2,h3⟩:=h.gg q d hd;exact⟨h1.ch hc (nb h2 (by simp)) (nb h3 (by simp)),by rw[he _ h1.p.lt];exact h2,by rw[he _ h1.c.lt];exact h3⟩
  t:=fun q=>⟨fO (h.t q).1 hc (fun g hg=>nb ((h.t q).2 g hg) (by simp)),fun g hg=>by rw[he _ ((h.t q).1.lt g hg).2];exact(h.t q).2 g hg⟩
  tt:=fun q d hd=>by obtain⟨h1,h2,h3⟩:=h.tt q d hd;exact⟨h1.ch hc (nb h2 (by simp)) (nb h3 (by simp)),by rw[he _ h1.p.lt];exact h2,by rw[he _ h1.c.lt];exact h3⟩
  nil:=h.nil}
def yM.zW(L:yM)(p c gb gc:Nat)(v:aI):yM:={L with gr:=fun q=>if q=p then v else L.gr q,gb:=fun q d=>if q=p/\d=c then gb else L.gb q d,gc:=fun q d=>if q=p/\d=c then gc else L.gc q d}
def yM.afI(L:yM)(p c tb tc:Nat)(v:aI):yM:={L with tr:=fun q=>if q=p then v else L.tr q,tb:=fun q d=>if q=p/\d=c then tb else L.tb q d,tc:=fun q d=>if q=p/\d=c then tc else L.tc q d}
theorem aqk(bE m pq p c gb gc:Nat)(L:yM)(v:aI)(hp:p<8):(OX bE m pq L).setIfInBounds (10+p) v=OX bE m pq (L.zW p c gb gc v):=
 mH 36 _ _ _ _ fun i hi=>by
  unfold bnV yM.zW;by_cases e:i=10+p
  ·subst e;rw[if_pos rfl,if_neg (by omega),if_neg (by omega),if_neg (by omega),if_pos (by omega)];simp only[show 10+p-10=p by omega,if_true]
  ·rw[if_neg e];by_cases h0:i=0
   ·simp only[h0,if_true]
   ·by_cases h1:i=1
    ·simp only[h0,h1,if_true,if_false]
    ·by_cases h2:i<10
     ·simp only[h0,h1,h2,if_true,if_false]
     ·by_cases h3:i<18
      ·simp only[h0,h1,h2,h3,if_true,if_false];rw[if_neg (by omega)]
      ·simp only[h0,h1,h2,h3,if_false]
theorem aql(bE m pq p c tb tc:Nat)(L:yM)(v:aI)(hp:p<8):(OX bE m pq L).setIfInBounds (18+p) v=OX bE m pq (L.afI p c tb tc v):=
 mH 36 _ _ _ _ fun i hi=>by
  unfold bnV yM.afI;by_cases e:i=18+p
  ·subst e;rw[if_pos rfl,if_neg (by omega),if_neg (by omega),if_neg (by omega),if_neg (by omega),if_pos (by omega)];simp only[show 18+p-18=p by omega,if_true]
  ·rw[if_neg e];by_cases h0:i=0
   ·simp only[h0,if_true]
   ·by_cases h1:i=1
    ·simp only[h0,h1,if_true,if_false]
    ·by_cases h2:i<10
     ·simp only[h0,h1,h2,if_true,if_false]
     ·by_cases h3:i<18
      ·simp only[h0,h1,h2,h3,if_true,if_false]
      ·by_cases h4:i<26
       ·simp only[h0,h1,h2,h3,h4,if_true,if_false];rw[if_neg (by omega)]
       ·simp only[h0,h1,h2,h3,h4,if_false]
theorem SE.Wq(h:SE vT w0 o b bE m aK Z w L pq p c)(hp:p<8)(kA:aN w.heap.size w wA)(nV:wB.ownsRow w0.heap.size 159 1 v1 (c+1) (((aO c).map fun d=>pt (L.gb p d))++[pt gb]))(yo:(wA.alloc o1).grownBy wB (L.gr p).ownBlock)(Ao:v1.ownBlock=(L.gr p).ownBlock\/v1.ownBlock=az (wA.heap.size+1)):dh wB b 158 (OX bE m pq L)/\dh (wB.setCell ⟨b,10+p,aj⟩ v1) b 158 (OX bE m pq (L.zW p c gb gc v1))/\(wB.setCell ⟨b,10+p,aj⟩ v1).ownsRow w0.heap.size 162 1 (L.tr p) c ((aO c).map fun d=>pt (L.tb p d))/\Ch (fun k=>k=b\/(L.gr p).ownBlock=az k) w (wB.setCell ⟨b,10+p,aj⟩ v1):=by
 have lc:vQ m p c p=c:=by unfold vQ;simp
 have hT:=h.t p;have hG:=h.g p;rw[lc]at hT hG;have nb:∀g,(L.gr p).ownBlock=az g->b≠g:=fun g hg e=>by have h1:=h.root.2.1;rw[e,hG.2 g hg]at h1;simp at h1
 have b1:dh wB b 158 (OX bE m pq L):=((h.root.1.below kA h.root.1.lt).alloc o1).grown yo fun e=>nb _ e.symm rfl;have C1:Ch (fun k=>k=b\/(L.gr p).ownBlock=az k) w (wB.setCell ⟨b,10+p,aj⟩ v1):=(((Ch.bY kA).alloc o1).grown yo fun g hg=>.inl (.inr hg)).setCell (p:=⟨b,10+p,aj⟩) (.inl (.inl rfl)) v1;refine⟨b1,?_,fO hT.1 C1 fun g hg s=>?_,C1⟩
 ·have:=b1.jd (10+p) v1;rw[aqk bE m pq p c gb gc L v1 hp]at this;exact this
 ·rcases s with s|s
  ·have h1:=hT.2 g hg;rw[s,h.root.2.1]at h1;simp at h1
  ·have h1:=hT.2 g hg;rw[hG.2 g s]at h1;simp at h1
theorem SE.push(h:SE vT w0 o b bE m aK Z w L pq p c)(hp:p<8)(hbs:w0.heap.size<=w.heap.size)(kA:aN w.heap.size w wA)(hg:Ey wA gb gc ⟨aK.getD c 0,0,0⟩)(ht:Lm wA tb tc ⟨0,0⟩)(g0:w.heap.size<=gb)(g1:w.heap.size<=gc)(t0:w.heap.size<=tb)(t1:w.heap.size<=tc)(nV:wB.ownsRow w0.heap.size 159 1 v1 (c+1) (((aO c).map fun d=>pt (L.gb p d))++[pt gb]))(yo:(wA.alloc o1).grownBy wB (L.gr p).ownBlock)(Ao:v1.ownBlock=(L.gr p).ownBlock\/v1.ownBlock=az (wA.heap.size+1))(uz:wD.ownsRow w0.heap.size 162 1 v2 (c+1) (((aO c).map fun d=>pt (L.tb p d))++[pt tb]))(GM:((wB.setCell ⟨b,10+p,aj⟩ v1).alloc o2).grownBy wD (L.tr p).ownBlock)(PX:v2.ownBlock=(L.tr p).ownBlock\/v2.ownBlock=az ((wB.setCell ⟨b,10+p,aj⟩ v1).heap.size+1)):dh wD b 158 (OX bE m pq (L.zW p c gb gc v1))/\∃dN,SE vT w0 o b bE m aK dN (wD.setCell ⟨b,18+p,aj⟩ v2) ((L.zW p c gb gc v1).afI p c tb tc v2) pq p (c+1):=by
 have lc:vQ m p c p=c:=by unfold vQ;simp
 obtain⟨b1,b2,oT,C1⟩:=h.Wq (gc:=gc) hp kA nV yo Ao;have hT:=h.t p;have hG:=h.g p;rw[lc]at hT hG;have rt:=h.root.2.1;have lb:=h.root.1.lt;have nbT:∀g,(L.tr p).ownBlock=az g->b≠g:=fun g hg e=>by have h1:=rt;rw[e,hT.2 g hg]at h1;simp at h1
 have b3:dh wD b 158 (OX bE m pq (L.zW p c gb gc v1)):=(b2.alloc o2).grown GM fun e=>nbT _ e.symm rfl;have sA:w.heap.size<=wA.heap.size:=kA.size;have sB:wA.heap.size+1<=wB.heap.size:=by have:=yo.size;simpa using this
 have sC:(wB.setCell ⟨b,10+p,aj⟩ v1).heap.size=wB.heap.size:=by simp[iK]
 have sD:wB.heap.size+1<=wD.heap.size:=by have:=GM.size;rw[show((wB.setCell ⟨b,10+p,aj⟩ v1).alloc o2).heap.size=wB.heap.size+1 by simp[sC]]at this;exact this
 have C2:Ch (fun k=>k=b\/(L.gr p).ownBlock=az k\/(L.tr p).ownBlock=az k) w (wD.setCell ⟨b,18+p,aj⟩ v2):=
  (((C1.mono fun k _ s=>by rcases s with s|s;exact .inl s;exact .inr (.inl s)).alloc o2).grown GM fun g hg=>.inl (.inr (.inr hg))).setCell (p:=⟨b,18+p,aj⟩) (.inl (.inl rfl)) v2
 have fin:∀{k t cs},w.heap.size<=k->k<wA.heap.size->dh wA k t cs->dh (wD.setCell ⟨b,18+p,aj⟩ v2) k t cs:=fun{k t cs} hk hk2 hbk=>by
  have n1:az k≠(L.gr p).ownBlock:=fun e=>by have:=(hG.1.lt k e.symm).2;omega
  have n2:az k≠(L.tr p).ownBlock:=fun e=>by have:=(hT.1.lt k e.symm).2;omega
  have nb:k≠b:=by omega
  exact((((hbk.alloc o1).grown yo n1).AU (by simp only;exact nb) v1).alloc o2).grown GM n2|>.AU (by simp only;exact nb) v2
 have lgb:=hg.p.lt;have lgc:=hg.c.lt;have Uu:=ht.p.lt;have ltc:=ht.c.lt;have d1:gb≠gc:=dh.sU hg.p hg.c (by decide);have d2:gb≠tb:=dh.sU hg.p ht.p (by decide);have d3:gb≠tc:=dh.sU hg.p ht.c (by decide);have d4:gc≠tb:=dh.sU hg.c ht.p (by decide);have d5:gc≠tc:=dh.sU hg.c ht.c (by decide);have d6:tb≠tc:=dh.sU ht.p ht.c (by decide);have azt:(wD.setCell ⟨b,18+p,aj⟩ v2).ownsRow w0.heap.size 159 1 v1 (c+1) ((aO (c+1)).map fun d=>pt (if d=c then gb else L.gb p d)):=by
  have e:((aO (c+1)).map fun d=>pt (if d=c then gb else L.gb p d))=((aO c).map fun d=>pt (L.gb p d))++[pt gb]:=by
   rw[dB,eY];congr 1
   ·refine fU fun x hx=>?_;have:=dJ.1 hx;rw[if_neg (by omega)]
   ·simp
  rw[e];have nv:∀g,v1.ownBlock=az g->g≠b/\(az g≠(L.tr p).ownBlock):=fun g uy=>by
   rcases Ao with q|q
   ·rw[q]at uy;refine⟨fun e2=>?_,fun e2=>?_⟩
    ·have h1:=hG.2 g uy;rw[e2,rt]at h1;simp at h1
    ·have h1:=hG.2 g uy;rw[hT.2 g e2.symm]at h1;simp at h1
   ·rw[q]at uy;injection uy with uy;exact⟨by omega,fun e2=>by have:=(hT.1.lt g e2.symm).2;omega⟩
  have s1:=nO nV (p:=⟨b,10+p,aj⟩) v1 fun g uy=>(nv g uy).1;have s2:=(s1.alloc o2).kept GM (by
   cases e2:v1.ownBlock with
   |none=>exact .inl rfl
   |some g=>exact .inr fun e3=>(nv g e2).2 e3)
  exact nO s2 (p:=⟨b,18+p,aj⟩) v2 fun g uy=>(nv g uy).1
 have azu:(wD.setCell ⟨b,18+p,aj⟩ v2).ownsRow w0.heap.size 162 1 v2 (c+1) ((aO (c+1)).map fun d=>pt (if d=c then tb else L.tb p d)):=by
  have e:((aO (c+1)).map fun d=>pt (if d=c then tb else L.tb p d))=((aO c).map fun d=>pt (L.tb p d))++[pt tb]:=by
   rw[dB,eY];congr 1
   ·refine fU fun x hx=>?_;have:=dJ.1 hx;rw[if_neg (by omega)]
   ·simp
  rw[e];refine nO uz (p:=⟨b,18+p,aj⟩) v2 fun g uy e2=>?_;obtain⟨cs,hb⟩:=kH uz g uy;exact dh.sU b3 hb (by decide) (by rw[e2])
 obtain⟨dN,Pw⟩:∃dN:Own,dN=fun k=>if k<w.heap.size then Z k else if k=gb then(o,4,p,c)else if k=gc then(o,5,p,c)else if k=tb then(o,7,p,c)else if k=tc then(o,8,p,c)else
  if v1.ownBlock=az k then(o,3,p,0)else if v2.ownBlock=az k then(o,6,p,0)else(0,0,0,0):=⟨_,rfl⟩
 have he:∀k,k<w.heap.size->dN k=Z k:=fun k hk=>by rw[Pw];simp only;rw[if_pos hk]
 have hn:∀k,¬k<w.heap.size->dN k=if k=gb then(o,4,p,c)else if k=gc then(o,5,p,c)else if k=tb then(o,7,p,c)else if k=tc then(o,8,p,c)else
  if v1.ownBlock=az k then(o,3,p,0)else if v2.ownBlock=az k then(o,6,p,0)else(0,0,0,0):=fun k hk=>by rw[Pw];simp only;rw[if_neg hk]
 have egb:dN gb=(o,4,p,c):=by rw[hn _ (by omega),if_pos rfl]
 have egc:dN gc=(o,5,p,c):=by rw[hn _ (by omega),if_neg (by omega),if_pos rfl]
 have etb:dN tb=(o,7,p,c):=by rw[hn _ (by omega),if_neg (by omega),if_neg (by omega),if_pos rfl]
 have etc:dN tc=(o,8,p,c):=by rw[hn _ (by omega),if_neg (by omega),if_neg (by omega),if_neg (by omega),if_pos rfl]
 have ev1:∀g,v1.ownBlock=az g->dN g=(o,3,p,0):=fun g uy=>by
  rcases Ao with q|q
  ·rw[q]at uy;rw[he g (hG.1.lt g uy).2];exact hG.2 g uy
  ·have hg2:=uy;rw[q]at hg2;injection hg2 with hg2;rw[hn _ (by omega),if_neg (by omega),if_neg (by omega),if_neg (by omega),if_neg (by omega),if_pos uy]
 have ev2:∀g,v2.ownBlock=az g->dN g=(o,6,p,0):=fun g uy=>by
  rcases PX with q|q
  ·rw[q]at uy;rw[he g (hT.1.lt g uy).2];exact hT.2 g uy
  ·have hg2:=uy;rw[q]at hg2;injection hg2 with hg2;rw[hn _ (by omega),if_neg (by omega),if_neg (by omega),if_neg (by omega),if_neg (by omega),if_neg (fun e2=>by
    rcases Ao with q1|q1
    ·rw[q1]at e2;have:=(hG.1.lt g e2).2;omega
    ·rw[q1]at e2;injection e2 with e2;omega),if_pos uy]
 have ne:∀{i t},Z i=t->t≠(o,0,0,0)->t≠(o,3,p,0)->t≠(o,6,p,0)->¬(i=b\/(L.gr p).ownBlock=az i\/(L.tr p).ownBlock=az i):=fun h1 h2 h3 h4 s=>by
  rcases s with s|s|s
  ·exact h2 (by rw[<-h1,s,rt])
  ·exact h3 (by rw[<-h1,hG.2 _ s])
  ·exact h4 (by rw[<-h1,hT.2 _ s])
 refine⟨b3,dN,?_⟩;exact{
  nx:=by
   refine⟨h.nx.ch.trans C2 fun i hi s=>?_,fun i hi=>(he i (by omega)).trans (h.nx.ext i hi),fun k h1 h2=>?_⟩
   ·rcases s with s|s|s
    ·have:=h.root.2.2;omega
    ·have:=(hG.1.lt i s).1;omega
    ·have:=(hT.1.lt i s).1;omega
   ·by_cases e:k<w.heap.size
    ·rw[he k e];exact h.nx.fresh k h1 e
    ·rw[hn k e]
     repeat(first|(split;exact .inl rfl)|exact .inr (bS _))
  root:=by refine⟨?_,by rw[he _ lb];exact rt,h.root.2.2⟩;have:=b3.jd (18+p) v2;rw[aql bE m pq p c tb tc _ v2 hp]at this;exact this
  iU:=⟨h.iU.1.ch C2 (ne h.iU.2 (by simp) (by simp) (by simp)),by show dN L.bb=_;rw[he _ h.iU.1.lt];exact h.iU.2⟩
  qv:=h.qv
  qr:=fun q hq=>let r:=h.qr q hq;⟨r.1.ch C2 (ne r.2 (by simp) (by simp) (by simp)),by show dN (L.qr q)=_;rw[he _ r.1.lt];exact r.2⟩
  g:=fun q=>by
   rw[Gi];show(wD.setCell ⟨b,18+p,aj⟩ v2).ownsRow w0.heap.size 159 1 (if q=p then v1 else L.gr q) _ ((aO _).map fun d=>pt (if q=p/\d=c then gb else L.gb q d))/\∀g,(if q=p then v1 else L.gr q).ownBlock=az g->dN g=(o,3,q,0);by_cases e:q=p
   ·subst e;simp only[if_true,true_and];exact⟨azt,ev1⟩
   ·simp only[e,if_false,false_and];have r:=h.g q;exact⟨fO r.1 C2 fun g uy=>ne (r.2 g uy) (by simp) (by simp[e]) (by simp),fun g uy=>by rw[he _ (r.1.lt g uy).2];exact r.2 g uy⟩
  gg:=fun q d hd=>by
   rw[Gi]at hd;show Ey _ (if q=p/\d=c then gb else L.gb q d) (if q=p/\d=c then gc else L.gc q d) _/\dN (if q=p/\d=c then gb else L.gb q d)=_/\dN (if q=p/\d=c then gc else L.gc q d)=_;by_cases e:q=p/\d=c
   ·simp only[e,and_self,if_true];exact⟨⟨fin g0 lgb hg.p,fin g1 lgc hg.c⟩,egb,egc⟩
   ·simp only[e,if_false];have Ab:d<vQ m p c q:=by
     by_cases e2:q=p
     ·subst e2;rw[if_pos rfl]at hd;rw[lc];have:d≠c:=fun e3=>e ⟨rfl,e3⟩;omega
     ·rw[if_neg e2]at hd;exact hd
    obtain⟨h1,h2,h3⟩:=h.gg q d Ab;exact⟨h1.ch C2 (ne h2 (by simp) (by simp) (by simp)) (ne h3 (by simp) (by simp) (by simp)),by rw[he _ h1.p.lt];exact h2,by rw[he _ h1.c.lt];exact h3⟩
  t:=fun q=>by
   rw[Gi];show(wD.setCell ⟨b,18+p,aj⟩ v2).ownsRow w0.heap.size 162 1 (if q=p then v2 else L.tr q) _ ((aO _).map fun d=>pt (if q=p/\d=c then tb else L.tb q d))/\∀g,(if q=p then v2 else L.tr q).ownBlock=az g->dN g=(o,6,q,0);by_cases e:q=p
   ·subst e;simp only[if_true,true_and];exact⟨azu,ev2⟩
   ·simp only[e,if_false,false_and];have r:=h.t q;exact⟨fO r.1 C2 fun g uy=>ne (r.2 g uy) (by simp) (by simp) (by simp[e]),fun g uy=>by rw[he _ (r.1.lt g uy).2];exact r.2 g uy⟩
  tt:=fun q d hd=>by
   rw[Gi]at hd;show Lm _ (if q=p/\d=c then tb else L.tb q d) (if q=p/\d=c then tc else L.tc q d) _/\dN (if q=p/\d=c then tb else L.tb q d)=_/\dN (if q=p/\d=c then tc else L.tc q d)=_;by_cases e:q=p/\d=c
   ·simp only[e,and_self,if_true];exact⟨⟨fin t0 Uu ht.p,fin t1 ltc ht.c⟩,etb,etc⟩
   ·simp only[e,if_false];have Ab:d<vQ m p c q:=by
     by_cases e2:q=p
     ·subst e2;rw[if_pos rfl]at hd;rw[lc];have:d≠c:=fun e3=>e ⟨rfl,e3⟩;omega
     ·rw[if_neg e2]at hd;exact hd
    obtain⟨h1,h2,h3⟩:=h.tt q d Ab;exact⟨h1.ch C2 (ne h2 (by simp) (by simp) (by simp)) (ne h3 (by simp) (by simp) (by simp)),by rw[he _ h1.p.lt];exact h2,by rw[he _ h1.c.lt];exact h3⟩
  nil:=fun q hq=>by
   rcases hq with hq|⟨_,h0⟩
   ·have e:¬q=p:=by omega
    show(if q=p then v1 else L.gr q)=_/\(if q=p then v2 else L.tr q)=_;simp only[e,if_false];exact h.nil q (.inl hq)
   ·omega}
theorem SE.box(h:SE vT w0 o b bE m aK Z w L bE bE 0)(hp:bE<=8)(hm:m=aK.length)(hm0:0<m):pO Z o w b (qM bE aK) L where
 root:=by
  refine⟨?_,h.root.2.1⟩;have e:OX bE m bE L=bxC (qM bE aK) L:=by
   unfold OX bxC;congr 1;refine fU fun i hi=>?_;have hi:=dJ.1 hi;unfold bnV bxV Ww qM;simp only;by_cases h0:i=0
   ·simp only[h0,if_true]
   ·by_cases h1:i=1
    ·simp only[h0,h1,if_true,if_false,hm]
    ·by_cases h2:i<10
     ·simp only[h0,h1,h2,if_true,if_false,hm]
     ·by_cases h3:i<18
      ·simp only[h0,h1,h2,h3,if_true,if_false];by_cases h4:i-10<bE
       ·rw[if_pos h4]
       ·rw[if_neg h4];exact(h.nil _ (by omega)).1
      ·by_cases h5:i<26
       ·simp only[h0,h1,h2,h3,h5,if_true,if_false];by_cases h4:i-18<bE
        ·rw[if_pos h4]
        ·rw[if_neg h4];exact(h.nil _ (by omega)).2
       ·by_cases h6:i<34
        ·simp only[h0,h1,h2,h3,h5,h6,if_true,if_false,aio];rfl
        ·by_cases h7:i=34
         ·simp only[h0,h1,h2,h3,h5,h6,h7,if_true,if_false];rfl
         ·simp only[h0,h1,h2,h3,h5,h6,h7,if_false];rfl
  rw[<-e];exact h.root.1
 qr:=fun p yI=>by have r:=h.qr p yI;refine⟨?_,r.2⟩;rw[h.qv];show dh w (L.qr p) 110 (((aO aK.length).map fun _=>ay aj 0 0).toArray);rw[<-hm];exact r.1
 q:=fun p c yI qg=>by have Mc:p<bE:=yI;rw[h.qv];refine⟨⟨[],?_,dM _ _ _ _,by simp⟩,by simp[dV]⟩;show _=dR (aS bE (aS aK.length [])) p c;rw[zK Mc];simp only[List.map_nil,bJ,gz];split<;>rfl
 g:=fun p yI=>by
  have Mc:p<bE:=yI;have r:=h.g p;rw[show vQ m bE 0 p=m by unfold vQ;rw[if_pos Mc]]at r;obtain⟨g,cap,cs,e,hb,_,hc⟩:=uJ r.1 hm0;refine⟨g,⟨cap,cs,by rw[e,hm];rfl,hb,fun c qg=>?_⟩,r.2 g (by rw[e];rfl)⟩;have Pq:c<m:=by rw[hm];exact qg
  rw[hc c Pq,cO,dW Pq];rfl
 gg:=fun p c yI qg=>by
  have Mc:p<bE:=yI;have Pq:c<aK.length:=qg;have r:=h.gg p c (by unfold vQ;rw[if_pos Mc,hm];exact Pq);refine⟨?_,r.2⟩;show Ey _ _ _ (dR (aS bE (aK.map fun r=>(⟨r,0,0⟩:Gv))) p c);rw[zK Mc];have e:(aK.map fun r=>(⟨r,0,0⟩:Gv)).getD c default=⟨aK.getD c 0,0,0⟩:=by simp[bJ,Pq]
  rw[e];exact r.1
 t:=fun p yI=>by
  have Mc:p<bE:=yI;have r:=h.t p;rw[show vQ m bE 0 p=m by unfold vQ;rw[if_pos Mc]]at r;obtain⟨g,cap,cs,e,hb,_,hc⟩:=uJ r.1 hm0;refine⟨g,⟨cap,cs,by rw[e,hm];rfl,hb,fun c qg=>?_⟩,r.2 g (by rw[e];rfl)⟩;have Pq:c<m:=by rw[hm];exact qg
  rw[hc c Pq,cO,dW Pq];rfl
 tt:=fun p c yI qg=>by
  have Mc:p<bE:=yI;have Pq:c<aK.length:=qg;have r:=h.tt p c (by unfold vQ;rw[if_pos Mc,hm];exact Pq);refine⟨?_,r.2⟩;show Lm _ _ _ (dR (aS bE (aK.map fun _=>(⟨0,0⟩:Tk))) p c);rw[zK Mc];have e:(aK.map fun _=>(⟨0,0⟩:Tk)).getD c default=⟨0,0⟩:=by simp[bJ,Pq]
  rw[e];exact r.1
 iU:=h.iU
end
end
section
attribute [local go_sem ↓] fJ fH
def Rc(Z:Own)(o:Nat)(w:aG)(bE:Nat)(aK:List Int)(e:iM)(w':aG):Prop:=
 ∃b dN L,e=ax (.tuple #[au (az ⟨b,0,aj⟩),ah ag 0])/\pO dN o w' b (qM bE aK) L/\Nx Z o w dN w'/\w.heap.size<=b
theorem aev(bE m:Nat)(L:yM)(hg:L.gr=fun _=>ay aj 0 0)(ht:L.tr=fun _=>ay aj 0 0):OX bE m 0 L=#[ah ag bE,ah ag m,ay aj 0 0,ay aj 0 0,ay aj 0 0,ay aj 0 0,ay aj 0 0,ay aj 0 0,ay aj 0 0,ay aj 0 0,ay aj 0 0,ay aj 0 0,ay aj 0 0,ay aj 0 0,ay aj 0 0,ay aj 0 0,ay aj 0 0,ay aj 0 0,ay aj 0 0,ay aj 0 0,ay aj 0 0,ay aj 0 0,ay aj 0 0,ay aj 0 0,ay aj 0 0,ay aj 0 0,ah ag 0,ah ag 0,ah ag 0,ah ag 0,ah ag 0,ah ag 0,ah ag 0,ah ag 0,pt L.bb,ah ag 0]:=by unfold OX;simp[dB,bnV,hg,ht]
theorem rV{P:Program}{w:aG}{ops:Array Oper}{o:Oper}{a:Act}{K:Act->aG->Prop}{Q:Exit->Act->aG->Prop}{E:Prop}(hg:o.guard=aj)(l c:Operand)(t:TypeId)(hop:o.op=Op.makeSlice t l c)(e:TypeId)(i:TypeInfo)(z:aI)(size:Nat)(h1:P.underlying t=az (.slice e))(h2:P.info? e=az i)(h3:i.zero=az z)(h4:i.size=size)(kl kc:IntKind)(L C:Int)(n:Nat)(hl:a.eval l=.int kl L)(hc:a.eval c=.int kc C)(hL:L=(n:Int))(hC:C=(n:Int))(b2:i.bytes*n<=281474976710656)(b3:n<=fB)(hK:K (a.put o.dst (ay (az ⟨w.heap.size,0,aj⟩) n n)) (w.alloc (af (dS z.cells (n*size)) e))):if eH o (yielded ops a.tmps)=true then Oper.wp P o a w K Q else E:=by
 have hw:eH o (yielded ops a.tmps)=true:=by simp[eH,hg]
 rw[if_pos hw];have h63':(n:Int)<=9223372036854775807:=by have h:=b3;simp[fB]at h;omega
 have sV:(i.bytes:Int)*(n:Int)<=281474976710656:=by
  have h:((i.bytes*n:Nat):Int)<=281474976710656:=by omega
  rwa [Int.natCast_mul]at h
 have hrun:=run_make (P:=P) w t e i z h1 h2 h3 kl kc n n (by omega) (Int.le_refl _) sV h63';subst hL;subst hC;subst h4;simp only[Int.toNat_natCast]at hrun;unfold Oper.wp;simp[execOp,hop,hl,hc,hrun,Result.andThen];exact hK
theorem dO{w:aG}{base:Nat}{e:TypeId}{m n:Nat}{v:aI}{xs:List aI}(h:w.ownsRow base e m v n xs):∃a c,v=ay a n c:=by
 rcases h.2 with⟨rfl,h0⟩|⟨g,cap,cur,rfl,_⟩
 ·subst h0;exact⟨_,_,rfl⟩
 ·exact⟨_,_,rfl⟩
theorem Nx.Rl{Z dN:Own}{o:Nat}{w w':aG}(h:Nx Z o w dN w')(hf:∀k,k<w.heap.size->(Z k).1≠o):aN w.heap.size w w':=⟨h.ch.os,h.ch.tape,h.ch.output,h.ch.size,fun k hk=>h.ch.block k hk (hf k hk)⟩
theorem VO:(Tryz.prog.info? 110).map (fun i=>(i.zero,i.size,i.bytes))=az (az (ay aj 0 0),1,24):=by kernel_rfl
theorem ahO:(Tryz.prog.info? 159).map (fun i=>(i.zero,i.size,i.bytes))=az (az (au aj),1,8):=by kernel_rfl
theorem ahP:(Tryz.prog.info? 162).map (fun i=>(i.zero,i.size,i.bytes))=az (az (au aj),1,8):=by kernel_rfl
theorem ahV(n:Nat):dS #[ay aj 0 0] n=((aO n).map fun _=>ay aj 0 0).toArray:=by unfold dS;apply sW;simp[Nat.mod_one]
def apH(n:Nat)(w:aG)(i:aI)(wr:aG):Prop:=∃k:Nat,k<=n/\i=ah ag k/\w=wr
def ajb(vT:Own)(w0:aG)(o b bE m:Nat)(aK:List Int)(i:aI)(wr:aG):Prop:=∃(p:Nat) (Z:Own) (L:yM),p<=bE/\i=ah ag p/\SE vT w0 o b bE m aK Z wr L p p 0
def adQ(vT:Own)(w0:aG)(o b bE m p:Nat)(aK:List Int)(i:aI)(wr:aG):Prop:=∃(c:Nat) (Z:Own) (L:yM),c<=m/\i=ah ag c/\SE vT w0 o b bE m aK Z wr L (p+1) p c
theorem aaT(bE:Nat)(aK:List Int)(A:Option Addr)(cap:Nat)(Z:Own)(o:Nat)(w:aG)(ho:2<=o)(MX:∀k,k<w.heap.size->(Z k).1≠o)(p0:1<=bE)(p1:bE<=8)(l0:1<=aK.length)(l1:aK.length<=8)(hr:∀r∈aK,1<=r/\r<=64)(hR:gI 1 cI 0 w A aK.length aK):bZ aH 40 #[ah ag bE,ay A aK.length cap] w (Rc Z o w bE aK):=by
 have HR:=aA hR;have HRM:=aA hr;have HF:=aA MX;obtain⟨rb,ro,ha,hrb,_⟩:=oC hR 0 (by omega);subst ha;clear hR hr MX;obtain⟨m,hm⟩:∃m,aK.length=m:=⟨_,rfl⟩;rw[hm]at HR l0 l1|-;have HM:=aA hm;clear hm;go_enter func40,ntmps40;go_wp2_with fail;go_loopw [7,36] (fun _ i wr=>apH m w i wr) (fun _ i _=>m-(aJ i).toNat);case atStart=>exact⟨0,bS _,rfl,rfl⟩
 case round=>
  obtain⟨k,hk,rfl,rfl⟩:=hrel;by_cases hkm:k<m
  ·obtain⟨b1,o1,ha,hb1,hc⟩:=oC HR.o k hkm;injection ha with ha;injection ha with ha1 ha2 _;subst ha1 ha2;have r01:=HRM.o (aK.getD k 0) (by have:=HM.o;have hk2:k<aK.length:=(by omega);simp[bJ,hk2]);generalize aK.getD k 0=r at hc r01;have r0:=r01.1;have r1:=r01.2;clear r01;go_wp2_with fail;exact⟨⟨k+1,by omega,by simp,rfl⟩,by simp[aJ];omega⟩
  ·obtain rfl:m=k:=by omega
   go_wp2_with (first|(go_at_call 84;refine(aew bE _ p0 p1).mono ?_;rintro e w' ⟨rfl,rfl⟩));clear hk
   generalize gK:MJ (MJ w _) _=w1;obtain⟨L0,hL0⟩:∃L0:yM,L0=⟨fun _=>0,fun _ _=>ay aj 0 0,fun _=>ay aj 0 0,fun _=>ay aj 0 0,fun _ _=>0,fun _ _=>0,fun _ _=>0,fun _ _=>0,w.heap.size⟩:=⟨_,rfl⟩;have S1:w1.heap.size=w.heap.size+2:=by rw[<-gK];simp
   have Zq:aY (∃vB,SE Z w o (w.heap.size+1) bE m aK vB w1 L0 0 0 0):=by
    refine⟨fun k=>if k<w.heap.size then Z k else if k=w.heap.size then(o,9,0,0)else(o,0,0,0),?_⟩;have b1:aN w.heap.size w w1:=(by rw[<-gK];exact((aQ _ _).alloc (aC _) _).alloc (by simp) _);have l0':∀q,vQ m 0 0 q=0:=fun q=>(by unfold vQ;simp);refine⟨⟨Ch.bY b1,fun k hk=>if_pos hk,fun k h1 h2=>?_⟩,⟨?_,?_,by omega⟩,⟨?_,?_⟩,by rw[hL0],fun q hq=>by omega,fun q=>?_,fun q d hd=>?_,fun q=>?_,fun q d hd=>?_,fun q _=>by rw[hL0];exact⟨rfl,rfl⟩⟩
    ·rw[if_neg (by omega)];split<;>exact .inl rfl
    ·rw[<-gK,aev bE m L0 (by rw[hL0]) (by rw[hL0]),hL0];have:=dh.new (w.alloc (af ((yA ⟨[0,0,0,0,0,0,0,0],[0,0,0,0,0,0,0,0]⟩ bE).map Ur).toArray 201)) 158 #[ah ag bE,ah ag m,ay aj 0 0,ay aj 0 0,ay aj 0 0,ay aj 0 0,ay aj 0 0,ay aj 0 0,ay aj 0 0,ay aj 0 0,
      ay aj 0 0,ay aj 0 0,ay aj 0 0,ay aj 0 0,ay aj 0 0,ay aj 0 0,ay aj 0 0,ay aj 0 0,ay aj 0 0,ay aj 0 0,ay aj 0 0,ay aj 0 0,ay aj 0 0,ay aj 0 0,ay aj 0 0,ay aj 0 0,
      ah ag 0,ah ag 0,ah ag 0,ah ag 0,ah ag 0,ah ag 0,ah ag 0,ah ag 0,pt w.heap.size,ah ag 0]
     rw[World.size_alloc]at this;exact this
    ·rw[if_neg (by omega),if_neg (by omega)]
    ·rw[hL0,<-gK];exact(dh.new w _ _).alloc _
    ·rw[hL0];simp
    ·rw[l0',hL0];exact⟨dM _ _ _ _,by simp[dV]⟩
    ·rw[l0']at hd;omega
    ·rw[l0',hL0];exact⟨dM _ _ _ _,by simp[dV]⟩
    ·rw[l0']at hd;omega
   clear gK hL0 S1;obtain⟨vB,hB1⟩:=Zq.o;have HB1:=aA hB1;clear hB1 Zq;obtain⟨b,hb⟩:∃x,w.heap.size+1=x:=⟨_,rfl⟩;rw[hb]at HB1;rw[hb];have Hb:=aA hb;clear hb;generalize hbb:w.heap.size=bb0;have Hbb:=aA hbb;clear hbb;obtain⟨i0,hi0,wC,uX,wK⟩:=dX VO;have mm:=aA (ahV m);go_loopw [11,13,14,15,16,17,62,75] (fun _ _ _ _ _ _ i _ wr=>ajb Z w o b bE m aK i wr) (fun _ _ _ _ _ _ i _ _=>bE-(aJ i).toNat);case atStart=>exact⟨0,vB,L0,bS _,rfl,HB1.o⟩
   case round=>
    obtain⟨p,τp,L,hp,rfl,hB⟩:=hrel;have HB:=aA hB;clear hB;by_cases hpn:p<bE
    ·have p0':(0:Int)<=(p:Int):=by omega
     have p8':(p:Int)<8:=(by omega);have WS:aY (w.heap.size<=wr.heap.size):=HB.o.nx.ch.size;have Q1:=aA (HB.o.queues WS.o (by omega) rfl rfl);have rb0:=HB.o.root.1.alloc (af (((aO m).map fun _=>ay aj 0 0).toArray) 110);have cq0:=rb0.cell (2+p);have axS:=rb0.frozen (2+p);unfold OX at cq0;rw[rU 36 _ (by omega),show bnV bE m p L (2+p)=ay aj 0 0 by unfold bnV;rw[if_neg (by omega),if_neg (by omega),if_pos (by omega),if_neg (by omega)]]at cq0;have ms:=aA (show dS (ay aj 0 0).cells (m*1)=((aO m).map fun _=>ay aj 0 0).toArray by rw[Nat.mul_one];exact mm.out);clear rb0;go_wp2_with fail;refine fQ 8 (fun _=>True) (by kernel_rfl) trivial (fun aW=>?_);refine bH.tk 0 aW ?_;try simp only[bI]
     refine bH.tk 1 aW ?_;try simp only[bI]
     refine bH.tk 2 aW ?_;try simp only[bI]
     refine bH.tk 3 aW ?_;try simp only[bI]
     refine bH.tk 5 aW ?_;try simp only[bI]
     refine bH.tk 6 aW ?_;try simp only[bI]
     refine bH.one (i:=4) (by kernel_rfl) rfl (fun K hK=>?_);refine rV (by rfl) (.tmp 68) (.tmp 68) 150 (by rfl) 110 i0 _ 1 underlying150 hi0 wC uX .i64 .i64 _ _ m (by rfl) (by rfl) (by rfl) (by rfl) (by rw[wK];omega) (by unfold fB;omega) ?_;rw[ms.out];refine hK.out _ _ (fun _=>trivial) (fun bU=>?_);have aW:=bU (by decide);clear hK bU;try simp only[bI]
     refine bH.tk 7 aW ?_;try simp only[bI]
     refine bH.one (i:=8) (by kernel_rfl) rfl (fun K hK=>?_);go_simp;refine hK.out _ _ (fun h=>absurd rfl h) (fun _=>?_);clear hK;refine bH.done (by kernel_rfl) ?_ _;try simp only[bI]
     clear cq0 axS;go_wp2_with fail;generalize Gc:iK (MJ wr _) _ _=w5 at *;clear Gc;have Q2:aY (adQ Z w o b bE m p aK (ah ag ((0:Nat):Int)) w5.drew):=⟨0,_,_,bS _,rfl,Q1.o.below ⟨rfl,rfl,rfl,aC _,fun _ _=>rfl⟩⟩;clear HB Q1 ms;obtain⟨wo,rfl⟩:∃wo:aG,wo=wr:=⟨_,rfl⟩;obtain⟨w5d,ars⟩:∃x,w5.drew=x:=⟨_,rfl⟩;rw[ars]at Q2|-;clear ars;go_loopw [13,14,15,16,17,75] (fun _ _ _ _ _ i wr=>adQ Z w o b bE m p aK i wr) (fun _ _ _ _ _ i _=>m-(aJ i).toNat);case atStart=>exact Q2.o
     case round=>
      obtain⟨c,τc,L,hc,rfl,hB⟩:=hrel;have HB:=aA hB;clear hB;by_cases hcm:c<m
      ·have BW:aY (aN w.heap.size w wr):=HB.o.nx.Rl HF.o;obtain⟨b1,o1,ha,hb1,Ps,qB⟩:=oC HR.o c hcm;injection ha with ha;injection ha with ha1 ha2 _;subst ha1 ha2;have r01:=HRM.o _ Ps;have hcw:wr.cell? ⟨rb,ro+c,aj⟩=az (ah ag (aK.getD c 0)):=(BW.o.cell (p:=⟨rb,ro+c,aj⟩) hrb).trans qB;clear hb1 Ps qB;obtain⟨r,hr⟩:∃r,aK.getD c 0=r:=⟨_,rfl⟩;rw[hr]at hcw r01;have Hr:=aA hr;clear hr;obtain⟨wa,Lg⟩:∃wa:aG,wr.alloc (af #[ah ag r] 3)=wa:=⟨_,rfl⟩;have SA:aY (wa.heap.size=wr.heap.size+1):=by rw[<-Lg,aY];simp
       have BA:aY (aN wr.heap.size wr wa):=(by rw[<-Lg];exact(aQ _ _).alloc (aC _) _);have GN:=aA (abI r wr.heap.size 1 wa r01 (by rw[<-Lg];exact(dh.new wr _ _).cell 0));have HWA:=aA Lg;clear r01 Lg;go_wp2_with (first
        |(go_at_call 85;rw[HWA.o];refine GN.o.mono ?_;rintro e w2 ⟨gb,gc,rfl,hg,g0,g1,bg⟩;have HG:=aA hg;have G0:=aA g0;have G1:=aA g1;have BG:=aA bg;clear hg g0 g1 bg hcw)
        |(go_at_call 86;refine(acO w2).mono ?_;rintro e w3 ⟨tb,tc,rfl,ht,t0,t1,bt⟩;have HT:=aA ht;have T0:=aA t0;have T1:=aA t1;have BT:=aA bt;clear ht t0 t1 bt))
       have K3:aY (aN wr.heap.size wr w3):=(BA.o.trans (BG.o.mono BA.o.size)).trans (BT.o.mono (dZ BA.o.size BG.o.size));have HG3:=aA (HG.o.ch (Ch.bY (S:=fun _=>False) BT.o) id id);have WS2:aY (w.heap.size<=wr.heap.size):=HB.o.nx.ch.size;have zO:=(HB.o.g p).1;rw[show vQ m p c p=c by unfold vQ;simp]at zO;have VK:=(HB.o.t p).1;rw[show vQ m p c p=c by unfold vQ;simp]at VK;obtain⟨ga,gk,eG⟩:=dO zO;obtain⟨ta,tk,eT⟩:=dO VK;have EG:=aA eG;have ET:=aA eT;rw[eG]at zO;rw[eT]at VK;have OWG:aY ((w3.alloc (af #[au (az ⟨gb,0,aj⟩)] 159)).ownsRow w.heap.size 159 1 (ay ga c gk) c ((aO c).map fun d=>pt (L.gb p d))):=(fO zO (Ch.bY (S:=fun _=>False) K3.o) (fun _ _ s=>s.elim)).alloc _;have HRT:=aA VK;have RB3:=aA (HB.o.root.1.below K3.o HB.o.root.1.lt);have cgp:aY (∀w',dh w' b 158 (OX bE m (p+1) L)->w'.cell? ⟨b,10+p,aj⟩=az (ay ga c gk)):=fun w' hb=>(by rw[hb.cell];unfold OX;rw[rU 36 _ (by omega)];unfold bnV;rw[if_neg (by omega),if_neg (by omega),if_neg (by omega),if_pos (by omega),show 10+p-10=p by omega,EG.o]);clear zO VK eG eT;refine fQ 14 (fun w'=>w'.cell? ⟨b,10+p,aj⟩=az (ay ga c gk)) (by kernel_rfl) (cgp.out _ RB3.o) (fun aW=>?_);refine bH.tk 0 aW ?_;try simp only[bI]
       refine bH.tk 1 aW ?_;try simp only[bI]
       refine bH.tk 2 aW ?_;try simp only[bI]
       refine bH.tk 3 aW ?_;try simp only[bI]
       refine bH.tk 4 aW ?_;try simp only[bI]
       refine bH.tk 5 aW ?_;try simp only[bI]
       refine bH.tk 6 aW ?_;try simp only[bI]
       refine bH.tk 7 aW ?_;try simp only[bI]
       refine bH.tk 8 aW ?_;try simp only[bI]
       refine bH.tk 11 aW ?_;try simp only[bI]
       refine bH.tk 12 aW ?_;try simp only[bI]
       have RA3:aY (dh (w3.alloc (af #[au (az ⟨gb,0,aj⟩)] 159)) b 158 (OX bE m (p+1) L)):=RB3.o.alloc _;obtain⟨j0,xI,zb,Ad,Ae⟩:=dX ahO;have RN:aY (Reads (w3.alloc (af #[au (az ⟨gb,0,aj⟩)] 159)).drew (w3.heap.size+1) 1 (az ⟨w3.heap.size,0,aj⟩) 1 [au (az ⟨gb,0,aj⟩)]):=(iB w3 159 [au (az ⟨gb,0,aj⟩)] (n:=1) (size:=1) rfl).drew;have WS3:aY (w.heap.size<=w3.heap.size):=(by have:=WS2.o;have:=K3.o.size;rw[aY];omega);refine bH.one (i:=9) (by kernel_rfl) rfl (fun K hK=>?_);go_simp;refine hK.out _ _ (fun _=>cgp.out _ RA3.o) (fun bU=>?_);have aW:=bU (by decide);clear hK bU;try simp only[bI]
       refine bH.one (i:=10) (by kernel_rfl) rfl (fun K hK=>?_);refine fV _ (by rfl) (.tmp 102) (.tmp 104) 152 (by rfl) w.heap.size 159 j0 _ 1 8 underlying152 xI zb Ad Ae rfl (by decide) _ _ _ (by rfl) (show World.ownsRow ((w3.alloc (af #[au (az ⟨gb,0,aj⟩)] 159)).drew) _ _ _ _ _ _ from OWG.o) _ (az ⟨w3.heap.size,0,aj⟩) 1 1 [au (az ⟨gb,0,aj⟩)] (by rfl) RN.o ?_ ?_ ?_ ?_ ?_
       ·intro u hu;simp only[dG,dP,or_false]at hu;subst hu;rfl
       ·unfold fB;omega
       ·omega
       ·have:=WS3.o;simp;omega
       intro v1 wB nV yo Ao;have aqU:(w3.alloc (af #[au (az ⟨gb,0,aj⟩)] 159)).grownBy wB (L.gr p).ownBlock:=by rw[EG.o];exact⟨yo.os,yo.tape,yo.output,yo.size,yo.block⟩
       have GR1:=aA aqU;have OW1:=aA nV;have LC1:aY (v1.ownBlock=(L.gr p).ownBlock\/v1.ownBlock=az (w3.heap.size+1)):=(by rw[EG.o,aY];simpa using Ao);obtain⟨P1,P2,P3,P4⟩:=HB.o.Wq (gc:=gc) (by omega) K3.o OW1.o GR1.o LC1.o;have HP1:=aA P1;have HP2:=aA P2;have HP3:=aA P3;obtain⟨ga1,gk1,e1⟩:=dO nV;have E1:=aA e1;have c10:=cgp.out _ HP1.o;have f10:=HP1.o.frozen (10+p);clear nV yo aqU Ao P1 P2 P3 P4;rw[e1];clear e1;refine hK.out _ _ (fun _=>c10) (fun bU=>?_);have aW:=bU (by decide);clear hK bU;try simp only[bI]
       refine bH.tk 13 aW ?_;try simp only[bI]
       refine bH.one (i:=14) (by kernel_rfl) rfl (fun K hK=>?_);go_simp;refine hK.out _ _ (fun h=>absurd rfl h) (fun _=>?_);clear hK;refine bH.done (by kernel_rfl) ?_ _;try simp only[bI]
       clear c10 f10;obtain⟨w4,Ie⟩:∃w4:aG,wB.setCell ⟨b,10+p,aj⟩ (ay ga1 (c+1) gk1)=w4:=⟨_,rfl⟩;have HQ2:aY (dh w4 b 158 (OX bE m (p+1) (L.zW p c gb gc v1))):=by rw[<-Ie,<-E1.o];exact HP2.o
       have HQ3:aY (w4.ownsRow w.heap.size 162 1 (L.tr p) c ((aO c).map fun d=>pt (L.tb p d))):=(by rw[<-Ie,<-E1.o];exact HP3.o);have HW4:=aA Ie;clear HP2 HP3;clear Ie;go_wp2_with fail;rw[HW4.o];have ctp:aY (∀w',dh w' b 158 (OX bE m (p+1) (L.zW p c gb gc v1))->w'.cell? ⟨b,18+p,aj⟩=az (ay ta c tk)):=fun w' hb=>(by rw[hb.cell];unfold OX;rw[rU 36 _ (by omega)];unfold bnV;rw[if_neg (by omega),if_neg (by omega),if_neg (by omega),if_neg (by omega),if_pos (by omega),show 18+p-18=p by omega];show az (L.tr p)=_;rw[ET.o]);have avI:aY (w4.ownsRow w.heap.size 162 1 (ay ta c tk) c ((aO c).map fun d=>pt (L.tb p d))):=(by rw[<-ET.o];exact HQ3.o);have OWT:aY ((w4.alloc (af #[au (az ⟨tb,0,aj⟩)] 162)).ownsRow w.heap.size 162 1 (ay ta c tk) c ((aO c).map fun d=>pt (L.tb p d))):=avI.out.alloc _;have SZ4:aY (w4.heap.size=wB.heap.size):=(by rw[<-HW4.o,aY];simp[iK]);have WS4:aY (w.heap.size<=w4.heap.size):=(by have h1:=GR1.o.size;simp at h1;have:=WS3.o;have:=SZ4.o;rw[aY];omega);refine fQ 14 (fun w'=>w'.cell? ⟨b,18+p,aj⟩=az (ay ta c tk)) (by kernel_rfl) (ctp.out _ HQ2.o) (fun aW=>?_);refine bH.tk 0 aW ?_;try simp only[bI]
       refine bH.tk 1 aW ?_;try simp only[bI]
       refine bH.tk 2 aW ?_;try simp only[bI]
       refine bH.tk 3 aW ?_;try simp only[bI]
       refine bH.tk 4 aW ?_;try simp only[bI]
       refine bH.tk 5 aW ?_;try simp only[bI]
       refine bH.tk 6 aW ?_;try simp only[bI]
       refine bH.tk 7 aW ?_;try simp only[bI]
       refine bH.tk 8 aW ?_;try simp only[bI]
       refine bH.tk 11 aW ?_;try simp only[bI]
       refine bH.tk 12 aW ?_;try simp only[bI]
       have RA4:aY (dh (w4.alloc (af #[au (az ⟨tb,0,aj⟩)] 162)) b 158 (OX bE m (p+1) (L.zW p c gb gc v1))):=HQ2.o.alloc _;obtain⟨k0,NJ,hx0,hx1,hx2⟩:=dX ahP;have RNT:aY (Reads (w4.alloc (af #[au (az ⟨tb,0,aj⟩)] 162)).drew (w4.heap.size+1) 1 (az ⟨w4.heap.size,0,aj⟩) 1 [au (az ⟨tb,0,aj⟩)]):=(iB w4 162 [au (az ⟨tb,0,aj⟩)] (n:=1) (size:=1) rfl).drew;refine bH.one (i:=9) (by kernel_rfl) rfl (fun K hK=>?_);go_simp;refine hK.out _ _ (fun _=>ctp.out _ RA4.o) (fun bU=>?_);have aW:=bU (by decide);clear hK bU;try simp only[bI]
       refine bH.one (i:=10) (by kernel_rfl) rfl (fun K hK=>?_);refine fV _ (by rfl) (.tmp 116) (.tmp 118) 154 (by rfl) w.heap.size 162 k0 _ 1 8 underlying154 NJ hx0 hx1 hx2 rfl (by decide) _ _ _ (by rfl) (show World.ownsRow ((w4.alloc (af #[au (az ⟨tb,0,aj⟩)] 162)).drew) _ _ _ _ _ _ from OWT.o) _ (az ⟨w4.heap.size,0,aj⟩) 1 1 [au (az ⟨tb,0,aj⟩)] (by rfl) RNT.o ?_ ?_ ?_ ?_ ?_
       ·intro u hu;simp only[dG,dP,or_false]at hu;subst hu;rfl
       ·unfold fB;omega
       ·omega
       ·have:=WS4.o;simp;omega
       intro v2 wD uz GM PX;have aqV:((wB.setCell ⟨b,10+p,aj⟩ v1).alloc (af #[au (az ⟨tb,0,aj⟩)] 162)).grownBy wD (L.tr p).ownBlock:=by rw[ET.o,E1.o,HW4.o];exact⟨GM.os,GM.tape,GM.output,GM.size,GM.block⟩
       obtain⟨P5,τz,P6⟩:=HB.o.push (by omega) WS2.o K3.o (by rw[Hr.o];exact HG3.o) HT.o (by have:=G0.o;have:=SA.o;omega) (by have:=G1.o;have:=SA.o;omega) (by have:=T0.o;have:=BG.o.size;have:=SA.o;omega) (by have:=T1.o;have:=BG.o.size;have:=SA.o;omega)
        OW1.o GR1.o LC1.o uz aqV (by rw[ET.o];rw[E1.o,HW4.o];simpa using PX)
       have HP5:=aA P5;have HP6:=aA P6;obtain⟨ta2,tk2,e2⟩:=dO uz;have E2:=aA e2;have c18:=ctp.out _ HP5.o;have f18:=HP5.o.frozen (18+p);clear uz GM aqV PX P5 P6;rw[e2];clear e2;refine hK.out _ _ (fun _=>c18) (fun bU=>?_);have aW:=bU (by decide);clear hK bU;try simp only[bI]
       refine bH.tk 13 aW ?_;try simp only[bI]
       refine bH.one (i:=14) (by kernel_rfl) rfl (fun K hK=>?_);go_simp;refine hK.out _ _ (fun h=>absurd rfl h) (fun _=>?_);clear hK;refine bH.done (by kernel_rfl) ?_ _;try simp only[bI]
       clear c18 f18;have iZ:aY (adQ Z w o b bE m p aK (ah ag ((c:Int)+1)) (wD.setCell ⟨b,18+p,aj⟩ (ay ta2 (c+1) tk2))):=⟨c+1,_,_,by omega,by simp,by rw[<-E2.o];exact HP6.o⟩;go_wp2_with fail;exact⟨iZ.out,by simp[aJ];omega⟩
      ·obtain rfl:m=c:=by omega
       have iZ:aY (ajb Z w o b bE m aK (ah ag ((p:Int)+1)) wr):=⟨p+1,_,_,by omega,by simp,HB.o.next l0⟩;go_wp2_with fail;exact⟨iZ.out,by simp[aJ];omega⟩
    ·obtain rfl:bE=p:=by omega
     have iZ:aY (Rc Z o w bE aK (ax (.tuple #[au (az ⟨b,0,aj⟩),ah ag 0])) wr):=
      ⟨b,τp,L,rfl,HB.o.box p1 HM.o.symm l0,HB.o.nx,HB.o.root.2.2⟩
     go_wp2_with fail;go_ret2
     exact iZ.out
end
end Go.Proofs.YtnjjkgjdhljfnaaGreat
