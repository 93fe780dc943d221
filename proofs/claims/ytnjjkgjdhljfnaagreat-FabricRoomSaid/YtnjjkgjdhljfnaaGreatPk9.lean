/- Part 9. -/
import Derived.Defers
import Derived.Recover
import Derived.Test.YtnjjkgjdhljfnaaGreatPk8
open Go.Proofs.Tryz
open Array renaming ext'->tu
open Go renaming Calls->di,Ending->iL,Value->aJ,World->aG,info_parts->eQ,madeCells->eH,maxLen->fJ,wp_at_succ->fK,wp_at_zero->fM
open Go.Ending renaming returned->ax
open Go.IntKind renaming i64->ag
open Go.IntWalk renaming i64_in->fH
open Go.Lib renaming hid->aA
open Go.Obj renaming cells->af
open Go.Proofs.Tryz renaming prog->aH
open Go.Region renaming wanted->eZ
open Go.RowKit renaming Below->aO,Hid->aZ,intOf->aK
open Go.RowKit.Below renaming refl->aS
open Go.Value renaming int->ah,ownBlock->eO,pointer->au,slice->ay
open Go.World renaming alloc->MU,block_lt_of_cell?->aY,ownsRow_nil->dR,setCell->iJ
open List renaming getD->bS,getElem?_cons_zero->dO,getElem?_map->cK,getElem?_range->eu,getElem?_replicate->gD,getElem?_toArray->dJ,length->oV,map_append->fF,map_congr_left->gm,mem_cons->dM,mem_range->dK,not_mem_nil->dZ,range->aN,range_succ->dL,replicate->aQ
open Nat renaming le_of_eq->zm,le_refl->aC,le_trans->eY,zero_le->bJ
open Option renaming none->aj,some->az
set_option maxRecDepth 100000
set_option maxHeartbeats 16000000
set_option linter.unusedVariables false
set_option linter.unusedSimpArgs false
namespace Go.Proofs.YtnjjkgjdhljfnaaGreat
open Go.RowKit Go.Maps
section
attribute [local go_sem ↓] fM fK
theorem UZ(p q:Addr)(w:aG):CallsD aH 125 #[au (az p),au (az q)] .returning w fun e u' w'=>e=ax (.tuple #[])/\u'=.returning/\w=w':=by refine callsD_of_wpS func125 rfl fun c₀ cs hu=>?_;apply wpS_seq;apply wpS_region;simp[wpOpsS,go_sem,recoverD,hu,ntmps125,Exit.thenS];refine wpS_cond (t:=false) (by simp[Act.eval,Array.replicate]) ?_;simp only[Bool.false_eq_true,if_false];refine wpS_of_wp (wp_skip ?_);cases c₀;simp_all[bodyPostS,results,Tryz.results125]
theorem TY(c1 c2:Nat)(w:aG):(binOp .eql 184 (.func (.func 98) #[] #[au (az ⟨c1,0,aj⟩),au (az ⟨c2,0,aj⟩)]) .nilFunc).run aH w=.ok (.bool false) w:=by kernel_rfl
def aed(Z:Own)(o:Nat)(w:aG)(b:Nat)(X:Bx)(bz:Nat->Fm->Option Nat)(e:iL)(w':aG):Prop:=
 ∃(vM vF:aJ) (Q:List (Fm×aJ)) (dV:Own) (L':yV),e=ax (.tuple #[vM,vF])/\pW dV o w' b (X.step bz).1 L'/\Nx Z o w dV w'/\w'.ownsRow w.heap.size 189 3 vM (X.step bz).2.length ((X.step bz).2.flatMap cM)/\
  w'.ownsRow w.heap.size 59 6 vF Q.length (Q.flatMap Dm)/\Q.map (·.1)=(X.step bz).2.map (·.2.2.2)/\(∀x∈Q,iX dV w' x.1.data x.2)/\(∀g,vM.ownBlock=az g->(dV g).1=0)/\∀g,vF.ownBlock=az g->(dV g).1=0
def StA(vU:Own)(w0:aG)(o b bB rV qM bD bO:Nat)(X:Bx)(bz:Nat->Fm->Option Nat)(s:Bx×List Mv)(w:aG):Prop:=
 ∃(Z:Own) (L:yV) (vM vF:aJ) (Q:List (Fm×aJ)),Tz vU w0 o b bB rV qM bD bO (fun p c=>(wZ X bz p c:Int)) (fun p c=>pX (Ez X bz p c)) X.bE X.aX Z w s.1 L s.2 vM vF Q/\Q.map (·.1)=s.2.map (·.2.2.2)
theorem ZI(l:List Int):l.flatMap cI=l.map fun n=>ah .i64 n:=by
 induction l with
 |nil=>rfl
 |cons x l ih=>rw[List.flatMap_cons,ih];rfl
theorem VN:(Tryz.prog.info? 189).map (fun i=>(i.zero,i.size,i.bytes))=az (az (.agg #[ah ag 0,ah ag 0,ah ag 0]),3,24):=by kernel_rfl
def StB(vU:Own)(w0:aG)(o b bB rV qM bD bO bM:Nat)(X:Bx)(bz:Nat->Fm->Option Nat)(s:Bx×List Mv)(w:aG):Prop:=
 ∃(Z:Own) (L:yV) (vM vF:aJ) (Q:List (Fm×aJ)),Tz vU w0 o b bB rV qM bD bO (fun p c=>(wZ X bz p c:Int)) (fun p c=>pX (Ez X bz p c)) X.bE X.aX Z w s.1 L s.2 vM vF Q/\Q.map (·.1)=s.2.map (·.2.2.2)/\
  dG w bM 3 (((BZ X bz).1.map optV).toArray)/\(Z bM).1=0
def adF(vU:Own)(w0:aG)(o b bB rV qM bD bO bM:Nat)(X:Bx)(bz:Nat->Fm->Option Nat)(i:aJ)(wr:aG):Prop:=
 ∃j:Nat,j<=X.bE/\i=ah ag j/\StB vU w0 o b bB rV qM bD bO bM X bz (jI X bz j) wr
def ajc(vU:Own)(w0:aG)(o b bB rV qM bD bO bM j k:Nat)(X:Bx)(bz:Nat->Fm->Option Nat)(i:aJ)(wr:aG):Prop:=
 ∃n:Nat,n<=X.aX/\i=ah ag n/\StB vU w0 o b bB rV qM bD bO bM X bz (jI X bz j) wr/\
  ∀m,m<n->mX (Ez X bz) (jI X bz j).1 j k (((jI X bz j).1.ptr.getD j 0+m)%X.aX)=false
theorem VU{X:Bx}{bz:Nat->Fm->Option Nat}{N:Nat}(hb:lW X N):(BZ X bz).1.length=X.bE:=by
 have h:=yx (bz:=bz) hb;unfold BZ;have:∀r,((aN r).foldl (fun m r=>uZ X.bE (MF X bz) (r==0) m) ⟨aQ X.bE aj,aQ 8 false,(jw X bz).1.iY⟩).mt.length=X.bE/\Xh X.bE ((aN r).foldl (fun m r=>uZ X.bE (MF X bz) (r==0) m) ⟨aQ X.bE aj,aQ 8 false,(jw X bz).1.iY⟩):=by
  intro r
  induction r with
  |zero=>
   have e:∀i,(aQ X.bE (aj:Option Nat)).getD i aj=aj:=fun i=>by simp only[bS,gD];split<;>rfl
   refine⟨by simp,⟨by simp,by simp,fun i k h=>?_,fun i j k h=>?_,by rw[<-h.2.1];exact h.1.iY⟩⟩<;>(simp only[List.range_zero,List.foldl_nil]at h;rw[e]at h;cases h)
  |succ r ih=>rw[dL,List.foldl_append];have h1:=KR (rq:=MF X bz) (Eb:=(r==0)) hb.p1 ih.2;exact⟨h1.ok.ml,h1.ok⟩
 exact(this X.bE).1
theorem StA.cells{vU:Own}{w0 w:aG}{o b bB rV qM bD bO:Nat}{X:Bx}{bz:Nat->Fm->Option Nat}{s:Bx×List Mv}(h:StA vU w0 o b bB rV qM bD bO X bz s w)(hp:s.1.bE=X.bE)(hc:s.1.aX=X.aX):w.cell? ⟨bB,0,aj⟩=az (au (az ⟨b,0,aj⟩))/\w.cell? ⟨b,0,aj⟩=az (ah ag X.bE)/\w.cell? ⟨b,0+1,aj⟩=az (ah ag X.aX):=by
 obtain⟨Z,L,vM,vF,Q,h,_⟩:=h;refine⟨h.vb.1.cell 0,?_,?_⟩
 ·rw[h.bx.c0,hp]
 ·rw[h.bx.c1,hc]
theorem StB.below{vU:Own}{w0 w w':aG}{o b bB rV qM bD bO bM:Nat}{X:Bx}{bz:Nat->Fm->Option Nat}{s:Bx×List Mv}(h:StB vU w0 o b bB rV qM bD bO bM X bz s w)(k:aO w.heap.size w w'):StB vU w0 o b bB rV qM bD bO bM X bz s w':=by obtain⟨Z,L,vM,vF,Q,h,hq,hm,ht⟩:=h;exact⟨_,L,vM,vF,Q,h.below k,hq,hm.below k hm.lt,by rw[iD hm.lt];exact ht⟩
theorem ahr(X:Bx)(L:yV){j c:Nat}(hj:j<8)(hl:X.ptr.length=8):(bxC X L).setIfInBounds (26+j) (ah ag c)=bxC {X with ptr:=X.ptr.set j c} L:=
 mM 36 _ _ _ _ fun i hi=>by
  by_cases e:i=26+j
  ·subst e;rw[if_pos rfl];unfold bxV;rw[if_neg (by omega),if_neg (by omega),if_neg (by omega),if_neg (by omega),if_neg (by omega),if_pos (by omega),show 26+j-26=j by omega,iK _ _ _ (by omega)]
  ·rw[if_neg e];unfold bxV;by_cases e2:26<=i/\i<34
   ·rw[if_neg (by omega),if_neg (by omega),if_neg (by omega),if_neg (by omega),if_neg (by omega),if_pos (by omega),if_neg (by omega),if_neg (by omega),if_neg (by omega),if_neg (by omega),if_neg (by omega),if_pos (by omega),iC _ _ _ (by omega)]
   ·repeat(first|(split;rfl)|rfl|split)
    all_goals first|rfl|omega
theorem StB.cells{vU:Own}{w0 w:aG}{o b bB rV qM bD bO bM N:Nat}{X:Bx}{bz:Nat->Fm->Option Nat}{j:Nat}(h:StB vU w0 o b bB rV qM bD bO bM X bz (jI X bz j) w)(hb:lW X N)(hj:j<=X.bE):w.cell? ⟨bB,0,aj⟩=az (au (az ⟨b,0,aj⟩))/\w.cell? ⟨b,0+1,aj⟩=az (ah ag X.aX)/\(∀i,i<X.bE->w.cell? ⟨b,26+i,aj⟩=az (ah ag ((jI X bz j).1.ptr.getD i 0:Nat)))/\∀i,i<X.bE->w.cell? ⟨bM,i,aj⟩=az (ah ag (pX ((BZ X bz).1.getD i aj))):=by have ok:=Ad (bz:=bz) hb hj;have ml:=VU (bz:=bz) hb;have p1:=hb.p1;obtain⟨Z,L,vM,vF,Q,h,_,hm,_⟩:=h;refine⟨h.vb.1.cell 0,by rw[h.bx.c1,ok.2.2.1],fun i hi=>h.bx.cp (by omega),fun i hi=>?_⟩;rw[hm.cell,xD optV aj _ (by rw[ml];exact hi),FV]
theorem StA.alA{vU:Own}{w0 w:aG}{o b bB rV qM bD bO:Nat}{X:Bx}{bz:Nat->Fm->Option Nat}{s:Bx×List Mv}(h:StA vU w0 o b bB rV qM bD bO X bz s w){p c:Nat}(hp:p<X.bE)(hc:c<X.aX)(h8:X.bE<=8):∃g cap,w.cell? ⟨bD,p,aj⟩=az (ay (az ⟨g,0,aj⟩) X.aX cap)/\w.cell? ⟨g,c,aj⟩=az (ah ag (wZ X bz p c:Nat)):=by obtain⟨Z,L,vM,vF,Q,h,_⟩:=h;exact h.dd.cells hp hc h8
def ajj(vU:Own)(w0:aG)(o b bB rV qM bD bO:Nat)(X:Bx)(bz:Nat->Fm->Option Nat)(i:aJ)(wr:aG):Prop:=
 ∃p:Nat,p<=X.bE/\i=ah ag p/\StA vU w0 o b bB rV qM bD bO X bz (qJ X bz p 0) wr
def ajk(vU:Own)(w0:aG)(o b bB rV qM bD bO p:Nat)(X:Bx)(bz:Nat->Fm->Option Nat)(i:aJ)(wr:aG):Prop:=
 ∃c:Nat,c<=X.aX/\i=ah ag c/\StA vU w0 o b bB rV qM bD bO X bz (qJ X bz p c) wr
def ajl(vU:Own)(w0:aG)(o b bB rV qM bD bO p c:Nat)(X:Bx)(bz:Nat->Fm->Option Nat)(i:aJ)(wr:aG):Prop:=
 ∃j:Nat,j<=wZ X bz p c/\i=ah ag j/\StA vU w0 o b bB rV qM bD bO X bz (rO X bz p c j) wr
theorem JY(A:Nat->Option Addr)(Nn C:Nat->Nat):uu (fun i=>ay (A i) (Nn i) (C i))=#[ay (A 0) (Nn 0) (C 0),ay (A 1) (Nn 1) (C 1),ay (A 2) (Nn 2) (C 2),ay (A 3) (Nn 3) (C 3),ay (A 4) (Nn 4) (C 4),ay (A 5) (Nn 5) (C 5),ay (A 6) (Nn 6) (C 6),ay (A 7) (Nn 7) (C 7)]:=by simp[uu,dL]
theorem aaV(N:Nat)(bz:Nat->Fm->Option Nat)(c1 c2:Nat)(Z:Own)(o:Nat)(w:aG)(b:Nat)(X:Bx)(L:yV)(h:pW Z o w b X L)(ho:2<=o)(hx:lW X N)(hN:N<=999999999000)(hR:∀(p:Nat) (x:Fm) (v:aJ) (w':aG),aO w.heap.size w w'->p<X.bE->(∃c,c<X.aX/\x∈dz X.q p c)->(∃a n cap,v=ay a n cap)->di aH 98 #[ah ag p,Nb x v,pt c1,pt c2] w' fun e w''=>e=ax (ah ag (pX (bz p x)))/\aO w'.heap.size w' w''):di aH 99 #[pt b,.func (.func 98) #[] #[pt c1,pt c2]] w (aed Z o w b X bz):=by
 obtain⟨w1,gK⟩:∃w1:aG,((w.alloc (af #[pt b] 101)).alloc (af #[ay aj 0 0] 185)).alloc (af #[ay aj 0 0] 110)=w1:=⟨_,rfl⟩;have BW:aZ (aO w.heap.size w w1):=by rw[<-gK];exact(((aS _ _).alloc (aC _) _).alloc (by simp) _).alloc (by simp;omega) _
 have S1:aZ (w1.heap.size=w.heap.size+3):=by rw[<-gK,aZ];simp
 have V1:aZ (dG w1 w.heap.size 101 #[pt b]):=by rw[<-gK];exact((dG.new w _ _).alloc _).alloc _
 have V2:aZ (dG w1 (w.heap.size+1) 185 #[ay aj 0 0]):=by rw[<-gK];have:=dG.new (w.alloc (af #[pt b] 101)) 185 #[ay aj 0 0];exact(by simpa using this:dG _ (w.heap.size+1) _ _).alloc _
 have V3:aZ (dG w1 (w.heap.size+1+1) 110 #[ay aj 0 0]):=by rw[<-gK];have:=dG.new ((w.alloc (af #[pt b] 101)).alloc (af #[ay aj 0 0] 185)) 110 #[ay aj 0 0];rw[aZ];simpa using this
 have H1:aZ (pW Z o w1 b X L):=h.below BW.o;have LK:=aA (aaS N bz c1 c2 Z o w1 b X L H1.o hx (fun p x v w' hb=>hR p x v w' (BW.o.trans (hb.mono BW.o.size))));have HM:=aA h;have HX:=aA hx;have c0:w1.cell? ⟨w.heap.size,0,aj⟩=az (au (az ⟨b,0,aj⟩)):=V1.o.cell 0;have HW:=aA gK;clear h hx hR gK;unfold pt at *;have hmf:∀(fn:Fn) (first cap:Array aJ) (w:aG),(Instr.makeFunc fn first cap).run aH w=.ok (.func fn first cap) w:=fun _ _ _ _=>rfl;have hnf:=TY c1 c2
 go_enter_defers func99,ntmps99
 go_wp2_with fail;rw[HW.o]
 refine LK.o.mono ?_;rintro e wl ⟨V,U,rfl,rows,gB⟩;obtain⟨A,Nn,C,hA⟩:=xS V X.bE (fun q hq=>qy (rows q hq).d);obtain⟨A',Uu,C',hA'⟩:=xS U X.bE (fun q hq=>qy (rows q hq).o);rw[hA,hA',JY,JY];have HA:=aA hA;have HA':=aA hA';have ROWS:=aA rows;have xW:=aA gB;clear hA hA' rows gB c0;have c0:wl.cell? ⟨w.heap.size,0,aj⟩=az (au (az ⟨b,0,aj⟩)):=(xW.out.cell (p:=⟨w.heap.size,0,aj⟩) V1.o.lt).trans (V1.o.cell 0);have c1z:=(H1.o.below xW.out).c0;have SL:w.heap.size+2<wl.heap.size:=by have h1:=xW.out.size;have h2:=S1.o;omega
 have LTB:=aY _ _ c1z;simp only at LTB;have n1:w.heap.size<wl.heap.size:=by omega
 have n2:w.heap.size<wl.heap.size+1:=by omega
 have n3:b<wl.heap.size+1:=by omega
 have n4:¬w.heap.size=wl.heap.size:=by omega
 have n5:¬w.heap.size=wl.heap.size+1:=by omega
 have n6:¬b=wl.heap.size:=by omega
 have n7:¬b=wl.heap.size+1:=by omega
 obtain⟨w6,Yr⟩:∃w6:aG,(wl.alloc (af (uu (kZ V X.bE (ay aj 0 0))) 231)).alloc (af (uu (kZ U X.bE (ay aj 0 0))) 231)=w6:=⟨_,rfl⟩;have HW6:=aA Yr;have ST:aZ (StA Z w o b w.heap.size (w.heap.size+1) (w.heap.size+1+1) wl.heap.size (wl.heap.size+1) X bz (qJ X bz 0 0) w6):=by
  have b6:aO wl.heap.size wl w6:=by rw[<-Yr];exact((aS _ _).alloc (aC _) _).alloc (by simp) _
  have s6:w6.heap.size=wl.heap.size+2:=by rw[<-Yr];simp
  have bw6:aO w.heap.size w w6:=(BW.o.trans (xW.out.mono BW.o.size)).trans (b6.mono (by omega));have hc:Ch (fun _=>False) w w6:=Ch.dw bw6;have he:∀k,k<w.heap.size->fr Z w.heap.size k=Z k:=fun k hk=>iD hk;have hf:∀k,w.heap.size<=k->(fr Z w.heap.size k).1=0:=fun k hk=>by rw[mH hk]
  have bD:dG w6 wl.heap.size 231 (uu (kZ V X.bE (ay aj 0 0))):=by rw[<-Yr];exact(dG.new wl _ _).alloc _
  have bO:dG w6 (wl.heap.size+1) 231 (uu (kZ U X.bE (ay aj 0 0))):=by rw[<-Yr];have:=dG.new (wl.alloc (af (uu (kZ V X.bE (ay aj 0 0))) 231)) 231 (uu (kZ U X.bE (ay aj 0 0)));simpa using this
  have bl1:∀{g t cs},g<w1.heap.size->dG w1 g t cs->dG w6 g t cs:=fun hg hb=>(hb.below xW.out hg).below b6 (by have:=xW.out.size;omega);refine⟨fr Z w.heap.size,L,ay aj 0 0,ay aj 0 0,[],⟨HM.o.jM hc he (fun _ s=>s.elim),Nx.dw bw6,⟨bl1 (by have:=S1.o;omega) V1.o,hf _ (aC _)⟩,⟨bl1 (by have:=S1.o;omega) V2.o,hf _ (by omega),by omega⟩,⟨bl1 (by have:=S1.o;omega) V3.o,hf _ (by omega),by omega⟩,
   ⟨dR _ _ _ _,by simp[eO]⟩,⟨dR _ _ _ _,by simp[eO]⟩,by simp,?_,?_⟩,rfl⟩
  ·refine zR.ZX (B:=w1.heap.size) (w:=wl) bD (hf _ (by omega)) HX.o.c0 (fun k h1 _=>hf k (by have:=S1.o;omega)) (fun p hp=>⟨(Hu X bz p X.aX).flatMap cI,?_,fun c qx=>?_⟩) b6
   ·have:=(ROWS.o p hp).d;rw[show(Hu X bz p X.aX).length=X.aX by simp[Hu]]at this;unfold kZ;rw[if_pos hp];exact this
   ·unfold Hu;rw[ZI,cK,cK,eu qx];rfl
  ·refine zR.ZX (B:=w1.heap.size) (w:=wl) bO (hf _ (by omega)) HX.o.c0 (fun k h1 _=>hf k (by have:=S1.o;omega)) (fun p hp=>⟨(Hw X bz p X.aX).flatMap cI,?_,fun c qx=>?_⟩) b6
   ·have:=(ROWS.o p hp).o;rw[show(Hw X bz p X.aX).length=X.aX by simp[Hw]]at this;unfold kZ;rw[if_pos hp];exact this
   ·unfold Hw;rw[ZI,cK,cK,eu qx];rfl
 clear Yr;go_wp2_with fail;rw[<-JY A Nn C,<-JY A' Uu C',<-HA.o,<-HA'.o,HW6.o];clear c0 c1z SL LTB n1 n2 n3 n4 n5 n6 n7 HA HA' ROWS V1 V2 V3 H1 LK HW HW6 xW S1 BW;obtain⟨bB,hbB⟩:∃x,w.heap.size=x:=⟨_,rfl⟩;obtain⟨rV,alX⟩:∃x,w.heap.size+1=x:=⟨_,rfl⟩;obtain⟨qM,alW⟩:∃x,w.heap.size+1+1=x:=⟨_,rfl⟩;have NE:aZ (bB≠rV/\bB≠qM):=by rw[aZ];omega
 rw[alW,alX,hbB]at ST;rw[alW,alX,hbB];have HbB:=aA hbB;clear hbB alX alW;generalize wl.heap.size=bD at *;generalize bD+1=bO at *;have p1:=HX.o.p1;have xc1:=HX.o.c1;go_loopw [8,9,34,41,50] (fun _ _ i _ _ wr=>ajj Z w o b bB rV qM bD bO X bz i wr) (fun _ _ i _ _ _=>X.bE-(aK i).toNat);case atStart=>exact⟨0,bJ _,rfl,ST.o⟩
 case round=>
  obtain⟨p,hp,rfl,Cv⟩:=hrel;have HST:=aA Cv;clear Cv;by_cases hpn:p<X.bE
  ·have DO:=aA (Gn (bz:=bz) (p:=p) (c:=0) (j:=0) HX.o hpn HX.o.c0 (bJ _));obtain⟨c0,c1,c2⟩:=HST.o.cells DO.o.2.1 DO.o.2.2.1;clear c1;go_wp2_with fail;clear c0 c2;obtain⟨wo,rfl⟩:∃wo:aG,wo=wr:=⟨_,rfl⟩;go_loopw [9,41,50] (fun _ i _ wr=>ajk Z w o b bB rV qM bD bO p X bz i wr) (fun _ i _ _=>X.aX-(aK i).toNat);case atStart=>exact⟨0,bJ _,rfl,HST.o⟩
   case round=>
    obtain⟨c,hc,rfl,Cv⟩:=hrel;have HS2:=aA Cv;clear Cv;by_cases QM:c<X.aX
    ·obtain⟨g,cap,z1,z2⟩:=HS2.o.alA hpn QM p1;have p0':(0:Int)<=(p:Int):=by omega
     have p8':(p:Int)<8:=(by omega);have c0':(0:Int)<=(c:Int):=(by omega);have c8':(c:Int)<(X.aX:Int):=(by omega);have DN8:wZ X bz p c<=64:=(by have h1:=(Gn (bz:=bz) (p:=p) (c:=c) (j:=0) HX.o hpn QM (bJ _)).2.2.2.2.2;have:=HX.o.Wp hpn QM;omega);go_wp2_with fail;clear z1 z2;obtain⟨wp,rfl⟩:∃wp:aG,wp=wr:=⟨_,rfl⟩;go_loopw [50] (fun i wr=>ajl Z w o b bB rV qM bD bO p c X bz i wr) (fun i _=>wZ X bz p c-(aK i).toNat);case atStart=>exact⟨0,bJ _,rfl,HS2.o⟩
     case round=>
      obtain⟨j,hj,rfl,Cv⟩:=hrel;have HS3:=aA Cv;clear Cv;by_cases Oc:j<wZ X bz p c
      ·
       obtain⟨τj,Lj,vM,vF,Q,hS,hq⟩:=HS3.o;have DO:=Gn (bz:=bz) (p:=p) (c:=c) (j:=j) HX.o hpn QM hj;obtain⟨f,rest,hfr⟩:∃f rest,dz (rO X bz p c j).1.q p c=f::rest:=by
        cases e:dz (rO X bz p c j).1.q p c with
        |nil=>have h1:=DO.2.2.2.1;rw[e]at h1;have h2:=congrArg oV h1;simp at h2;have:=DO.2.2.2.2.2;omega
        |cons f rest=>exact⟨f,rest,rfl⟩
       have SUC:aZ (rO X bz p c (j+1)=((rO X bz p c j).1.pop p c,(rO X bz p c j).2++[(p,c,aj,f)])):=(by rw[aZ,Vq,hfr];rfl);generalize rO X bz p c j=s at *;obtain⟨B,mm⟩:=s;simp only at hS DO hfr SUC hq;have ML:mm.length<=4096:=DO.2.2.2.2.1;have QL:Q.length=mm.length:=(by have:=congrArg oV hq;simpa using this);have BOK:=aA DO.1;have BP:=aA DO.2.1;have BC:=aA DO.2.2.1;have HS:=aA hS;have HQ:=aA hq;have HFR:=aA hfr;have HQL:=aA QL;have XP:=hS.vm.1.cell 0;have cF0:=hS.vf.1.cell 0;have cB0:=hS.vb.1.cell 0;have WSZ:aZ (w.heap.size<=wr.heap.size):=hS.nx.ch.size;obtain⟨aM,nM,kM,eM⟩:=qy hS.om.1;obtain⟨aF,nF,kF,eF⟩:=qy hS.Iw.1;have nMe:nM=mm.length:=(by obtain⟨a,cap,e,_⟩:=ic (d:=((0,0,aj,default):Mv)) LJ (by decide) hS.om.1;rw[eM]at e;injection e);have nFe:nF=Q.length:=(by obtain⟨a,cap,e,_⟩:=ic (d:=Ux) xG (by decide) hS.Iw.1;rw[eF]at e;injection e);subst eM eF nMe nFe;simp only[dJ,dO]at XP cF0 cB0;have OWM:aZ ((wr.alloc (af #[ah ag p,ah ag c,ah ag (-1)] 189)).ownsRow w.heap.size 189 3 (ay aM mm.length kM) mm.length (mm.flatMap cM)):=hS.om.1.alloc _;have LT:rV<wr.heap.size:=hS.vm.1.lt;obtain⟨i0,hi0,wE,uY,wN⟩:=eQ VN;clear hS DO hfr hq QL cF0 cB0;go_wp2_with (first
        |(at_builtin;refine gY _ rfl (.tmp 52) (.tmp 56) 185 rfl w.heap.size 189 i0 _ 3 24 underlying185 hi0 wE uY wN rfl (by decide) _ _ _ rfl OWM.o _ (az ⟨wr.heap.size,0,aj⟩) 1 1 [ah ag p,ah ag c,ah ag (-1)] rfl (iE wr _ [ah ag p,ah ag c,ah ag (-1)] (n:=1) (size:=3) rfl) ?c3 ?c4 ?c5 ?c6 ?_))
       case c3=>intro u hu;simp only[dM,dZ,or_false]at hu;rcases hu with rfl|rfl|rfl<;>rfl
       case c4=>unfold fJ;omega
       case c5=>omega
       case c6=>have:=WSZ.o;simp;omega
       intro v1 w2 nR yG AX;obtain⟨Yq,hS1,_⟩:=HS.o.ajY (mv:=(p,c,aj,f)) ho WSZ.o NE.o.1 nR yG (by simpa using AX);obtain⟨aM1,nM1,kM1,rfl⟩:=qy nR;have cm1:=Yq.cell 0;have fm1:=Yq.frozen 0;simp only[dJ,dO]at cm1;have HS1:=aA hS1.drew;have aGM:aZ (w.heap.size<=(w2.setCell ⟨rV,0,aj⟩ (ay aM1 nM1 kM1)).heap.size):=hS1.nx.ch.size;have PP:=aA (Vb p c N f _ o _ b B Lj hS1.bx.drew ho BOK.o (by omega) (by rw[BP.o];exact hpn) (by rw[BC.o];exact QM) HFR.o);have KS:aZ ((w2.setCell ⟨rV,0,aj⟩ (ay aM1 nM1 kM1)).drew.cell? ⟨qM,0,aj⟩=az (ay aF Q.length kF)/\(w2.setCell ⟨rV,0,aj⟩ (ay aM1 nM1 kM1)).drew.cell? ⟨bB,0,aj⟩=az (au (az ⟨b,0,aj⟩))):=⟨hS1.vf.1.cell 0,hS1.vb.1.cell 0⟩;clear nR yG AX Yq hS1 OWM LT;go_wp2_with fail;clear cm1 fm1 XP;generalize zZ:w2.setCell ⟨rV,0,aj⟩ (ay aM1 nM1 kM1)=w3 at *;clear zZ;refine wp_region_noPanic ?_;refine fZ 7 (fun w'=>w'.cell? ⟨qM,0,aj⟩=az (ay aF Q.length kF)/\w'.cell? ⟨bB,0,aj⟩=az (au (az ⟨b,0,aj⟩))) (by kernel_rfl) KS.o (fun aW=>?_);refine bH.tk 0 aW ?_;try simp only[bI]
       refine bH.tk 1 aW ?_;try simp only[bI]
       refine bH.tk 2 aW ?_;try simp only[bI]
       refine bH.tk 3 aW ?_;try simp only[bI]
       refine bH.one (i:=4) (by kernel_rfl) rfl (fun K hK=>?_);go_simp;refine PP.o.mono ?_;rintro e wq ⟨v,rfl,Je,τq,Lq,Jc,hnx⟩;have QO:=aA (HS1.o.post ho Jc hnx);have DAT:=aA (Je.nx hnx ho);obtain⟨da,dc,rfl,_⟩:=Je;have KQ:aZ (wq.cell? ⟨qM,0,aj⟩=az (ay aF Q.length kF)/\wq.cell? ⟨bB,0,aj⟩=az (au (az ⟨b,0,aj⟩))):=⟨QO.o.vf.1.cell 0,QO.o.vb.1.cell 0⟩;clear Jc hnx;refine hK.out _ _ (fun _=>KQ.o) (fun bU=>?_);have aW:=bU (by decide);clear hK bU;try simp only[bI]
       try simp only[Nb]
       refine bH.one (i:=5) (by kernel_rfl) rfl (fun K hK=>?_);go_simp;have KA:aZ ((wq.alloc (af #[ah ag f.id,ah ag f.iN,ah ag f.jl,ah ag f.cls,ah ag f.ep,ay da f.data.length dc] 59)).cell? ⟨qM,0,aj⟩=az (ay aF Q.length kF)/\(wq.alloc (af #[ah ag f.id,ah ag f.iN,ah ag f.jl,ah ag f.cls,ah ag f.ep,ay da f.data.length dc] 59)).cell? ⟨bB,0,aj⟩=az (au (az ⟨b,0,aj⟩))):=⟨(QO.o.vf.1.alloc _).cell 0,(QO.o.vb.1.alloc _).cell 0⟩;refine hK.out _ _ (fun _=>KA.o) (fun bU=>?_);have aW:=bU (by decide);clear hK bU;try simp only[bI]
       have OQ:aZ ((wq.alloc (af #[ah ag f.id,ah ag f.iN,ah ag f.jl,ah ag f.cls,ah ag f.ep,ay da f.data.length dc] 59)).ownsRow w.heap.size 59 6 (ay aF Q.length kF) Q.length (Q.flatMap Dm)):=QO.o.Iw.1.alloc _;obtain⟨j0,xQ,zC,Aq,Av⟩:=eQ Cw;have WSQ:aZ (w.heap.size<=wq.heap.size):=QO.o.nx.ch.size;have RN:aZ (Reads (wq.alloc (af #[ah ag f.id,ah ag f.iN,ah ag f.jl,ah ag f.cls,ah ag f.ep,ay da f.data.length dc] 59)) (wq.heap.size+1) 6 (az ⟨wq.heap.size,0,aj⟩) 1 [ah ag f.id,ah ag f.iN,ah ag f.jl,ah ag f.cls,ah ag f.ep,ay da f.data.length dc]):=iE wq 59 [ah ag f.id,ah ag f.iN,ah ag f.jl,ah ag f.cls,ah ag f.ep,ay da f.data.length dc] (n:=1) (size:=6) rfl;refine bH.one (i:=6) (by kernel_rfl) rfl (fun K hK=>?_);refine gy _ (by rfl) (.tmp 58) (.tmp 63) 110 (by rfl) w.heap.size 59 j0 _ 6 64 underlying110 xQ zC Aq Av rfl (by decide) _ _ _ (by rfl) OQ.o _ (az ⟨wq.heap.size,0,aj⟩) 1 1 [ah ag f.id,ah ag f.iN,ah ag f.jl,ah ag f.cls,ah ag f.ep,ay da f.data.length dc] (by rfl) RN.o ?_ ?_ ?_ ?_ ?_
       ·intro u hu;simp only[dM,dZ,or_false]at hu;rcases hu with rfl|rfl|rfl|rfl|rfl|rfl<;>rfl
       ·have:=HQL.o;unfold fJ;omega
       ·have:=HQL.o;omega
       ·have:=WSQ.o;simp;omega
       intro v5 w5 uL zW Dw;obtain⟨hbf,hS5,_⟩:=QO.o.ajX (x:=f) (v:=ay da f.data.length dc) ho WSQ.o NE.o.2 DAT.o uL zW (by simpa using Dw);obtain⟨aF5,nF5,kF5,rfl⟩:=qy uL;have KZ:aZ (w5.cell? ⟨qM,0,aj⟩=az (ay aF Q.length kF)/\w5.cell? ⟨bB,0,aj⟩=az (au (az ⟨b,0,aj⟩))):=⟨hbf.cell 0,by have h1:=((QO.o.vb.1.alloc (af #[ah ag f.id,ah ag f.iN,ah ag f.jl,ah ag f.cls,ah ag f.ep,ay da f.data.length dc] 59)).grown zW fun e=>by obtain⟨cs,hb⟩:=kY QO.o.Iw.1 _ e.symm;exact dG.sZ QO.o.vb.1 hb (by decide) rfl);exact h1.cell 0⟩;have HS5:=aA hS5;have cf5:=hbf.cell 0;have ff5:=hbf.frozen 0;simp only[dJ,dO]at cf5;clear uL zW Dw hbf hS5;refine hK.out _ _ (fun _=>KZ.o) (fun bU=>?_);have aW:=bU (by decide);clear hK bU;try simp only[bI]
       refine bH.one (i:=7) (by kernel_rfl) rfl (fun K hK=>?_);go_simp;refine hK.out _ _ (fun h=>absurd rfl h) (fun _=>?_);clear hK;refine bH.done (by kernel_rfl) ?_ _;try simp only[bI]
       refine NoPanic.normal ?_;have jm:aZ (ajl Z w o b bB rV qM bD bO p c X bz (ah ag ((j+1:Nat):Int)) (w5.setCell ⟨qM,0,aj⟩ (ay aF5 nF5 kF5))):=⟨j+1,by omega,rfl,by rw[SUC.o];exact⟨_,_,_,_,_,HS5.o,by simp[HQ.o]⟩⟩;clear cf5 ff5;go_wp2_with fail;exact⟨by simpa using jm.out,by simp[aK];omega⟩
      ·obtain rfl:wZ X bz p c=j:=by omega
       have jm:aZ (ajk Z w o b bB rV qM bD bO p X bz (ah ag ((c+1:Nat):Int)) wr):=⟨c+1,by omega,rfl,by rw[<-Pm];exact HS3.o⟩;go_wp2_with fail;exact⟨by simpa using jm.out,by simp[aK];omega⟩
    ·obtain rfl:X.aX=c:=by omega
     have jm:aZ (ajj Z w o b bB rV qM bD bO X bz (ah ag ((p+1:Nat):Int)) wr):=⟨p+1,by omega,rfl,by rw[RJ];exact HS2.o⟩;go_wp2_with fail;exact⟨by simpa using jm.out,by simp[aK];omega⟩
  ·obtain rfl:X.bE=p:=by omega
   obtain⟨τe,Le,vM,vF,Q,hS,hq⟩:=HST.o;have DE:=yx (bz:=bz) HX.o;have MO:=aA (Ud (bz:=bz) HX.o);have ML:=aA (VU (bz:=bz) HX.o);have RQ:aZ (acz (Ez X bz) (jw X bz).1=MF X bz):=(by rw[aZ];unfold acz MF;rw[DE.2.2.1]);have MT:aZ ((Ej X.bE (MF X bz) (jw X bz).1.iY X.bE).mt=(BZ X bz).1/\(Ej X.bE (MF X bz) (jw X bz).1.iY X.bE).iY=(BZ X bz).2):=⟨rfl,rfl⟩;have M0:aZ (jI X bz 0=({(jw X bz).1 with iY:=(BZ X bz).2},(jw X bz).2)):=rfl;have ES:aZ (qJ X bz X.bE 0=jw X bz):=rfl;rw[ES.o]at hS hq;generalize jw X bz=E at *;obtain⟨E,mm⟩:=E;simp only at hS hq DE RQ MT M0;have EP:=DE.2.1;have EC:=DE.2.2.1;have RC:aZ (∀w',aO wr.heap.size wr w'->di aH 131 #[au (az ⟨b,0,aj⟩),.func (.func 128) #[] #[au (az ⟨bO,0,aj⟩),au (az ⟨bB,0,aj⟩)]] w' (Ty X.bE (MF X bz) w')):=fun w' hb=>(by have h1:=hS.below hb;have h2:=QS N (Ez X bz) bO bB _ o w' b E Le h1.bx DE.1 (by omega) (by rw[EP,EC];exact h1.oo) (h1.vb.1.cell 0);rw[EP,RQ.o]at h2;exact h2);have HSe:=aA hS;have HQ:=aA hq;have EOK:=aA DE.1;have HEP:=aA EP;have HEC:=aA EC;have KC:aZ (∀w',aO wr.heap.size wr w'->w'.cell? ⟨bB,0,aj⟩=az (au (az ⟨b,0,aj⟩))/\w'.cell? ⟨b,34,aj⟩=az (au (az ⟨Le.bb,0,aj⟩))/\w'.cell? ⟨b,0,aj⟩=az (ah ag X.bE)/\dG w' Le.bb 201 (((yP E.iY X.bE).map Uw).toArray)):=fun w' hb=>(by have h1:=HSe.o.below hb;exact⟨h1.vb.1.cell 0,h1.bx.cb,by rw[h1.bx.c0,HEP.o],by have:=h1.bx.iY.1;rw[HEP.o]at this;exact this⟩);have KM:aZ (∀wq wm,aO wr.heap.size wr wq->Ch (· =Le.bb) wq wm->wm.cell? ⟨bB,0,aj⟩=az (au (az ⟨b,0,aj⟩))/\wm.cell? ⟨b,34,aj⟩=az (au (az ⟨Le.bb,0,aj⟩))/\wm.cell? ⟨b,0,aj⟩=az (ah ag X.bE)):=fun wq wm hb hc=>(by have h1:=HSe.o.below hb;obtain⟨k1,k2,k3,_⟩:=KC.o wq hb;have n1:¬bB=Le.bb:=fun e=>(by have q1:=h1.vb.2;have q2:=h1.bx.iY.2;rw[e,q2]at q1;simp at q1;omega);have n2:¬b=Le.bb:=fun e=>(by have q1:=h1.bx.root.2;have q2:=h1.bx.iY.2;rw[<-e,q1]at q2;simp at q2);exact⟨(hc.cell (p:=⟨bB,0,aj⟩) h1.vb.1.lt n1).trans k1,(hc.cell (p:=⟨b,34,aj⟩) h1.bx.root.1.lt n2).trans k2,(hc.cell (p:=⟨b,0,aj⟩) h1.bx.root.1.lt n2).trans k3⟩);have aoC:aZ (∀wq wm bM bT,aO wr.heap.size wr wq->Ch (· =Le.bb) wq wm->wr.heap.size<=bM->bM<wq.heap.size\/wq.heap.size<=bM->rF wm Le.bb bM bT X.bE (Ej X.bE (MF X bz) E.iY X.bE)->StB Z w o b bB rV qM bD bO bM X bz (jI X bz 0) wm):=fun wq wm bM bT hb hc hl _ hM=>by
    have h1:=HSe.o.below hb;have h2:=h1.bx.iY.2;have nx:Nx (fr τe wr.heap.size) o wq (fr (fr τe wr.heap.size) wq.heap.size) wm:=Nx.Sj hc fun k e=>(by rw[e,h2]);have h3:=h1.bx.Zj.Ju ho (B:=(BZ X bz).2) hc (by have:=hM.iY;rw[MT.o.2]at this;rw[HEP.o];exact this);refine⟨_,_,_,_,_,by rw[M0.o];exact h1.post ho h3 nx,by rw[M0.o];exact HQ.o,by have:=hM.mt;rw[MT.o.1]at this;exact this,?_⟩;by_cases e:bM<wq.heap.size
    ·rw[iD e,mH hl]
    ·rw[mH (by omega)]
   have BO2:aZ (qZ E.iY X.bE):=(by rw[<-HEP.o];exact EOK.o.iY);clear hS hq DE EP EC;go_wp2_with fail;go_region_held3 (fun w'=>w'.cell? ⟨bB,0,aj⟩=az (au (az ⟨b,0,aj⟩))/\w'.cell? ⟨b,34,aj⟩=az (au (az ⟨Le.bb,0,aj⟩))/\w'.cell? ⟨b,0,aj⟩=az (ah ag X.bE))
    (first|exact⟨(KC.o _ ((aS _ _).drew)).1,(KC.o _ ((aS _ _).drew)).2.1,(KC.o _ ((aS _ _).drew)).2.2.1⟩|exact⟨(KC.o _ BQ.o).1,(KC.o _ BQ.o).2.1,(KC.o _ BQ.o).2.2.1⟩|exact KM.o _ _ BQ.o CM.o)
    (first
     |(go_at_call 131;refine(RC.o _ (aS _ _).drew).mono ?_;rintro e wq ⟨R,rfl,hR,bq,lR⟩;have HR:=aA hR;have BQ:aZ (aO wr.heap.size wr wq):=(show aO wr.heap.size wr wq from⟨bq.os,bq.tape,bq.output,bq.size,bq.block⟩);clear hR bq lR)
     |(go_at_call 130;refine(XI X.bE X.bE (az ⟨R,0,aj⟩) (MF X bz) E.iY Le.bb wq HR.o (KC.o _ BQ.o).2.2.2 BO2.o).mono ?_;rintro e wm ⟨bM,bT,rfl,lM,hM,cm⟩;have HMM:=aA hM;have CM:=aA cm;have LM:=aA lM;clear hM cm lM))
   have STB:=aA (aoC.out wq wm bM bT BQ.o CM.o (eY BQ.o.size LM.o) (by omega) HMM.o);clear aoC KM HMM CM LM BO2 HR BQ KC RC;go_wp2_with fail;clear HST HSe HQ EOK HEP HEC MO ML RQ MT M0 ES;obtain⟨wz,rfl⟩:∃wz:aG,wz=wr:=⟨_,rfl⟩;go_loopw [13,14,15,16,86,97] (fun _ _ _ _ i _ wr=>adF Z w o b bB rV qM bD bO bM X bz i wr) (fun _ _ _ _ i _ _=>X.bE-(aK i).toNat);case atStart=>exact⟨0,bJ _,rfl,STB.o⟩
   case round=>
    obtain⟨j,hj,rfl,Cv⟩:=hrel;have HB1:=aA Cv;clear Cv STB;by_cases Oc:j<X.bE
    ·obtain⟨c0,c1,c2,c3⟩:=HB1.o.cells HX.o hj;have cm:=c3 j Oc;have j0:(0:Int)<=(j:Int):=(by omega);have j8:(j:Int)<(X.bE:Int):=(by omega);have MS:=aA (Ue X bz j);clear c2 c3;cases hk:(BZ X bz).1.getD j aj with
     |none=>rw[hk,acj]at cm;have jm:aZ (adF Z w o b bB rV qM bD bO bM X bz (ah ag ((j+1:Nat):Int)) wr):=⟨j+1,by omega,rfl,by rw[MS.o];unfold ZW;rw[hk];exact HB1.o⟩;clear hk c0 c1;go_wp2_with fail;exact⟨by simpa using jm.out,by simp[aK];omega⟩
     |some k=>
      rw[hk,Sm]at cm;have MK:aZ (jI X bz (j+1)=Qe (Ez X bz) j k (jI X bz j)):=by rw[aZ,MS.o];unfold ZW;rw[hk]
      have kn:k<X.bE:=((Ud (bz:=bz) HX.o).1.lt j k hk).2.1;clear hk MS;have kk0:(0:Int)<=(k:Int):=(by omega);have aoB:aZ (∀wx,StB Z w o b bB rV qM bD bO bM X bz (jI X bz (j+1)) wx->adF Z w o b bB rV qM bD bO bM X bz (ah ag ((j:Int)+1)) wx):=fun wx hx=>⟨j+1,by omega,by simp,hx⟩;go_wp2_with fail;clear c0 c1 cm;obtain⟨wy,rfl⟩:∃wy:aG,wy=wr:=⟨_,rfl⟩;go_loopw [15,16,97] (fun _ _ i wr=>ajc Z w o b bB rV qM bD bO bM j k X bz i wr) (fun _ _ i _=>X.aX-(aK i).toNat);case atStart=>exact⟨0,bJ _,rfl,HB1.o,fun m hm=>by omega⟩
      case round=>
       obtain⟨n,hn,rfl,Cv,Px⟩:=hrel;have HB2:=aA Cv;have Xd:=aA Px;clear Cv Px;have WU:=aA (Ad (bz:=bz) HX.o hj);by_cases hnn:n<X.aX
       ·obtain⟨c0,c1,c2,_⟩:=HB2.o.cells HX.o hj;have cp:=c2 j Oc;have PT:(jI X bz j).1.ptr.getD j 0<8:=(by have h1:=WU.o.1.pt j;rw[WU.o.2.2.1]at h1;omega);clear c2;have aoR:=aA MK.o;generalize hs:jI X bz j=s at *;obtain⟨B,mm⟩:=s;simp only at cp PT;have MDc:aZ ((((B.ptr.getD j 0:Nat):Int)+(n:Int))%(X.aX:Int)=(((B.ptr.getD j 0+n)%X.aX:Nat):Int)):=(by rw[aZ];push_cast;rfl);have clt:(B.ptr.getD j 0+n)%X.aX<X.aX:=Nat.mod_lt _ (by omega);generalize hpj:B.ptr.getD j 0=pj at cp PT MDc clt;have Hpj:=aA hpj;have Hs:=aA hs;clear hpj hs MK;have nn8:(n:Int)<8:=(by omega);have q1:IntKind.i64.wrap ((pj:Int)+(n:Int))=(pj:Int)+(n:Int):=fH _ (by omega);go_wp2_with fail;go_quiet (fail);clear q1;go_wp2_with fail;have SBn:aZ (StB Z w o b bB rV qM bD bO bM X bz (B,mm) (wr.drewN nq)):=HB2.o.below (below_drewN (aS _ _) nq);obtain⟨τB,LB,vM,vF,Q,hS,hq,hm,ht⟩:=SBn.o;have RDY:=aA (OZ j k ((pj+n)%X.aX) (N+8) (Ez X bz) bO bB τB τB o (wr.drewN nq) b B LB hS.bx WU.o.1 (by omega) (by rw[WU.o.2.1];exact Oc) (by rw[WU.o.2.1];exact kn) (by rw[WU.o.2.2.1];exact clt) (by rw[WU.o.2.1,WU.o.2.2.1];exact hS.oo) (hS.vb.1.cell 0));clear hS hq hm ht c0 c1 cp;rw[MDc.o];have FC:aZ (mX (Ez X bz) B j k ((pj+n)%X.aX)=true->oC B.aX (B.ptr.getD j 0) (mX (Ez X bz) B j k)=az ((pj+n)%X.aX)):=fun h=>by
         rw[WU.o.2.2.1,Hpj.o];exact yR hnn h (fun m hm=>by have:=Xd.o m hm;rw[Hpj.o]at this;exact this)
        have NO2:aZ (mX (Ez X bz) B j k ((pj+n)%X.aX)=false->∀m,m<n+1->mX (Ez X bz) B j k ((B.ptr.getD j 0+m)%X.aX)=false):=fun h m hm=>by
         by_cases e:m=n
         ·subst e;rw[Hpj.o];exact h
         ·exact Xd.o m (by omega)
        generalize(pj+n)%X.aX=cl at *;clear Xd MDc;cases hr:mX (Ez X bz) B j k cl with
        |false=>rw[hr]at RDY;have NO3:=aA (NO2.o hr);clear hr NO2 FC;refine RDY.o.mono ?_;rintro e wq ⟨rfl,bq⟩;have SBq:=aA (SBn.o.below bq);clear bq;have jm:aZ (ajc Z w o b bB rV qM bD bO bM j k X bz (ah ag ((n:Int)+1)) wq):=⟨n+1,by omega,by simp,by rw[Hs.o];exact SBq.o,by rw[Hs.o];exact NO3.o⟩;go_wp2_with fail;exact⟨jm.out,by simp[aK];omega⟩
        |true=>
         rw[hr]at RDY;have FC2:=aA (FC.o hr);have RB:aZ (Ez X bz j cl=az k/\0<(dz B.tk k cl).left):=by rw[aZ];unfold mX at hr;simpa using hr
         clear hr NO2 FC;refine RDY.o.mono ?_;rintro e wq ⟨rfl,bq⟩;have SBq:=aA (SBn.o.below bq);clear bq RDY SBn HB2;obtain⟨τj,Lj,vM,vF,Q,hS,hq,hm,ht⟩:=SBq.o;simp only at hS hq;have DE:=yx (bz:=bz) HX.o;obtain⟨f,rest,aqV,hrf,_⟩:=DE.2.2.2.2 j cl k Oc clt RB.o.1;have hfr:dz B.q j cl=f::rest:=(WU.o.2.2.2.2 j cl (aC _)).trans aqV;have MI:aZ (jI X bz (j+1)=({B.pop j cl with tk:=jA (B.pop j cl).tk k cl (dz (B.pop j cl).tk k cl).take,ptr:=(B.pop j cl).ptr.set j ((cl+1)%(B.pop j cl).aX)},mm++[(j,cl,az k,f)])):=by rw[aZ,aoR.out];unfold Qe;simp only;rw[FC2.o];simp only;rw[hfr];rfl
         have ML:mm.length<=5000:=eY WU.o.2.2.2.1 (by decide);have QL:Q.length=mm.length:=(by have:=congrArg oV hq;simpa using this);have BOK:aZ (lW B (N+8)):=WU.o.1;have BP:aZ (B.bE=X.bE):=WU.o.2.1;have BC:aZ (B.aX=X.aX):=WU.o.2.2.1;have HS:=aA hS;have HQ:=aA hq;have HM2:=aA hm;have HT2:=aA ht;have HFR:=aA hfr;have HQL:=aA QL;have XP:=hS.vm.1.cell 0;have WSZ:aZ (w.heap.size<=wq.heap.size):=hS.nx.ch.size;obtain⟨aM,nM,kM,eM⟩:=qy hS.om.1;obtain⟨aF,nF,kF,eF⟩:=qy hS.Iw.1;have nMe:nM=mm.length:=(by obtain⟨a,cap,e,_⟩:=ic (d:=((0,0,aj,default):Mv)) LJ (by decide) hS.om.1;rw[eM]at e;injection e);have nFe:nF=Q.length:=(by obtain⟨a,cap,e,_⟩:=ic (d:=Ux) xG (by decide) hS.Iw.1;rw[eF]at e;injection e);subst eM eF nMe nFe;simp only[dJ,dO]at XP;have OWM:aZ ((wq.alloc (af #[ah ag j,ah ag cl,ah ag k] 189)).ownsRow w.heap.size 189 3 (ay aM mm.length kM) mm.length (mm.flatMap cM)):=hS.om.1.alloc _;have LT:rV<wq.heap.size:=hS.vm.1.lt;obtain⟨i0,hi0,wE,uY,wN⟩:=eQ VN;clear hS hfr hq QL hm ht DE aqV hrf WU aoR FC2;go_wp2_with (first
          |(at_builtin;refine gY _ rfl (.tmp 119) (.tmp 124) 185 rfl w.heap.size 189 i0 _ 3 24 underlying185 hi0 wE uY wN rfl (by decide) _ _ _ rfl OWM.o _ (az ⟨wq.heap.size,0,aj⟩) 1 1 [ah ag j,ah ag cl,ah ag k] rfl (iE wq _ [ah ag j,ah ag cl,ah ag k] (n:=1) (size:=3) rfl) ?d3 ?d4 ?d5 ?d6 ?_))
         case d3=>intro u hu;simp only[dM,dZ,or_false]at hu;rcases hu with rfl|rfl|rfl<;>rfl
         case d4=>unfold fJ;omega
         case d5=>omega
         case d6=>have:=WSZ.o;simp;omega
         intro v1 w2 nR yG AX;obtain⟨Yq,hS1,hI1⟩:=HS.o.ajY (mv:=(j,cl,az k,f)) ho WSZ.o NE.o.1 nR yG (by simpa using AX);obtain⟨aM1,nM1,kM1,rfl⟩:=qy nR;have cm1:=Yq.cell 0;have fm1:=Yq.frozen 0;simp only[dJ,dO]at cm1;have HS1:=aA hS1.drew;have HM3:=aA (hI1 bM _ HM2.o);have PP:=aA (Vb j cl (N+8) f _ o _ b B Lj hS1.bx.drew ho BOK.o (by omega) (by rw[BP.o];exact Oc) (by rw[BC.o];exact clt) HFR.o);have KS:aZ ((w2.setCell ⟨rV,0,aj⟩ (ay aM1 nM1 kM1)).drew.cell? ⟨qM,0,aj⟩=az (ay aF Q.length kF)/\(w2.setCell ⟨rV,0,aj⟩ (ay aM1 nM1 kM1)).drew.cell? ⟨bB,0,aj⟩=az (au (az ⟨b,0,aj⟩))):=⟨hS1.vf.1.cell 0,hS1.vb.1.cell 0⟩;clear nR yG AX Yq hS1 OWM LT hI1;go_wp2_with fail;clear cm1 fm1 XP;generalize zZ:w2.setCell ⟨rV,0,aj⟩ (ay aM1 nM1 kM1)=w3 at *;clear zZ;refine wp_region_noPanic ?_;refine fZ 7 (fun w'=>w'.cell? ⟨qM,0,aj⟩=az (ay aF Q.length kF)/\w'.cell? ⟨bB,0,aj⟩=az (au (az ⟨b,0,aj⟩))) (by kernel_rfl) KS.o (fun aW=>?_);refine bH.tk 0 aW ?_;try simp only[bI]
         refine bH.tk 1 aW ?_;try simp only[bI]
         refine bH.tk 2 aW ?_;try simp only[bI]
         refine bH.tk 3 aW ?_;try simp only[bI]
         refine bH.one (i:=4) (by kernel_rfl) rfl (fun K hK=>?_);go_simp;refine PP.o.mono ?_;rintro e wp ⟨v,rfl,Je,τq,Lq,Jc,hnx⟩;have QO:=aA (HS1.o.post ho Jc hnx);have HM4:aZ (dG wp bM 3 (((BZ X bz).1.map optV).toArray)/\(τq bM).1=0):=(by have h1:=HM3.o.1;have h2:(fr τj wq.heap.size bM).1=0:=(by rw[HM3.o.2];exact HT2.o);exact⟨h1.drew.ch hnx.ch (by rw[h2];omega),by rw[hnx.ext _ h1.lt];exact h2⟩);have DAT:=aA (Je.nx hnx ho);obtain⟨da,dc,rfl,_⟩:=Je;have KQ:aZ (wp.cell? ⟨qM,0,aj⟩=az (ay aF Q.length kF)/\wp.cell? ⟨bB,0,aj⟩=az (au (az ⟨b,0,aj⟩))):=⟨QO.o.vf.1.cell 0,QO.o.vb.1.cell 0⟩;clear Jc hnx;refine hK.out _ _ (fun _=>KQ.o) (fun bU=>?_);have aW:=bU (by decide);clear hK bU;try simp only[bI]
         try simp only[Nb]
         refine bH.one (i:=5) (by kernel_rfl) rfl (fun K hK=>?_);go_simp;have KA:aZ ((wp.alloc (af #[ah ag f.id,ah ag f.iN,ah ag f.jl,ah ag f.cls,ah ag f.ep,ay da f.data.length dc] 59)).cell? ⟨qM,0,aj⟩=az (ay aF Q.length kF)/\(wp.alloc (af #[ah ag f.id,ah ag f.iN,ah ag f.jl,ah ag f.cls,ah ag f.ep,ay da f.data.length dc] 59)).cell? ⟨bB,0,aj⟩=az (au (az ⟨b,0,aj⟩))):=⟨(QO.o.vf.1.alloc _).cell 0,(QO.o.vb.1.alloc _).cell 0⟩;refine hK.out _ _ (fun _=>KA.o) (fun bU=>?_);have aW:=bU (by decide);clear hK bU;try simp only[bI]
         have OQ:aZ ((wp.alloc (af #[ah ag f.id,ah ag f.iN,ah ag f.jl,ah ag f.cls,ah ag f.ep,ay da f.data.length dc] 59)).ownsRow w.heap.size 59 6 (ay aF Q.length kF) Q.length (Q.flatMap Dm)):=QO.o.Iw.1.alloc _;obtain⟨j0',xQ,zC,Aq,Av⟩:=eQ Cw;have WSQ:aZ (w.heap.size<=wp.heap.size):=QO.o.nx.ch.size;have RN:aZ (Reads (wp.alloc (af #[ah ag f.id,ah ag f.iN,ah ag f.jl,ah ag f.cls,ah ag f.ep,ay da f.data.length dc] 59)) (wp.heap.size+1) 6 (az ⟨wp.heap.size,0,aj⟩) 1 [ah ag f.id,ah ag f.iN,ah ag f.jl,ah ag f.cls,ah ag f.ep,ay da f.data.length dc]):=iE wp 59 [ah ag f.id,ah ag f.iN,ah ag f.jl,ah ag f.cls,ah ag f.ep,ay da f.data.length dc] (n:=1) (size:=6) rfl;refine bH.one (i:=6) (by kernel_rfl) rfl (fun K hK=>?_);refine gy _ (by rfl) (.tmp 126) (.tmp 131) 110 (by rfl) w.heap.size 59 j0' _ 6 64 underlying110 xQ zC Aq Av rfl (by decide) _ _ _ (by rfl) OQ.o _ (az ⟨wp.heap.size,0,aj⟩) 1 1 [ah ag f.id,ah ag f.iN,ah ag f.jl,ah ag f.cls,ah ag f.ep,ay da f.data.length dc] (by rfl) RN.o ?_ ?_ ?_ ?_ ?_
         ·intro u hu;simp only[dM,dZ,or_false]at hu;rcases hu with rfl|rfl|rfl|rfl|rfl|rfl<;>rfl
         ·have:=HQL.o;unfold fJ;omega
         ·have:=HQL.o;omega
         ·have:=WSQ.o;simp;omega
         intro v5 w5 uL zW Dw;obtain⟨hbf,hS5,hI5⟩:=QO.o.ajX (x:=f) (v:=ay da f.data.length dc) ho WSQ.o NE.o.2 DAT.o uL zW (by simpa using Dw);obtain⟨aF5,nF5,kF5,rfl⟩:=qy uL;have KZ:aZ (w5.cell? ⟨qM,0,aj⟩=az (ay aF Q.length kF)/\w5.cell? ⟨bB,0,aj⟩=az (au (az ⟨b,0,aj⟩))):=⟨hbf.cell 0,by have h1:=((QO.o.vb.1.alloc (af #[ah ag f.id,ah ag f.iN,ah ag f.jl,ah ag f.cls,ah ag f.ep,ay da f.data.length dc] 59)).grown zW fun e=>by obtain⟨cs,hb⟩:=kY QO.o.Iw.1 _ e.symm;exact dG.sZ QO.o.vb.1 hb (by decide) rfl);exact h1.cell 0⟩;have HS5:=aA hS5;have HM5:aZ (dG (w5.setCell ⟨qM,0,aj⟩ (ay aF5 nF5 kF5)) bM 3 (((BZ X bz).1.map optV).toArray)/\(fr τq wp.heap.size bM).1=0):=(by have h1:=hI5 bM _ HM4.o.1;exact⟨h1.1,by rw[h1.2];exact HM4.o.2⟩);have cf5:=hbf.cell 0;have ff5:=hbf.frozen 0;simp only[dJ,dO]at cf5;clear uL zW Dw hbf hS5 hI5;refine hK.out _ _ (fun _=>KZ.o) (fun bU=>?_);have aW:=bU (by decide);clear hK bU;try simp only[bI]
         refine bH.one (i:=7) (by kernel_rfl) rfl (fun K hK=>?_);go_simp;refine hK.out _ _ (fun h=>absurd rfl h) (fun _=>?_);clear hK;refine bH.done (by kernel_rfl) ?_ _;try simp only[bI]
         refine NoPanic.normal ?_;clear cf5 ff5;generalize Yr:w5.setCell ⟨qM,0,aj⟩ (ay aF5 nF5 kF5)=w6' at *;clear Yr;have jP:j<(B.pop j cl).bE:=(by rw[show(B.pop j cl).bE=B.bE from rfl,BP.o];exact Oc);have kP:k<(B.pop j cl).bE:=(by rw[show(B.pop j cl).bE=B.bE from rfl,BP.o];exact kn);have cP:cl<(B.pop j cl).aX:=(by rw[show(B.pop j cl).aX=B.aX from rfl,BC.o];exact clt);have POK:=aA (BOK.o.pop (p:=j) (c:=cl) jP cP (by rw[HFR.o];simp));obtain⟨hg,t1,t2⟩:=HS5.o.bx.tt k cl kP cP;have HG:=aA (Zi _ (N+8) _ _ w6' (POK.o.t k cl kP cP) (by omega) (by have:=RB.o.2;unfold Tk.left at this;show(dz B.tk k cl).wV<(dz B.tk k cl).lim;omega) hg);have HT5:=aA t2;obtain⟨g1,⟨abj,cs1,e1,e2,e3⟩,tg⟩:=HS5.o.bx.t k kP;have ct:=HS5.o.bx.ct kP POK.o.p1;rw[e1]at ct;have cc:w6'.cell? ⟨g1,cl,aj⟩=az (au (az ⟨Lq.tb k cl,0,aj⟩)):=(by rw[e2.cell];exact e3 cl cP);have cb:=HS5.o.vb.1.cell 0;simp only[dJ,dO,pt]at cb;have cl0:(0:Int)<=(cl:Int):=(by omega);have cl8:(cl:Int)<((B.pop j cl).aX:Int):=(by omega);have kk8:(k:Int)<8:=(by omega);have jj8:(j:Int)<8:=(by omega);clear hg t1 t2 e1 e2 e3 tg;go_wp2_with (first
          |(go_at_call 132;refine HG.o.mono ?_;rintro e w7 ⟨rfl,b1,b2⟩;have B1:=aA b1;have B2:=aA b2;clear b1 b2))
         have Xg:=aA (HS5.o.post ho (HS5.o.bx.Zj.aai (p:=k) (c:=cl) kP cP POK.o.tk ho B2.o B1.o) (Nx.Sj B2.o fun i e=>by rw[e,HT5.o]));have HM7:aZ (dG w7 bM 3 (((BZ X bz).1.map optV).toArray)/\(fr (fr τq wp.heap.size) w6'.heap.size bM).1=0):=(by have h1:=HM5.o.1.lt;exact⟨HM5.o.1.ch B2.o (fun e=>by have q:=HM5.o.2;rw[e,HT5.o]at q;simp at q;omega),by rw[iD h1];exact HM5.o.2⟩);have cb7:=Xg.o.vb.1.cell 0;simp only[dJ,dO,pt]at cb7;have c17:=Xg.o.bx.c1;have cp7:=Xg.o.bx.cp (p:=j) (by omega);have fp7:=Xg.o.bx.root.1.frozen (26+j);have qc:IntKind.i64.wrap ((cl:Int)+1)=(cl:Int)+1:=fH _ (by omega);have hm0:¬(B.pop j cl).aX=0:=(by omega);have K8:aZ ((w7.drew.setCell ⟨b,26+j,aj⟩ (ah ag (((cl:Int)+1)%((B.pop j cl).aX:Int)))).cell? ⟨bB,0,aj⟩=az (au (az ⟨b,0,aj⟩))/\(w7.drew.setCell ⟨b,26+j,aj⟩ (ah ag (((cl:Int)+1)%((B.pop j cl).aX:Int)))).cell? ⟨b,0+1,aj⟩=az (ah ag (B.pop j cl).aX)):=(by have nb:bB≠b:=fun e=>(by have q:=Xg.o.vb.2;rw[e,Xg.o.bx.root.2]at q;simp at q;omega);have h1:=Xg.o.bx.root.1.drew.jy (26+j) (ah ag (((cl:Int)+1)%((B.pop j cl).aX:Int)));refine⟨(Xg.o.vb.1.drew.Bi (by simp only;exact nb) _).cell 0,?_⟩;rw[h1.cell];have h2:=Xg.o.bx.c1;rw[Xg.o.bx.root.1.cell]at h2;rw[Array.getElem?_setIfInBounds,if_neg (by omega)];exact h2);have ctm:((cl:Int)+1).tmod ((B.pop j cl).aX:Int)=(((cl+1)%(B.pop j cl).aX:Nat):Int):=(by rw[Int.tmod_eq_emod_of_nonneg (by omega)];push_cast;rfl);clear cb ct cc;go_wp2_with fail;go_region_held3 (fun w'=>w'.cell? ⟨bB,0,aj⟩=az (au (az ⟨b,0,aj⟩))/\w'.cell? ⟨b,0+1,aj⟩=az (ah ag (B.pop j cl).aX))
          (first|exact⟨cb7,c17⟩|exact K8.o) (fail)
         have nx8:Nx (fr (fr τq wp.heap.size) w6'.heap.size) o w7 (fr (fr (fr τq wp.heap.size) w6'.heap.size) w7.heap.size) (w7.setCell ⟨b,26+j,aj⟩ (ah ag (((cl+1)%(B.pop j cl).aX:Nat):Int))):=
          Nx.Sj (S:=(· =b)) ((Ch.refl (· =b) _).setCell (p:=⟨b,26+j,aj⟩) (.inl rfl) _) fun i e=>by rw[e,Xg.o.bx.root.2]
         have bx8:=Xg.o.bx.Zj.aah (ptr':=(B.pop j cl).ptr.set j ((cl+1)%(B.pop j cl).aX)) (ov':=(B.pop j cl).ov) ho ((Ch.refl (· =b) w7).setCell (p:=⟨b,26+j,aj⟩) (.inl rfl) (ah ag (((cl+1)%(B.pop j cl).aX:Nat):Int))) (by
          have h1:=Xg.o.bx.root.1.jy (26+j) (ah ag (((cl+1)%(B.pop j cl).aX:Nat):Int));rw[ahr]at h1
          ·exact h1
          ·omega
          ·exact BOK.o.pl)
         have S8:=aA (Xg.o.post ho bx8 nx8);have FB8:aZ (StB Z w o b bB rV qM bD bO bM X bz (jI X bz (j+1)) (w7.setCell ⟨b,26+j,aj⟩ (ah ag (((cl+1)%(B.pop j cl).aX:Nat):Int))).drew):=by
          rw[aZ,MI.o];refine⟨_,_,_,_,_,S8.o.drew,by simp[HQ.o],?_,?_⟩
          ·exact(HM7.o.1.Bi (fun e=>by have q:=HM7.o.2;simp only at e;rw[e,Xg.o.bx.root.2]at q;simp at q;omega) _).drew
          ·rw[iD (show bM<w7.heap.size from HM7.o.1.lt)];exact HM7.o.2
         have EV:(((cl+1)%(B.pop j cl).aX:Nat):Int)=((cl:Int)+1)%((B.pop j cl).aX:Int):=(by push_cast;rfl);rw[EV]at FB8;clear nx8 bx8 cb7 c17 cp7 fp7 qc hm0 ctm EV K8;go_wp2_with fail;exact⟨aoB.out _ FB8.o,by simp[aK];omega⟩
       ·obtain rfl:X.aX=n:=by omega
        have jm:aZ (StB Z w o b bB rV qM bD bO bM X bz (jI X bz (j+1)) wr):=(by have h1:oC (jI X bz j).1.aX ((jI X bz j).1.ptr.getD j 0) (mX (Ez X bz) (jI X bz j).1 j k)=aj:=(by rw[WU.o.2.2.1];exact yQ Xd.o);rw[aZ,MK.o];unfold Qe;rw[h1];exact HB2.o);go_wp2_with fail;exact⟨aoB.out _ jm.out,by simp[aK];omega⟩
    ·
     obtain rfl:X.bE=j:=(by omega);obtain⟨τf,Lf,vM2,vF2,Q2,hS,hq,_⟩:=HB1.o;have SI:aZ (X.step bz=jI X bz X.bE):=Ol X bz;have XP:=hS.vm.1.cell 0;have cF0:=hS.vf.1.cell 0;have fM0:=hS.vm.1.frozen 0;have fF0:=hS.vf.1.frozen 0;have sM:=hS.vm.1.rU (i:=0) (u:=vM2) rfl;have sF:=hS.vf.1.rU (i:=0) (u:=vF2) rfl;obtain⟨aM,nM,kM,rfl⟩:=qy hS.om.1;obtain⟨aF,nF,kF,rfl⟩:=qy hS.Iw.1;simp only[dJ,dO]at XP cF0;have HSf:=aA hS.drew;have HQf:=aA hq;clear hS hq;go_wp2_with fail;go_region;go_wp2_with fail;refine leaves_cons (f:=125) (args:=#[au (az ⟨rV,0,aj⟩),au (az ⟨qM,0,aj⟩)]) (by simp) (by simp[go_sem]) ?_;refine(UZ ⟨rV,0,aj⟩ ⟨qM,0,aj⟩ _).mono ?_;rintro e u' w'' ⟨rfl,rfl,rfl⟩;try simp only[sM,sF]
     refine⟨.tuple #[ay aM nM kM,ay aF nF kF],by simp[results,Tryz.results99,go_sem,XP,cF0],_,_,Q2,τf,Lf,rfl,?_⟩;rw[SI.o];exact⟨HSf.o.bx,HSf.o.nx,HSf.o.om.1,HSf.o.Iw.1,HQf.o,HSf.o.QK,HSf.o.om.2,HSf.o.Iw.2⟩
theorem abS:(Tryz.prog.info? 206).map (fun i=>(i.zero,i.size,i.bytes))=az (az (.agg #[ah ag 0,ah ag 0,ah ag 0]),3,24):=by kernel_rfl
theorem abT:(Tryz.prog.info? 228).map (fun i=>(i.zero,i.size,i.bytes))=az (az (.agg #[ah ag 0,ah ag 0]),2,16):=by kernel_rfl
theorem arH:eH #[ah .i64 0,ah ag 0,ah ag 0] 3=#[ah ag 0,ah ag 0,ah ag 0]:=by unfold eH;apply tu;simp[dL]
theorem arG:eH #[ah .i64 0,ah ag 0] 2=#[ah ag 0,ah ag 0]:=by unfold eH;apply tu;simp[dL]
def aiW(r:Int)(w:aG)(e:iL)(w':aG):Prop:=∃g h,e=ax (.tuple #[au (az ⟨g,0,aj⟩),ah ag 0])/\EY w' g h ⟨r,0,0⟩/\w.heap.size<=g/\w.heap.size<=h/\aO w.heap.size w w'
def apf(w:aG)(e:iL)(w':aG):Prop:=∃g h,e=ax (.tuple #[au (az ⟨g,0,aj⟩),ah ag 0])/\Lu w' g h ⟨0,0⟩/\w.heap.size<=g/\w.heap.size<=h/\aO w.heap.size w w'
def apw(r:Int)(g h:Nat)(w1:aG)(i:aJ)(wr:aG):Prop:=∃k:Nat,k<=1/\i=ah ag k/\EY wr g h ⟨if k=0 then 0 else r,0,0⟩/\Ch (· =h) w1 wr
theorem abM(r:Int)(a cap:Nat)(w:aG)(hr:1<=r/\r<=64)(ha:w.cell? ⟨a,0,aj⟩=az (ah ag r)):di aH 85 #[ay (az ⟨a,0,aj⟩) 1 cap] w (aiW r w):=by
 obtain⟨i0,hi0,wE,uY,wN⟩:=eQ abS;obtain⟨w1,gK⟩:∃w1:aG,(w.alloc (af (eH #[ah ag 0,ah ag 0,ah ag 0] 3) 206)).alloc (af #[ay (az ⟨w.heap.size,0,aj⟩) 1 1] 204)=w1:=⟨_,rfl⟩;have LA:a<w.heap.size:=aY _ _ ha;go_enter func85,ntmps85;go_wp2_with (at_make;refine kL _ rfl _ _ 202 rfl 206 i0 _ 3 underlying202 hi0 wE uY .i64 .i64 _ _ 1 rfl rfl rfl rfl (by rw[wN];omega) (by unfold fJ;omega) ?_);have S1:w1.heap.size=w.heap.size+2:=by rw[<-gK];simp
 have B1:aZ (aO w.heap.size w w1):=by rw[<-gK];exact((aS _ _).alloc (aC _) _).alloc (by simp) _
 have G1:aZ (EY w1 (w.heap.size+1) w.heap.size ⟨0,0,0⟩):=by rw[<-gK,arH];refine⟨?_,(dG.new w _ _).alloc _⟩;have:=dG.new (w.alloc (af #[ah ag 0,ah ag 0,ah ag 0] 206)) 204 #[ay (az ⟨w.heap.size,0,aj⟩) 1 1];simpa using this
 have HA:aZ (w.cell? ⟨a,0,aj⟩=az (ah ag r)):=ha;have HS:=aA S1;obtain⟨h,hh⟩:∃x,w.heap.size=x:=⟨_,rfl⟩;obtain⟨g,hg⟩:∃x,h+1=x:=⟨_,rfl⟩;rw[hh,hg]at G1;rw[hh,hg];have HH:=aA hh;have HG:=aA hg;have r0:1<=r:=hr.1;have r1:r<=64:=hr.2;clear gK ha S1 hh hg hr;go_loopw [5,6,22] (fun _ _ i wr=>apw r g h w1 i wr) (fun _ _ i _=>1-(aK i).toNat);case atStart=>exact⟨0,by omega,rfl,G1.o,Ch.refl _ _⟩
 case round=>
  obtain⟨k,hk,rfl,hG,hc⟩:=hrel;have BW:aZ (aO w.heap.size w wr):=B1.o.trans (hc.below B1.o.size (by rintro k rfl;exact zm HH.o));by_cases h1:k<1
  ·obtain rfl:k=0:=by omega
   have ca:wr.cell? ⟨a,0,aj⟩=az (ah ag r):=(BW.o.cell (p:=⟨a,0,aj⟩) LA).trans HA.o;have c0:wr.cell? ⟨g,0,aj⟩=az (ay (az ⟨h,0,aj⟩) 1 1):=hG.p.cell 0;have c1:wr.cell? ⟨h,0,aj⟩=az (ah ag 0):=hG.c.cell 0;have f1:wr.frozen? ⟨h,0,aj⟩=false:=hG.c.frozen 0;have GG:=aA hG;have HC:=aA hc;clear hG hc;go_wp2_with fail;refine⟨⟨1,aC _,by simp,⟨?_,?_⟩,HC.o.setCell (p:=⟨h,0,aj⟩) (.inl rfl) _⟩,by simp[aK]⟩
   ·exact GG.o.p.Bi (by simp only;have:=HG.o;omega) _
   ·have:=GG.o.c.jy 0 (ah ag r);simpa using this
  ·obtain rfl:k=1:=by omega
   have jm:aZ (aiW r w (ax (.tuple #[au (az ⟨g,0,aj⟩),ah ag 0])) wr):=⟨g,h,rfl,by simpa using hG,by have:=HG.o;have:=HH.o;omega,zm HH.o,BW.o⟩;clear hG hc;go_wp2_with fail;go_ret2;exact jm.out
theorem acP(w:aG):di aH 86 #[ah ag 1] w (apf w):=by
 obtain⟨i0,hi0,wE,uY,wN⟩:=eQ abT;obtain⟨w1,gK⟩:∃w1:aG,(w.alloc (af (eH #[ah ag 0,ah ag 0] 2) 228)).alloc (af #[ay (az ⟨w.heap.size,0,aj⟩) 1 1] 209)=w1:=⟨_,rfl⟩;have B1:aZ (aO w.heap.size w w1):=by rw[<-gK];exact((aS _ _).alloc (aC _) _).alloc (by simp) _
 have G1:aZ (Lu w1 (w.heap.size+1) w.heap.size ⟨0,0⟩):=by rw[<-gK,arG];refine⟨?_,(dG.new w _ _).alloc _⟩;have:=dG.new (w.alloc (af #[ah ag 0,ah ag 0] 228)) 209 #[ay (az ⟨w.heap.size,0,aj⟩) 1 1];simpa using this
 go_enter func86,ntmps86;go_wp2_with (at_make;refine kL _ rfl _ _ 207 rfl 228 i0 _ 2 underlying207 hi0 wE uY .i64 .i64 _ _ 1 rfl rfl rfl rfl (by rw[wN];omega) (by unfold fJ;omega) ?_)
 go_ret2;exact⟨_,_,rfl,G1.o,by omega,aC _,B1.o⟩
end
section
def bnV(bE m pq:Nat)(L:yV)(i:Nat):aJ:=
 if i=0 then ah ag bE else if i=1 then ah ag m
 else if i<10 then(if i-2<pq then ay (az ⟨L.qr (i-2),0,aj⟩) m m else ay aj 0 0)
 else if i<18 then L.gr (i-10)else if i<26 then L.tr (i-18)else if i<34 then ah ag 0 else if i=34 then pt L.bb else ah ag 0
def OY(bE m pq:Nat)(L:yV):Array aJ:=((aN 36).map (bnV bE m pq L)).toArray
def vS(m p c q:Nat):Nat:=if q<p then m else if q=p then c else 0
theorem Gu(m p:Nat):vS m (p+1) 0=vS m p m:=by
 funext q;unfold vS;by_cases h:q<p
 ·rw[if_pos h,if_pos (by omega)]
 ·by_cases h2:q=p
  ·subst h2;simp
  ·rw[if_neg h,if_neg h2,if_neg (by omega)];simp
theorem Gw(m p c q:Nat):vS m p (c+1) q=if q=p then c+1 else vS m p c q:=by
 unfold vS;by_cases h:q<p
 ·rw[if_pos h,if_pos h,if_neg (by omega)]
 ·by_cases h2:q=p
  ·subst h2;simp
  ·rw[if_neg h,if_neg h2,if_neg h,if_neg h2,if_neg h2]
structure Tc(vU:Own)(w0:aG)(o b bE m:Nat)(aI:List Int)(Z:Own)(w:aG)(L:yV)(pq p c:Nat):Prop where
 nx:Nx vU o w0 Z w
 root:dG w b 158 (OY bE m pq L)/\Z b=(o,0,0,0)/\w0.heap.size<=b
 iY:dG w L.bb 201 (((yP ⟨aQ 8 0,aQ 8 0⟩ bE).map Uw).toArray)/\Z L.bb=(o,9,0,0)
 qv:L.qv=fun _ _=>ay aj 0 0
 qr:∀q,q<pq->dG w (L.qr q) 110 (((aN m).map fun _=>ay aj 0 0).toArray)/\Z (L.qr q)=(o,1,q,0)
 g:∀q,w.ownsRow w0.heap.size 159 1 (L.gr q) (vS m p c q) ((aN (vS m p c q)).map fun d=>pt (L.gb q d))/\∀g,(L.gr q).ownBlock=az g->Z g=(o,3,q,0)
 gg:∀q d,d<vS m p c q->EY w (L.gb q d) (L.gc q d) ⟨aI.getD d 0,0,0⟩/\Z (L.gb q d)=(o,4,q,d)/\Z (L.gc q d)=(o,5,q,d)
 t:∀q,w.ownsRow w0.heap.size 162 1 (L.tr q) (vS m p c q) ((aN (vS m p c q)).map fun d=>pt (L.tb q d))/\∀g,(L.tr q).ownBlock=az g->Z g=(o,6,q,0)
 tt:∀q d,d<vS m p c q->Lu w (L.tb q d) (L.tc q d) ⟨0,0⟩/\Z (L.tb q d)=(o,7,q,d)/\Z (L.tc q d)=(o,8,q,d)
 nil:∀q,p<q\/(q=p/\c=0)->L.gr q=ay aj 0 0/\L.tr q=ay aj 0 0
section
variable{vU Z dV:Own}{w0 w w' wA wB wD:aG}{o b bE m pq p c:Nat}{aI:List Int}{L:yV}{v1 v2:aJ}{gb gc tb tc:Nat}{o1 o2:Obj}
theorem Tc.next(h:Tc vU w0 o b bE m aI Z w L pq p m)(hm:0<m):Tc vU w0 o b bE m aI Z w L pq (p+1) 0 where
 nx:=h.nx
 root:=h.root
 iY:=h.iY
 qv:=h.qv
 qr:=h.qr
 g:=fun q=>by rw[Gu];exact h.g q
 gg:=fun q d hd=>by rw[Gu]at hd;exact h.gg q d hd
 t:=fun q=>by rw[Gu];exact h.t q
 tt:=fun q d hd=>by rw[Gu]at hd;exact h.tt q d hd
 nil:=fun q hq=>h.nil q (.inl (by omega))
theorem Tc.below(h:Tc vU w0 o b bE m aI Z w L pq p c)(k:aO w.heap.size w w'):Tc vU w0 o b bE m aI (fr Z w.heap.size) w' L pq p c:=by
 have hc:Ch (fun _=>False) w w':=Ch.dw k;have he:∀i,i<w.heap.size->fr Z w.heap.size i=Z i:=fun i hi=>iD hi;exact{
  nx:=h.nx.loc hc (fun _ s=>s.elim)
  root:=⟨h.root.1.below k h.root.1.lt,by rw[he _ h.root.1.lt];exact h.root.2.1,h.root.2.2⟩
  iY:=⟨h.iY.1.below k h.iY.1.lt,by rw[he _ h.iY.1.lt];exact h.iY.2⟩
  qv:=h.qv
  qr:=fun q hq=>⟨(h.qr q hq).1.below k (h.qr q hq).1.lt,by rw[he _ (h.qr q hq).1.lt];exact(h.qr q hq).2⟩
  g:=fun q=>⟨fT (h.g q).1 hc (fun _ _ s=>s.elim),fun g hg=>by rw[he _ ((h.g q).1.lt g hg).2];exact(h.g q).2 g hg⟩
  gg:=fun q d hd=>by obtain⟨h1,h2,h3⟩:=h.gg q d hd;exact⟨h1.ch hc id id,by rw[he _ h1.p.lt];exact h2,by rw[he _ h1.c.lt];exact h3⟩
  t:=fun q=>⟨fT (h.t q).1 hc (fun _ _ s=>s.elim),fun g hg=>by rw[he _ ((h.t q).1.lt g hg).2];exact(h.t q).2 g hg⟩
  tt:=fun q d hd=>by obtain⟨h1,h2,h3⟩:=h.tt q d hd;exact⟨h1.ch hc id id,by rw[he _ h1.p.lt];exact h2,by rw[he _ h1.c.lt];exact h3⟩
  nil:=h.nil}
theorem Tc.queues(h:Tc vU w0 o b bE m aI Z w L p p 0)(hb:w0.heap.size<=w.heap.size)(hp:p<8){g:Nat}(hg:g=w.heap.size)(hw:w'=(w.alloc (af (((aN m).map fun _=>ay aj 0 0).toArray) 110)).setCell ⟨b,2+p,aj⟩ (ay (az ⟨g,0,aj⟩) m m)):Tc vU w0 o b bE m aI (afZ Z g (o,1,p,0)) w' {L with qr:=fun q=>if q=p then g else L.qr q} (p+1) p 0:=by
 subst hg;have he:∀i,i<w.heap.size->afZ Z w.heap.size (o,1,p,0) i=Z i:=fun i hi=>aiC _ _ (by omega);have hc:Ch (· =b) w w':=by rw[hw];exact((Ch.refl (· =b) w).alloc _).setCell (p:=⟨b,2+p,aj⟩) (.inl rfl) _
 have nb:∀{i t},Z i=t->t≠(o,0,0,0)->¬(i=b):=fun h1 h2 e=>h2 (by rw[<-h1,e,h.root.2.1]);have sz:w'.heap.size=w.heap.size+1:=by rw[hw];simp[iJ]
 have nx:Nx vU o w0 (afZ Z w.heap.size (o,1,p,0)) w':=by
  refine⟨h.nx.ch.trans hc fun i hi s=>by have:=h.root.2.2;omega,fun i hi=>(he i (by omega)).trans (h.nx.ext i hi),fun k h1 h2=>?_⟩;by_cases e:k<w.heap.size
  ·rw[he k e];exact h.nx.fresh k h1 e
  ·obtain rfl:k=w.heap.size:=by omega
   rw[aam];exact .inl rfl
 exact{
  nx:=nx
  root:=by
   refine⟨?_,by rw[he _ h.root.1.lt];exact h.root.2.1,h.root.2.2⟩;rw[hw];have:=(h.root.1.alloc (af (((aN m).map fun _=>ay aj 0 0).toArray) 110)).jy (2+p) (ay (az ⟨w.heap.size,0,aj⟩) m m);unfold OY at this|-;rw[mM 36 (bnV bE m p L) (bnV bE m (p+1) {L with qr:=fun q=>if q=p then w.heap.size else L.qr q}) (2+p) _ (fun i hi=>by
    unfold bnV;by_cases e:i=2+p
    ·subst e;rw[if_pos rfl,if_neg (by omega),if_neg (by omega),if_pos (by omega),if_pos (by omega)];simp only[show 2+p-2=p by omega,if_true]
    ·by_cases e2:2<=i/\i<10
     ·have e3:¬i=0:=by omega
      have e4:¬i=1:=(by omega);have e5:¬i-2=p:=(by omega);by_cases e6:i-2<p
      ·have e7:i-2<p+1:=by omega
       simp only[e,e3,e4,e5,e6,e7,e2.2,if_true,if_false]
      ·have e7:¬i-2<p+1:=by omega
       simp only[e,e3,e4,e5,e6,e7,e2.2,if_true,if_false]
     ·by_cases e3:i=0
      ·simp only[e,e3,if_true,if_false];rw[if_neg (by omega)]
      ·by_cases e4:i=1
       ·simp only[e,e3,e4,if_true,if_false];rw[if_neg (by omega),if_neg (by omega)]
       ·have e5:¬i<10:=by omega
        simp only[e,e3,e4,e5,if_false])]at this
   exact this
  iY:=⟨h.iY.1.ch hc (nb h.iY.2 (by simp)),by rw[he _ h.iY.1.lt];exact h.iY.2⟩
  qv:=h.qv
  qr:=fun q hq=>by
   by_cases e:q=p
   ·subst e;simp only[if_true];refine⟨?_,aam _ _ _⟩;rw[hw];exact(dG.new w _ _).Bi (by simp only;have:=h.root.1.lt;omega) _
   ·simp only[e,if_false];have r:=h.qr q (by omega);exact⟨r.1.ch hc (nb r.2 (by simp)),by rw[he _ r.1.lt];exact r.2⟩
  g:=fun q=>⟨fT (h.g q).1 hc (fun g hg=>nb ((h.g q).2 g hg) (by simp)),fun g hg=>by rw[he _ ((h.g q).1.lt g hg).2];exact(h.g q).2 g hg⟩
  gg:=fun q d hd=>by obtain⟨h1,h2,h3⟩:=h.gg q d hd;exact⟨h1.ch hc (nb h2 (by simp)) (nb h3 (by simp)),by rw[he _ h1.p.lt];exact h2,by rw[he _ h1.c.lt];exact h3⟩
  t:=fun q=>⟨fT (h.t q).1 hc (fun g hg=>nb ((h.t q).2 g hg) (by simp)),fun g hg=>by rw[he _ ((h.t q).1.lt g hg).2];exact(h.t q).2 g hg⟩
  tt:=fun q d hd=>by obtain⟨h1,h2,h3⟩:=h.tt q d hd;exact⟨h1.ch hc (nb h2 (by simp)) (nb h3 (by simp)),by rw[he _ h1.p.lt];exact h2,by rw[he _ h1.c.lt];exact h3⟩
  nil:=h.nil}
def yV.Aj(L:yV)(p c gb gc:Nat)(v:aJ):yV:={L with gr:=fun q=>if q=p then v else L.gr q,gb:=fun q d=>if q=p/\d=c then gb else L.gb q d,gc:=fun q d=>if q=p/\d=c then gc else L.gc q d}
def yV.afJ(L:yV)(p c tb tc:Nat)(v:aJ):yV:={L with tr:=fun q=>if q=p then v else L.tr q,tb:=fun q d=>if q=p/\d=c then tb else L.tb q d,tc:=fun q d=>if q=p/\d=c then tc else L.tc q d}
theorem aqd(bE m pq p c gb gc:Nat)(L:yV)(v:aJ)(hp:p<8):(OY bE m pq L).setIfInBounds (10+p) v=OY bE m pq (L.Aj p c gb gc v):=
 mM 36 _ _ _ _ fun i hi=>by
  unfold bnV yV.Aj;by_cases e:i=10+p
  ·subst e;rw[if_pos rfl,if_neg (by omega),if_neg (by omega),if_neg (by omega),if_pos (by omega)];simp only[show 10+p-10=p by omega,if_true]
  ·rw[if_neg e];by_cases h0:i=0
   ·simp only[h0,if_true]
   ·by_cases h1:i=1
    ·simp only[h0,h1,if_true,if_false]
    ·by_cases h2:i<10
     ·simp only[h0,h1,h2,if_true,if_false]
     ·by_cases h3:i<18
      ·simp only[h0,h1,h2,h3,if_true,if_false];rw[if_neg (by omega)]
      ·simp only[h0,h1,h2,h3,if_false]
theorem aqe(bE m pq p c tb tc:Nat)(L:yV)(v:aJ)(hp:p<8):(OY bE m pq L).setIfInBounds (18+p) v=OY bE m pq (L.afJ p c tb tc v):=
 mM 36 _ _ _ _ fun i hi=>by
  unfold bnV yV.afJ;by_cases e:i=18+p
  ·subst e;rw[if_pos rfl,if_neg (by omega),if_neg (by omega),if_neg (by omega),if_neg (by omega),if_pos (by omega)];simp only[show 18+p-18=p by omega,if_true]
  ·rw[if_neg e];by_cases h0:i=0
   ·simp only[h0,if_true]
   ·by_cases h1:i=1
    ·simp only[h0,h1,if_true,if_false]
    ·by_cases h2:i<10
     ·simp only[h0,h1,h2,if_true,if_false]
     ·by_cases h3:i<18
      ·simp only[h0,h1,h2,h3,if_true,if_false]
      ·by_cases h4:i<26
       ·simp only[h0,h1,h2,h3,h4,if_true,if_false];rw[if_neg (by omega)]
       ·simp only[h0,h1,h2,h3,h4,if_false]
theorem Tc.Wo(h:Tc vU w0 o b bE m aI Z w L pq p c)(hp:p<8)(kA:aO w.heap.size w wA)(nR:wB.ownsRow w0.heap.size 159 1 v1 (c+1) (((aN c).map fun d=>pt (L.gb p d))++[pt gb]))(yG:(wA.alloc o1).grownBy wB (L.gr p).ownBlock)(AX:v1.ownBlock=(L.gr p).ownBlock\/v1.ownBlock=az (wA.heap.size+1)):dG wB b 158 (OY bE m pq L)/\dG (wB.setCell ⟨b,10+p,aj⟩ v1) b 158 (OY bE m pq (L.Aj p c gb gc v1))/\(wB.setCell ⟨b,10+p,aj⟩ v1).ownsRow w0.heap.size 162 1 (L.tr p) c ((aN c).map fun d=>pt (L.tb p d))/\Ch (fun k=>k=b\/(L.gr p).ownBlock=az k) w (wB.setCell ⟨b,10+p,aj⟩ v1):=by
 have lc:vS m p c p=c:=by unfold vS;simp
 have hT:=h.t p;have hG:=h.g p;rw[lc]at hT hG;have nb:∀g,(L.gr p).ownBlock=az g->b≠g:=fun g hg e=>by have h1:=h.root.2.1;rw[e,hG.2 g hg]at h1;simp at h1
 have b1:dG wB b 158 (OY bE m pq L):=((h.root.1.below kA h.root.1.lt).alloc o1).grown yG fun e=>nb _ e.symm rfl;have C1:Ch (fun k=>k=b\/(L.gr p).ownBlock=az k) w (wB.setCell ⟨b,10+p,aj⟩ v1):=(((Ch.dw kA).alloc o1).grown yG fun g hg=>.inl (.inr hg)).setCell (p:=⟨b,10+p,aj⟩) (.inl (.inl rfl)) v1;refine⟨b1,?_,fT hT.1 C1 fun g hg s=>?_,C1⟩
 ·have:=b1.jy (10+p) v1;rw[aqd bE m pq p c gb gc L v1 hp]at this;exact this
 ·rcases s with s|s
  ·have h1:=hT.2 g hg;rw[s,h.root.2.1]at h1;simp at h1
  ·have h1:=hT.2 g hg;rw[hG.2 g s]at h1;simp at h1
theorem Tc.push(h:Tc vU w0 o b bE m aI Z w L pq p c)(hp:p<8)(hbs:w0.heap.size<=w.heap.size)(kA:aO w.heap.size w wA)(hg:EY wA gb gc ⟨aI.getD c 0,0,0⟩)(ht:Lu wA tb tc ⟨0,0⟩)(g0:w.heap.size<=gb)(g1:w.heap.size<=gc)(t0:w.heap.size<=tb)(t1:w.heap.size<=tc)(nR:wB.ownsRow w0.heap.size 159 1 v1 (c+1) (((aN c).map fun d=>pt (L.gb p d))++[pt gb]))(yG:(wA.alloc o1).grownBy wB (L.gr p).ownBlock)(AX:v1.ownBlock=(L.gr p).ownBlock\/v1.ownBlock=az (wA.heap.size+1))(uB:wD.ownsRow w0.heap.size 162 1 v2 (c+1) (((aN c).map fun d=>pt (L.tb p d))++[pt tb]))(Ho:((wB.setCell ⟨b,10+p,aj⟩ v1).alloc o2).grownBy wD (L.tr p).ownBlock)(Qa:v2.ownBlock=(L.tr p).ownBlock\/v2.ownBlock=az ((wB.setCell ⟨b,10+p,aj⟩ v1).heap.size+1)):dG wD b 158 (OY bE m pq (L.Aj p c gb gc v1))/\∃dV,Tc vU w0 o b bE m aI dV (wD.setCell ⟨b,18+p,aj⟩ v2) ((L.Aj p c gb gc v1).afJ p c tb tc v2) pq p (c+1):=by
 have lc:vS m p c p=c:=by unfold vS;simp
 obtain⟨b1,b2,oT,C1⟩:=h.Wo (gc:=gc) hp kA nR yG AX;have hT:=h.t p;have hG:=h.g p;rw[lc]at hT hG;have rt:=h.root.2.1;have lb:=h.root.1.lt;have nbT:∀g,(L.tr p).ownBlock=az g->b≠g:=fun g hg e=>by have h1:=rt;rw[e,hT.2 g hg]at h1;simp at h1
 have b3:dG wD b 158 (OY bE m pq (L.Aj p c gb gc v1)):=(b2.alloc o2).grown Ho fun e=>nbT _ e.symm rfl;have sA:w.heap.size<=wA.heap.size:=kA.size;have sB:wA.heap.size+1<=wB.heap.size:=by have:=yG.size;simpa using this
 have sC:(wB.setCell ⟨b,10+p,aj⟩ v1).heap.size=wB.heap.size:=by simp[iJ]
 have sD:wB.heap.size+1<=wD.heap.size:=by have:=Ho.size;rw[show((wB.setCell ⟨b,10+p,aj⟩ v1).alloc o2).heap.size=wB.heap.size+1 by simp[sC]]at this;exact this
 have C2:Ch (fun k=>k=b\/(L.gr p).ownBlock=az k\/(L.tr p).ownBlock=az k) w (wD.setCell ⟨b,18+p,aj⟩ v2):=
  (((C1.mono fun k _ s=>by rcases s with s|s;exact .inl s;exact .inr (.inl s)).alloc o2).grown Ho fun g hg=>.inl (.inr (.inr hg))).setCell (p:=⟨b,18+p,aj⟩) (.inl (.inl rfl)) v2
 have fin:∀{k t cs},w.heap.size<=k->k<wA.heap.size->dG wA k t cs->dG (wD.setCell ⟨b,18+p,aj⟩ v2) k t cs:=fun{k t cs} hk hk2 hbk=>by
  have n1:az k≠(L.gr p).ownBlock:=fun e=>by have:=(hG.1.lt k e.symm).2;omega
  have n2:az k≠(L.tr p).ownBlock:=fun e=>by have:=(hT.1.lt k e.symm).2;omega
  have nb:k≠b:=by omega
  exact((((hbk.alloc o1).grown yG n1).Bi (by simp only;exact nb) v1).alloc o2).grown Ho n2|>.Bi (by simp only;exact nb) v2
 have lgb:=hg.p.lt;have lgc:=hg.c.lt;have Uz:=ht.p.lt;have ltc:=ht.c.lt;have d1:gb≠gc:=dG.sZ hg.p hg.c (by decide);have d2:gb≠tb:=dG.sZ hg.p ht.p (by decide);have d3:gb≠tc:=dG.sZ hg.p ht.c (by decide);have d4:gc≠tb:=dG.sZ hg.c ht.p (by decide);have d5:gc≠tc:=dG.sZ hg.c ht.c (by decide);have d6:tb≠tc:=dG.sZ ht.p ht.c (by decide);have aze:(wD.setCell ⟨b,18+p,aj⟩ v2).ownsRow w0.heap.size 159 1 v1 (c+1) ((aN (c+1)).map fun d=>pt (if d=c then gb else L.gb p d)):=by
  have e:((aN (c+1)).map fun d=>pt (if d=c then gb else L.gb p d))=((aN c).map fun d=>pt (L.gb p d))++[pt gb]:=by
   rw[dL,fF];congr 1
   ·refine gm fun x hx=>?_;have:=dK.1 hx;rw[if_neg (by omega)]
   ·simp
  rw[e];have nv:∀g,v1.ownBlock=az g->g≠b/\(az g≠(L.tr p).ownBlock):=fun g uz=>by
   rcases AX with q|q
   ·rw[q]at uz;refine⟨fun e2=>?_,fun e2=>?_⟩
    ·have h1:=hG.2 g uz;rw[e2,rt]at h1;simp at h1
    ·have h1:=hG.2 g uz;rw[hT.2 g e2.symm]at h1;simp at h1
   ·rw[q]at uz;injection uz with uz;exact⟨by omega,fun e2=>by have:=(hT.1.lt g e2.symm).2;omega⟩
  have s1:=nK nR (p:=⟨b,10+p,aj⟩) v1 fun g uz=>(nv g uz).1;have s2:=(s1.alloc o2).kept Ho (by
   cases e2:v1.ownBlock with
   |none=>exact .inl rfl
   |some g=>exact .inr fun e3=>(nv g e2).2 e3)
  exact nK s2 (p:=⟨b,18+p,aj⟩) v2 fun g uz=>(nv g uz).1
 have azf:(wD.setCell ⟨b,18+p,aj⟩ v2).ownsRow w0.heap.size 162 1 v2 (c+1) ((aN (c+1)).map fun d=>pt (if d=c then tb else L.tb p d)):=by
  have e:((aN (c+1)).map fun d=>pt (if d=c then tb else L.tb p d))=((aN c).map fun d=>pt (L.tb p d))++[pt tb]:=by
   rw[dL,fF];congr 1
   ·refine gm fun x hx=>?_;have:=dK.1 hx;rw[if_neg (by omega)]
   ·simp
  rw[e];refine nK uB (p:=⟨b,18+p,aj⟩) v2 fun g uz e2=>?_;obtain⟨cs,hb⟩:=kY uB g uz;exact dG.sZ b3 hb (by decide) (by rw[e2])
 obtain⟨dV,Pz⟩:∃dV:Own,dV=fun k=>if k<w.heap.size then Z k else if k=gb then(o,4,p,c)else if k=gc then(o,5,p,c)else if k=tb then(o,7,p,c)else if k=tc then(o,8,p,c)else
  if v1.ownBlock=az k then(o,3,p,0)else if v2.ownBlock=az k then(o,6,p,0)else(0,0,0,0):=⟨_,rfl⟩
 have he:∀k,k<w.heap.size->dV k=Z k:=fun k hk=>by rw[Pz];simp only;rw[if_pos hk]
 have hn:∀k,¬k<w.heap.size->dV k=if k=gb then(o,4,p,c)else if k=gc then(o,5,p,c)else if k=tb then(o,7,p,c)else if k=tc then(o,8,p,c)else
  if v1.ownBlock=az k then(o,3,p,0)else if v2.ownBlock=az k then(o,6,p,0)else(0,0,0,0):=fun k hk=>by rw[Pz];simp only;rw[if_neg hk]
 have egb:dV gb=(o,4,p,c):=by rw[hn _ (by omega),if_pos rfl]
 have egc:dV gc=(o,5,p,c):=by rw[hn _ (by omega),if_neg (by omega),if_pos rfl]
 have etb:dV tb=(o,7,p,c):=by rw[hn _ (by omega),if_neg (by omega),if_neg (by omega),if_pos rfl]
 have etc:dV tc=(o,8,p,c):=by rw[hn _ (by omega),if_neg (by omega),if_neg (by omega),if_neg (by omega),if_pos rfl]
 have ev1:∀g,v1.ownBlock=az g->dV g=(o,3,p,0):=fun g uz=>by
  rcases AX with q|q
  ·rw[q]at uz;rw[he g (hG.1.lt g uz).2];exact hG.2 g uz
  ·have hg2:=uz;rw[q]at hg2;injection hg2 with hg2;rw[hn _ (by omega),if_neg (by omega),if_neg (by omega),if_neg (by omega),if_neg (by omega),if_pos uz]
 have ev2:∀g,v2.ownBlock=az g->dV g=(o,6,p,0):=fun g uz=>by
  rcases Qa with q|q
  ·rw[q]at uz;rw[he g (hT.1.lt g uz).2];exact hT.2 g uz
  ·have hg2:=uz;rw[q]at hg2;injection hg2 with hg2;rw[hn _ (by omega),if_neg (by omega),if_neg (by omega),if_neg (by omega),if_neg (by omega),if_neg (fun e2=>by
    rcases AX with q1|q1
    ·rw[q1]at e2;have:=(hG.1.lt g e2).2;omega
    ·rw[q1]at e2;injection e2 with e2;omega),if_pos uz]
 have ne:∀{i t},Z i=t->t≠(o,0,0,0)->t≠(o,3,p,0)->t≠(o,6,p,0)->¬(i=b\/(L.gr p).ownBlock=az i\/(L.tr p).ownBlock=az i):=fun h1 h2 h3 h4 s=>by
  rcases s with s|s|s
  ·exact h2 (by rw[<-h1,s,rt])
  ·exact h3 (by rw[<-h1,hG.2 _ s])
  ·exact h4 (by rw[<-h1,hT.2 _ s])
 refine⟨b3,dV,?_⟩;exact{
  nx:=by
   refine⟨h.nx.ch.trans C2 fun i hi s=>?_,fun i hi=>(he i (by omega)).trans (h.nx.ext i hi),fun k h1 h2=>?_⟩
   ·rcases s with s|s|s
    ·have:=h.root.2.2;omega
    ·have:=(hG.1.lt i s).1;omega
    ·have:=(hT.1.lt i s).1;omega
   ·by_cases e:k<w.heap.size
    ·rw[he k e];exact h.nx.fresh k h1 e
    ·rw[hn k e]
     repeat(first|(split;exact .inl rfl)|exact .inr (bJ _))
  root:=by refine⟨?_,by rw[he _ lb];exact rt,h.root.2.2⟩;have:=b3.jy (18+p) v2;rw[aqe bE m pq p c tb tc _ v2 hp]at this;exact this
  iY:=⟨h.iY.1.ch C2 (ne h.iY.2 (by simp) (by simp) (by simp)),by show dV L.bb=_;rw[he _ h.iY.1.lt];exact h.iY.2⟩
  qv:=h.qv
  qr:=fun q hq=>let r:=h.qr q hq;⟨r.1.ch C2 (ne r.2 (by simp) (by simp) (by simp)),by show dV (L.qr q)=_;rw[he _ r.1.lt];exact r.2⟩
  g:=fun q=>by
   rw[Gw];show(wD.setCell ⟨b,18+p,aj⟩ v2).ownsRow w0.heap.size 159 1 (if q=p then v1 else L.gr q) _ ((aN _).map fun d=>pt (if q=p/\d=c then gb else L.gb q d))/\∀g,(if q=p then v1 else L.gr q).ownBlock=az g->dV g=(o,3,q,0);by_cases e:q=p
   ·subst e;simp only[if_true,true_and];exact⟨aze,ev1⟩
   ·simp only[e,if_false,false_and];have r:=h.g q;exact⟨fT r.1 C2 fun g uz=>ne (r.2 g uz) (by simp) (by simp[e]) (by simp),fun g uz=>by rw[he _ (r.1.lt g uz).2];exact r.2 g uz⟩
  gg:=fun q d hd=>by
   rw[Gw]at hd;show EY _ (if q=p/\d=c then gb else L.gb q d) (if q=p/\d=c then gc else L.gc q d) _/\dV (if q=p/\d=c then gb else L.gb q d)=_/\dV (if q=p/\d=c then gc else L.gc q d)=_;by_cases e:q=p/\d=c
   ·simp only[e,and_self,if_true];exact⟨⟨fin g0 lgb hg.p,fin g1 lgc hg.c⟩,egb,egc⟩
   ·simp only[e,if_false];have Ap:d<vS m p c q:=by
     by_cases e2:q=p
     ·subst e2;rw[if_pos rfl]at hd;rw[lc];have:d≠c:=fun e3=>e ⟨rfl,e3⟩;omega
     ·rw[if_neg e2]at hd;exact hd
    obtain⟨h1,h2,h3⟩:=h.gg q d Ap;exact⟨h1.ch C2 (ne h2 (by simp) (by simp) (by simp)) (ne h3 (by simp) (by simp) (by simp)),by rw[he _ h1.p.lt];exact h2,by rw[he _ h1.c.lt];exact h3⟩
  t:=fun q=>by
   rw[Gw];show(wD.setCell ⟨b,18+p,aj⟩ v2).ownsRow w0.heap.size 162 1 (if q=p then v2 else L.tr q) _ ((aN _).map fun d=>pt (if q=p/\d=c then tb else L.tb q d))/\∀g,(if q=p then v2 else L.tr q).ownBlock=az g->dV g=(o,6,q,0);by_cases e:q=p
   ·subst e;simp only[if_true,true_and];exact⟨azf,ev2⟩
   ·simp only[e,if_false,false_and];have r:=h.t q;exact⟨fT r.1 C2 fun g uz=>ne (r.2 g uz) (by simp) (by simp) (by simp[e]),fun g uz=>by rw[he _ (r.1.lt g uz).2];exact r.2 g uz⟩
  tt:=fun q d hd=>by
   rw[Gw]at hd;show Lu _ (if q=p/\d=c then tb else L.tb q d) (if q=p/\d=c then tc else L.tc q d) _/\dV (if q=p/\d=c then tb else L.tb q d)=_/\dV (if q=p/\d=c then tc else L.tc q d)=_;by_cases e:q=p/\d=c
   ·simp only[e,and_self,if_true];exact⟨⟨fin t0 Uz ht.p,fin t1 ltc ht.c⟩,etb,etc⟩
   ·simp only[e,if_false];have Ap:d<vS m p c q:=by
     by_cases e2:q=p
     ·subst e2;rw[if_pos rfl]at hd;rw[lc];have:d≠c:=fun e3=>e ⟨rfl,e3⟩;omega
     ·rw[if_neg e2]at hd;exact hd
    obtain⟨h1,h2,h3⟩:=h.tt q d Ap;exact⟨h1.ch C2 (ne h2 (by simp) (by simp) (by simp)) (ne h3 (by simp) (by simp) (by simp)),by rw[he _ h1.p.lt];exact h2,by rw[he _ h1.c.lt];exact h3⟩
  nil:=fun q hq=>by
   rcases hq with hq|⟨_,h0⟩
   ·have e:¬q=p:=by omega
    show(if q=p then v1 else L.gr q)=_/\(if q=p then v2 else L.tr q)=_;simp only[e,if_false];exact h.nil q (.inl hq)
   ·omega}
theorem Tc.box(h:Tc vU w0 o b bE m aI Z w L bE bE 0)(hp:bE<=8)(hm:m=aI.length)(hm0:0<m):pW Z o w b (oL bE aI) L where
 root:=by
  refine⟨?_,h.root.2.1⟩;have e:OY bE m bE L=bxC (oL bE aI) L:=by
   unfold OY bxC;congr 1;refine gm fun i hi=>?_;have hi:=dK.1 hi;unfold bnV bxV Wu oL;simp only;by_cases h0:i=0
   ·simp only[h0,if_true]
   ·by_cases h1:i=1
    ·simp only[h0,h1,if_true,if_false,hm]
    ·by_cases h2:i<10
     ·simp only[h0,h1,h2,if_true,if_false,hm]
     ·by_cases h3:i<18
      ·simp only[h0,h1,h2,h3,if_true,if_false];by_cases h4:i-10<bE
       ·rw[if_pos h4]
       ·rw[if_neg h4];exact(h.nil _ (by omega)).1
      ·by_cases h5:i<26
       ·simp only[h0,h1,h2,h3,h5,if_true,if_false];by_cases h4:i-18<bE
        ·rw[if_pos h4]
        ·rw[if_neg h4];exact(h.nil _ (by omega)).2
       ·by_cases h6:i<34
        ·simp only[h0,h1,h2,h3,h5,h6,if_true,if_false,ais];rfl
        ·by_cases h7:i=34
         ·simp only[h0,h1,h2,h3,h5,h6,h7,if_true,if_false];rfl
         ·simp only[h0,h1,h2,h3,h5,h6,h7,if_false];rfl
  rw[<-e];exact h.root.1
 qr:=fun p xh=>by have r:=h.qr p xh;refine⟨?_,r.2⟩;rw[h.qv];show dG w (L.qr p) 110 (((aN aI.length).map fun _=>ay aj 0 0).toArray);rw[<-hm];exact r.1
 q:=fun p c xh qx=>by have Mj:p<bE:=xh;rw[h.qv];refine⟨⟨[],?_,dR _ _ _ _,by simp⟩,by simp[eO]⟩;show _=dz (aQ bE (aQ aI.length [])) p c;rw[uJ Mj];simp only[List.map_nil,bS,gD];split<;>rfl
 g:=fun p xh=>by
  have Mj:p<bE:=xh;have r:=h.g p;rw[show vS m bE 0 p=m by unfold vS;rw[if_pos Mj]]at r;obtain⟨g,cap,cs,e,hb,_,hc⟩:=uM r.1 hm0;refine⟨g,⟨cap,cs,by rw[e,hm];rfl,hb,fun c qx=>?_⟩,r.2 g (by rw[e];rfl)⟩;have Pv:c<m:=by rw[hm];exact qx
  rw[hc c Pv,cK,eu Pv];rfl
 gg:=fun p c xh qx=>by
  have Mj:p<bE:=xh;have Pv:c<aI.length:=qx;have r:=h.gg p c (by unfold vS;rw[if_pos Mj,hm];exact Pv);refine⟨?_,r.2⟩;show EY _ _ _ (dz (aQ bE (aI.map fun r=>(⟨r,0,0⟩:Gv))) p c);rw[uJ Mj];have e:(aI.map fun r=>(⟨r,0,0⟩:Gv)).getD c default=⟨aI.getD c 0,0,0⟩:=by simp[bS,Pv]
  rw[e];exact r.1
 t:=fun p xh=>by
  have Mj:p<bE:=xh;have r:=h.t p;rw[show vS m bE 0 p=m by unfold vS;rw[if_pos Mj]]at r;obtain⟨g,cap,cs,e,hb,_,hc⟩:=uM r.1 hm0;refine⟨g,⟨cap,cs,by rw[e,hm];rfl,hb,fun c qx=>?_⟩,r.2 g (by rw[e];rfl)⟩;have Pv:c<m:=by rw[hm];exact qx
  rw[hc c Pv,cK,eu Pv];rfl
 tt:=fun p c xh qx=>by
  have Mj:p<bE:=xh;have Pv:c<aI.length:=qx;have r:=h.tt p c (by unfold vS;rw[if_pos Mj,hm];exact Pv);refine⟨?_,r.2⟩;show Lu _ _ _ (dz (aQ bE (aI.map fun _=>(⟨0,0⟩:Tk))) p c);rw[uJ Mj];have e:(aI.map fun _=>(⟨0,0⟩:Tk)).getD c default=⟨0,0⟩:=by simp[bS,Pv]
  rw[e];exact r.1
 iY:=h.iY
end
end
section
attribute [local go_sem ↓] fM fK
def Ri(Z:Own)(o:Nat)(w:aG)(bE:Nat)(aI:List Int)(e:iL)(w':aG):Prop:=
 ∃b dV L,e=ax (.tuple #[au (az ⟨b,0,aj⟩),ah ag 0])/\pW dV o w' b (oL bE aI) L/\Nx Z o w dV w'/\w.heap.size<=b
theorem aev(bE m:Nat)(L:yV)(hg:L.gr=fun _=>ay aj 0 0)(ht:L.tr=fun _=>ay aj 0 0):OY bE m 0 L=#[ah ag bE,ah ag m,ay aj 0 0,ay aj 0 0,ay aj 0 0,ay aj 0 0,ay aj 0 0,ay aj 0 0,ay aj 0 0,ay aj 0 0,ay aj 0 0,ay aj 0 0,ay aj 0 0,ay aj 0 0,ay aj 0 0,ay aj 0 0,ay aj 0 0,ay aj 0 0,ay aj 0 0,ay aj 0 0,ay aj 0 0,ay aj 0 0,ay aj 0 0,ay aj 0 0,ay aj 0 0,ay aj 0 0,ah ag 0,ah ag 0,ah ag 0,ah ag 0,ah ag 0,ah ag 0,ah ag 0,ah ag 0,pt L.bb,ah ag 0]:=by unfold OY;simp[dL,bnV,hg,ht]
theorem sG{P:Program}{w:aG}{ops:Array Oper}{o:Oper}{a:Act}{K:Act->aG->Prop}{Q:Exit->Act->aG->Prop}{E:Prop}(hg:o.guard=aj)(l c:Operand)(t:TypeId)(hop:o.op=Op.makeSlice t l c)(e:TypeId)(i:TypeInfo)(z:aJ)(size:Nat)(h1:P.underlying t=az (.slice e))(h2:P.info? e=az i)(h3:i.zero=az z)(h4:i.size=size)(kl kc:IntKind)(L C:Int)(n:Nat)(hl:a.eval l=.int kl L)(hc:a.eval c=.int kc C)(hL:L=(n:Int))(hC:C=(n:Int))(b2:i.bytes*n<=281474976710656)(b3:n<=fJ)(hK:K (a.put o.dst (ay (az ⟨w.heap.size,0,aj⟩) n n)) (w.alloc (af (eH z.cells (n*size)) e))):if eZ o (yielded ops a.tmps)=true then Oper.wp P o a w K Q else E:=by
 have hw:eZ o (yielded ops a.tmps)=true:=by simp[eZ,hg]
 rw[if_pos hw];have h63':(n:Int)<=9223372036854775807:=by have h:=b3;simp[fJ]at h;omega
 have tq:(i.bytes:Int)*(n:Int)<=281474976710656:=by
  have h:((i.bytes*n:Nat):Int)<=281474976710656:=by omega
  rwa [Int.natCast_mul]at h
 have hrun:=run_make (P:=P) w t e i z h1 h2 h3 kl kc n n (by omega) (Int.le_refl _) tq h63';subst hL;subst hC;subst h4;simp only[Int.toNat_natCast]at hrun;unfold Oper.wp;simp[execOp,hop,hl,hc,hrun,Result.andThen];exact hK
theorem dX{w:aG}{base:Nat}{e:TypeId}{m n:Nat}{v:aJ}{xs:List aJ}(h:w.ownsRow base e m v n xs):∃a c,v=ay a n c:=by
 rcases h.2 with⟨rfl,h0⟩|⟨g,cap,cur,rfl,_⟩
 ·subst h0;exact⟨_,_,rfl⟩
 ·exact⟨_,_,rfl⟩
theorem Nx.Rs{Z dV:Own}{o:Nat}{w w':aG}(h:Nx Z o w dV w')(hf:∀k,k<w.heap.size->(Z k).1≠o):aO w.heap.size w w':=⟨h.ch.os,h.ch.tape,h.ch.output,h.ch.size,fun k hk=>h.ch.block k hk (hf k hk)⟩
theorem VM:(Tryz.prog.info? 110).map (fun i=>(i.zero,i.size,i.bytes))=az (az (ay aj 0 0),1,24):=by kernel_rfl
theorem ahR:(Tryz.prog.info? 159).map (fun i=>(i.zero,i.size,i.bytes))=az (az (au aj),1,8):=by kernel_rfl
theorem ahS:(Tryz.prog.info? 162).map (fun i=>(i.zero,i.size,i.bytes))=az (az (au aj),1,8):=by kernel_rfl
theorem ahY(n:Nat):eH #[ay aj 0 0] n=((aN n).map fun _=>ay aj 0 0).toArray:=by unfold eH;apply tu;simp[Nat.mod_one]
def apA(n:Nat)(w:aG)(i:aJ)(wr:aG):Prop:=∃k:Nat,k<=n/\i=ah ag k/\w=wr
def aje(vU:Own)(w0:aG)(o b bE m:Nat)(aI:List Int)(i:aJ)(wr:aG):Prop:=∃(p:Nat) (Z:Own) (L:yV),p<=bE/\i=ah ag p/\Tc vU w0 o b bE m aI Z wr L p p 0
def adR(vU:Own)(w0:aG)(o b bE m p:Nat)(aI:List Int)(i:aJ)(wr:aG):Prop:=∃(c:Nat) (Z:Own) (L:yV),c<=m/\i=ah ag c/\Tc vU w0 o b bE m aI Z wr L (p+1) p c
theorem aaX(bE:Nat)(aI:List Int)(A:Option Addr)(cap:Nat)(Z:Own)(o:Nat)(w:aG)(ho:2<=o)(Nf:∀k,k<w.heap.size->(Z k).1≠o)(p0:1<=bE)(p1:bE<=8)(l0:1<=aI.length)(l1:aI.length<=8)(hr:∀r∈aI,1<=r/\r<=64)(hR:gH 1 cI 0 w A aI.length aI):di aH 40 #[ah ag bE,ay A aI.length cap] w (Ri Z o w bE aI):=by
 have HR:=aA hR;have HRM:=aA hr;have HF:=aA Nf;obtain⟨rb,ro,ha,hrb,_⟩:=oD hR 0 (by omega);subst ha;clear hR hr Nf;obtain⟨m,hm⟩:∃m,aI.length=m:=⟨_,rfl⟩;rw[hm]at HR l0 l1|-;have HM:=aA hm;clear hm;go_enter func40,ntmps40;go_wp2_with fail;go_loopw [7,36] (fun _ i wr=>apA m w i wr) (fun _ i _=>m-(aK i).toNat);case atStart=>exact⟨0,bJ _,rfl,rfl⟩
 case round=>
  obtain⟨k,hk,rfl,rfl⟩:=hrel;by_cases hkm:k<m
  ·obtain⟨b1,o1,ha,hb1,hc⟩:=oD HR.o k hkm;injection ha with ha;injection ha with ha1 ha2 _;subst ha1 ha2;have r01:=HRM.o (aI.getD k 0) (by have:=HM.o;have hk2:k<aI.length:=(by omega);simp[bS,hk2]);generalize aI.getD k 0=r at hc r01;have r0:=r01.1;have r1:=r01.2;clear r01;go_wp2_with fail;exact⟨⟨k+1,by omega,by simp,rfl⟩,by simp[aK];omega⟩
  ·obtain rfl:m=k:=by omega
   go_wp2_with (first|(go_at_call 84;refine(aew bE _ p0 p1).mono ?_;rintro e w' ⟨rfl,rfl⟩));clear hk
   generalize gK:MU (MU w _) _=w1;obtain⟨L0,hL0⟩:∃L0:yV,L0=⟨fun _=>0,fun _ _=>ay aj 0 0,fun _=>ay aj 0 0,fun _=>ay aj 0 0,fun _ _=>0,fun _ _=>0,fun _ _=>0,fun _ _=>0,w.heap.size⟩:=⟨_,rfl⟩;have S1:w1.heap.size=w.heap.size+2:=by rw[<-gK];simp
   have Zq:aZ (∃vP,Tc Z w o (w.heap.size+1) bE m aI vP w1 L0 0 0 0):=by
    refine⟨fun k=>if k<w.heap.size then Z k else if k=w.heap.size then(o,9,0,0)else(o,0,0,0),?_⟩;have b1:aO w.heap.size w w1:=(by rw[<-gK];exact((aS _ _).alloc (aC _) _).alloc (by simp) _);have l0':∀q,vS m 0 0 q=0:=fun q=>(by unfold vS;simp);refine⟨⟨Ch.dw b1,fun k hk=>if_pos hk,fun k h1 h2=>?_⟩,⟨?_,?_,by omega⟩,⟨?_,?_⟩,by rw[hL0],fun q hq=>by omega,fun q=>?_,fun q d hd=>?_,fun q=>?_,fun q d hd=>?_,fun q _=>by rw[hL0];exact⟨rfl,rfl⟩⟩
    ·rw[if_neg (by omega)];split<;>exact .inl rfl
    ·rw[<-gK,aev bE m L0 (by rw[hL0]) (by rw[hL0]),hL0];have:=dG.new (w.alloc (af ((yP ⟨[0,0,0,0,0,0,0,0],[0,0,0,0,0,0,0,0]⟩ bE).map Uw).toArray 201)) 158 #[ah ag bE,ah ag m,ay aj 0 0,ay aj 0 0,ay aj 0 0,ay aj 0 0,ay aj 0 0,ay aj 0 0,ay aj 0 0,ay aj 0 0,
      ay aj 0 0,ay aj 0 0,ay aj 0 0,ay aj 0 0,ay aj 0 0,ay aj 0 0,ay aj 0 0,ay aj 0 0,ay aj 0 0,ay aj 0 0,ay aj 0 0,ay aj 0 0,ay aj 0 0,ay aj 0 0,ay aj 0 0,ay aj 0 0,
      ah ag 0,ah ag 0,ah ag 0,ah ag 0,ah ag 0,ah ag 0,ah ag 0,ah ag 0,pt w.heap.size,ah ag 0]
     rw[World.size_alloc]at this;exact this
    ·rw[if_neg (by omega),if_neg (by omega)]
    ·rw[hL0,<-gK];exact(dG.new w _ _).alloc _
    ·rw[hL0];simp
    ·rw[l0',hL0];exact⟨dR _ _ _ _,by simp[eO]⟩
    ·rw[l0']at hd;omega
    ·rw[l0',hL0];exact⟨dR _ _ _ _,by simp[eO]⟩
    ·rw[l0']at hd;omega
   clear gK hL0 S1;obtain⟨vP,hB1⟩:=Zq.o;have HB1:=aA hB1;clear hB1 Zq;obtain⟨b,hb⟩:∃x,w.heap.size+1=x:=⟨_,rfl⟩;rw[hb]at HB1;rw[hb];have Hb:=aA hb;clear hb;generalize hbb:w.heap.size=bb0;have Hbb:=aA hbb;clear hbb;obtain⟨i0,hi0,wE,uY,wN⟩:=eQ VM;have mm:=aA (ahY m);go_loopw [11,13,14,15,16,17,62,75] (fun _ _ _ _ _ _ i _ wr=>aje Z w o b bE m aI i wr) (fun _ _ _ _ _ _ i _ _=>bE-(aK i).toNat);case atStart=>exact⟨0,vP,L0,bJ _,rfl,HB1.o⟩
   case round=>
    obtain⟨p,τp,L,hp,rfl,hB⟩:=hrel;have HB:=aA hB;clear hB;by_cases hpn:p<bE
    ·have p0':(0:Int)<=(p:Int):=by omega
     have p8':(p:Int)<8:=(by omega);have WS:aZ (w.heap.size<=wr.heap.size):=HB.o.nx.ch.size;have Q1:=aA (HB.o.queues WS.o (by omega) rfl rfl);have rb0:=HB.o.root.1.alloc (af (((aN m).map fun _=>ay aj 0 0).toArray) 110);have cq0:=rb0.cell (2+p);have axF:=rb0.frozen (2+p);unfold OY at cq0;rw[sj 36 _ (by omega),show bnV bE m p L (2+p)=ay aj 0 0 by unfold bnV;rw[if_neg (by omega),if_neg (by omega),if_pos (by omega),if_neg (by omega)]]at cq0;have ms:=aA (show eH (ay aj 0 0).cells (m*1)=((aN m).map fun _=>ay aj 0 0).toArray by rw[Nat.mul_one];exact mm.out);clear rb0;go_wp2_with fail;refine fZ 8 (fun _=>True) (by kernel_rfl) trivial (fun aW=>?_);refine bH.tk 0 aW ?_;try simp only[bI]
     refine bH.tk 1 aW ?_;try simp only[bI]
     refine bH.tk 2 aW ?_;try simp only[bI]
     refine bH.tk 3 aW ?_;try simp only[bI]
     refine bH.tk 5 aW ?_;try simp only[bI]
     refine bH.tk 6 aW ?_;try simp only[bI]
     refine bH.one (i:=4) (by kernel_rfl) rfl (fun K hK=>?_);refine sG (by rfl) (.tmp 68) (.tmp 68) 150 (by rfl) 110 i0 _ 1 underlying150 hi0 wE uY .i64 .i64 _ _ m (by rfl) (by rfl) (by rfl) (by rfl) (by rw[wN];omega) (by unfold fJ;omega) ?_;rw[ms.out];refine hK.out _ _ (fun _=>trivial) (fun bU=>?_);have aW:=bU (by decide);clear hK bU;try simp only[bI]
     refine bH.tk 7 aW ?_;try simp only[bI]
     refine bH.one (i:=8) (by kernel_rfl) rfl (fun K hK=>?_);go_simp;refine hK.out _ _ (fun h=>absurd rfl h) (fun _=>?_);clear hK;refine bH.done (by kernel_rfl) ?_ _;try simp only[bI]
     clear cq0 axF;go_wp2_with fail;generalize Gs:iJ (MU wr _) _ _=w5 at *;clear Gs;have Q2:aZ (adR Z w o b bE m p aI (ah ag ((0:Nat):Int)) w5.drew):=⟨0,_,_,bJ _,rfl,Q1.o.below ⟨rfl,rfl,rfl,aC _,fun _ _=>rfl⟩⟩;clear HB Q1 ms;obtain⟨wo,rfl⟩:∃wo:aG,wo=wr:=⟨_,rfl⟩;obtain⟨w5d,ari⟩:∃x,w5.drew=x:=⟨_,rfl⟩;rw[ari]at Q2|-;clear ari;go_loopw [13,14,15,16,17,75] (fun _ _ _ _ _ i wr=>adR Z w o b bE m p aI i wr) (fun _ _ _ _ _ i _=>m-(aK i).toNat);case atStart=>exact Q2.o
     case round=>
      obtain⟨c,τc,L,hc,rfl,hB⟩:=hrel;have HB:=aA hB;clear hB;by_cases hcm:c<m
      ·have BW:aZ (aO w.heap.size w wr):=HB.o.nx.Rs HF.o;obtain⟨b1,o1,ha,hb1,Pw,qG⟩:=oD HR.o c hcm;injection ha with ha;injection ha with ha1 ha2 _;subst ha1 ha2;have r01:=HRM.o _ Pw;have hcw:wr.cell? ⟨rb,ro+c,aj⟩=az (ah ag (aI.getD c 0)):=(BW.o.cell (p:=⟨rb,ro+c,aj⟩) hrb).trans qG;clear hb1 Pw qG;obtain⟨r,hr⟩:∃r,aI.getD c 0=r:=⟨_,rfl⟩;rw[hr]at hcw r01;have Hr:=aA hr;clear hr;obtain⟨wa,Mk⟩:∃wa:aG,wr.alloc (af #[ah ag r] 3)=wa:=⟨_,rfl⟩;have SA:aZ (wa.heap.size=wr.heap.size+1):=by rw[<-Mk,aZ];simp
       have BA:aZ (aO wr.heap.size wr wa):=(by rw[<-Mk];exact(aS _ _).alloc (aC _) _);have GN:=aA (abM r wr.heap.size 1 wa r01 (by rw[<-Mk];exact(dG.new wr _ _).cell 0));have HWA:=aA Mk;clear r01 Mk;go_wp2_with (first
        |(go_at_call 85;rw[HWA.o];refine GN.o.mono ?_;rintro e w2 ⟨gb,gc,rfl,hg,g0,g1,bg⟩;have HG:=aA hg;have G0:=aA g0;have G1:=aA g1;have BG:=aA bg;clear hg g0 g1 bg hcw)
        |(go_at_call 86;refine(acP w2).mono ?_;rintro e w3 ⟨tb,tc,rfl,ht,t0,t1,bt⟩;have HT:=aA ht;have T0:=aA t0;have T1:=aA t1;have BT:=aA bt;clear ht t0 t1 bt))
       have K3:aZ (aO wr.heap.size wr w3):=(BA.o.trans (BG.o.mono BA.o.size)).trans (BT.o.mono (eY BA.o.size BG.o.size));have HG3:=aA (HG.o.ch (Ch.dw (S:=fun _=>False) BT.o) id id);have WS2:aZ (w.heap.size<=wr.heap.size):=HB.o.nx.ch.size;have zY:=(HB.o.g p).1;rw[show vS m p c p=c by unfold vS;simp]at zY;have VJ:=(HB.o.t p).1;rw[show vS m p c p=c by unfold vS;simp]at VJ;obtain⟨ga,gk,eG⟩:=dX zY;obtain⟨ta,tk,eT⟩:=dX VJ;have EG:=aA eG;have ET:=aA eT;rw[eG]at zY;rw[eT]at VJ;have OWG:aZ ((w3.alloc (af #[au (az ⟨gb,0,aj⟩)] 159)).ownsRow w.heap.size 159 1 (ay ga c gk) c ((aN c).map fun d=>pt (L.gb p d))):=(fT zY (Ch.dw (S:=fun _=>False) K3.o) (fun _ _ s=>s.elim)).alloc _;have HRT:=aA VJ;have RB3:=aA (HB.o.root.1.below K3.o HB.o.root.1.lt);have cgp:aZ (∀w',dG w' b 158 (OY bE m (p+1) L)->w'.cell? ⟨b,10+p,aj⟩=az (ay ga c gk)):=fun w' hb=>(by rw[hb.cell];unfold OY;rw[sj 36 _ (by omega)];unfold bnV;rw[if_neg (by omega),if_neg (by omega),if_neg (by omega),if_pos (by omega),show 10+p-10=p by omega,EG.o]);clear zY VJ eG eT;refine fZ 14 (fun w'=>w'.cell? ⟨b,10+p,aj⟩=az (ay ga c gk)) (by kernel_rfl) (cgp.out _ RB3.o) (fun aW=>?_);refine bH.tk 0 aW ?_;try simp only[bI]
       refine bH.tk 1 aW ?_;try simp only[bI]
       refine bH.tk 2 aW ?_;try simp only[bI]
       refine bH.tk 3 aW ?_;try simp only[bI]
       refine bH.tk 4 aW ?_;try simp only[bI]
       refine bH.tk 5 aW ?_;try simp only[bI]
       refine bH.tk 6 aW ?_;try simp only[bI]
       refine bH.tk 7 aW ?_;try simp only[bI]
       refine bH.tk 8 aW ?_;try simp only[bI]
       refine bH.tk 11 aW ?_;try simp only[bI]
       refine bH.tk 12 aW ?_;try simp only[bI]
       have RA3:aZ (dG (w3.alloc (af #[au (az ⟨gb,0,aj⟩)] 159)) b 158 (OY bE m (p+1) L)):=RB3.o.alloc _;obtain⟨j0,xQ,zC,Aq,Av⟩:=eQ ahR;have RN:aZ (Reads (w3.alloc (af #[au (az ⟨gb,0,aj⟩)] 159)).drew (w3.heap.size+1) 1 (az ⟨w3.heap.size,0,aj⟩) 1 [au (az ⟨gb,0,aj⟩)]):=(iE w3 159 [au (az ⟨gb,0,aj⟩)] (n:=1) (size:=1) rfl).drew;have WS3:aZ (w.heap.size<=w3.heap.size):=(by have:=WS2.o;have:=K3.o.size;rw[aZ];omega);refine bH.one (i:=9) (by kernel_rfl) rfl (fun K hK=>?_);go_simp;refine hK.out _ _ (fun _=>cgp.out _ RA3.o) (fun bU=>?_);have aW:=bU (by decide);clear hK bU;try simp only[bI]
       refine bH.one (i:=10) (by kernel_rfl) rfl (fun K hK=>?_);refine gy _ (by rfl) (.tmp 102) (.tmp 104) 152 (by rfl) w.heap.size 159 j0 _ 1 8 underlying152 xQ zC Aq Av rfl (by decide) _ _ _ (by rfl) (show World.ownsRow ((w3.alloc (af #[au (az ⟨gb,0,aj⟩)] 159)).drew) _ _ _ _ _ _ from OWG.o) _ (az ⟨w3.heap.size,0,aj⟩) 1 1 [au (az ⟨gb,0,aj⟩)] (by rfl) RN.o ?_ ?_ ?_ ?_ ?_
       ·intro u hu;simp only[dM,dZ,or_false]at hu;subst hu;rfl
       ·unfold fJ;omega
       ·omega
       ·have:=WS3.o;simp;omega
       intro v1 wB nR yG AX;have aqL:(w3.alloc (af #[au (az ⟨gb,0,aj⟩)] 159)).grownBy wB (L.gr p).ownBlock:=by rw[EG.o];exact⟨yG.os,yG.tape,yG.output,yG.size,yG.block⟩
       have GR1:=aA aqL;have OW1:=aA nR;have LC1:aZ (v1.ownBlock=(L.gr p).ownBlock\/v1.ownBlock=az (w3.heap.size+1)):=(by rw[EG.o,aZ];simpa using AX);obtain⟨P1,P2,P3,P4⟩:=HB.o.Wo (gc:=gc) (by omega) K3.o OW1.o GR1.o LC1.o;have HP1:=aA P1;have HP2:=aA P2;have HP3:=aA P3;obtain⟨ga1,gk1,e1⟩:=dX nR;have E1:=aA e1;have c10:=cgp.out _ HP1.o;have f10:=HP1.o.frozen (10+p);clear nR yG aqL AX P1 P2 P3 P4;rw[e1];clear e1;refine hK.out _ _ (fun _=>c10) (fun bU=>?_);have aW:=bU (by decide);clear hK bU;try simp only[bI]
       refine bH.tk 13 aW ?_;try simp only[bI]
       refine bH.one (i:=14) (by kernel_rfl) rfl (fun K hK=>?_);go_simp;refine hK.out _ _ (fun h=>absurd rfl h) (fun _=>?_);clear hK;refine bH.done (by kernel_rfl) ?_ _;try simp only[bI]
       clear c10 f10;obtain⟨w4,Ir⟩:∃w4:aG,wB.setCell ⟨b,10+p,aj⟩ (ay ga1 (c+1) gk1)=w4:=⟨_,rfl⟩;have HQ2:aZ (dG w4 b 158 (OY bE m (p+1) (L.Aj p c gb gc v1))):=by rw[<-Ir,<-E1.o];exact HP2.o
       have HQ3:aZ (w4.ownsRow w.heap.size 162 1 (L.tr p) c ((aN c).map fun d=>pt (L.tb p d))):=(by rw[<-Ir,<-E1.o];exact HP3.o);have HW4:=aA Ir;clear HP2 HP3;clear Ir;go_wp2_with fail;rw[HW4.o];have ctp:aZ (∀w',dG w' b 158 (OY bE m (p+1) (L.Aj p c gb gc v1))->w'.cell? ⟨b,18+p,aj⟩=az (ay ta c tk)):=fun w' hb=>(by rw[hb.cell];unfold OY;rw[sj 36 _ (by omega)];unfold bnV;rw[if_neg (by omega),if_neg (by omega),if_neg (by omega),if_neg (by omega),if_pos (by omega),show 18+p-18=p by omega];show az (L.tr p)=_;rw[ET.o]);have avz:aZ (w4.ownsRow w.heap.size 162 1 (ay ta c tk) c ((aN c).map fun d=>pt (L.tb p d))):=(by rw[<-ET.o];exact HQ3.o);have OWT:aZ ((w4.alloc (af #[au (az ⟨tb,0,aj⟩)] 162)).ownsRow w.heap.size 162 1 (ay ta c tk) c ((aN c).map fun d=>pt (L.tb p d))):=avz.out.alloc _;have SZ4:aZ (w4.heap.size=wB.heap.size):=(by rw[<-HW4.o,aZ];simp[iJ]);have WS4:aZ (w.heap.size<=w4.heap.size):=(by have h1:=GR1.o.size;simp at h1;have:=WS3.o;have:=SZ4.o;rw[aZ];omega);refine fZ 14 (fun w'=>w'.cell? ⟨b,18+p,aj⟩=az (ay ta c tk)) (by kernel_rfl) (ctp.out _ HQ2.o) (fun aW=>?_);refine bH.tk 0 aW ?_;try simp only[bI]
       refine bH.tk 1 aW ?_;try simp only[bI]
       refine bH.tk 2 aW ?_;try simp only[bI]
       refine bH.tk 3 aW ?_;try simp only[bI]
       refine bH.tk 4 aW ?_;try simp only[bI]
       refine bH.tk 5 aW ?_;try simp only[bI]
       refine bH.tk 6 aW ?_;try simp only[bI]
       refine bH.tk 7 aW ?_;try simp only[bI]
       refine bH.tk 8 aW ?_;try simp only[bI]
       refine bH.tk 11 aW ?_;try simp only[bI]
       refine bH.tk 12 aW ?_;try simp only[bI]
       have RA4:aZ (dG (w4.alloc (af #[au (az ⟨tb,0,aj⟩)] 162)) b 158 (OY bE m (p+1) (L.Aj p c gb gc v1))):=HQ2.o.alloc _;obtain⟨k0,NU,hx0,hx1,hx2⟩:=eQ ahS;have RNT:aZ (Reads (w4.alloc (af #[au (az ⟨tb,0,aj⟩)] 162)).drew (w4.heap.size+1) 1 (az ⟨w4.heap.size,0,aj⟩) 1 [au (az ⟨tb,0,aj⟩)]):=(iE w4 162 [au (az ⟨tb,0,aj⟩)] (n:=1) (size:=1) rfl).drew;refine bH.one (i:=9) (by kernel_rfl) rfl (fun K hK=>?_);go_simp;refine hK.out _ _ (fun _=>ctp.out _ RA4.o) (fun bU=>?_);have aW:=bU (by decide);clear hK bU;try simp only[bI]
       refine bH.one (i:=10) (by kernel_rfl) rfl (fun K hK=>?_);refine gy _ (by rfl) (.tmp 116) (.tmp 118) 154 (by rfl) w.heap.size 162 k0 _ 1 8 underlying154 NU hx0 hx1 hx2 rfl (by decide) _ _ _ (by rfl) (show World.ownsRow ((w4.alloc (af #[au (az ⟨tb,0,aj⟩)] 162)).drew) _ _ _ _ _ _ from OWT.o) _ (az ⟨w4.heap.size,0,aj⟩) 1 1 [au (az ⟨tb,0,aj⟩)] (by rfl) RNT.o ?_ ?_ ?_ ?_ ?_
       ·intro u hu;simp only[dM,dZ,or_false]at hu;subst hu;rfl
       ·unfold fJ;omega
       ·omega
       ·have:=WS4.o;simp;omega
       intro v2 wD uB Ho Qa;have aqM:((wB.setCell ⟨b,10+p,aj⟩ v1).alloc (af #[au (az ⟨tb,0,aj⟩)] 162)).grownBy wD (L.tr p).ownBlock:=by rw[ET.o,E1.o,HW4.o];exact⟨Ho.os,Ho.tape,Ho.output,Ho.size,Ho.block⟩
       obtain⟨P5,τz,P6⟩:=HB.o.push (by omega) WS2.o K3.o (by rw[Hr.o];exact HG3.o) HT.o (by have:=G0.o;have:=SA.o;omega) (by have:=G1.o;have:=SA.o;omega) (by have:=T0.o;have:=BG.o.size;have:=SA.o;omega) (by have:=T1.o;have:=BG.o.size;have:=SA.o;omega)
        OW1.o GR1.o LC1.o uB aqM (by rw[ET.o];rw[E1.o,HW4.o];simpa using Qa)
       have HP5:=aA P5;have HP6:=aA P6;obtain⟨ta2,tk2,e2⟩:=dX uB;have E2:=aA e2;have c18:=ctp.out _ HP5.o;have f18:=HP5.o.frozen (18+p);clear uB Ho aqM Qa P5 P6;rw[e2];clear e2;refine hK.out _ _ (fun _=>c18) (fun bU=>?_);have aW:=bU (by decide);clear hK bU;try simp only[bI]
       refine bH.tk 13 aW ?_;try simp only[bI]
       refine bH.one (i:=14) (by kernel_rfl) rfl (fun K hK=>?_);go_simp;refine hK.out _ _ (fun h=>absurd rfl h) (fun _=>?_);clear hK;refine bH.done (by kernel_rfl) ?_ _;try simp only[bI]
       clear c18 f18;have jm:aZ (adR Z w o b bE m p aI (ah ag ((c:Int)+1)) (wD.setCell ⟨b,18+p,aj⟩ (ay ta2 (c+1) tk2))):=⟨c+1,_,_,by omega,by simp,by rw[<-E2.o];exact HP6.o⟩;go_wp2_with fail;exact⟨jm.out,by simp[aK];omega⟩
      ·obtain rfl:m=c:=by omega
       have jm:aZ (aje Z w o b bE m aI (ah ag ((p:Int)+1)) wr):=⟨p+1,_,_,by omega,by simp,HB.o.next l0⟩;go_wp2_with fail;exact⟨jm.out,by simp[aK];omega⟩
    ·obtain rfl:bE=p:=by omega
     have jm:aZ (Ri Z o w bE aI (ax (.tuple #[au (az ⟨b,0,aj⟩),ah ag 0])) wr):=
      ⟨b,τp,L,rfl,HB.o.box p1 HM.o.symm l0,HB.o.nx,HB.o.root.2.2⟩
     go_wp2_with fail;go_ret2
     exact jm.out
end
end Go.Proofs.YtnjjkgjdhljfnaaGreat
