/- Part 9 of the proof of fabricErrors.proved: FbBj FbBk FbBl FbBm. Several texts in one, blanks struck, what is not used left out. -/
import Derived.Defers
import Derived.Recover
import Derived.Test.YtnjjkgjdhljfnaaGreatPk1
import Derived.Test.YtnjjkgjdhljfnaaGreatPk8
set_option maxRecDepth 100000
set_option maxHeartbeats 16000000
set_option linter.unusedVariables false
set_option linter.unusedSimpArgs false
namespace Go.Proofs.YtnjjkgjdhljfnaaGreat
open Go.RowKit Go.Maps
attribute [local go_sem ↓] Go.wp_at_zero Go.wp_at_succ
theorem bcatch_idle(p q:Addr)(w:World):CallsD Tryz.prog 125 #[.pointer (some p),.pointer (some q)] .returning w fun e u' w'=>e=.returned (.tuple #[])∧u'=.returning∧w=w':=by refine callsD_of_wpS Tryz.func125 rfl fun c₀ cs hu=>?_;apply wpS_seq;apply wpS_region;simp[wpOpsS,go_sem,recoverD,hu,Tryz.ntmps125,Exit.thenS];refine wpS_cond (t:=false) (by simp[Act.eval,Array.replicate]) ?_;simp only[Bool.false_eq_true,if_false];refine wpS_of_wp (wp_skip ?_);cases c₀;simp_all[bodyPostS,results,Tryz.results125]
theorem func_not_nil(c1 c2:Nat)(w:World):(binOp .eql 184 (.func (.func 98) #[] #[.pointer (some ⟨c1,0,none⟩),.pointer (some ⟨c2,0,none⟩)]) .nilFunc).run Tryz.prog w=.ok (.bool false) w:=by kernel_rfl
def StepPost(τ:Own)(o:Nat)(w:World)(b:Nat)(X:Bx)(route:Nat→Fm→Option Nat)(e:Ending)(w':World):Prop:=
 ∃(vM vF:Value) (Q:List (Fm×Value)) (τ':Own) (L':BxL),e=.returned (.tuple #[vM,vF])∧BxM τ' o w' b (X.step route).1 L'∧Nx τ o w τ' w'∧w'.ownsRow w.heap.size 189 3 vM (X.step route).2.length ((X.step route).2.flatMap cM)∧
  w'.ownsRow w.heap.size 59 6 vF Q.length (Q.flatMap cFm)∧Q.map (·.1)=(X.step route).2.map (·.2.2.2)∧(∀x∈Q,IsDat τ' w' x.1.data x.2)∧(∀g,vM.ownBlock=some g→(τ' g).1=0)∧∀g,vF.ownBlock=some g→(τ' g).1=0
def StA(τ0:Own)(w0:World)(o b bB bMv bFr bD bO:Nat)(X:Bx)(route:Nat→Fm→Option Nat)(s:Bx×List Mv)(w:World):Prop:=
 ∃(τ:Own) (L:BxL) (vM vF:Value) (Q:List (Fm×Value)),StM τ0 w0 o b bB bMv bFr bD bO (fun p c=>(dropN X route p c:Int)) (fun p c=>optI (outN X route p c)) X.ports X.classes τ w s.1 L s.2 vM vF Q∧Q.map (·.1)=s.2.map (·.2.2.2)
theorem cI_flat(l:List Int):l.flatMap cI=l.map fun n=>Value.int .i64 n:=by
 induction l with
 |nil=>rfl
 |cons x l ih=>rw[List.flatMap_cons,ih];rfl
theorem infoMove:(Tryz.prog.info? 189).map (fun i=>(i.zero,i.size,i.bytes))=some (some (.agg #[.int .i64 0,.int .i64 0,.int .i64 0]),3,24):=by kernel_rfl
def StB(τ0:Own)(w0:World)(o b bB bMv bFr bD bO bM:Nat)(X:Bx)(route:Nat→Fm→Option Nat)(s:Bx×List Mv)(w:World):Prop:=
 ∃(τ:Own) (L:BxL) (vM vF:Value) (Q:List (Fm×Value)),StM τ0 w0 o b bB bMv bFr bD bO (fun p c=>(dropN X route p c:Int)) (fun p c=>optI (outN X route p c)) X.ports X.classes τ w s.1 L s.2 vM vF Q∧Q.map (·.1)=s.2.map (·.2.2.2)∧
  Blk w bM 3 (((matN X route).1.map optV).toArray)∧(τ bM).1=0
def RelB1(τ0:Own)(w0:World)(o b bB bMv bFr bD bO bM:Nat)(X:Bx)(route:Nat→Fm→Option Nat)(i:Value)(wr:World):Prop:=
 ∃j:Nat,j≤X.ports∧i=.int .i64 j∧StB τ0 w0 o b bB bMv bFr bD bO bM X route (movesAt X route j) wr
def RelB2(τ0:Own)(w0:World)(o b bB bMv bFr bD bO bM j k:Nat)(X:Bx)(route:Nat→Fm→Option Nat)(i:Value)(wr:World):Prop:=
 ∃n:Nat,n≤X.classes∧i=.int .i64 n∧StB τ0 w0 o b bB bMv bFr bD bO bM X route (movesAt X route j) wr∧
  ∀m,m<n→readyB (outN X route) (movesAt X route j).1 j k (((movesAt X route j).1.ptr.getD j 0+m)%X.classes)=false
theorem matN_len{X:Bx}{route:Nat→Fm→Option Nat}{N:Nat}(hb:BxOk X N):(matN X route).1.length=X.ports:=by
 have h:=dropsEnd_ok (route:=route) hb;unfold matN;have:∀r,((List.range r).foldl (fun m r=>roundX X.ports (reqN X route) (r==0) m) ⟨List.replicate X.ports none,List.replicate 8 false,(dropsEnd X route).1.bar⟩).mt.length=X.ports∧MaOk X.ports ((List.range r).foldl (fun m r=>roundX X.ports (reqN X route) (r==0) m) ⟨List.replicate X.ports none,List.replicate 8 false,(dropsEnd X route).1.bar⟩):=by
  intro r
  induction r with
  |zero=>
   have e:∀i,(List.replicate X.ports (none:Option Nat)).getD i none=none:=fun i=>by simp only[List.getD,List.getElem?_replicate];split<;>rfl
   refine⟨by simp,⟨by simp,by simp,fun i k h=>?_,fun i j k h=>?_,by rw[←h.2.1];exact h.1.bar⟩⟩<;>(simp only[List.range_zero,List.foldl_nil]at h;rw[e]at h;cases h)
  |succ r ih=>rw[List.range_succ,List.foldl_append];have h1:=round_ok (rq:=reqN X route) (adv:=(r==0)) hb.p1 ih.2;exact⟨h1.ok.ml,h1.ok⟩
 exact(this X.ports).1
theorem StA.cells{τ0:Own}{w0 w:World}{o b bB bMv bFr bD bO:Nat}{X:Bx}{route:Nat→Fm→Option Nat}{s:Bx×List Mv}(h:StA τ0 w0 o b bB bMv bFr bD bO X route s w)(hp:s.1.ports=X.ports)(hc:s.1.classes=X.classes):w.cell? ⟨bB,0,none⟩=some (.pointer (some ⟨b,0,none⟩))∧w.cell? ⟨b,0,none⟩=some (.int .i64 X.ports)∧w.cell? ⟨b,0+1,none⟩=some (.int .i64 X.classes):=by
 obtain⟨τ,L,vM,vF,Q,h,_⟩:=h;refine⟨h.vb.1.cell 0,?_,?_⟩
 ·rw[h.bx.c0,hp]
 ·rw[h.bx.c1,hc]
theorem StB.below{τ0:Own}{w0 w w':World}{o b bB bMv bFr bD bO bM:Nat}{X:Bx}{route:Nat→Fm→Option Nat}{s:Bx×List Mv}(h:StB τ0 w0 o b bB bMv bFr bD bO bM X route s w)(k:Below w.heap.size w w'):StB τ0 w0 o b bB bMv bFr bD bO bM X route s w':=by obtain⟨τ,L,vM,vF,Q,h,hq,hm,ht⟩:=h;exact⟨_,L,vM,vF,Q,h.below k,hq,hm.below k hm.lt,by rw[fr_old hm.lt];exact ht⟩
theorem bxC_ptr(X:Bx)(L:BxL){j c:Nat}(hj:j<8)(hl:X.ptr.length=8):(bxC X L).setIfInBounds (26+j) (.int .i64 c)=bxC {X with ptr:=X.ptr.set j c} L:=
 range_arr_set 36 _ _ _ _ fun i hi=>by
  by_cases e:i=26+j
  ·subst e;rw[if_pos rfl];unfold bxV;rw[if_neg (by omega),if_neg (by omega),if_neg (by omega),if_neg (by omega),if_neg (by omega),if_pos (by omega),show 26+j-26=j by omega,getD_set_at _ _ _ (by omega)]
  ·rw[if_neg e];unfold bxV;by_cases e2:26≤i∧i<34
   ·rw[if_neg (by omega),if_neg (by omega),if_neg (by omega),if_neg (by omega),if_neg (by omega),if_pos (by omega),if_neg (by omega),if_neg (by omega),if_neg (by omega),if_neg (by omega),if_neg (by omega),if_pos (by omega),getD_set_far _ _ _ (by omega)]
   ·repeat(first|(split;rfl)|rfl|split)
    all_goals first|rfl|omega
theorem StB.cells{τ0:Own}{w0 w:World}{o b bB bMv bFr bD bO bM N:Nat}{X:Bx}{route:Nat→Fm→Option Nat}{j:Nat}(h:StB τ0 w0 o b bB bMv bFr bD bO bM X route (movesAt X route j) w)(hb:BxOk X N)(hj:j≤X.ports):w.cell? ⟨bB,0,none⟩=some (.pointer (some ⟨b,0,none⟩))∧w.cell? ⟨b,0+1,none⟩=some (.int .i64 X.classes)∧(∀i,i<X.ports→w.cell? ⟨b,26+i,none⟩=some (.int .i64 ((movesAt X route j).1.ptr.getD i 0:Nat)))∧∀i,i<X.ports→w.cell? ⟨bM,i,none⟩=some (.int .i64 (optI ((matN X route).1.getD i none))):=by have ok:=movesAt_ok (route:=route) hb hj;have ml:=matN_len (route:=route) hb;have p1:=hb.p1;obtain⟨τ,L,vM,vF,Q,h,_,hm,_⟩:=h;refine⟨h.vb.1.cell 0,by rw[h.bx.c1,ok.2.2.1],fun i hi=>h.bx.cp (by omega),fun i hi=>?_⟩;rw[hm.cell,arr_at optV none _ (by rw[ml];exact hi),optV_int]
theorem StA.dcells{τ0:Own}{w0 w:World}{o b bB bMv bFr bD bO:Nat}{X:Bx}{route:Nat→Fm→Option Nat}{s:Bx×List Mv}(h:StA τ0 w0 o b bB bMv bFr bD bO X route s w){p c:Nat}(hp:p<X.ports)(hc:c<X.classes)(h8:X.ports≤8):∃g cap,w.cell? ⟨bD,p,none⟩=some (.slice (some ⟨g,0,none⟩) X.classes cap)∧w.cell? ⟨g,c,none⟩=some (.int .i64 (dropN X route p c:Nat)):=by obtain⟨τ,L,vM,vF,Q,h,_⟩:=h;exact h.dd.cells hp hc h8
def RelS1(τ0:Own)(w0:World)(o b bB bMv bFr bD bO:Nat)(X:Bx)(route:Nat→Fm→Option Nat)(i:Value)(wr:World):Prop:=
 ∃p:Nat,p≤X.ports∧i=.int .i64 p∧StA τ0 w0 o b bB bMv bFr bD bO X route (dropsAt X route p 0) wr
def RelS2(τ0:Own)(w0:World)(o b bB bMv bFr bD bO p:Nat)(X:Bx)(route:Nat→Fm→Option Nat)(i:Value)(wr:World):Prop:=
 ∃c:Nat,c≤X.classes∧i=.int .i64 c∧StA τ0 w0 o b bB bMv bFr bD bO X route (dropsAt X route p c) wr
def RelS3(τ0:Own)(w0:World)(o b bB bMv bFr bD bO p c:Nat)(X:Bx)(route:Nat→Fm→Option Nat)(i:Value)(wr:World):Prop:=
 ∃j:Nat,j≤dropN X route p c∧i=.int .i64 j∧StA τ0 w0 o b bB bMv bFr bD bO X route (dropsJ X route p c j) wr
theorem arr8_lit(A:Nat→Option Addr)(Nn C:Nat→Nat):arr8 (fun i=>.slice (A i) (Nn i) (C i))=#[.slice (A 0) (Nn 0) (C 0),.slice (A 1) (Nn 1) (C 1),.slice (A 2) (Nn 2) (C 2),.slice (A 3) (Nn 3) (C 3),.slice (A 4) (Nn 4) (C 4),.slice (A 5) (Nn 5) (C 5),.slice (A 6) (Nn 6) (C 6),.slice (A 7) (Nn 7) (C 7)]:=by simp[arr8,List.range_succ]
theorem bstep_any(N:Nat)(route:Nat→Fm→Option Nat)(c1 c2:Nat)(τ:Own)(o:Nat)(w:World)(b:Nat)(X:Bx)(L:BxL)(h:BxM τ o w b X L)(ho:2≤o)(hx:BxOk X N)(hN:N≤999999999000)(hR:∀(p:Nat) (x:Fm) (v:Value) (w':World),Below w.heap.size w w'→p<X.ports→(∃c,c<X.classes∧x∈get2 X.q p c)→(∃a n cap,v=.slice a n cap)→Calls Tryz.prog 98 #[.int .i64 p,fmV x v,pt c1,pt c2] w' fun e w''=>e=.returned (.int .i64 (optI (route p x)))∧Below w'.heap.size w' w''):Calls Tryz.prog 99 #[pt b,.func (.func 98) #[] #[pt c1,pt c2]] w (StepPost τ o w b X route):=by
 obtain⟨w1,hw1⟩:∃w1:World,((w.alloc (.cells #[pt b] 101)).alloc (.cells #[.slice none 0 0] 185)).alloc (.cells #[.slice none 0 0] 110)=w1:=⟨_,rfl⟩;have BW:Hid (Below w.heap.size w w1):=by rw[←hw1];exact(((Below.refl _ _).alloc (Nat.le_refl _) _).alloc (by simp) _).alloc (by simp;omega) _
 have S1:Hid (w1.heap.size=w.heap.size+3):=by rw[←hw1,Hid];simp
 have V1:Hid (Blk w1 w.heap.size 101 #[pt b]):=by rw[←hw1];exact((Blk.new w _ _).alloc _).alloc _
 have V2:Hid (Blk w1 (w.heap.size+1) 185 #[.slice none 0 0]):=by rw[←hw1];have:=Blk.new (w.alloc (.cells #[pt b] 101)) 185 #[.slice none 0 0];exact(by simpa using this:Blk _ (w.heap.size+1) _ _).alloc _
 have V3:Hid (Blk w1 (w.heap.size+1+1) 110 #[.slice none 0 0]):=by rw[←hw1];have:=Blk.new ((w.alloc (.cells #[pt b] 101)).alloc (.cells #[.slice none 0 0] 185)) 110 #[.slice none 0 0];rw[Hid];simpa using this
 have H1:Hid (BxM τ o w1 b X L):=h.below BW.out;have LK:=Lib.hid (blook_any N route c1 c2 τ o w1 b X L H1.out hx (fun p x v w' hb=>hR p x v w' (BW.out.trans (hb.mono BW.out.size))));have HM:=Lib.hid h;have HX:=Lib.hid hx;have c0:w1.cell? ⟨w.heap.size,0,none⟩=some (.pointer (some ⟨b,0,none⟩)):=V1.out.cell 0;have HW:=Lib.hid hw1;clear h hx hR hw1;unfold pt at *;have hmf:∀(fn:Fn) (first cap:Array Value) (w:World),(Instr.makeFunc fn first cap).run Tryz.prog w=.ok (.func fn first cap) w:=fun _ _ _ _=>rfl;have hnf:=func_not_nil c1 c2
 go_enter_defers Tryz.func99,Tryz.ntmps99
 go_wp2_with fail
 rw[HW.out];refine LK.out.mono ?_;rintro e wl ⟨V,U,rfl,rows,bel⟩;obtain⟨A,Nn,C,hA⟩:=rowsTo_slices V X.ports (fun q hq=>own_form (rows q hq).d);obtain⟨A',Nn',C',hA'⟩:=rowsTo_slices U X.ports (fun q hq=>own_form (rows q hq).o);rw[hA,hA',arr8_lit,arr8_lit];have HA:=Lib.hid hA;have HA':=Lib.hid hA';have ROWS:=Lib.hid rows;have BEL:=Lib.hid bel;clear hA hA' rows bel c0;have c0:wl.cell? ⟨w.heap.size,0,none⟩=some (.pointer (some ⟨b,0,none⟩)):=(BEL.out.cell (p:=⟨w.heap.size,0,none⟩) V1.out.lt).trans (V1.out.cell 0);have c1z:=(H1.out.below BEL.out).c0;have SL:w.heap.size+2<wl.heap.size:=by have h1:=BEL.out.size;have h2:=S1.out;omega
 have LTB:=World.block_lt_of_cell? _ _ c1z;simp only at LTB;have n1:w.heap.size<wl.heap.size:=by omega
 have n2:w.heap.size<wl.heap.size+1:=by omega
 have n3:b<wl.heap.size+1:=by omega
 have n4:¬w.heap.size=wl.heap.size:=by omega
 have n5:¬w.heap.size=wl.heap.size+1:=by omega
 have n6:¬b=wl.heap.size:=by omega
 have n7:¬b=wl.heap.size+1:=by omega
 obtain⟨w6,hw6⟩:∃w6:World,(wl.alloc (.cells (arr8 (rowsTo V X.ports (.slice none 0 0))) 231)).alloc (.cells (arr8 (rowsTo U X.ports (.slice none 0 0))) 231)=w6:=⟨_,rfl⟩;have HW6:=Lib.hid hw6;have ST:Hid (StA τ w o b w.heap.size (w.heap.size+1) (w.heap.size+1+1) wl.heap.size (wl.heap.size+1) X route (dropsAt X route 0 0) w6):=by
  have b6:Below wl.heap.size wl w6:=by rw[←hw6];exact((Below.refl _ _).alloc (Nat.le_refl _) _).alloc (by simp) _
  have s6:w6.heap.size=wl.heap.size+2:=by rw[←hw6];simp
  have bw6:Below w.heap.size w w6:=(BW.out.trans (BEL.out.mono BW.out.size)).trans (b6.mono (by omega));have hc:Ch (fun _=>False) w w6:=Ch.of_below bw6;have he:∀k,k<w.heap.size→fr τ w.heap.size k=τ k:=fun k hk=>fr_old hk;have hf:∀k,w.heap.size≤k→(fr τ w.heap.size k).1=0:=fun k hk=>by rw[fr_new hk]
  have bD:Blk w6 wl.heap.size 231 (arr8 (rowsTo V X.ports (.slice none 0 0))):=by rw[←hw6];exact(Blk.new wl _ _).alloc _
  have bO:Blk w6 (wl.heap.size+1) 231 (arr8 (rowsTo U X.ports (.slice none 0 0))):=by rw[←hw6];have:=Blk.new (wl.alloc (.cells (arr8 (rowsTo V X.ports (.slice none 0 0))) 231)) 231 (arr8 (rowsTo U X.ports (.slice none 0 0)));simpa using this
  have bl1:∀{g t cs},g<w1.heap.size→Blk w1 g t cs→Blk w6 g t cs:=fun hg hb=>(hb.below BEL.out hg).below b6 (by have:=BEL.out.size;omega);refine⟨fr τ w.heap.size,L,.slice none 0 0,.slice none 0 0,[],⟨HM.out.chE hc he (fun _ s=>s.elim),Nx.of_below bw6,⟨bl1 (by have:=S1.out;omega) V1.out,hf _ (Nat.le_refl _)⟩,⟨bl1 (by have:=S1.out;omega) V2.out,hf _ (by omega),by omega⟩,⟨bl1 (by have:=S1.out;omega) V3.out,hf _ (by omega),by omega⟩,
   ⟨World.ownsRow_nil _ _ _ _,by simp[Value.ownBlock]⟩,⟨World.ownsRow_nil _ _ _ _,by simp[Value.ownBlock]⟩,by simp,?_,?_⟩,rfl⟩
  ·refine OutM.of_rows (B:=w1.heap.size) (w:=wl) bD (hf _ (by omega)) HX.out.c0 (fun k h1 _=>hf k (by have:=S1.out;omega)) (fun p hp=>⟨(rowD X route p X.classes).flatMap cI,?_,fun c hc'=>?_⟩) b6
   ·have:=(ROWS.out p hp).d;rw[show(rowD X route p X.classes).length=X.classes by simp[rowD]]at this;unfold rowsTo;rw[if_pos hp];exact this
   ·unfold rowD;rw[cI_flat,List.getElem?_map,List.getElem?_map,List.getElem?_range hc'];rfl
  ·refine OutM.of_rows (B:=w1.heap.size) (w:=wl) bO (hf _ (by omega)) HX.out.c0 (fun k h1 _=>hf k (by have:=S1.out;omega)) (fun p hp=>⟨(rowO X route p X.classes).flatMap cI,?_,fun c hc'=>?_⟩) b6
   ·have:=(ROWS.out p hp).o;rw[show(rowO X route p X.classes).length=X.classes by simp[rowO]]at this;unfold rowsTo;rw[if_pos hp];exact this
   ·unfold rowO;rw[cI_flat,List.getElem?_map,List.getElem?_map,List.getElem?_range hc'];rfl
 clear hw6
 go_wp2_with fail
 rw[←arr8_lit A Nn C,←arr8_lit A' Nn' C',←HA.out,←HA'.out,HW6.out];clear c0 c1z SL LTB n1 n2 n3 n4 n5 n6 n7 HA HA' ROWS V1 V2 V3 H1 LK HW HW6 BEL S1 BW;obtain⟨bB,hbB⟩:∃x,w.heap.size=x:=⟨_,rfl⟩;obtain⟨bMv,hbMv⟩:∃x,w.heap.size+1=x:=⟨_,rfl⟩;obtain⟨bFr,hbFr⟩:∃x,w.heap.size+1+1=x:=⟨_,rfl⟩;have NE:Hid (bB≠bMv∧bB≠bFr):=by rw[Hid];omega
 rw[hbFr,hbMv,hbB]at ST;rw[hbFr,hbMv,hbB];have HbB:=Lib.hid hbB;clear hbB hbMv hbFr;generalize wl.heap.size=bD at *;generalize bD+1=bO at *;have p1:=HX.out.p1;have xc1:=HX.out.c1
 go_loopw [8,9,34,41,50] (fun _ _ i _ _ wr=>RelS1 τ w o b bB bMv bFr bD bO X route i wr) (fun _ _ i _ _ _=>X.ports-(RowKit.intOf i).toNat)
 case atStart=>exact⟨0,Nat.zero_le _,rfl,ST.out⟩
 case round=>
  obtain⟨p,hp,rfl,hst⟩:=hrel;have HST:=Lib.hid hst;clear hst;by_cases hpn:p<X.ports
  ·have DO:=Lib.hid (dropsJ_ok (route:=route) (p:=p) (c:=0) (j:=0) HX.out hpn HX.out.c0 (Nat.zero_le _));obtain⟨c0,c1,c2⟩:=HST.out.cells DO.out.2.1 DO.out.2.2.1;clear c1
   go_wp2_with fail
   clear c0 c2;obtain⟨wo,rfl⟩:∃wo:World,wo=wr:=⟨_,rfl⟩
   go_loopw [9,41,50] (fun _ i _ wr=>RelS2 τ w o b bB bMv bFr bD bO p X route i wr) (fun _ i _ _=>X.classes-(RowKit.intOf i).toNat)
   case atStart=>exact⟨0,Nat.zero_le _,rfl,HST.out⟩
   case round=>
    obtain⟨c,hc,rfl,hst⟩:=hrel;have HS2:=Lib.hid hst;clear hst;by_cases hcn:c<X.classes
    ·obtain⟨g,cap,z1,z2⟩:=HS2.out.dcells hpn hcn p1;have p0':(0:Int)≤(p:Int):=by omega
     have p8':(p:Int)<8:=(by omega);have c0':(0:Int)≤(c:Int):=(by omega);have c8':(c:Int)<(X.classes:Int):=(by omega);have DN8:dropN X route p c≤64:=by have h1:=(dropsJ_ok (route:=route) (p:=p) (c:=c) (j:=0) HX.out hpn hcn (Nat.zero_le _)).2.2.2.2.2;have:=HX.out.qlen hpn hcn;omega
     go_wp2_with fail
     clear z1 z2;obtain⟨wp,rfl⟩:∃wp:World,wp=wr:=⟨_,rfl⟩
     go_loopw [50] (fun i wr=>RelS3 τ w o b bB bMv bFr bD bO p c X route i wr) (fun i _=>dropN X route p c-(RowKit.intOf i).toNat)
     case atStart=>exact⟨0,Nat.zero_le _,rfl,HS2.out⟩
     case round=>
      obtain⟨j,hj,rfl,hst⟩:=hrel;have HS3:=Lib.hid hst;clear hst;by_cases hjn:j<dropN X route p c
      ·
       obtain⟨τj,Lj,vM,vF,Q,hS,hq⟩:=HS3.out;have DO:=dropsJ_ok (route:=route) (p:=p) (c:=c) (j:=j) HX.out hpn hcn hj;obtain⟨f,rest,hfr⟩:∃f rest,get2 (dropsJ X route p c j).1.q p c=f::rest:=by
        cases e:get2 (dropsJ X route p c j).1.q p c with
        |nil=>have h1:=DO.2.2.2.1;rw[e]at h1;have h2:=congrArg List.length h1;simp at h2;have:=DO.2.2.2.2.2;omega
        |cons f rest=>exact⟨f,rest,rfl⟩
       have SUC:Hid (dropsJ X route p c (j+1)=((dropsJ X route p c j).1.pop p c,(dropsJ X route p c j).2++[(p,c,none,f)])):=(by rw[Hid,dropsJ_succ,hfr];rfl);generalize dropsJ X route p c j=s at *;obtain⟨B,mm⟩:=s;simp only at hS DO hfr SUC hq;have ML:mm.length≤4096:=DO.2.2.2.2.1;have QL:Q.length=mm.length:=(by have:=congrArg List.length hq;simpa using this);have BOK:=Lib.hid DO.1;have BP:=Lib.hid DO.2.1;have BC:=Lib.hid DO.2.2.1;have HS:=Lib.hid hS;have HQ:=Lib.hid hq;have HFR:=Lib.hid hfr;have HQL:=Lib.hid QL;have cM0:=hS.vm.1.cell 0;have cF0:=hS.vf.1.cell 0;have cB0:=hS.vb.1.cell 0;have WSZ:Hid (w.heap.size≤wr.heap.size):=hS.nx.ch.size;obtain⟨aM,nM,kM,eM⟩:=own_form hS.om.1;obtain⟨aF,nF,kF,eF⟩:=own_form hS.of'.1;have nMe:nM=mm.length:=(by obtain⟨a,cap,e,_⟩:=rec_of_own (d:=((0,0,none,default):Mv)) cM_length (by decide) hS.om.1;rw[eM]at e;injection e);have nFe:nF=Q.length:=(by obtain⟨a,cap,e,_⟩:=rec_of_own (d:=fq0) cF_length (by decide) hS.of'.1;rw[eF]at e;injection e);subst eM eF nMe nFe;simp only[List.getElem?_toArray,List.getElem?_cons_zero]at cM0 cF0 cB0;have OWM:Hid ((wr.alloc (.cells #[.int .i64 p,.int .i64 c,.int .i64 (-1)] 189)).ownsRow w.heap.size 189 3 (.slice aM mm.length kM) mm.length (mm.flatMap cM)):=hS.om.1.alloc _;have LT:bMv<wr.heap.size:=hS.vm.1.lt;obtain⟨i0,hi0,hz0,hz1,hz2⟩:=info_parts infoMove;clear hS DO hfr hq QL cF0 cB0
       go_wp2_with (first
        |(at_builtin;refine wpList_append_any _ rfl (.tmp 52) (.tmp 56) 185 rfl w.heap.size 189 i0 _ 3 24 Tryz.underlying185 hi0 hz0 hz1 hz2 rfl (by decide) _ _ _ rfl OWM.out _ (some ⟨wr.heap.size,0,none⟩) 1 1 [.int .i64 p,.int .i64 c,.int .i64 (-1)] rfl (reads_newN wr _ [.int .i64 p,.int .i64 c,.int .i64 (-1)] (n:=1) (size:=3) rfl) ?c3 ?c4 ?c5 ?c6 ?_))
       case c3=>intro u hu;simp only[List.mem_cons,List.not_mem_nil,or_false]at hu;rcases hu with rfl|rfl|rfl<;>rfl
       case c4=>unfold maxLen;omega
       case c5=>omega
       case c6=>have:=WSZ.out;simp;omega
       intro v1 w2 own1 gr1 loc1;obtain⟨hbm,hS1,_⟩:=HS.out.pushM (mv:=(p,c,none,f)) ho WSZ.out NE.out.1 own1 gr1 (by simpa using loc1);obtain⟨aM1,nM1,kM1,rfl⟩:=own_form own1;have cm1:=hbm.cell 0;have fm1:=hbm.frozen 0;simp only[List.getElem?_toArray,List.getElem?_cons_zero]at cm1;have HS1:=Lib.hid hS1.drew;have WSZ1:Hid (w.heap.size≤(w2.setCell ⟨bMv,0,none⟩ (.slice aM1 nM1 kM1)).heap.size):=hS1.nx.ch.size;have PP:=Lib.hid (bpop_any p c N f _ o _ b B Lj hS1.bx.drew ho BOK.out (by omega) (by rw[BP.out];exact hpn) (by rw[BC.out];exact hcn) HFR.out);have KS:Hid ((w2.setCell ⟨bMv,0,none⟩ (.slice aM1 nM1 kM1)).drew.cell? ⟨bFr,0,none⟩=some (.slice aF Q.length kF)∧(w2.setCell ⟨bMv,0,none⟩ (.slice aM1 nM1 kM1)).drew.cell? ⟨bB,0,none⟩=some (.pointer (some ⟨b,0,none⟩))):=⟨hS1.vf.1.cell 0,hS1.vb.1.cell 0⟩;clear own1 gr1 loc1 hbm hS1 OWM LT
       go_wp2_with fail
       clear cm1 fm1 cM0;generalize hw3:w2.setCell ⟨bMv,0,none⟩ (.slice aM1 nM1 kM1)=w3 at *;clear hw3;refine wp_region_noPanic ?_;refine wp_region_L 7 (fun w'=>w'.cell? ⟨bFr,0,none⟩=some (.slice aF Q.length kF)∧w'.cell? ⟨bB,0,none⟩=some (.pointer (some ⟨b,0,none⟩))) (by kernel_rfl) KS.out (fun hHeld=>?_);refine AnyL.tk 0 hHeld ?_
       try simp only[puts]
       refine AnyL.tk 1 hHeld ?_
       try simp only[puts]
       refine AnyL.tk 2 hHeld ?_
       try simp only[puts]
       refine AnyL.tk 3 hHeld ?_
       try simp only[puts]
       refine AnyL.one (i:=4) (by kernel_rfl) rfl (fun K hK=>?_);go_simp;refine PP.out.mono ?_;rintro e wq ⟨v,rfl,hdat,τq,Lq,hbx,hnx⟩;have HSQ:=Lib.hid (HS1.out.post ho hbx hnx);have DAT:=Lib.hid (hdat.nx hnx ho);obtain⟨da,dc,rfl,_⟩:=hdat;have KQ:Hid (wq.cell? ⟨bFr,0,none⟩=some (.slice aF Q.length kF)∧wq.cell? ⟨bB,0,none⟩=some (.pointer (some ⟨b,0,none⟩))):=⟨HSQ.out.vf.1.cell 0,HSQ.out.vb.1.cell 0⟩;clear hbx hnx;refine hK.out _ _ (fun _=>KQ.out) (fun hHeld0=>?_);have hHeld:=hHeld0 (by decide);clear hK hHeld0
       try simp only[puts]
       try simp only[fmV]
       refine AnyL.one (i:=5) (by kernel_rfl) rfl (fun K hK=>?_);go_simp;have KA:Hid ((wq.alloc (.cells #[.int .i64 f.id,.int .i64 f.frm,.int .i64 f.to',.int .i64 f.cls,.int .i64 f.ep,.slice da f.data.length dc] 59)).cell? ⟨bFr,0,none⟩=some (.slice aF Q.length kF)∧(wq.alloc (.cells #[.int .i64 f.id,.int .i64 f.frm,.int .i64 f.to',.int .i64 f.cls,.int .i64 f.ep,.slice da f.data.length dc] 59)).cell? ⟨bB,0,none⟩=some (.pointer (some ⟨b,0,none⟩))):=⟨(HSQ.out.vf.1.alloc _).cell 0,(HSQ.out.vb.1.alloc _).cell 0⟩;refine hK.out _ _ (fun _=>KA.out) (fun hHeld0=>?_);have hHeld:=hHeld0 (by decide);clear hK hHeld0
       try simp only[puts]
       have OQ:Hid ((wq.alloc (.cells #[.int .i64 f.id,.int .i64 f.frm,.int .i64 f.to',.int .i64 f.cls,.int .i64 f.ep,.slice da f.data.length dc] 59)).ownsRow w.heap.size 59 6 (.slice aF Q.length kF) Q.length (Q.flatMap cFm)):=HSQ.out.of'.1.alloc _;obtain⟨j0,hj0,hy0,hy1,hy2⟩:=info_parts infoFrame;have WSQ:Hid (w.heap.size≤wq.heap.size):=HSQ.out.nx.ch.size;have RN:Hid (Reads (wq.alloc (.cells #[.int .i64 f.id,.int .i64 f.frm,.int .i64 f.to',.int .i64 f.cls,.int .i64 f.ep,.slice da f.data.length dc] 59)) (wq.heap.size+1) 6 (some ⟨wq.heap.size,0,none⟩) 1 [.int .i64 f.id,.int .i64 f.frm,.int .i64 f.to',.int .i64 f.cls,.int .i64 f.ep,.slice da f.data.length dc]):=reads_newN wq 59 [.int .i64 f.id,.int .i64 f.frm,.int .i64 f.to',.int .i64 f.cls,.int .i64 f.ep,.slice da f.data.length dc] (n:=1) (size:=6) rfl;refine AnyL.one (i:=6) (by kernel_rfl) rfl (fun K hK=>?_);refine step_append_any _ (by rfl) (.tmp 58) (.tmp 63) 110 (by rfl) w.heap.size 59 j0 _ 6 64 Tryz.underlying110 hj0 hy0 hy1 hy2 rfl (by decide) _ _ _ (by rfl) OQ.out _ (some ⟨wq.heap.size,0,none⟩) 1 1 [.int .i64 f.id,.int .i64 f.frm,.int .i64 f.to',.int .i64 f.cls,.int .i64 f.ep,.slice da f.data.length dc] (by rfl) RN.out ?_ ?_ ?_ ?_ ?_
       ·intro u hu;simp only[List.mem_cons,List.not_mem_nil,or_false]at hu;rcases hu with rfl|rfl|rfl|rfl|rfl|rfl<;>rfl
       ·have:=HQL.out;unfold maxLen;omega
       ·have:=HQL.out;omega
       ·have:=WSQ.out;simp;omega
       intro v5 w5 own5 gr5 loc5;obtain⟨hbf,hS5,_⟩:=HSQ.out.pushF (x:=f) (v:=.slice da f.data.length dc) ho WSQ.out NE.out.2 DAT.out own5 gr5 (by simpa using loc5);obtain⟨aF5,nF5,kF5,rfl⟩:=own_form own5;have KZ:Hid (w5.cell? ⟨bFr,0,none⟩=some (.slice aF Q.length kF)∧w5.cell? ⟨bB,0,none⟩=some (.pointer (some ⟨b,0,none⟩))):=⟨hbf.cell 0,by have h1:=((HSQ.out.vb.1.alloc (.cells #[.int .i64 f.id,.int .i64 f.frm,.int .i64 f.to',.int .i64 f.cls,.int .i64 f.ep,.slice da f.data.length dc] 59)).grown gr5 fun e=>by obtain⟨cs,hb⟩:=own_blk HSQ.out.of'.1 _ e.symm;exact Blk.ne_ HSQ.out.vb.1 hb (by decide) rfl);exact h1.cell 0⟩;have HS5:=Lib.hid hS5;have cf5:=hbf.cell 0;have ff5:=hbf.frozen 0;simp only[List.getElem?_toArray,List.getElem?_cons_zero]at cf5;clear own5 gr5 loc5 hbf hS5;refine hK.out _ _ (fun _=>KZ.out) (fun hHeld0=>?_);have hHeld:=hHeld0 (by decide);clear hK hHeld0
       try simp only[puts]
       refine AnyL.one (i:=7) (by kernel_rfl) rfl (fun K hK=>?_);go_simp;refine hK.out _ _ (fun h=>absurd rfl h) (fun _=>?_);clear hK;refine AnyL.done (by kernel_rfl) ?_ _
       try simp only[puts]
       refine NoPanic.normal ?_;have FIN:Hid (RelS3 τ w o b bB bMv bFr bD bO p c X route (.int .i64 ((j+1:Nat):Int)) (w5.setCell ⟨bFr,0,none⟩ (.slice aF5 nF5 kF5))):=⟨j+1,by omega,rfl,by rw[SUC.out];exact⟨_,_,_,_,_,HS5.out,by simp[HQ.out]⟩⟩;clear cf5 ff5
       go_wp2_with fail
       exact⟨by simpa using FIN.out,by simp[RowKit.intOf];omega⟩
      ·obtain rfl:dropN X route p c=j:=by omega
       have FIN:Hid (RelS2 τ w o b bB bMv bFr bD bO p X route (.int .i64 ((c+1:Nat):Int)) wr):=⟨c+1,by omega,rfl,by rw[←dropsJ_all];exact HS3.out⟩
       go_wp2_with fail
       exact⟨by simpa using FIN.out,by simp[RowKit.intOf];omega⟩
    ·obtain rfl:X.classes=c:=by omega
     have FIN:Hid (RelS1 τ w o b bB bMv bFr bD bO X route (.int .i64 ((p+1:Nat):Int)) wr):=⟨p+1,by omega,rfl,by rw[dropsAt_p];exact HS2.out⟩
     go_wp2_with fail
     exact⟨by simpa using FIN.out,by simp[RowKit.intOf];omega⟩
  ·obtain rfl:X.ports=p:=by omega
   obtain⟨τe,Le,vM,vF,Q,hS,hq⟩:=HST.out;have DE:=dropsEnd_ok (route:=route) HX.out;have MO:=Lib.hid (matN_ok (route:=route) HX.out);have ML:=Lib.hid (matN_len (route:=route) HX.out);have RQ:Hid (reqB (outN X route) (dropsEnd X route).1=reqN X route):=(by rw[Hid];unfold reqB reqN;rw[DE.2.2.1]);have MT:Hid ((matTo X.ports (reqN X route) (dropsEnd X route).1.bar X.ports).mt=(matN X route).1∧(matTo X.ports (reqN X route) (dropsEnd X route).1.bar X.ports).bar=(matN X route).2):=⟨rfl,rfl⟩;have M0:Hid (movesAt X route 0=({(dropsEnd X route).1 with bar:=(matN X route).2},(dropsEnd X route).2)):=rfl;have ES:Hid (dropsAt X route X.ports 0=dropsEnd X route):=rfl;rw[ES.out]at hS hq;generalize dropsEnd X route=E at *;obtain⟨E,mm⟩:=E;simp only at hS hq DE RQ MT M0;have EP:=DE.2.1;have EC:=DE.2.2.1;have RC:Hid (∀w',Below wr.heap.size wr w'→Calls Tryz.prog 131 #[.pointer (some ⟨b,0,none⟩),.func (.func 128) #[] #[.pointer (some ⟨bO,0,none⟩),.pointer (some ⟨bB,0,none⟩)]] w' (ReqPost X.ports (reqN X route) w')):=fun w' hb=>(by have h1:=hS.below hb;have h2:=brequests_any N (outN X route) bO bB _ o w' b E Le h1.bx DE.1 (by omega) (by rw[EP,EC];exact h1.oo) (h1.vb.1.cell 0);rw[EP,RQ.out]at h2;exact h2);have HSe:=Lib.hid hS;have HQ:=Lib.hid hq;have EOK:=Lib.hid DE.1;have HEP:=Lib.hid EP;have HEC:=Lib.hid EC;have KC:Hid (∀w',Below wr.heap.size wr w'→w'.cell? ⟨bB,0,none⟩=some (.pointer (some ⟨b,0,none⟩))∧w'.cell? ⟨b,34,none⟩=some (.pointer (some ⟨Le.bb,0,none⟩))∧w'.cell? ⟨b,0,none⟩=some (.int .i64 X.ports)∧Blk w' Le.bb 201 (((barL E.bar X.ports).map cNt).toArray)):=fun w' hb=>(by have h1:=HSe.out.below hb;exact⟨h1.vb.1.cell 0,h1.bx.cb,by rw[h1.bx.c0,HEP.out],by have:=h1.bx.bar.1;rw[HEP.out]at this;exact this⟩);have KM:Hid (∀wq wm,Below wr.heap.size wr wq→Ch (· =Le.bb) wq wm→wm.cell? ⟨bB,0,none⟩=some (.pointer (some ⟨b,0,none⟩))∧wm.cell? ⟨b,34,none⟩=some (.pointer (some ⟨Le.bb,0,none⟩))∧wm.cell? ⟨b,0,none⟩=some (.int .i64 X.ports)):=fun wq wm hb hc=>(by have h1:=HSe.out.below hb;obtain⟨k1,k2,k3,_⟩:=KC.out wq hb;have n1:¬bB=Le.bb:=fun e=>(by have q1:=h1.vb.2;have q2:=h1.bx.bar.2;rw[e,q2]at q1;simp at q1;omega);have n2:¬b=Le.bb:=fun e=>(by have q1:=h1.bx.root.2;have q2:=h1.bx.bar.2;rw[←e,q1]at q2;simp at q2);exact⟨(hc.cell (p:=⟨bB,0,none⟩) h1.vb.1.lt n1).trans k1,(hc.cell (p:=⟨b,34,none⟩) h1.bx.root.1.lt n2).trans k2,(hc.cell (p:=⟨b,0,none⟩) h1.bx.root.1.lt n2).trans k3⟩);have FINM:Hid (∀wq wm bM bT,Below wr.heap.size wr wq→Ch (· =Le.bb) wq wm→wr.heap.size≤bM→bM<wq.heap.size∨wq.heap.size≤bM→MatM wm Le.bb bM bT X.ports (matTo X.ports (reqN X route) E.bar X.ports)→StB τ w o b bB bMv bFr bD bO bM X route (movesAt X route 0) wm):=fun wq wm bM bT hb hc hl _ hM=>by
    have h1:=HSe.out.below hb;have h2:=h1.bx.bar.2;have nx:Nx (fr τe wr.heap.size) o wq (fr (fr τe wr.heap.size) wq.heap.size) wm:=Nx.of_ch hc fun k e=>(by rw[e,h2]);have h3:=h1.bx.toFr.setBar ho (B:=(matN X route).2) hc (by have:=hM.bar;rw[MT.out.2]at this;rw[HEP.out];exact this);refine⟨_,_,_,_,_,by rw[M0.out];exact h1.post ho h3 nx,by rw[M0.out];exact HQ.out,by have:=hM.mt;rw[MT.out.1]at this;exact this,?_⟩;by_cases e:bM<wq.heap.size
    ·rw[fr_old e,fr_new hl]
    ·rw[fr_new (by omega)]
   have BO2:Hid (BarOk E.bar X.ports):=(by rw[←HEP.out];exact EOK.out.bar);clear hS hq DE EP EC
   go_wp2_with fail
   go_region_held3 (fun w'=>w'.cell? ⟨bB,0,none⟩=some (.pointer (some ⟨b,0,none⟩))∧w'.cell? ⟨b,34,none⟩=some (.pointer (some ⟨Le.bb,0,none⟩))∧w'.cell? ⟨b,0,none⟩=some (.int .i64 X.ports))
    (first|exact⟨(KC.out _ ((Below.refl _ _).drew)).1,(KC.out _ ((Below.refl _ _).drew)).2.1,(KC.out _ ((Below.refl _ _).drew)).2.2.1⟩|exact⟨(KC.out _ BQ.out).1,(KC.out _ BQ.out).2.1,(KC.out _ BQ.out).2.2.1⟩|exact KM.out _ _ BQ.out CM.out)
    (first
     |(go_at_call 131;refine(RC.out _ (Below.refl _ _).drew).mono ?_;rintro e wq ⟨R,rfl,hR,bq,lR⟩;have HR:=Lib.hid hR;have BQ:Hid (Below wr.heap.size wr wq):=(show Below wr.heap.size wr wq from⟨bq.os,bq.tape,bq.output,bq.size,bq.block⟩);clear hR bq lR)
     |(go_at_call 130;refine(bmatch_any X.ports X.ports (some ⟨R,0,none⟩) (reqN X route) E.bar Le.bb wq HR.out (KC.out _ BQ.out).2.2.2 BO2.out).mono ?_;rintro e wm ⟨bM,bT,rfl,lM,hM,cm⟩;have HMM:=Lib.hid hM;have CM:=Lib.hid cm;have LM:=Lib.hid lM;clear hM cm lM))
   have STB:=Lib.hid (FINM.out wq wm bM bT BQ.out CM.out (Nat.le_trans BQ.out.size LM.out) (by omega) HMM.out);clear FINM KM HMM CM LM BO2 HR BQ KC RC
   go_wp2_with fail
   clear HST HSe HQ EOK HEP HEC MO ML RQ MT M0 ES;obtain⟨wz,rfl⟩:∃wz:World,wz=wr:=⟨_,rfl⟩
   go_loopw [13,14,15,16,86,97] (fun _ _ _ _ i _ wr=>RelB1 τ w o b bB bMv bFr bD bO bM X route i wr) (fun _ _ _ _ i _ _=>X.ports-(RowKit.intOf i).toNat)
   case atStart=>exact⟨0,Nat.zero_le _,rfl,STB.out⟩
   case round=>
    obtain⟨j,hj,rfl,hst⟩:=hrel;have HB1:=Lib.hid hst;clear hst STB;by_cases hjn:j<X.ports
    ·obtain⟨c0,c1,c2,c3⟩:=HB1.out.cells HX.out hj;have cm:=c3 j hjn;have j0:(0:Int)≤(j:Int):=(by omega);have j8:(j:Int)<(X.ports:Int):=(by omega);have MS:=Lib.hid (movesAt_succ X route j);clear c2 c3;cases hk:(matN X route).1.getD j none with
     |none=>
      rw[hk,optI_none]at cm;have FIN:Hid (RelB1 τ w o b bB bMv bFr bD bO bM X route (.int .i64 ((j+1:Nat):Int)) wr):=⟨j+1,by omega,rfl,by rw[MS.out];unfold moveN;rw[hk];exact HB1.out⟩;clear hk c0 c1
      go_wp2_with fail
      exact⟨by simpa using FIN.out,by simp[RowKit.intOf];omega⟩
     |some k=>
      rw[hk,optI_some]at cm;have MK:Hid (movesAt X route (j+1)=moveI (outN X route) j k (movesAt X route j)):=by rw[Hid,MS.out];unfold moveN;rw[hk]
      have kn:k<X.ports:=((matN_ok (route:=route) HX.out).1.lt j k hk).2.1;clear hk MS;have kk0:(0:Int)≤(k:Int):=(by omega);have FINB:Hid (∀wx,StB τ w o b bB bMv bFr bD bO bM X route (movesAt X route (j+1)) wx→RelB1 τ w o b bB bMv bFr bD bO bM X route (.int .i64 ((j:Int)+1)) wx):=fun wx hx=>⟨j+1,by omega,by simp,hx⟩
      go_wp2_with fail
      clear c0 c1 cm;obtain⟨wy,rfl⟩:∃wy:World,wy=wr:=⟨_,rfl⟩
      go_loopw [15,16,97] (fun _ _ i wr=>RelB2 τ w o b bB bMv bFr bD bO bM j k X route i wr) (fun _ _ i _=>X.classes-(RowKit.intOf i).toNat)
      case atStart=>exact⟨0,Nat.zero_le _,rfl,HB1.out,fun m hm=>by omega⟩
      case round=>
       obtain⟨n,hn,rfl,hst,hno⟩:=hrel;have HB2:=Lib.hid hst;have HNO:=Lib.hid hno;clear hst hno;have MVO:=Lib.hid (movesAt_ok (route:=route) HX.out hj);by_cases hnn:n<X.classes
       ·obtain⟨c0,c1,c2,_⟩:=HB2.out.cells HX.out hj;have cp:=c2 j hjn;have PT:(movesAt X route j).1.ptr.getD j 0<8:=(by have h1:=MVO.out.1.pt j;rw[MVO.out.2.2.1]at h1;omega);clear c2;have HMKs:=Lib.hid MK.out;generalize hs:movesAt X route j=s at *;obtain⟨B,mm⟩:=s;simp only at cp PT;have MDc:Hid ((((B.ptr.getD j 0:Nat):Int)+(n:Int))%(X.classes:Int)=(((B.ptr.getD j 0+n)%X.classes:Nat):Int)):=(by rw[Hid];push_cast;rfl);have clt:(B.ptr.getD j 0+n)%X.classes<X.classes:=Nat.mod_lt _ (by omega);generalize hpj:B.ptr.getD j 0=pj at cp PT MDc clt;have Hpj:=Lib.hid hpj;have Hs:=Lib.hid hs;clear hpj hs MK;have nn8:(n:Int)<8:=(by omega);have q1:IntKind.i64.wrap ((pj:Int)+(n:Int))=(pj:Int)+(n:Int):=IntWalk.i64_in _ (by omega)
        go_wp2_with fail
        go_quiet (fail)
        clear q1
        go_wp2_with fail
        have SBn:Hid (StB τ w o b bB bMv bFr bD bO bM X route (B,mm) (wr.drewN nq)):=HB2.out.below (below_drewN (Below.refl _ _) nq);obtain⟨τB,LB,vM,vF,Q,hS,hq,hm,ht⟩:=SBn.out;have RDY:=Lib.hid (bready_any j k ((pj+n)%X.classes) (N+8) (outN X route) bO bB τB τB o (wr.drewN nq) b B LB hS.bx MVO.out.1 (by omega) (by rw[MVO.out.2.1];exact hjn) (by rw[MVO.out.2.1];exact kn) (by rw[MVO.out.2.2.1];exact clt) (by rw[MVO.out.2.1,MVO.out.2.2.1];exact hS.oo) (hS.vb.1.cell 0));clear hS hq hm ht c0 c1 cp;rw[MDc.out];have FC:Hid (readyB (outN X route) B j k ((pj+n)%X.classes)=true→firstC B.classes (B.ptr.getD j 0) (readyB (outN X route) B j k)=some ((pj+n)%X.classes)):=fun h=>(by rw[MVO.out.2.2.1,Hpj.out];exact find_range_some hnn h (fun m hm=>by have:=HNO.out m hm;rw[Hpj.out]at this;exact this));have NO2:Hid (readyB (outN X route) B j k ((pj+n)%X.classes)=false→∀m,m<n+1→readyB (outN X route) B j k ((B.ptr.getD j 0+m)%X.classes)=false):=fun h m hm=>by
         by_cases e:m=n
         ·subst e;rw[Hpj.out];exact h
         ·exact HNO.out m (by omega)
        generalize(pj+n)%X.classes=cl at *;clear HNO MDc;cases hr:readyB (outN X route) B j k cl with
        |false=>
         rw[hr]at RDY;have NO3:=Lib.hid (NO2.out hr);clear hr NO2 FC;refine RDY.out.mono ?_;rintro e wq ⟨rfl,bq⟩;have SBq:=Lib.hid (SBn.out.below bq);clear bq;have FIN:Hid (RelB2 τ w o b bB bMv bFr bD bO bM j k X route (.int .i64 ((n:Int)+1)) wq):=⟨n+1,by omega,by simp,by rw[Hs.out];exact SBq.out,by rw[Hs.out];exact NO3.out⟩
         go_wp2_with fail
         exact⟨FIN.out,by simp[RowKit.intOf];omega⟩
        |true=>
         rw[hr]at RDY;have FC2:=Lib.hid (FC.out hr);have RB:Hid (outN X route j cl=some k∧0<(get2 B.tk k cl).left):=by rw[Hid];unfold readyB at hr;simpa using hr
         clear hr NO2 FC;refine RDY.out.mono ?_;rintro e wq ⟨rfl,bq⟩;have SBq:=Lib.hid (SBn.out.below bq);clear bq RDY SBn HB2;obtain⟨τj,Lj,vM,vF,Q,hS,hq,hm,ht⟩:=SBq.out;simp only at hS hq;have DE:=dropsEnd_ok (route:=route) HX.out;obtain⟨f,rest,hfr0,hrf,_⟩:=DE.2.2.2.2 j cl k hjn clt RB.out.1;have hfr:get2 B.q j cl=f::rest:=(MVO.out.2.2.2.2 j cl (Nat.le_refl _)).trans hfr0;have MI:Hid (movesAt X route (j+1)=({B.pop j cl with tk:=set2 (B.pop j cl).tk k cl (get2 (B.pop j cl).tk k cl).take,ptr:=(B.pop j cl).ptr.set j ((cl+1)%(B.pop j cl).classes)},mm++[(j,cl,some k,f)])):=by rw[Hid,HMKs.out];unfold moveI;simp only;rw[FC2.out];simp only;rw[hfr];rfl
         have ML:mm.length≤5000:=Nat.le_trans MVO.out.2.2.2.1 (by decide);have QL:Q.length=mm.length:=(by have:=congrArg List.length hq;simpa using this);have BOK:Hid (BxOk B (N+8)):=MVO.out.1;have BP:Hid (B.ports=X.ports):=MVO.out.2.1;have BC:Hid (B.classes=X.classes):=MVO.out.2.2.1;have HS:=Lib.hid hS;have HQ:=Lib.hid hq;have HM2:=Lib.hid hm;have HT2:=Lib.hid ht;have HFR:=Lib.hid hfr;have HQL:=Lib.hid QL;have cM0:=hS.vm.1.cell 0;have WSZ:Hid (w.heap.size≤wq.heap.size):=hS.nx.ch.size;obtain⟨aM,nM,kM,eM⟩:=own_form hS.om.1;obtain⟨aF,nF,kF,eF⟩:=own_form hS.of'.1;have nMe:nM=mm.length:=(by obtain⟨a,cap,e,_⟩:=rec_of_own (d:=((0,0,none,default):Mv)) cM_length (by decide) hS.om.1;rw[eM]at e;injection e);have nFe:nF=Q.length:=(by obtain⟨a,cap,e,_⟩:=rec_of_own (d:=fq0) cF_length (by decide) hS.of'.1;rw[eF]at e;injection e);subst eM eF nMe nFe;simp only[List.getElem?_toArray,List.getElem?_cons_zero]at cM0;have OWM:Hid ((wq.alloc (.cells #[.int .i64 j,.int .i64 cl,.int .i64 k] 189)).ownsRow w.heap.size 189 3 (.slice aM mm.length kM) mm.length (mm.flatMap cM)):=hS.om.1.alloc _;have LT:bMv<wq.heap.size:=hS.vm.1.lt;obtain⟨i0,hi0,hz0,hz1,hz2⟩:=info_parts infoMove;clear hS hfr hq QL hm ht DE hfr0 hrf MVO HMKs FC2
         go_wp2_with (first
          |(at_builtin;refine wpList_append_any _ rfl (.tmp 119) (.tmp 124) 185 rfl w.heap.size 189 i0 _ 3 24 Tryz.underlying185 hi0 hz0 hz1 hz2 rfl (by decide) _ _ _ rfl OWM.out _ (some ⟨wq.heap.size,0,none⟩) 1 1 [.int .i64 j,.int .i64 cl,.int .i64 k] rfl (reads_newN wq _ [.int .i64 j,.int .i64 cl,.int .i64 k] (n:=1) (size:=3) rfl) ?d3 ?d4 ?d5 ?d6 ?_))
         case d3=>intro u hu;simp only[List.mem_cons,List.not_mem_nil,or_false]at hu;rcases hu with rfl|rfl|rfl<;>rfl
         case d4=>unfold maxLen;omega
         case d5=>omega
         case d6=>have:=WSZ.out;simp;omega
         intro v1 w2 own1 gr1 loc1;obtain⟨hbm,hS1,hI1⟩:=HS.out.pushM (mv:=(j,cl,some k,f)) ho WSZ.out NE.out.1 own1 gr1 (by simpa using loc1);obtain⟨aM1,nM1,kM1,rfl⟩:=own_form own1;have cm1:=hbm.cell 0;have fm1:=hbm.frozen 0;simp only[List.getElem?_toArray,List.getElem?_cons_zero]at cm1;have HS1:=Lib.hid hS1.drew;have HM3:=Lib.hid (hI1 bM _ HM2.out);have PP:=Lib.hid (bpop_any j cl (N+8) f _ o _ b B Lj hS1.bx.drew ho BOK.out (by omega) (by rw[BP.out];exact hjn) (by rw[BC.out];exact clt) HFR.out);have KS:Hid ((w2.setCell ⟨bMv,0,none⟩ (.slice aM1 nM1 kM1)).drew.cell? ⟨bFr,0,none⟩=some (.slice aF Q.length kF)∧(w2.setCell ⟨bMv,0,none⟩ (.slice aM1 nM1 kM1)).drew.cell? ⟨bB,0,none⟩=some (.pointer (some ⟨b,0,none⟩))):=⟨hS1.vf.1.cell 0,hS1.vb.1.cell 0⟩;clear own1 gr1 loc1 hbm hS1 OWM LT hI1
         go_wp2_with fail
         clear cm1 fm1 cM0;generalize hw3:w2.setCell ⟨bMv,0,none⟩ (.slice aM1 nM1 kM1)=w3 at *;clear hw3;refine wp_region_noPanic ?_;refine wp_region_L 7 (fun w'=>w'.cell? ⟨bFr,0,none⟩=some (.slice aF Q.length kF)∧w'.cell? ⟨bB,0,none⟩=some (.pointer (some ⟨b,0,none⟩))) (by kernel_rfl) KS.out (fun hHeld=>?_);refine AnyL.tk 0 hHeld ?_
         try simp only[puts]
         refine AnyL.tk 1 hHeld ?_
         try simp only[puts]
         refine AnyL.tk 2 hHeld ?_
         try simp only[puts]
         refine AnyL.tk 3 hHeld ?_
         try simp only[puts]
         refine AnyL.one (i:=4) (by kernel_rfl) rfl (fun K hK=>?_);go_simp;refine PP.out.mono ?_;rintro e wp ⟨v,rfl,hdat,τq,Lq,hbx,hnx⟩;have HSQ:=Lib.hid (HS1.out.post ho hbx hnx);have HM4:Hid (Blk wp bM 3 (((matN X route).1.map optV).toArray)∧(τq bM).1=0):=(by have h1:=HM3.out.1;have h2:(fr τj wq.heap.size bM).1=0:=(by rw[HM3.out.2];exact HT2.out);exact⟨h1.drew.ch hnx.ch (by rw[h2];omega),by rw[hnx.ext _ h1.lt];exact h2⟩);have DAT:=Lib.hid (hdat.nx hnx ho);obtain⟨da,dc,rfl,_⟩:=hdat;have KQ:Hid (wp.cell? ⟨bFr,0,none⟩=some (.slice aF Q.length kF)∧wp.cell? ⟨bB,0,none⟩=some (.pointer (some ⟨b,0,none⟩))):=⟨HSQ.out.vf.1.cell 0,HSQ.out.vb.1.cell 0⟩;clear hbx hnx;refine hK.out _ _ (fun _=>KQ.out) (fun hHeld0=>?_);have hHeld:=hHeld0 (by decide);clear hK hHeld0
         try simp only[puts]
         try simp only[fmV]
         refine AnyL.one (i:=5) (by kernel_rfl) rfl (fun K hK=>?_);go_simp;have KA:Hid ((wp.alloc (.cells #[.int .i64 f.id,.int .i64 f.frm,.int .i64 f.to',.int .i64 f.cls,.int .i64 f.ep,.slice da f.data.length dc] 59)).cell? ⟨bFr,0,none⟩=some (.slice aF Q.length kF)∧(wp.alloc (.cells #[.int .i64 f.id,.int .i64 f.frm,.int .i64 f.to',.int .i64 f.cls,.int .i64 f.ep,.slice da f.data.length dc] 59)).cell? ⟨bB,0,none⟩=some (.pointer (some ⟨b,0,none⟩))):=⟨(HSQ.out.vf.1.alloc _).cell 0,(HSQ.out.vb.1.alloc _).cell 0⟩;refine hK.out _ _ (fun _=>KA.out) (fun hHeld0=>?_);have hHeld:=hHeld0 (by decide);clear hK hHeld0
         try simp only[puts]
         have OQ:Hid ((wp.alloc (.cells #[.int .i64 f.id,.int .i64 f.frm,.int .i64 f.to',.int .i64 f.cls,.int .i64 f.ep,.slice da f.data.length dc] 59)).ownsRow w.heap.size 59 6 (.slice aF Q.length kF) Q.length (Q.flatMap cFm)):=HSQ.out.of'.1.alloc _;obtain⟨j0',hj0,hy0,hy1,hy2⟩:=info_parts infoFrame;have WSQ:Hid (w.heap.size≤wp.heap.size):=HSQ.out.nx.ch.size;have RN:Hid (Reads (wp.alloc (.cells #[.int .i64 f.id,.int .i64 f.frm,.int .i64 f.to',.int .i64 f.cls,.int .i64 f.ep,.slice da f.data.length dc] 59)) (wp.heap.size+1) 6 (some ⟨wp.heap.size,0,none⟩) 1 [.int .i64 f.id,.int .i64 f.frm,.int .i64 f.to',.int .i64 f.cls,.int .i64 f.ep,.slice da f.data.length dc]):=reads_newN wp 59 [.int .i64 f.id,.int .i64 f.frm,.int .i64 f.to',.int .i64 f.cls,.int .i64 f.ep,.slice da f.data.length dc] (n:=1) (size:=6) rfl;refine AnyL.one (i:=6) (by kernel_rfl) rfl (fun K hK=>?_);refine step_append_any _ (by rfl) (.tmp 126) (.tmp 131) 110 (by rfl) w.heap.size 59 j0' _ 6 64 Tryz.underlying110 hj0 hy0 hy1 hy2 rfl (by decide) _ _ _ (by rfl) OQ.out _ (some ⟨wp.heap.size,0,none⟩) 1 1 [.int .i64 f.id,.int .i64 f.frm,.int .i64 f.to',.int .i64 f.cls,.int .i64 f.ep,.slice da f.data.length dc] (by rfl) RN.out ?_ ?_ ?_ ?_ ?_
         ·intro u hu;simp only[List.mem_cons,List.not_mem_nil,or_false]at hu;rcases hu with rfl|rfl|rfl|rfl|rfl|rfl<;>rfl
         ·have:=HQL.out;unfold maxLen;omega
         ·have:=HQL.out;omega
         ·have:=WSQ.out;simp;omega
         intro v5 w5 own5 gr5 loc5;obtain⟨hbf,hS5,hI5⟩:=HSQ.out.pushF (x:=f) (v:=.slice da f.data.length dc) ho WSQ.out NE.out.2 DAT.out own5 gr5 (by simpa using loc5);obtain⟨aF5,nF5,kF5,rfl⟩:=own_form own5;have KZ:Hid (w5.cell? ⟨bFr,0,none⟩=some (.slice aF Q.length kF)∧w5.cell? ⟨bB,0,none⟩=some (.pointer (some ⟨b,0,none⟩))):=⟨hbf.cell 0,by have h1:=((HSQ.out.vb.1.alloc (.cells #[.int .i64 f.id,.int .i64 f.frm,.int .i64 f.to',.int .i64 f.cls,.int .i64 f.ep,.slice da f.data.length dc] 59)).grown gr5 fun e=>by obtain⟨cs,hb⟩:=own_blk HSQ.out.of'.1 _ e.symm;exact Blk.ne_ HSQ.out.vb.1 hb (by decide) rfl);exact h1.cell 0⟩;have HS5:=Lib.hid hS5;have HM5:Hid (Blk (w5.setCell ⟨bFr,0,none⟩ (.slice aF5 nF5 kF5)) bM 3 (((matN X route).1.map optV).toArray)∧(fr τq wp.heap.size bM).1=0):=(by have h1:=hI5 bM _ HM4.out.1;exact⟨h1.1,by rw[h1.2];exact HM4.out.2⟩);have cf5:=hbf.cell 0;have ff5:=hbf.frozen 0;simp only[List.getElem?_toArray,List.getElem?_cons_zero]at cf5;clear own5 gr5 loc5 hbf hS5 hI5;refine hK.out _ _ (fun _=>KZ.out) (fun hHeld0=>?_);have hHeld:=hHeld0 (by decide);clear hK hHeld0
         try simp only[puts]
         refine AnyL.one (i:=7) (by kernel_rfl) rfl (fun K hK=>?_);go_simp;refine hK.out _ _ (fun h=>absurd rfl h) (fun _=>?_);clear hK;refine AnyL.done (by kernel_rfl) ?_ _
         try simp only[puts]
         refine NoPanic.normal ?_;clear cf5 ff5;generalize hw6:w5.setCell ⟨bFr,0,none⟩ (.slice aF5 nF5 kF5)=w6' at *;clear hw6;have jP:j<(B.pop j cl).ports:=(by rw[show(B.pop j cl).ports=B.ports from rfl,BP.out];exact hjn);have kP:k<(B.pop j cl).ports:=(by rw[show(B.pop j cl).ports=B.ports from rfl,BP.out];exact kn);have cP:cl<(B.pop j cl).classes:=(by rw[show(B.pop j cl).classes=B.classes from rfl,BC.out];exact clt);have POK:=Lib.hid (BOK.out.pop (p:=j) (c:=cl) jP cP (by rw[HFR.out];simp));obtain⟨hg,t1,t2⟩:=HS5.out.bx.tt k cl kP cP;have HG:=Lib.hid (tktake_any _ (N+8) _ _ w6' (POK.out.t k cl kP cP) (by omega) (by have:=RB.out.2;unfold Tk.left at this;show(get2 B.tk k cl).sent<(get2 B.tk k cl).lim;omega) hg);have HT5:=Lib.hid t2;obtain⟨g1,⟨cap1,cs1,e1,e2,e3⟩,tg⟩:=HS5.out.bx.t k kP;have ct:=HS5.out.bx.ct kP POK.out.p1;rw[e1]at ct;have cc:w6'.cell? ⟨g1,cl,none⟩=some (.pointer (some ⟨Lq.tb k cl,0,none⟩)):=(by rw[e2.cell];exact e3 cl cP);have cb:=HS5.out.vb.1.cell 0;simp only[List.getElem?_toArray,List.getElem?_cons_zero,pt]at cb;have cl0:(0:Int)≤(cl:Int):=(by omega);have cl8:(cl:Int)<((B.pop j cl).classes:Int):=(by omega);have kk8:(k:Int)<8:=(by omega);have jj8:(j:Int)<8:=(by omega);clear hg t1 t2 e1 e2 e3 tg
         go_wp2_with (first
          |(go_at_call 132;refine HG.out.mono ?_;rintro e w7 ⟨rfl,b1,b2⟩;have B1:=Lib.hid b1;have B2:=Lib.hid b2;clear b1 b2))
         have HS7:=Lib.hid (HS5.out.post ho (HS5.out.bx.toFr.setTk (p:=k) (c:=cl) kP cP POK.out.tk ho B2.out B1.out) (Nx.of_ch B2.out fun i e=>by rw[e,HT5.out]));have HM7:Hid (Blk w7 bM 3 (((matN X route).1.map optV).toArray)∧(fr (fr τq wp.heap.size) w6'.heap.size bM).1=0):=(by have h1:=HM5.out.1.lt;exact⟨HM5.out.1.ch B2.out (fun e=>by have q:=HM5.out.2;rw[e,HT5.out]at q;simp at q;omega),by rw[fr_old h1];exact HM5.out.2⟩);have cb7:=HS7.out.vb.1.cell 0;simp only[List.getElem?_toArray,List.getElem?_cons_zero,pt]at cb7;have c17:=HS7.out.bx.c1;have cp7:=HS7.out.bx.cp (p:=j) (by omega);have fp7:=HS7.out.bx.root.1.frozen (26+j);have qc:IntKind.i64.wrap ((cl:Int)+1)=(cl:Int)+1:=IntWalk.i64_in _ (by omega);have hm0:¬(B.pop j cl).classes=0:=(by omega);have K8:Hid ((w7.drew.setCell ⟨b,26+j,none⟩ (.int .i64 (((cl:Int)+1)%((B.pop j cl).classes:Int)))).cell? ⟨bB,0,none⟩=some (.pointer (some ⟨b,0,none⟩))∧(w7.drew.setCell ⟨b,26+j,none⟩ (.int .i64 (((cl:Int)+1)%((B.pop j cl).classes:Int)))).cell? ⟨b,0+1,none⟩=some (.int .i64 (B.pop j cl).classes)):=(by have nb:bB≠b:=fun e=>(by have q:=HS7.out.vb.2;rw[e,HS7.out.bx.root.2]at q;simp at q;omega);have h1:=HS7.out.bx.root.1.drew.set_ (26+j) (.int .i64 (((cl:Int)+1)%((B.pop j cl).classes:Int)));refine⟨(HS7.out.vb.1.drew.far (by simp only;exact nb) _).cell 0,?_⟩;rw[h1.cell];have h2:=HS7.out.bx.c1;rw[HS7.out.bx.root.1.cell]at h2;rw[Array.getElem?_setIfInBounds,if_neg (by omega)];exact h2);have ctm:((cl:Int)+1).tmod ((B.pop j cl).classes:Int)=(((cl+1)%(B.pop j cl).classes:Nat):Int):=(by rw[Int.tmod_eq_emod_of_nonneg (by omega)];push_cast;rfl);clear cb ct cc
         go_wp2_with fail
         go_region_held3 (fun w'=>w'.cell? ⟨bB,0,none⟩=some (.pointer (some ⟨b,0,none⟩))∧w'.cell? ⟨b,0+1,none⟩=some (.int .i64 (B.pop j cl).classes))
          (first|exact⟨cb7,c17⟩|exact K8.out) (fail)
         have nx8:Nx (fr (fr τq wp.heap.size) w6'.heap.size) o w7 (fr (fr (fr τq wp.heap.size) w6'.heap.size) w7.heap.size) (w7.setCell ⟨b,26+j,none⟩ (.int .i64 (((cl+1)%(B.pop j cl).classes:Nat):Int))):=
          Nx.of_ch (S:=(· =b)) ((Ch.refl (· =b) _).setCell (p:=⟨b,26+j,none⟩) (.inl rfl) _) fun i e=>by rw[e,HS7.out.bx.root.2]
         have bx8:=HS7.out.bx.toFr.setRoot (ptr':=(B.pop j cl).ptr.set j ((cl+1)%(B.pop j cl).classes)) (ov':=(B.pop j cl).ov) ho ((Ch.refl (· =b) w7).setCell (p:=⟨b,26+j,none⟩) (.inl rfl) (.int .i64 (((cl+1)%(B.pop j cl).classes:Nat):Int))) (by
          have h1:=HS7.out.bx.root.1.set_ (26+j) (.int .i64 (((cl+1)%(B.pop j cl).classes:Nat):Int));rw[bxC_ptr]at h1
          ·exact h1
          ·omega
          ·exact BOK.out.pl)
         have S8:=Lib.hid (HS7.out.post ho bx8 nx8);have FB8:Hid (StB τ w o b bB bMv bFr bD bO bM X route (movesAt X route (j+1)) (w7.setCell ⟨b,26+j,none⟩ (.int .i64 (((cl+1)%(B.pop j cl).classes:Nat):Int))).drew):=by
          rw[Hid,MI.out];refine⟨_,_,_,_,_,S8.out.drew,by simp[HQ.out],?_,?_⟩
          ·exact(HM7.out.1.far (fun e=>by have q:=HM7.out.2;simp only at e;rw[e,HS7.out.bx.root.2]at q;simp at q;omega) _).drew
          ·rw[fr_old (show bM<w7.heap.size from HM7.out.1.lt)];exact HM7.out.2
         have EV:(((cl+1)%(B.pop j cl).classes:Nat):Int)=((cl:Int)+1)%((B.pop j cl).classes:Int):=(by push_cast;rfl);rw[EV]at FB8;clear nx8 bx8 cb7 c17 cp7 fp7 qc hm0 ctm EV K8
         go_wp2_with fail
         exact⟨FINB.out _ FB8.out,by simp[RowKit.intOf];omega⟩
       ·obtain rfl:X.classes=n:=by omega
        have FIN:Hid (StB τ w o b bB bMv bFr bD bO bM X route (movesAt X route (j+1)) wr):=by have h1:firstC (movesAt X route j).1.classes ((movesAt X route j).1.ptr.getD j 0) (readyB (outN X route) (movesAt X route j).1 j k)=none:=(by rw[MVO.out.2.2.1];exact find_range_none HNO.out);rw[Hid,MK.out];unfold moveI;rw[h1];exact HB2.out
        go_wp2_with fail
        exact⟨FINB.out _ FIN.out,by simp[RowKit.intOf];omega⟩
    ·
     obtain rfl:X.ports=j:=(by omega);obtain⟨τf,Lf,vM2,vF2,Q2,hS,hq,_⟩:=HB1.out;have SI:Hid (X.step route=movesAt X route X.ports):=step_is X route;have cM0:=hS.vm.1.cell 0;have cF0:=hS.vf.1.cell 0;have fM0:=hS.vm.1.frozen 0;have fF0:=hS.vf.1.frozen 0;have sM:=hS.vm.1.set_id (i:=0) (u:=vM2) rfl;have sF:=hS.vf.1.set_id (i:=0) (u:=vF2) rfl;obtain⟨aM,nM,kM,rfl⟩:=own_form hS.om.1;obtain⟨aF,nF,kF,rfl⟩:=own_form hS.of'.1;simp only[List.getElem?_toArray,List.getElem?_cons_zero]at cM0 cF0;have HSf:=Lib.hid hS.drew;have HQf:=Lib.hid hq;clear hS hq
     go_wp2_with fail
     go_region
     go_wp2_with fail
     refine leaves_cons (f:=125) (args:=#[.pointer (some ⟨bMv,0,none⟩),.pointer (some ⟨bFr,0,none⟩)]) (by simp) (by simp[go_sem]) ?_;refine(bcatch_idle ⟨bMv,0,none⟩ ⟨bFr,0,none⟩ _).mono ?_;rintro e u' w'' ⟨rfl,rfl,rfl⟩
     try simp only[sM,sF]
     refine⟨.tuple #[.slice aM nM kM,.slice aF nF kF],by simp[results,Tryz.results99,go_sem,cM0,cF0],_,_,Q2,τf,Lf,rfl,?_⟩;rw[SI.out];exact⟨HSf.out.bx,HSf.out.nx,HSf.out.om.1,HSf.out.of'.1,HQf.out,HSf.out.dat,HSf.out.om.2,HSf.out.of'.2⟩
theorem infoGiven:(Tryz.prog.info? 206).map (fun i=>(i.zero,i.size,i.bytes))=some (some (.agg #[.int .i64 0,.int .i64 0,.int .i64 0]),3,24):=by kernel_rfl
theorem infoTaken:(Tryz.prog.info? 228).map (fun i=>(i.zero,i.size,i.bytes))=some (some (.agg #[.int .i64 0,.int .i64 0]),2,16):=by kernel_rfl
theorem made3:madeCells #[Value.int .i64 0,.int .i64 0,.int .i64 0] 3=#[.int .i64 0,.int .i64 0,.int .i64 0]:=by unfold madeCells;apply Array.ext';simp[List.range_succ]
theorem made2:madeCells #[Value.int .i64 0,.int .i64 0] 2=#[.int .i64 0,.int .i64 0]:=by unfold madeCells;apply Array.ext';simp[List.range_succ]
def NewGv(r:Int)(w:World)(e:Ending)(w':World):Prop:=∃g h,e=.returned (.tuple #[.pointer (some ⟨g,0,none⟩),.int .i64 0])∧IsGv w' g h ⟨r,0,0⟩∧w.heap.size≤g∧w.heap.size≤h∧Below w.heap.size w w'
def NewTk(w:World)(e:Ending)(w':World):Prop:=∃g h,e=.returned (.tuple #[.pointer (some ⟨g,0,none⟩),.int .i64 0])∧IsTk w' g h ⟨0,0⟩∧w.heap.size≤g∧w.heap.size≤h∧Below w.heap.size w w'
def RelGv(r:Int)(g h:Nat)(w1:World)(i:Value)(wr:World):Prop:=∃k:Nat,k≤1∧i=.int .i64 k∧IsGv wr g h ⟨if k=0 then 0 else r,0,0⟩∧Ch (· =h) w1 wr
theorem gvnew_any(r:Int)(a cap:Nat)(w:World)(hr:1≤r∧r≤64)(ha:w.cell? ⟨a,0,none⟩=some (.int .i64 r)):Calls Tryz.prog 85 #[.slice (some ⟨a,0,none⟩) 1 cap] w (NewGv r w):=by
 obtain⟨i0,hi0,hz0,hz1,hz2⟩:=info_parts infoGiven;obtain⟨w1,hw1⟩:∃w1:World,(w.alloc (.cells (madeCells #[.int .i64 0,.int .i64 0,.int .i64 0] 3) 206)).alloc (.cells #[.slice (some ⟨w.heap.size,0,none⟩) 1 1] 204)=w1:=⟨_,rfl⟩;have LA:a<w.heap.size:=World.block_lt_of_cell? _ _ ha
 go_enter Tryz.func85,Tryz.ntmps85
 go_wp2_with (at_make;refine wpList_make_rec _ rfl _ _ 202 rfl 206 i0 _ 3 Tryz.underlying202 hi0 hz0 hz1 .i64 .i64 _ _ 1 rfl rfl rfl rfl (by rw[hz2];omega) (by unfold maxLen;omega) ?_)
 have S1:w1.heap.size=w.heap.size+2:=by rw[←hw1];simp
 have B1:Hid (Below w.heap.size w w1):=by rw[←hw1];exact((Below.refl _ _).alloc (Nat.le_refl _) _).alloc (by simp) _
 have G1:Hid (IsGv w1 (w.heap.size+1) w.heap.size ⟨0,0,0⟩):=by rw[←hw1,made3];refine⟨?_,(Blk.new w _ _).alloc _⟩;have:=Blk.new (w.alloc (.cells #[.int .i64 0,.int .i64 0,.int .i64 0] 206)) 204 #[.slice (some ⟨w.heap.size,0,none⟩) 1 1];simpa using this
 have HA:Hid (w.cell? ⟨a,0,none⟩=some (.int .i64 r)):=ha;have HS:=Lib.hid S1;obtain⟨h,hh⟩:∃x,w.heap.size=x:=⟨_,rfl⟩;obtain⟨g,hg⟩:∃x,h+1=x:=⟨_,rfl⟩;rw[hh,hg]at G1;rw[hh,hg];have HH:=Lib.hid hh;have HG:=Lib.hid hg;have r0:1≤r:=hr.1;have r1:r≤64:=hr.2;clear hw1 ha S1 hh hg hr
 go_loopw [5,6,22] (fun _ _ i wr=>RelGv r g h w1 i wr) (fun _ _ i _=>1-(RowKit.intOf i).toNat)
 case atStart=>exact⟨0,by omega,rfl,G1.out,Ch.refl _ _⟩
 case round=>
  obtain⟨k,hk,rfl,hG,hc⟩:=hrel;have BW:Hid (Below w.heap.size w wr):=B1.out.trans (hc.below B1.out.size (by rintro k rfl;exact Nat.le_of_eq HH.out));by_cases h1:k<1
  ·obtain rfl:k=0:=by omega
   have ca:wr.cell? ⟨a,0,none⟩=some (.int .i64 r):=(BW.out.cell (p:=⟨a,0,none⟩) LA).trans HA.out;have c0:wr.cell? ⟨g,0,none⟩=some (.slice (some ⟨h,0,none⟩) 1 1):=hG.p.cell 0;have c1:wr.cell? ⟨h,0,none⟩=some (.int .i64 0):=hG.c.cell 0;have f1:wr.frozen? ⟨h,0,none⟩=false:=hG.c.frozen 0;have GG:=Lib.hid hG;have HC:=Lib.hid hc;clear hG hc
   go_wp2_with fail
   refine⟨⟨1,Nat.le_refl _,by simp,⟨?_,?_⟩,HC.out.setCell (p:=⟨h,0,none⟩) (.inl rfl) _⟩,by simp[RowKit.intOf]⟩
   ·exact GG.out.p.far (by simp only;have:=HG.out;omega) _
   ·have:=GG.out.c.set_ 0 (.int .i64 r);simpa using this
  ·obtain rfl:k=1:=by omega
   have FIN:Hid (NewGv r w (.returned (.tuple #[.pointer (some ⟨g,0,none⟩),.int .i64 0])) wr):=⟨g,h,rfl,by simpa using hG,by have:=HG.out;have:=HH.out;omega,Nat.le_of_eq HH.out,BW.out⟩;clear hG hc
   go_wp2_with fail
   go_ret2
   exact FIN.out
theorem tknew_any(w:World):Calls Tryz.prog 86 #[.int .i64 1] w (NewTk w):=by
 obtain⟨i0,hi0,hz0,hz1,hz2⟩:=info_parts infoTaken;obtain⟨w1,hw1⟩:∃w1:World,(w.alloc (.cells (madeCells #[.int .i64 0,.int .i64 0] 2) 228)).alloc (.cells #[.slice (some ⟨w.heap.size,0,none⟩) 1 1] 209)=w1:=⟨_,rfl⟩;have B1:Hid (Below w.heap.size w w1):=by rw[←hw1];exact((Below.refl _ _).alloc (Nat.le_refl _) _).alloc (by simp) _
 have G1:Hid (IsTk w1 (w.heap.size+1) w.heap.size ⟨0,0⟩):=by rw[←hw1,made2];refine⟨?_,(Blk.new w _ _).alloc _⟩;have:=Blk.new (w.alloc (.cells #[.int .i64 0,.int .i64 0] 228)) 209 #[.slice (some ⟨w.heap.size,0,none⟩) 1 1];simpa using this
 go_enter Tryz.func86,Tryz.ntmps86
 go_wp2_with (at_make;refine wpList_make_rec _ rfl _ _ 207 rfl 228 i0 _ 2 Tryz.underlying207 hi0 hz0 hz1 .i64 .i64 _ _ 1 rfl rfl rfl rfl (by rw[hz2];omega) (by unfold maxLen;omega) ?_)
 go_ret2
 exact⟨_,_,rfl,G1.out,by omega,Nat.le_refl _,B1.out⟩
end Go.Proofs.YtnjjkgjdhljfnaaGreat
namespace Go.Proofs.YtnjjkgjdhljfnaaGreat
open Go.RowKit Go.Maps
def bnV(ports m pq:Nat)(L:BxL)(i:Nat):Value:=
 if i=0 then .int .i64 ports else if i=1 then .int .i64 m
 else if i<10 then(if i-2<pq then .slice (some ⟨L.qr (i-2),0,none⟩) m m else .slice none 0 0)
 else if i<18 then L.gr (i-10)else if i<26 then L.tr (i-18)else if i<34 then .int .i64 0 else if i=34 then pt L.bb else .int .i64 0
def bnC(ports m pq:Nat)(L:BxL):Array Value:=((List.range 36).map (bnV ports m pq L)).toArray
def lenB(m p c q:Nat):Nat:=if q<p then m else if q=p then c else 0
theorem lenB_next(m p:Nat):lenB m (p+1) 0=lenB m p m:=by
 funext q;unfold lenB;by_cases h:q<p
 ·rw[if_pos h,if_pos (by omega)]
 ·by_cases h2:q=p
  ·subst h2;simp
  ·rw[if_neg h,if_neg h2,if_neg (by omega)];simp
theorem lenB_succ(m p c q:Nat):lenB m p (c+1) q=if q=p then c+1 else lenB m p c q:=by
 unfold lenB;by_cases h:q<p
 ·rw[if_pos h,if_pos h,if_neg (by omega)]
 ·by_cases h2:q=p
  ·subst h2;simp
  ·rw[if_neg h,if_neg h2,if_neg h,if_neg h2,if_neg h2]
structure BnM(τ0:Own)(w0:World)(o b ports m:Nat)(rooms:List Int)(τ:Own)(w:World)(L:BxL)(pq p c:Nat):Prop where
 nx:Nx τ0 o w0 τ w
 root:Blk w b 158 (bnC ports m pq L)∧τ b=(o,0,0,0)∧w0.heap.size≤b
 bar:Blk w L.bb 201 (((barL ⟨List.replicate 8 0,List.replicate 8 0⟩ ports).map cNt).toArray)∧τ L.bb=(o,9,0,0)
 qv:L.qv=fun _ _=>.slice none 0 0
 qr:∀q,q<pq→Blk w (L.qr q) 110 (((List.range m).map fun _=>Value.slice none 0 0).toArray)∧τ (L.qr q)=(o,1,q,0)
 g:∀q,w.ownsRow w0.heap.size 159 1 (L.gr q) (lenB m p c q) ((List.range (lenB m p c q)).map fun d=>pt (L.gb q d))∧∀g,(L.gr q).ownBlock=some g→τ g=(o,3,q,0)
 gg:∀q d,d<lenB m p c q→IsGv w (L.gb q d) (L.gc q d) ⟨rooms.getD d 0,0,0⟩∧τ (L.gb q d)=(o,4,q,d)∧τ (L.gc q d)=(o,5,q,d)
 t:∀q,w.ownsRow w0.heap.size 162 1 (L.tr q) (lenB m p c q) ((List.range (lenB m p c q)).map fun d=>pt (L.tb q d))∧∀g,(L.tr q).ownBlock=some g→τ g=(o,6,q,0)
 tt:∀q d,d<lenB m p c q→IsTk w (L.tb q d) (L.tc q d) ⟨0,0⟩∧τ (L.tb q d)=(o,7,q,d)∧τ (L.tc q d)=(o,8,q,d)
 nil:∀q,p<q∨(q=p∧c=0)→L.gr q=.slice none 0 0∧L.tr q=.slice none 0 0
section
variable{τ0 τ τ':Own}{w0 w w' wA wB wD:World}{o b ports m pq p c:Nat}{rooms:List Int}{L:BxL}{v1 v2:Value}{gb gc tb tc:Nat}{o1 o2:Obj}
theorem BnM.next(h:BnM τ0 w0 o b ports m rooms τ w L pq p m)(hm:0<m):BnM τ0 w0 o b ports m rooms τ w L pq (p+1) 0 where
 nx:=h.nx
 root:=h.root
 bar:=h.bar
 qv:=h.qv
 qr:=h.qr
 g:=fun q=>by rw[lenB_next];exact h.g q
 gg:=fun q d hd=>by rw[lenB_next]at hd;exact h.gg q d hd
 t:=fun q=>by rw[lenB_next];exact h.t q
 tt:=fun q d hd=>by rw[lenB_next]at hd;exact h.tt q d hd
 nil:=fun q hq=>h.nil q (.inl (by omega))
theorem BnM.below(h:BnM τ0 w0 o b ports m rooms τ w L pq p c)(k:Below w.heap.size w w'):BnM τ0 w0 o b ports m rooms (fr τ w.heap.size) w' L pq p c:=by
 have hc:Ch (fun _=>False) w w':=Ch.of_below k;have he:∀i,i<w.heap.size→fr τ w.heap.size i=τ i:=fun i hi=>fr_old hi;exact{
  nx:=h.nx.loc hc (fun _ s=>s.elim)
  root:=⟨h.root.1.below k h.root.1.lt,by rw[he _ h.root.1.lt];exact h.root.2.1,h.root.2.2⟩
  bar:=⟨h.bar.1.below k h.bar.1.lt,by rw[he _ h.bar.1.lt];exact h.bar.2⟩
  qv:=h.qv
  qr:=fun q hq=>⟨(h.qr q hq).1.below k (h.qr q hq).1.lt,by rw[he _ (h.qr q hq).1.lt];exact(h.qr q hq).2⟩
  g:=fun q=>⟨own_ch (h.g q).1 hc (fun _ _ s=>s.elim),fun g hg=>by rw[he _ ((h.g q).1.lt g hg).2];exact(h.g q).2 g hg⟩
  gg:=fun q d hd=>by obtain⟨h1,h2,h3⟩:=h.gg q d hd;exact⟨h1.ch hc id id,by rw[he _ h1.p.lt];exact h2,by rw[he _ h1.c.lt];exact h3⟩
  t:=fun q=>⟨own_ch (h.t q).1 hc (fun _ _ s=>s.elim),fun g hg=>by rw[he _ ((h.t q).1.lt g hg).2];exact(h.t q).2 g hg⟩
  tt:=fun q d hd=>by obtain⟨h1,h2,h3⟩:=h.tt q d hd;exact⟨h1.ch hc id id,by rw[he _ h1.p.lt];exact h2,by rw[he _ h1.c.lt];exact h3⟩
  nil:=h.nil}
theorem BnM.queues(h:BnM τ0 w0 o b ports m rooms τ w L p p 0)(hb:w0.heap.size≤w.heap.size)(hp:p<8){g:Nat}(hg:g=w.heap.size)(hw:w'=(w.alloc (.cells (((List.range m).map fun _=>Value.slice none 0 0).toArray) 110)).setCell ⟨b,2+p,none⟩ (.slice (some ⟨g,0,none⟩) m m)):BnM τ0 w0 o b ports m rooms (tag1 τ g (o,1,p,0)) w' {L with qr:=fun q=>if q=p then g else L.qr q} (p+1) p 0:=by
 subst hg;have he:∀i,i<w.heap.size→tag1 τ w.heap.size (o,1,p,0) i=τ i:=fun i hi=>tag1_ne _ _ (by omega);have hc:Ch (· =b) w w':=by rw[hw];exact((Ch.refl (· =b) w).alloc _).setCell (p:=⟨b,2+p,none⟩) (.inl rfl) _
 have nb:∀{i t},τ i=t→t≠(o,0,0,0)→¬(i=b):=fun h1 h2 e=>h2 (by rw[←h1,e,h.root.2.1]);have sz:w'.heap.size=w.heap.size+1:=by rw[hw];simp[World.setCell]
 have nx:Nx τ0 o w0 (tag1 τ w.heap.size (o,1,p,0)) w':=by
  refine⟨h.nx.ch.trans hc fun i hi s=>by have:=h.root.2.2;omega,fun i hi=>(he i (by omega)).trans (h.nx.ext i hi),fun k h1 h2=>?_⟩;by_cases e:k<w.heap.size
  ·rw[he k e];exact h.nx.fresh k h1 e
  ·obtain rfl:k=w.heap.size:=by omega
   rw[tag1_at];exact .inl rfl
 exact{
  nx:=nx
  root:=by
   refine⟨?_,by rw[he _ h.root.1.lt];exact h.root.2.1,h.root.2.2⟩;rw[hw];have:=(h.root.1.alloc (.cells (((List.range m).map fun _=>Value.slice none 0 0).toArray) 110)).set_ (2+p) (.slice (some ⟨w.heap.size,0,none⟩) m m);unfold bnC at this⊢;rw[range_arr_set 36 (bnV ports m p L) (bnV ports m (p+1) {L with qr:=fun q=>if q=p then w.heap.size else L.qr q}) (2+p) _ (fun i hi=>by
    unfold bnV;by_cases e:i=2+p
    ·subst e;rw[if_pos rfl,if_neg (by omega),if_neg (by omega),if_pos (by omega),if_pos (by omega)];simp only[show 2+p-2=p by omega,if_true]
    ·by_cases e2:2≤i∧i<10
     ·have e3:¬i=0:=by omega
      have e4:¬i=1:=(by omega);have e5:¬i-2=p:=(by omega);by_cases e6:i-2<p
      ·have e7:i-2<p+1:=by omega
       simp only[e,e3,e4,e5,e6,e7,e2.2,if_true,if_false]
      ·have e7:¬i-2<p+1:=by omega
       simp only[e,e3,e4,e5,e6,e7,e2.2,if_true,if_false]
     ·by_cases e3:i=0
      ·simp only[e,e3,if_true,if_false];rw[if_neg (by omega)]
      ·by_cases e4:i=1
       ·simp only[e,e3,e4,if_true,if_false];rw[if_neg (by omega),if_neg (by omega)]
       ·have e5:¬i<10:=by omega
        simp only[e,e3,e4,e5,if_false])]at this
   exact this
  bar:=⟨h.bar.1.ch hc (nb h.bar.2 (by simp)),by rw[he _ h.bar.1.lt];exact h.bar.2⟩
  qv:=h.qv
  qr:=fun q hq=>by
   by_cases e:q=p
   ·subst e;simp only[if_true];refine⟨?_,tag1_at _ _ _⟩;rw[hw];exact(Blk.new w _ _).far (by simp only;have:=h.root.1.lt;omega) _
   ·simp only[e,if_false];have r:=h.qr q (by omega);exact⟨r.1.ch hc (nb r.2 (by simp)),by rw[he _ r.1.lt];exact r.2⟩
  g:=fun q=>⟨own_ch (h.g q).1 hc (fun g hg=>nb ((h.g q).2 g hg) (by simp)),fun g hg=>by rw[he _ ((h.g q).1.lt g hg).2];exact(h.g q).2 g hg⟩
  gg:=fun q d hd=>by obtain⟨h1,h2,h3⟩:=h.gg q d hd;exact⟨h1.ch hc (nb h2 (by simp)) (nb h3 (by simp)),by rw[he _ h1.p.lt];exact h2,by rw[he _ h1.c.lt];exact h3⟩
  t:=fun q=>⟨own_ch (h.t q).1 hc (fun g hg=>nb ((h.t q).2 g hg) (by simp)),fun g hg=>by rw[he _ ((h.t q).1.lt g hg).2];exact(h.t q).2 g hg⟩
  tt:=fun q d hd=>by obtain⟨h1,h2,h3⟩:=h.tt q d hd;exact⟨h1.ch hc (nb h2 (by simp)) (nb h3 (by simp)),by rw[he _ h1.p.lt];exact h2,by rw[he _ h1.c.lt];exact h3⟩
  nil:=h.nil}
def BxL.pushG(L:BxL)(p c gb gc:Nat)(v:Value):BxL:={L with gr:=fun q=>if q=p then v else L.gr q,gb:=fun q d=>if q=p∧d=c then gb else L.gb q d,gc:=fun q d=>if q=p∧d=c then gc else L.gc q d}
def BxL.pushT(L:BxL)(p c tb tc:Nat)(v:Value):BxL:={L with tr:=fun q=>if q=p then v else L.tr q,tb:=fun q d=>if q=p∧d=c then tb else L.tb q d,tc:=fun q d=>if q=p∧d=c then tc else L.tc q d}
theorem bnC_g(ports m pq p c gb gc:Nat)(L:BxL)(v:Value)(hp:p<8):(bnC ports m pq L).setIfInBounds (10+p) v=bnC ports m pq (L.pushG p c gb gc v):=
 range_arr_set 36 _ _ _ _ fun i hi=>by
  unfold bnV BxL.pushG;by_cases e:i=10+p
  ·subst e;rw[if_pos rfl,if_neg (by omega),if_neg (by omega),if_neg (by omega),if_pos (by omega)];simp only[show 10+p-10=p by omega,if_true]
  ·rw[if_neg e];by_cases h0:i=0
   ·simp only[h0,if_true]
   ·by_cases h1:i=1
    ·simp only[h0,h1,if_true,if_false]
    ·by_cases h2:i<10
     ·simp only[h0,h1,h2,if_true,if_false]
     ·by_cases h3:i<18
      ·simp only[h0,h1,h2,h3,if_true,if_false];rw[if_neg (by omega)]
      ·simp only[h0,h1,h2,h3,if_false]
theorem bnC_t(ports m pq p c tb tc:Nat)(L:BxL)(v:Value)(hp:p<8):(bnC ports m pq L).setIfInBounds (18+p) v=bnC ports m pq (L.pushT p c tb tc v):=
 range_arr_set 36 _ _ _ _ fun i hi=>by
  unfold bnV BxL.pushT;by_cases e:i=18+p
  ·subst e;rw[if_pos rfl,if_neg (by omega),if_neg (by omega),if_neg (by omega),if_neg (by omega),if_pos (by omega)];simp only[show 18+p-18=p by omega,if_true]
  ·rw[if_neg e];by_cases h0:i=0
   ·simp only[h0,if_true]
   ·by_cases h1:i=1
    ·simp only[h0,h1,if_true,if_false]
    ·by_cases h2:i<10
     ·simp only[h0,h1,h2,if_true,if_false]
     ·by_cases h3:i<18
      ·simp only[h0,h1,h2,h3,if_true,if_false]
      ·by_cases h4:i<26
       ·simp only[h0,h1,h2,h3,h4,if_true,if_false];rw[if_neg (by omega)]
       ·simp only[h0,h1,h2,h3,h4,if_false]
theorem BnM.push1(h:BnM τ0 w0 o b ports m rooms τ w L pq p c)(hp:p<8)(kA:Below w.heap.size w wA)(own1:wB.ownsRow w0.heap.size 159 1 v1 (c+1) (((List.range c).map fun d=>pt (L.gb p d))++[pt gb]))(gr1:(wA.alloc o1).grownBy wB (L.gr p).ownBlock)(loc1:v1.ownBlock=(L.gr p).ownBlock∨v1.ownBlock=some (wA.heap.size+1)):Blk wB b 158 (bnC ports m pq L)∧Blk (wB.setCell ⟨b,10+p,none⟩ v1) b 158 (bnC ports m pq (L.pushG p c gb gc v1))∧(wB.setCell ⟨b,10+p,none⟩ v1).ownsRow w0.heap.size 162 1 (L.tr p) c ((List.range c).map fun d=>pt (L.tb p d))∧Ch (fun k=>k=b∨(L.gr p).ownBlock=some k) w (wB.setCell ⟨b,10+p,none⟩ v1):=by
 have lc:lenB m p c p=c:=by unfold lenB;simp
 have hT:=h.t p;have hG:=h.g p;rw[lc]at hT hG;have nb:∀g,(L.gr p).ownBlock=some g→b≠g:=fun g hg e=>by have h1:=h.root.2.1;rw[e,hG.2 g hg]at h1;simp at h1
 have b1:Blk wB b 158 (bnC ports m pq L):=((h.root.1.below kA h.root.1.lt).alloc o1).grown gr1 fun e=>nb _ e.symm rfl;have C1:Ch (fun k=>k=b∨(L.gr p).ownBlock=some k) w (wB.setCell ⟨b,10+p,none⟩ v1):=(((Ch.of_below kA).alloc o1).grown gr1 fun g hg=>.inl (.inr hg)).setCell (p:=⟨b,10+p,none⟩) (.inl (.inl rfl)) v1;refine⟨b1,?_,own_ch hT.1 C1 fun g hg s=>?_,C1⟩
 ·have:=b1.set_ (10+p) v1;rw[bnC_g ports m pq p c gb gc L v1 hp]at this;exact this
 ·rcases s with s|s
  ·have h1:=hT.2 g hg;rw[s,h.root.2.1]at h1;simp at h1
  ·have h1:=hT.2 g hg;rw[hG.2 g s]at h1;simp at h1
theorem BnM.push(h:BnM τ0 w0 o b ports m rooms τ w L pq p c)(hp:p<8)(hbs:w0.heap.size≤w.heap.size)(kA:Below w.heap.size w wA)(hg:IsGv wA gb gc ⟨rooms.getD c 0,0,0⟩)(ht:IsTk wA tb tc ⟨0,0⟩)(g0:w.heap.size≤gb)(g1:w.heap.size≤gc)(t0:w.heap.size≤tb)(t1:w.heap.size≤tc)(own1:wB.ownsRow w0.heap.size 159 1 v1 (c+1) (((List.range c).map fun d=>pt (L.gb p d))++[pt gb]))(gr1:(wA.alloc o1).grownBy wB (L.gr p).ownBlock)(loc1:v1.ownBlock=(L.gr p).ownBlock∨v1.ownBlock=some (wA.heap.size+1))(own2:wD.ownsRow w0.heap.size 162 1 v2 (c+1) (((List.range c).map fun d=>pt (L.tb p d))++[pt tb]))(gr2:((wB.setCell ⟨b,10+p,none⟩ v1).alloc o2).grownBy wD (L.tr p).ownBlock)(loc2:v2.ownBlock=(L.tr p).ownBlock∨v2.ownBlock=some ((wB.setCell ⟨b,10+p,none⟩ v1).heap.size+1)):Blk wD b 158 (bnC ports m pq (L.pushG p c gb gc v1))∧∃τ',BnM τ0 w0 o b ports m rooms τ' (wD.setCell ⟨b,18+p,none⟩ v2) ((L.pushG p c gb gc v1).pushT p c tb tc v2) pq p (c+1):=by
 have lc:lenB m p c p=c:=by unfold lenB;simp
 obtain⟨b1,b2,oT,C1⟩:=h.push1 (gc:=gc) hp kA own1 gr1 loc1;have hT:=h.t p;have hG:=h.g p;rw[lc]at hT hG;have rt:=h.root.2.1;have lb:=h.root.1.lt;have nbT:∀g,(L.tr p).ownBlock=some g→b≠g:=fun g hg e=>by have h1:=rt;rw[e,hT.2 g hg]at h1;simp at h1
 have b3:Blk wD b 158 (bnC ports m pq (L.pushG p c gb gc v1)):=(b2.alloc o2).grown gr2 fun e=>nbT _ e.symm rfl;have sA:w.heap.size≤wA.heap.size:=kA.size;have sB:wA.heap.size+1≤wB.heap.size:=by have:=gr1.size;simpa using this
 have sC:(wB.setCell ⟨b,10+p,none⟩ v1).heap.size=wB.heap.size:=by simp[World.setCell]
 have sD:wB.heap.size+1≤wD.heap.size:=by have:=gr2.size;rw[show((wB.setCell ⟨b,10+p,none⟩ v1).alloc o2).heap.size=wB.heap.size+1 by simp[sC]]at this;exact this
 have C2:Ch (fun k=>k=b∨(L.gr p).ownBlock=some k∨(L.tr p).ownBlock=some k) w (wD.setCell ⟨b,18+p,none⟩ v2):=
  (((C1.mono fun k _ s=>by rcases s with s|s;exact .inl s;exact .inr (.inl s)).alloc o2).grown gr2 fun g hg=>.inl (.inr (.inr hg))).setCell (p:=⟨b,18+p,none⟩) (.inl (.inl rfl)) v2
 have fin:∀{k t cs},w.heap.size≤k→k<wA.heap.size→Blk wA k t cs→Blk (wD.setCell ⟨b,18+p,none⟩ v2) k t cs:=fun{k t cs} hk hk2 hbk=>by
  have n1:some k≠(L.gr p).ownBlock:=fun e=>by have:=(hG.1.lt k e.symm).2;omega
  have n2:some k≠(L.tr p).ownBlock:=fun e=>by have:=(hT.1.lt k e.symm).2;omega
  have nb:k≠b:=by omega
  exact((((hbk.alloc o1).grown gr1 n1).far (by simp only;exact nb) v1).alloc o2).grown gr2 n2|>.far (by simp only;exact nb) v2
 have lgb:=hg.p.lt;have lgc:=hg.c.lt;have ltb:=ht.p.lt;have ltc:=ht.c.lt;have d1:gb≠gc:=Blk.ne_ hg.p hg.c (by decide);have d2:gb≠tb:=Blk.ne_ hg.p ht.p (by decide);have d3:gb≠tc:=Blk.ne_ hg.p ht.c (by decide);have d4:gc≠tb:=Blk.ne_ hg.c ht.p (by decide);have d5:gc≠tc:=Blk.ne_ hg.c ht.c (by decide);have d6:tb≠tc:=Blk.ne_ ht.p ht.c (by decide);have ownG:(wD.setCell ⟨b,18+p,none⟩ v2).ownsRow w0.heap.size 159 1 v1 (c+1) ((List.range (c+1)).map fun d=>pt (if d=c then gb else L.gb p d)):=by
  have e:((List.range (c+1)).map fun d=>pt (if d=c then gb else L.gb p d))=((List.range c).map fun d=>pt (L.gb p d))++[pt gb]:=by
   rw[List.range_succ,List.map_append];congr 1
   ·refine List.map_congr_left fun x hx=>?_;have:=List.mem_range.1 hx;rw[if_neg (by omega)]
   ·simp
  rw[e];have nv:∀g,v1.ownBlock=some g→g≠b∧(some g≠(L.tr p).ownBlock):=fun g hg'=>by
   rcases loc1 with q|q
   ·rw[q]at hg';refine⟨fun e2=>?_,fun e2=>?_⟩
    ·have h1:=hG.2 g hg';rw[e2,rt]at h1;simp at h1
    ·have h1:=hG.2 g hg';rw[hT.2 g e2.symm]at h1;simp at h1
   ·rw[q]at hg';injection hg' with hg';exact⟨by omega,fun e2=>by have:=(hT.1.lt g e2.symm).2;omega⟩
  have s1:=own_set own1 (p:=⟨b,10+p,none⟩) v1 fun g hg'=>(nv g hg').1;have s2:=(s1.alloc o2).kept gr2 (by
   cases e2:v1.ownBlock with
   |none=>exact .inl rfl
   |some g=>exact .inr fun e3=>(nv g e2).2 e3)
  exact own_set s2 (p:=⟨b,18+p,none⟩) v2 fun g hg'=>(nv g hg').1
 have ownT:(wD.setCell ⟨b,18+p,none⟩ v2).ownsRow w0.heap.size 162 1 v2 (c+1) ((List.range (c+1)).map fun d=>pt (if d=c then tb else L.tb p d)):=by
  have e:((List.range (c+1)).map fun d=>pt (if d=c then tb else L.tb p d))=((List.range c).map fun d=>pt (L.tb p d))++[pt tb]:=by
   rw[List.range_succ,List.map_append];congr 1
   ·refine List.map_congr_left fun x hx=>?_;have:=List.mem_range.1 hx;rw[if_neg (by omega)]
   ·simp
  rw[e];refine own_set own2 (p:=⟨b,18+p,none⟩) v2 fun g hg' e2=>?_;obtain⟨cs,hb⟩:=own_blk own2 g hg';exact Blk.ne_ b3 hb (by decide) (by rw[e2])
 obtain⟨τ',hτ'⟩:∃τ':Own,τ'=fun k=>if k<w.heap.size then τ k else if k=gb then(o,4,p,c)else if k=gc then(o,5,p,c)else if k=tb then(o,7,p,c)else if k=tc then(o,8,p,c)else
  if v1.ownBlock=some k then(o,3,p,0)else if v2.ownBlock=some k then(o,6,p,0)else(0,0,0,0):=⟨_,rfl⟩
 have he:∀k,k<w.heap.size→τ' k=τ k:=fun k hk=>by rw[hτ'];simp only;rw[if_pos hk]
 have hn:∀k,¬k<w.heap.size→τ' k=if k=gb then(o,4,p,c)else if k=gc then(o,5,p,c)else if k=tb then(o,7,p,c)else if k=tc then(o,8,p,c)else
  if v1.ownBlock=some k then(o,3,p,0)else if v2.ownBlock=some k then(o,6,p,0)else(0,0,0,0):=fun k hk=>by rw[hτ'];simp only;rw[if_neg hk]
 have egb:τ' gb=(o,4,p,c):=by rw[hn _ (by omega),if_pos rfl]
 have egc:τ' gc=(o,5,p,c):=by rw[hn _ (by omega),if_neg (by omega),if_pos rfl]
 have etb:τ' tb=(o,7,p,c):=by rw[hn _ (by omega),if_neg (by omega),if_neg (by omega),if_pos rfl]
 have etc:τ' tc=(o,8,p,c):=by rw[hn _ (by omega),if_neg (by omega),if_neg (by omega),if_neg (by omega),if_pos rfl]
 have ev1:∀g,v1.ownBlock=some g→τ' g=(o,3,p,0):=fun g hg'=>by
  rcases loc1 with q|q
  ·rw[q]at hg';rw[he g (hG.1.lt g hg').2];exact hG.2 g hg'
  ·have hg2:=hg';rw[q]at hg2;injection hg2 with hg2;rw[hn _ (by omega),if_neg (by omega),if_neg (by omega),if_neg (by omega),if_neg (by omega),if_pos hg']
 have ev2:∀g,v2.ownBlock=some g→τ' g=(o,6,p,0):=fun g hg'=>by
  rcases loc2 with q|q
  ·rw[q]at hg';rw[he g (hT.1.lt g hg').2];exact hT.2 g hg'
  ·have hg2:=hg';rw[q]at hg2;injection hg2 with hg2;rw[hn _ (by omega),if_neg (by omega),if_neg (by omega),if_neg (by omega),if_neg (by omega),if_neg (fun e2=>by
    rcases loc1 with q1|q1
    ·rw[q1]at e2;have:=(hG.1.lt g e2).2;omega
    ·rw[q1]at e2;injection e2 with e2;omega),if_pos hg']
 have ne:∀{i t},τ i=t→t≠(o,0,0,0)→t≠(o,3,p,0)→t≠(o,6,p,0)→¬(i=b∨(L.gr p).ownBlock=some i∨(L.tr p).ownBlock=some i):=fun h1 h2 h3 h4 s=>by
  rcases s with s|s|s
  ·exact h2 (by rw[←h1,s,rt])
  ·exact h3 (by rw[←h1,hG.2 _ s])
  ·exact h4 (by rw[←h1,hT.2 _ s])
 refine⟨b3,τ',?_⟩;exact{
  nx:=by
   refine⟨h.nx.ch.trans C2 fun i hi s=>?_,fun i hi=>(he i (by omega)).trans (h.nx.ext i hi),fun k h1 h2=>?_⟩
   ·rcases s with s|s|s
    ·have:=h.root.2.2;omega
    ·have:=(hG.1.lt i s).1;omega
    ·have:=(hT.1.lt i s).1;omega
   ·by_cases e:k<w.heap.size
    ·rw[he k e];exact h.nx.fresh k h1 e
    ·rw[hn k e]
     repeat(first|(split;exact .inl rfl)|exact .inr (Nat.zero_le _))
  root:=by refine⟨?_,by rw[he _ lb];exact rt,h.root.2.2⟩;have:=b3.set_ (18+p) v2;rw[bnC_t ports m pq p c tb tc _ v2 hp]at this;exact this
  bar:=⟨h.bar.1.ch C2 (ne h.bar.2 (by simp) (by simp) (by simp)),by show τ' L.bb=_;rw[he _ h.bar.1.lt];exact h.bar.2⟩
  qv:=h.qv
  qr:=fun q hq=>let r:=h.qr q hq;⟨r.1.ch C2 (ne r.2 (by simp) (by simp) (by simp)),by show τ' (L.qr q)=_;rw[he _ r.1.lt];exact r.2⟩
  g:=fun q=>by
   rw[lenB_succ];show(wD.setCell ⟨b,18+p,none⟩ v2).ownsRow w0.heap.size 159 1 (if q=p then v1 else L.gr q) _ ((List.range _).map fun d=>pt (if q=p∧d=c then gb else L.gb q d))∧∀g,(if q=p then v1 else L.gr q).ownBlock=some g→τ' g=(o,3,q,0);by_cases e:q=p
   ·subst e;simp only[if_true,true_and];exact⟨ownG,ev1⟩
   ·simp only[e,if_false,false_and];have r:=h.g q;exact⟨own_ch r.1 C2 fun g hg'=>ne (r.2 g hg') (by simp) (by simp[e]) (by simp),fun g hg'=>by rw[he _ (r.1.lt g hg').2];exact r.2 g hg'⟩
  gg:=fun q d hd=>by
   rw[lenB_succ]at hd;show IsGv _ (if q=p∧d=c then gb else L.gb q d) (if q=p∧d=c then gc else L.gc q d) _∧τ' (if q=p∧d=c then gb else L.gb q d)=_∧τ' (if q=p∧d=c then gc else L.gc q d)=_;by_cases e:q=p∧d=c
   ·simp only[e,and_self,if_true];exact⟨⟨fin g0 lgb hg.p,fin g1 lgc hg.c⟩,egb,egc⟩
   ·simp only[e,if_false];have hd':d<lenB m p c q:=by
     by_cases e2:q=p
     ·subst e2;rw[if_pos rfl]at hd;rw[lc];have:d≠c:=fun e3=>e ⟨rfl,e3⟩;omega
     ·rw[if_neg e2]at hd;exact hd
    obtain⟨h1,h2,h3⟩:=h.gg q d hd';exact⟨h1.ch C2 (ne h2 (by simp) (by simp) (by simp)) (ne h3 (by simp) (by simp) (by simp)),by rw[he _ h1.p.lt];exact h2,by rw[he _ h1.c.lt];exact h3⟩
  t:=fun q=>by
   rw[lenB_succ];show(wD.setCell ⟨b,18+p,none⟩ v2).ownsRow w0.heap.size 162 1 (if q=p then v2 else L.tr q) _ ((List.range _).map fun d=>pt (if q=p∧d=c then tb else L.tb q d))∧∀g,(if q=p then v2 else L.tr q).ownBlock=some g→τ' g=(o,6,q,0);by_cases e:q=p
   ·subst e;simp only[if_true,true_and];exact⟨ownT,ev2⟩
   ·simp only[e,if_false,false_and];have r:=h.t q;exact⟨own_ch r.1 C2 fun g hg'=>ne (r.2 g hg') (by simp) (by simp) (by simp[e]),fun g hg'=>by rw[he _ (r.1.lt g hg').2];exact r.2 g hg'⟩
  tt:=fun q d hd=>by
   rw[lenB_succ]at hd;show IsTk _ (if q=p∧d=c then tb else L.tb q d) (if q=p∧d=c then tc else L.tc q d) _∧τ' (if q=p∧d=c then tb else L.tb q d)=_∧τ' (if q=p∧d=c then tc else L.tc q d)=_;by_cases e:q=p∧d=c
   ·simp only[e,and_self,if_true];exact⟨⟨fin t0 ltb ht.p,fin t1 ltc ht.c⟩,etb,etc⟩
   ·simp only[e,if_false];have hd':d<lenB m p c q:=by
     by_cases e2:q=p
     ·subst e2;rw[if_pos rfl]at hd;rw[lc];have:d≠c:=fun e3=>e ⟨rfl,e3⟩;omega
     ·rw[if_neg e2]at hd;exact hd
    obtain⟨h1,h2,h3⟩:=h.tt q d hd';exact⟨h1.ch C2 (ne h2 (by simp) (by simp) (by simp)) (ne h3 (by simp) (by simp) (by simp)),by rw[he _ h1.p.lt];exact h2,by rw[he _ h1.c.lt];exact h3⟩
  nil:=fun q hq=>by
   rcases hq with hq|⟨_,h0⟩
   ·have e:¬q=p:=by omega
    show(if q=p then v1 else L.gr q)=_∧(if q=p then v2 else L.tr q)=_;simp only[e,if_false];exact h.nil q (.inl hq)
   ·omega}
theorem BnM.box(h:BnM τ0 w0 o b ports m rooms τ w L ports ports 0)(hp:ports≤8)(hm:m=rooms.length)(hm0:0<m):BxM τ o w b (newBx ports rooms) L where
 root:=by
  refine⟨?_,h.root.2.1⟩;have e:bnC ports m ports L=bxC (newBx ports rooms) L:=by
   unfold bnC bxC;congr 1;refine List.map_congr_left fun i hi=>?_;have hi:=List.mem_range.1 hi;unfold bnV bxV rowV newBx;simp only;by_cases h0:i=0
   ·simp only[h0,if_true]
   ·by_cases h1:i=1
    ·simp only[h0,h1,if_true,if_false,hm]
    ·by_cases h2:i<10
     ·simp only[h0,h1,h2,if_true,if_false,hm]
     ·by_cases h3:i<18
      ·simp only[h0,h1,h2,h3,if_true,if_false];by_cases h4:i-10<ports
       ·rw[if_pos h4]
       ·rw[if_neg h4];exact(h.nil _ (by omega)).1
      ·by_cases h5:i<26
       ·simp only[h0,h1,h2,h3,h5,if_true,if_false];by_cases h4:i-18<ports
        ·rw[if_pos h4]
        ·rw[if_neg h4];exact(h.nil _ (by omega)).2
       ·by_cases h6:i<34
        ·simp only[h0,h1,h2,h3,h5,h6,if_true,if_false,rep0];rfl
        ·by_cases h7:i=34
         ·simp only[h0,h1,h2,h3,h5,h6,h7,if_true,if_false];rfl
         ·simp only[h0,h1,h2,h3,h5,h6,h7,if_false];rfl
  rw[←e];exact h.root.1
 qr:=fun p hp'=>by have r:=h.qr p hp';refine⟨?_,r.2⟩;rw[h.qv];show Blk w (L.qr p) 110 (((List.range rooms.length).map fun _=>Value.slice none 0 0).toArray);rw[←hm];exact r.1
 q:=fun p c hp' hc'=>by have hp2:p<ports:=hp';rw[h.qv];refine⟨⟨[],?_,World.ownsRow_nil _ _ _ _,by simp⟩,by simp[Value.ownBlock]⟩;show _=get2 (List.replicate ports (List.replicate rooms.length [])) p c;rw[get2_rep hp2];simp only[List.map_nil,List.getD,List.getElem?_replicate];split<;>rfl
 g:=fun p hp'=>by
  have hp2:p<ports:=hp';have r:=h.g p;rw[show lenB m ports 0 p=m by unfold lenB;rw[if_pos hp2]]at r;obtain⟨g,cap,cs,e,hb,_,hc⟩:=own_blk1 r.1 hm0;refine⟨g,⟨cap,cs,by rw[e,hm];rfl,hb,fun c hc'=>?_⟩,r.2 g (by rw[e];rfl)⟩;have hc2:c<m:=by rw[hm];exact hc'
  rw[hc c hc2,List.getElem?_map,List.getElem?_range hc2];rfl
 gg:=fun p c hp' hc'=>by
  have hp2:p<ports:=hp';have hc2:c<rooms.length:=hc';have r:=h.gg p c (by unfold lenB;rw[if_pos hp2,hm];exact hc2);refine⟨?_,r.2⟩;show IsGv _ _ _ (get2 (List.replicate ports (rooms.map fun r=>(⟨r,0,0⟩:Gv))) p c);rw[get2_rep hp2];have e:(rooms.map fun r=>(⟨r,0,0⟩:Gv)).getD c default=⟨rooms.getD c 0,0,0⟩:=by simp[List.getD,hc2]
  rw[e];exact r.1
 t:=fun p hp'=>by
  have hp2:p<ports:=hp';have r:=h.t p;rw[show lenB m ports 0 p=m by unfold lenB;rw[if_pos hp2]]at r;obtain⟨g,cap,cs,e,hb,_,hc⟩:=own_blk1 r.1 hm0;refine⟨g,⟨cap,cs,by rw[e,hm];rfl,hb,fun c hc'=>?_⟩,r.2 g (by rw[e];rfl)⟩;have hc2:c<m:=by rw[hm];exact hc'
  rw[hc c hc2,List.getElem?_map,List.getElem?_range hc2];rfl
 tt:=fun p c hp' hc'=>by
  have hp2:p<ports:=hp';have hc2:c<rooms.length:=hc';have r:=h.tt p c (by unfold lenB;rw[if_pos hp2,hm];exact hc2);refine⟨?_,r.2⟩;show IsTk _ _ _ (get2 (List.replicate ports (rooms.map fun _=>(⟨0,0⟩:Tk))) p c);rw[get2_rep hp2];have e:(rooms.map fun _=>(⟨0,0⟩:Tk)).getD c default=⟨0,0⟩:=by simp[List.getD,hc2]
  rw[e];exact r.1
 bar:=h.bar
end
end Go.Proofs.YtnjjkgjdhljfnaaGreat
namespace Go.Proofs.YtnjjkgjdhljfnaaGreat
open Go.RowKit Go.Maps
attribute [local go_sem ↓] Go.wp_at_zero Go.wp_at_succ
def BxNewPost(τ:Own)(o:Nat)(w:World)(ports:Nat)(rooms:List Int)(e:Ending)(w':World):Prop:=
 ∃b τ' L,e=.returned (.tuple #[.pointer (some ⟨b,0,none⟩),.int .i64 0])∧BxM τ' o w' b (newBx ports rooms) L∧Nx τ o w τ' w'∧w.heap.size≤b
theorem bnC_zero(ports m:Nat)(L:BxL)(hg:L.gr=fun _=>.slice none 0 0)(ht:L.tr=fun _=>.slice none 0 0):bnC ports m 0 L=#[.int .i64 ports,.int .i64 m,.slice none 0 0,.slice none 0 0,.slice none 0 0,.slice none 0 0,.slice none 0 0,.slice none 0 0,.slice none 0 0,.slice none 0 0,.slice none 0 0,.slice none 0 0,.slice none 0 0,.slice none 0 0,.slice none 0 0,.slice none 0 0,.slice none 0 0,.slice none 0 0,.slice none 0 0,.slice none 0 0,.slice none 0 0,.slice none 0 0,.slice none 0 0,.slice none 0 0,.slice none 0 0,.slice none 0 0,.int .i64 0,.int .i64 0,.int .i64 0,.int .i64 0,.int .i64 0,.int .i64 0,.int .i64 0,.int .i64 0,pt L.bb,.int .i64 0]:=by unfold bnC;simp[List.range_succ,bnV,hg,ht]
theorem step_make_rec{P:Program}{w:World}{ops:Array Oper}{o:Oper}{a:Act}{K:Act→World→Prop}{Q:Exit→Act→World→Prop}{E:Prop}(hg:o.guard=none)(l c:Operand)(t:TypeId)(hop:o.op=Op.makeSlice t l c)(e:TypeId)(i:TypeInfo)(z:Value)(size:Nat)(h1:P.underlying t=some (.slice e))(h2:P.info? e=some i)(h3:i.zero=some z)(h4:i.size=size)(kl kc:IntKind)(L C:Int)(n:Nat)(hl:a.eval l=.int kl L)(hc:a.eval c=.int kc C)(hL:L=(n:Int))(hC:C=(n:Int))(b2:i.bytes*n≤281474976710656)(b3:n≤maxLen)(hK:K (a.put o.dst (.slice (some ⟨w.heap.size,0,none⟩) n n)) (w.alloc (.cells (madeCells z.cells (n*size)) e))):if Region.wanted o (yielded ops a.tmps)=true then Oper.wp P o a w K Q else E:=by
 have hw:Region.wanted o (yielded ops a.tmps)=true:=by simp[Region.wanted,hg]
 rw[if_pos hw];have h63':(n:Int)≤9223372036854775807:=by have h:=b3;simp[maxLen]at h;omega
 have hb':(i.bytes:Int)*(n:Int)≤281474976710656:=by
  have h:((i.bytes*n:Nat):Int)≤281474976710656:=by omega
  rwa [Int.natCast_mul]at h
 have hrun:=run_make (P:=P) w t e i z h1 h2 h3 kl kc n n (by omega) (Int.le_refl _) hb' h63';subst hL;subst hC;subst h4;simp only[Int.toNat_natCast]at hrun;unfold Oper.wp;simp[execOp,hop,hl,hc,hrun,Result.andThen];exact hK
theorem own_formN{w:World}{base:Nat}{e:TypeId}{m n:Nat}{v:Value}{xs:List Value}(h:w.ownsRow base e m v n xs):∃a c,v=.slice a n c:=by
 rcases h.2 with⟨rfl,h0⟩|⟨g,cap,cur,rfl,_⟩
 ·subst h0;exact⟨_,_,rfl⟩
 ·exact⟨_,_,rfl⟩
theorem Nx.belowFree{τ τ':Own}{o:Nat}{w w':World}(h:Nx τ o w τ' w')(hf:∀k,k<w.heap.size→(τ k).1≠o):Below w.heap.size w w':=⟨h.ch.os,h.ch.tape,h.ch.output,h.ch.size,fun k hk=>h.ch.block k hk (hf k hk)⟩
theorem infoFramesB:(Tryz.prog.info? 110).map (fun i=>(i.zero,i.size,i.bytes))=some (some (.slice none 0 0),1,24):=by kernel_rfl
theorem infoGvP:(Tryz.prog.info? 159).map (fun i=>(i.zero,i.size,i.bytes))=some (some (.pointer none),1,8):=by kernel_rfl
theorem infoTkP:(Tryz.prog.info? 162).map (fun i=>(i.zero,i.size,i.bytes))=some (some (.pointer none),1,8):=by kernel_rfl
theorem madeNil(n:Nat):madeCells #[.slice none 0 0] n=((List.range n).map fun _=>Value.slice none 0 0).toArray:=by unfold madeCells;apply Array.ext';simp[Nat.mod_one]
def RelN0(n:Nat)(w:World)(i:Value)(wr:World):Prop:=∃k:Nat,k≤n∧i=.int .i64 k∧w=wr
def RelN1(τ0:Own)(w0:World)(o b ports m:Nat)(rooms:List Int)(i:Value)(wr:World):Prop:=∃(p:Nat) (τ:Own) (L:BxL),p≤ports∧i=.int .i64 p∧BnM τ0 w0 o b ports m rooms τ wr L p p 0
def RelN2(τ0:Own)(w0:World)(o b ports m p:Nat)(rooms:List Int)(i:Value)(wr:World):Prop:=∃(c:Nat) (τ:Own) (L:BxL),c≤m∧i=.int .i64 c∧BnM τ0 w0 o b ports m rooms τ wr L (p+1) p c
theorem bxnew_any (ports : Nat) (rooms : List Int) (A : Option Addr) (cap : Nat) (τ : Own) (o : Nat) (w : World) (ho : 2 ≤ o) (hfree : ∀ k, k < w.heap.size → (τ k).1 ≠ o) (p0 : 1 ≤ ports) (p1 : ports ≤ 8) (l0 : 1 ≤ rooms.length) (l1 : rooms.length ≤ 8) (hr : ∀ r ∈ rooms, 1 ≤ r ∧ r ≤ 64)
    (hR : IsRec 1 cI 0 w A rooms.length rooms) :
    Calls Tryz.prog 40 #[.int .i64 ports, .slice A rooms.length cap] w (BxNewPost τ o w ports rooms) := by
  have HR := Lib.hid hR
  have HRM := Lib.hid hr
  have HF := Lib.hid hfree
  obtain ⟨rb, ro, ha, hrb, _⟩ := int_at hR 0 (by omega)
  subst ha
  clear hR hr hfree
  obtain ⟨m, hm⟩ : ∃ m, rooms.length = m := ⟨_, rfl⟩
  rw [hm] at HR l0 l1 ⊢
  have HM := Lib.hid hm
  clear hm
  go_enter Tryz.func40, Tryz.ntmps40
  go_wp2_with fail
  go_loopw [7, 36] (fun _ i wr => RelN0 m w i wr) (fun _ i _ => m - (RowKit.intOf i).toNat)
  case atStart => exact ⟨0, Nat.zero_le _, rfl, rfl⟩
  case round =>
    obtain ⟨k, hk, rfl, rfl⟩ := hrel
    by_cases hkm : k < m
    · obtain ⟨b1, o1, ha, hb1, hc⟩ := int_at HR.out k hkm
      injection ha with ha
      injection ha with ha1 ha2 _
      subst ha1 ha2
      have r01 := HRM.out (rooms.getD k 0) (by have := HM.out; have hk2 : k < rooms.length := by omega
                                               simp [List.getD, hk2])
      generalize rooms.getD k 0 = r at hc r01
      have r0 := r01.1
      have r1 := r01.2
      clear r01
      go_wp2_with fail
      exact ⟨⟨k + 1, by omega, by simp, rfl⟩, by simp [RowKit.intOf]; omega⟩
    · obtain rfl : m = k := by omega
      go_wp2_with (first | (go_at_call 84; refine (bnew_any ports _ p0 p1).mono ?_; rintro e w' ⟨rfl, rfl⟩))
      clear hk
      generalize hw1 : World.alloc (World.alloc w _) _ = w1
      obtain ⟨L0, hL0⟩ : ∃ L0 : BxL, L0 = ⟨fun _ => 0, fun _ _ => .slice none 0 0, fun _ => .slice none 0 0, fun _ => .slice none 0 0, fun _ _ => 0, fun _ _ => 0, fun _ _ => 0, fun _ _ => 0, w.heap.size⟩ := ⟨_, rfl⟩
      have S1 : w1.heap.size = w.heap.size + 2 := by rw [← hw1]; simp
      have BM1 : Hid (∃ τ1, BnM τ w o (w.heap.size + 1) ports m rooms τ1 w1 L0 0 0 0) := by
        refine ⟨fun k => if k < w.heap.size then τ k else if k = w.heap.size then (o, 9, 0, 0) else (o, 0, 0, 0), ?_⟩
        have b1 : Below w.heap.size w w1 := by rw [← hw1]; exact ((Below.refl _ _).alloc (Nat.le_refl _) _).alloc (by simp) _
        have l0' : ∀ q, lenB m 0 0 q = 0 := fun q => by unfold lenB; simp
        refine ⟨⟨Ch.of_below b1, fun k hk => if_pos hk, fun k h1 h2 => ?_⟩, ⟨?_, ?_, by omega⟩, ⟨?_, ?_⟩, by rw [hL0], fun q hq => by omega, fun q => ?_, fun q d hd => ?_, fun q => ?_, fun q d hd => ?_, fun q _ => by rw [hL0]; exact ⟨rfl, rfl⟩⟩
        · rw [if_neg (by omega)]; split <;> exact .inl rfl
        · rw [← hw1, bnC_zero ports m L0 (by rw [hL0]) (by rw [hL0]), hL0]
          have := Blk.new (w.alloc (.cells ((barL ⟨[0, 0, 0, 0, 0, 0, 0, 0], [0, 0, 0, 0, 0, 0, 0, 0]⟩ ports).map cNt).toArray 201)) 158 #[.int .i64 ports, .int .i64 m, .slice none 0 0, .slice none 0 0, .slice none 0 0, .slice none 0 0, .slice none 0 0, .slice none 0 0, .slice none 0 0, .slice none 0 0,
            .slice none 0 0, .slice none 0 0, .slice none 0 0, .slice none 0 0, .slice none 0 0, .slice none 0 0, .slice none 0 0, .slice none 0 0, .slice none 0 0, .slice none 0 0, .slice none 0 0, .slice none 0 0, .slice none 0 0, .slice none 0 0, .slice none 0 0, .slice none 0 0,
            .int .i64 0, .int .i64 0, .int .i64 0, .int .i64 0, .int .i64 0, .int .i64 0, .int .i64 0, .int .i64 0, pt w.heap.size, .int .i64 0]
          rw [World.size_alloc] at this
          exact this
        · rw [if_neg (by omega), if_neg (by omega)]
        · rw [hL0, ← hw1]; exact (Blk.new w _ _).alloc _
        · rw [hL0]; simp
        · rw [l0', hL0]; exact ⟨World.ownsRow_nil _ _ _ _, by simp [Value.ownBlock]⟩
        · rw [l0'] at hd; omega
        · rw [l0', hL0]; exact ⟨World.ownsRow_nil _ _ _ _, by simp [Value.ownBlock]⟩
        · rw [l0'] at hd; omega
      clear hw1 hL0 S1
      obtain ⟨τ1, hB1⟩ := BM1.out
      have HB1 := Lib.hid hB1
      clear hB1 BM1
      obtain ⟨b, hb⟩ : ∃ x, w.heap.size + 1 = x := ⟨_, rfl⟩
      rw [hb] at HB1
      rw [hb]
      have Hb := Lib.hid hb
      clear hb
      generalize hbb : w.heap.size = bb0
      have Hbb := Lib.hid hbb
      clear hbb
      obtain ⟨i0, hi0, hz0, hz1, hz2⟩ := info_parts infoFramesB
      have mm := Lib.hid (madeNil m)
      go_loopw [11, 13, 14, 15, 16, 17, 62, 75] (fun _ _ _ _ _ _ i _ wr => RelN1 τ w o b ports m rooms i wr) (fun _ _ _ _ _ _ i _ _ => ports - (RowKit.intOf i).toNat)
      case atStart => exact ⟨0, τ1, L0, Nat.zero_le _, rfl, HB1.out⟩
      case round =>
        obtain ⟨p, τp, L, hp, rfl, hB⟩ := hrel
        have HB := Lib.hid hB
        clear hB
        by_cases hpn : p < ports
        · have p0' : (0 : Int) ≤ (p : Int) := by omega
          have p8' : (p : Int) < 8 := by omega
          have WS : Hid (w.heap.size ≤ wr.heap.size) := HB.out.nx.ch.size
          have Q1 := Lib.hid (HB.out.queues WS.out (by omega) rfl rfl)
          have rb0 := HB.out.root.1.alloc (.cells (((List.range m).map fun _ => Value.slice none 0 0).toArray) 110)
          have cq0 := rb0.cell (2 + p)
          have fq0' := rb0.frozen (2 + p)
          unfold bnC at cq0
          rw [range_arr 36 _ (by omega), show bnV ports m p L (2 + p) = .slice none 0 0 by unfold bnV; rw [if_neg (by omega), if_neg (by omega), if_pos (by omega), if_neg (by omega)]] at cq0
          have ms := Lib.hid (show madeCells (Value.slice none 0 0).cells (m * 1) = ((List.range m).map fun _ => Value.slice none 0 0).toArray by rw [Nat.mul_one]; exact mm.out)
          clear rb0
          go_wp2_with fail
          refine wp_region_L 8 (fun _ => True) (by kernel_rfl) trivial (fun hHeld => ?_)
          refine AnyL.tk 0 hHeld ?_
          try simp only [puts]
          refine AnyL.tk 1 hHeld ?_
          try simp only [puts]
          refine AnyL.tk 2 hHeld ?_
          try simp only [puts]
          refine AnyL.tk 3 hHeld ?_
          try simp only [puts]
          refine AnyL.tk 5 hHeld ?_
          try simp only [puts]
          refine AnyL.tk 6 hHeld ?_
          try simp only [puts]
          refine AnyL.one (i := 4) (by kernel_rfl) rfl (fun K hK => ?_)
          refine step_make_rec (by rfl) (.tmp 68) (.tmp 68) 150 (by rfl) 110 i0 _ 1 Tryz.underlying150 hi0 hz0 hz1 .i64 .i64 _ _ m (by rfl) (by rfl) (by rfl) (by rfl) (by rw [hz2]; omega) (by unfold maxLen; omega) ?_
          rw [ms.out]
          refine hK.out _ _ (fun _ => trivial) (fun hHeld0 => ?_)
          have hHeld := hHeld0 (by decide)
          clear hK hHeld0
          try simp only [puts]
          refine AnyL.tk 7 hHeld ?_
          try simp only [puts]
          refine AnyL.one (i := 8) (by kernel_rfl) rfl (fun K hK => ?_)
          go_simp
          refine hK.out _ _ (fun h => absurd rfl h) (fun _ => ?_)
          clear hK
          refine AnyL.done (by kernel_rfl) ?_ _
          try simp only [puts]
          clear cq0 fq0'
          go_wp2_with fail
          generalize hw5 : World.setCell (World.alloc wr _) _ _ = w5 at *
          clear hw5
          have Q2 : Hid (RelN2 τ w o b ports m p rooms (.int .i64 ((0 : Nat) : Int)) w5.drew) := ⟨0, _, _, Nat.zero_le _, rfl, Q1.out.below ⟨rfl, rfl, rfl, Nat.le_refl _, fun _ _ => rfl⟩⟩
          clear HB Q1 ms
          obtain ⟨wo, rfl⟩ : ∃ wo : World, wo = wr := ⟨_, rfl⟩
          obtain ⟨w5d, hw5d⟩ : ∃ x, w5.drew = x := ⟨_, rfl⟩
          rw [hw5d] at Q2 ⊢
          clear hw5d
          go_loopw [13, 14, 15, 16, 17, 75] (fun _ _ _ _ _ i wr => RelN2 τ w o b ports m p rooms i wr) (fun _ _ _ _ _ i _ => m - (RowKit.intOf i).toNat)
          case atStart => exact Q2.out
          case round =>
            obtain ⟨c, τc, L, hc, rfl, hB⟩ := hrel
            have HB := Lib.hid hB
            clear hB
            by_cases hcm : c < m
            · have BW : Hid (Below w.heap.size w wr) := HB.out.nx.belowFree HF.out
              obtain ⟨b1, o1, ha, hb1, hm1, hcell⟩ := int_at HR.out c hcm
              injection ha with ha
              injection ha with ha1 ha2 _
              subst ha1 ha2
              have r01 := HRM.out _ hm1
              have hcw : wr.cell? ⟨rb, ro + c, none⟩ = some (.int .i64 (rooms.getD c 0)) := (BW.out.cell (p := ⟨rb, ro + c, none⟩) hrb).trans hcell
              clear hb1 hm1 hcell
              obtain ⟨r, hr⟩ : ∃ r, rooms.getD c 0 = r := ⟨_, rfl⟩
              rw [hr] at hcw r01
              have Hr := Lib.hid hr
              clear hr
              obtain ⟨wa, hwa⟩ : ∃ wa : World, wr.alloc (.cells #[.int .i64 r] 3) = wa := ⟨_, rfl⟩
              have SA : Hid (wa.heap.size = wr.heap.size + 1) := by rw [← hwa, Hid]; simp
              have BA : Hid (Below wr.heap.size wr wa) := by rw [← hwa]; exact (Below.refl _ _).alloc (Nat.le_refl _) _
              have GN := Lib.hid (gvnew_any r wr.heap.size 1 wa r01 (by rw [← hwa]; exact (Blk.new wr _ _).cell 0))
              have HWA := Lib.hid hwa
              clear r01 hwa
              go_wp2_with (first
                | (go_at_call 85; rw [HWA.out]; refine GN.out.mono ?_; rintro e w2 ⟨gb, gc, rfl, hg, g0, g1, bg⟩; have HG := Lib.hid hg; have G0 := Lib.hid g0; have G1 := Lib.hid g1; have BG := Lib.hid bg; clear hg g0 g1 bg hcw)
                | (go_at_call 86; refine (tknew_any w2).mono ?_; rintro e w3 ⟨tb, tc, rfl, ht, t0, t1, bt⟩; have HT := Lib.hid ht; have T0 := Lib.hid t0; have T1 := Lib.hid t1; have BT := Lib.hid bt; clear ht t0 t1 bt))
              have K3 : Hid (Below wr.heap.size wr w3) := (BA.out.trans (BG.out.mono BA.out.size)).trans (BT.out.mono (Nat.le_trans BA.out.size BG.out.size))
              have HG3 := Lib.hid (HG.out.ch (Ch.of_below (S := fun _ => False) BT.out) id id)
              have WS2 : Hid (w.heap.size ≤ wr.heap.size) := HB.out.nx.ch.size
              have hrow := (HB.out.g p).1
              rw [show lenB m p c p = c by unfold lenB; simp] at hrow
              have hrowT := (HB.out.t p).1
              rw [show lenB m p c p = c by unfold lenB; simp] at hrowT
              obtain ⟨ga, gk, eG⟩ := own_formN hrow
              obtain ⟨ta, tk, eT⟩ := own_formN hrowT
              have EG := Lib.hid eG
              have ET := Lib.hid eT
              rw [eG] at hrow
              rw [eT] at hrowT
              have OWG : Hid ((w3.alloc (.cells #[.pointer (some ⟨gb, 0, none⟩)] 159)).ownsRow w.heap.size 159 1 (.slice ga c gk) c ((List.range c).map fun d => pt (L.gb p d))) := (own_ch hrow (Ch.of_below (S := fun _ => False) K3.out) (fun _ _ s => s.elim)).alloc _
              have HRT := Lib.hid hrowT
              have RB3 := Lib.hid (HB.out.root.1.below K3.out HB.out.root.1.lt)
              have cgp : Hid (∀ w', Blk w' b 158 (bnC ports m (p + 1) L) → w'.cell? ⟨b, 10 + p, none⟩ = some (.slice ga c gk)) := fun w' hb => by
                rw [hb.cell]
                unfold bnC
                rw [range_arr 36 _ (by omega)]
                unfold bnV
                rw [if_neg (by omega), if_neg (by omega), if_neg (by omega), if_pos (by omega), show 10 + p - 10 = p by omega, EG.out]
              clear hrow hrowT eG eT
              refine wp_region_L 14 (fun w' => w'.cell? ⟨b, 10 + p, none⟩ = some (.slice ga c gk)) (by kernel_rfl) (cgp.out _ RB3.out) (fun hHeld => ?_)
              refine AnyL.tk 0 hHeld ?_
              try simp only [puts]
              refine AnyL.tk 1 hHeld ?_
              try simp only [puts]
              refine AnyL.tk 2 hHeld ?_
              try simp only [puts]
              refine AnyL.tk 3 hHeld ?_
              try simp only [puts]
              refine AnyL.tk 4 hHeld ?_
              try simp only [puts]
              refine AnyL.tk 5 hHeld ?_
              try simp only [puts]
              refine AnyL.tk 6 hHeld ?_
              try simp only [puts]
              refine AnyL.tk 7 hHeld ?_
              try simp only [puts]
              refine AnyL.tk 8 hHeld ?_
              try simp only [puts]
              refine AnyL.tk 11 hHeld ?_
              try simp only [puts]
              refine AnyL.tk 12 hHeld ?_
              try simp only [puts]
              have RA3 : Hid (Blk (w3.alloc (.cells #[.pointer (some ⟨gb, 0, none⟩)] 159)) b 158 (bnC ports m (p + 1) L)) := RB3.out.alloc _
              obtain ⟨j0, hj0, hy0, hy1, hy2⟩ := info_parts infoGvP
              have RN : Hid (Reads (w3.alloc (.cells #[.pointer (some ⟨gb, 0, none⟩)] 159)).drew (w3.heap.size + 1) 1 (some ⟨w3.heap.size, 0, none⟩) 1 [.pointer (some ⟨gb, 0, none⟩)]) := (reads_newN w3 159 [.pointer (some ⟨gb, 0, none⟩)] (n := 1) (size := 1) rfl).drew
              have WS3 : Hid (w.heap.size ≤ w3.heap.size) := by have := WS2.out; have := K3.out.size; rw [Hid]; omega
              refine AnyL.one (i := 9) (by kernel_rfl) rfl (fun K hK => ?_)
              go_simp
              refine hK.out _ _ (fun _ => cgp.out _ RA3.out) (fun hHeld0 => ?_)
              have hHeld := hHeld0 (by decide)
              clear hK hHeld0
              try simp only [puts]
              refine AnyL.one (i := 10) (by kernel_rfl) rfl (fun K hK => ?_)
              refine step_append_any _ (by rfl) (.tmp 102) (.tmp 104) 152 (by rfl) w.heap.size 159 j0 _ 1 8 Tryz.underlying152 hj0 hy0 hy1 hy2 rfl (by decide) _ _ _ (by rfl) (show World.ownsRow ((w3.alloc (.cells #[.pointer (some ⟨gb, 0, none⟩)] 159)).drew) _ _ _ _ _ _ from OWG.out) _ (some ⟨w3.heap.size, 0, none⟩) 1 1 [.pointer (some ⟨gb, 0, none⟩)] (by rfl) RN.out ?_ ?_ ?_ ?_ ?_
              · intro u hu; simp only [List.mem_cons, List.not_mem_nil, or_false] at hu; subst hu; rfl
              · unfold maxLen; omega
              · omega
              · have := WS3.out; simp; omega
              intro v1 wB own1 gr1 loc1
              have gr1' : (w3.alloc (.cells #[.pointer (some ⟨gb, 0, none⟩)] 159)).grownBy wB (L.gr p).ownBlock := by rw [EG.out]; exact ⟨gr1.os, gr1.tape, gr1.output, gr1.size, gr1.block⟩
              have GR1 := Lib.hid gr1'
              have OW1 := Lib.hid own1
              have LC1 : Hid (v1.ownBlock = (L.gr p).ownBlock ∨ v1.ownBlock = some (w3.heap.size + 1)) := by rw [EG.out, Hid]; simpa using loc1
              obtain ⟨P1, P2, P3, P4⟩ := HB.out.push1 (gc := gc) (by omega) K3.out OW1.out GR1.out LC1.out
              have HP1 := Lib.hid P1
              have HP2 := Lib.hid P2
              have HP3 := Lib.hid P3
              obtain ⟨ga1, gk1, e1⟩ := own_formN own1
              have E1 := Lib.hid e1
              have c10 := cgp.out _ HP1.out
              have f10 := HP1.out.frozen (10 + p)
              clear own1 gr1 gr1' loc1 P1 P2 P3 P4
              rw [e1]
              clear e1
              refine hK.out _ _ (fun _ => c10) (fun hHeld0 => ?_)
              have hHeld := hHeld0 (by decide)
              clear hK hHeld0
              try simp only [puts]
              refine AnyL.tk 13 hHeld ?_
              try simp only [puts]
              refine AnyL.one (i := 14) (by kernel_rfl) rfl (fun K hK => ?_)
              go_simp
              refine hK.out _ _ (fun h => absurd rfl h) (fun _ => ?_)
              clear hK
              refine AnyL.done (by kernel_rfl) ?_ _
              try simp only [puts]
              clear c10 f10
              obtain ⟨w4, hw4⟩ : ∃ w4 : World, wB.setCell ⟨b, 10 + p, none⟩ (.slice ga1 (c + 1) gk1) = w4 := ⟨_, rfl⟩
              have HQ2 : Hid (Blk w4 b 158 (bnC ports m (p + 1) (L.pushG p c gb gc v1))) := by rw [← hw4, ← E1.out]; exact HP2.out
              have HQ3 : Hid (w4.ownsRow w.heap.size 162 1 (L.tr p) c ((List.range c).map fun d => pt (L.tb p d))) := by rw [← hw4, ← E1.out]; exact HP3.out
              have HW4 := Lib.hid hw4
              clear HP2 HP3
              clear hw4
              go_wp2_with fail
              rw [HW4.out]
              have ctp : Hid (∀ w', Blk w' b 158 (bnC ports m (p + 1) (L.pushG p c gb gc v1)) → w'.cell? ⟨b, 18 + p, none⟩ = some (.slice ta c tk)) := fun w' hb => by
                rw [hb.cell]
                unfold bnC
                rw [range_arr 36 _ (by omega)]
                unfold bnV
                rw [if_neg (by omega), if_neg (by omega), if_neg (by omega), if_neg (by omega), if_pos (by omega), show 18 + p - 18 = p by omega]
                show some (L.tr p) = _
                rw [ET.out]
              have HP3' : Hid (w4.ownsRow w.heap.size 162 1 (.slice ta c tk) c ((List.range c).map fun d => pt (L.tb p d))) := by rw [← ET.out]; exact HQ3.out
              have OWT : Hid ((w4.alloc (.cells #[.pointer (some ⟨tb, 0, none⟩)] 162)).ownsRow w.heap.size 162 1 (.slice ta c tk) c ((List.range c).map fun d => pt (L.tb p d))) := HP3'.out.alloc _
              have SZ4 : Hid (w4.heap.size = wB.heap.size) := by rw [← HW4.out, Hid]; simp [World.setCell]
              have WS4 : Hid (w.heap.size ≤ w4.heap.size) := by
                have h1 := GR1.out.size; simp at h1
                have := WS3.out; have := SZ4.out; rw [Hid]; omega
              refine wp_region_L 14 (fun w' => w'.cell? ⟨b, 18 + p, none⟩ = some (.slice ta c tk)) (by kernel_rfl) (ctp.out _ HQ2.out) (fun hHeld => ?_)
              refine AnyL.tk 0 hHeld ?_
              try simp only [puts]
              refine AnyL.tk 1 hHeld ?_
              try simp only [puts]
              refine AnyL.tk 2 hHeld ?_
              try simp only [puts]
              refine AnyL.tk 3 hHeld ?_
              try simp only [puts]
              refine AnyL.tk 4 hHeld ?_
              try simp only [puts]
              refine AnyL.tk 5 hHeld ?_
              try simp only [puts]
              refine AnyL.tk 6 hHeld ?_
              try simp only [puts]
              refine AnyL.tk 7 hHeld ?_
              try simp only [puts]
              refine AnyL.tk 8 hHeld ?_
              try simp only [puts]
              refine AnyL.tk 11 hHeld ?_
              try simp only [puts]
              refine AnyL.tk 12 hHeld ?_
              try simp only [puts]
              have RA4 : Hid (Blk (w4.alloc (.cells #[.pointer (some ⟨tb, 0, none⟩)] 162)) b 158 (bnC ports m (p + 1) (L.pushG p c gb gc v1))) := HQ2.out.alloc _
              obtain ⟨k0, hk0, hx0, hx1, hx2⟩ := info_parts infoTkP
              have RNT : Hid (Reads (w4.alloc (.cells #[.pointer (some ⟨tb, 0, none⟩)] 162)).drew (w4.heap.size + 1) 1 (some ⟨w4.heap.size, 0, none⟩) 1 [.pointer (some ⟨tb, 0, none⟩)]) := (reads_newN w4 162 [.pointer (some ⟨tb, 0, none⟩)] (n := 1) (size := 1) rfl).drew
              refine AnyL.one (i := 9) (by kernel_rfl) rfl (fun K hK => ?_)
              go_simp
              refine hK.out _ _ (fun _ => ctp.out _ RA4.out) (fun hHeld0 => ?_)
              have hHeld := hHeld0 (by decide)
              clear hK hHeld0
              try simp only [puts]
              refine AnyL.one (i := 10) (by kernel_rfl) rfl (fun K hK => ?_)
              refine step_append_any _ (by rfl) (.tmp 116) (.tmp 118) 154 (by rfl) w.heap.size 162 k0 _ 1 8 Tryz.underlying154 hk0 hx0 hx1 hx2 rfl (by decide) _ _ _ (by rfl) (show World.ownsRow ((w4.alloc (.cells #[.pointer (some ⟨tb, 0, none⟩)] 162)).drew) _ _ _ _ _ _ from OWT.out) _ (some ⟨w4.heap.size, 0, none⟩) 1 1 [.pointer (some ⟨tb, 0, none⟩)] (by rfl) RNT.out ?_ ?_ ?_ ?_ ?_
              · intro u hu; simp only [List.mem_cons, List.not_mem_nil, or_false] at hu; subst hu; rfl
              · unfold maxLen; omega
              · omega
              · have := WS4.out; simp; omega
              intro v2 wD own2 gr2 loc2
              have gr2' : ((wB.setCell ⟨b, 10 + p, none⟩ v1).alloc (.cells #[.pointer (some ⟨tb, 0, none⟩)] 162)).grownBy wD (L.tr p).ownBlock := by rw [ET.out, E1.out, HW4.out]; exact ⟨gr2.os, gr2.tape, gr2.output, gr2.size, gr2.block⟩
              obtain ⟨P5, τz, P6⟩ := HB.out.push (by omega) WS2.out K3.out (by rw [Hr.out]; exact HG3.out) HT.out (by have := G0.out; have := SA.out; omega) (by have := G1.out; have := SA.out; omega) (by have := T0.out; have := BG.out.size; have := SA.out; omega) (by have := T1.out; have := BG.out.size; have := SA.out; omega)
                OW1.out GR1.out LC1.out own2 gr2' (by rw [ET.out]; rw [E1.out, HW4.out]; simpa using loc2)
              have HP5 := Lib.hid P5
              have HP6 := Lib.hid P6
              obtain ⟨ta2, tk2, e2⟩ := own_formN own2
              have E2 := Lib.hid e2
              have c18 := ctp.out _ HP5.out
              have f18 := HP5.out.frozen (18 + p)
              clear own2 gr2 gr2' loc2 P5 P6
              rw [e2]
              clear e2
              refine hK.out _ _ (fun _ => c18) (fun hHeld0 => ?_)
              have hHeld := hHeld0 (by decide)
              clear hK hHeld0
              try simp only [puts]
              refine AnyL.tk 13 hHeld ?_
              try simp only [puts]
              refine AnyL.one (i := 14) (by kernel_rfl) rfl (fun K hK => ?_)
              go_simp
              refine hK.out _ _ (fun h => absurd rfl h) (fun _ => ?_)
              clear hK
              refine AnyL.done (by kernel_rfl) ?_ _
              try simp only [puts]
              clear c18 f18
              have FIN : Hid (RelN2 τ w o b ports m p rooms (.int .i64 ((c : Int) + 1)) (wD.setCell ⟨b, 18 + p, none⟩ (.slice ta2 (c + 1) tk2))) := ⟨c + 1, _, _, by omega, by simp, by rw [← E2.out]; exact HP6.out⟩
              go_wp2_with fail
              exact ⟨FIN.out, by simp [RowKit.intOf]; omega⟩
            · obtain rfl : m = c := by omega
              have FIN : Hid (RelN1 τ w o b ports m rooms (.int .i64 ((p : Int) + 1)) wr) := ⟨p + 1, _, _, by omega, by simp, HB.out.next l0⟩
              go_wp2_with fail
              exact ⟨FIN.out, by simp [RowKit.intOf]; omega⟩
        · obtain rfl : ports = p := by omega
          have FIN : Hid (BxNewPost τ o w ports rooms (.returned (.tuple #[.pointer (some ⟨b, 0, none⟩), .int .i64 0])) wr) :=
            ⟨b, τp, L, rfl, HB.out.box p1 HM.out.symm l0, HB.out.nx, HB.out.root.2.2⟩
          go_wp2_with fail
          go_ret2
          exact FIN.out
end Go.Proofs.YtnjjkgjdhljfnaaGreat
