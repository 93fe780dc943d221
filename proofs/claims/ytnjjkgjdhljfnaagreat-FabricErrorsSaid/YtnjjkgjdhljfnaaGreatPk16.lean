/- Part 16 of the proof of fabricErrors.proved: FbPa FbPb. Several texts in one, blanks struck, what is not used left out. -/
import Derived.Test.YtnjjkgjdhljfnaaGreatPk6
import Derived.Test.YtnjjkgjdhljfnaaGreatPk7
import Derived.Test.YtnjjkgjdhljfnaaGreatPk15
set_option maxRecDepth 100000
set_option maxHeartbeats 16000000
set_option linter.unusedVariables false
set_option linter.unusedSimpArgs false
namespace Go.Proofs.YtnjjkgjdhljfnaaGreat
open Go.RowKit Go.Maps
attribute [local go_sem ↓] Go.wp_at_zero Go.wp_at_succ
section
variable{n r r':Nat}{cs:List Cb}{us:List Bool}{l l':List Int}
theorem LvU.root0(h:LvU n cs us r l){j:Nat}(hj:j<n)(h0:l.getD j 0=0):j=r:=by
 by_cases e:j=r
 ·exact e
 ·rcases h.lv.pos j hj e with q|q<;>omega
theorem LvU.reach(h:LvU n cs us r l)(h':LvU n cs us r' l')(hr:0≤l.getD r' 0):∀(d j:Nat),j<n→l'.getD j 0=d→0≤l.getD j 0
 |0,j,hj,hd=>by rw[h'.root0 hj (by omega)];exact hr
 |d+1,j,hj,hd=>by obtain⟨i,k,a1,a2,a3,a4,a5⟩:=h'.led j hj (by omega);exact h.clo k a3 (LvU.reach h h' hr d k a3 (by omega)) i j a1 a2 (touch_symm a4)
theorem LvU.back(h:LvU n cs us r l)(h':LvU n cs us r' l'):∀(d j:Nat),j<n→l.getD j 0=d→0≤l'.getD j 0→0≤l'.getD r 0
 |0,j,hj,hd,hp=>by rw[←h.root0 hj (by omega)];exact hp
 |d+1,j,hj,hd,hp=>by obtain⟨i,k,a1,a2,a3,a4,a5⟩:=h.led j hj (by omega);exact LvU.back h h' d k a3 (by omega) (h'.clo j hj hp i k a1 a2 a4)
theorem LvU.same(h:LvU n cs us r l)(h':LvU n cs us r' l'){j:Nat}(hj:j<n)(h0:0≤l.getD j 0)(h1:0≤l'.getD j 0){i:Nat}(hi:i<n):0≤l.getD i 0↔0≤l'.getD i 0:=by have b1:=LvU.back h h' (l.getD j 0).toNat j hj (by omega) h1;have b2:=LvU.back h' h (l'.getD j 0).toNat j hj (by omega) h0;exact⟨fun q=>LvU.reach h' h b1 (l.getD i 0).toNat i hi (by omega),fun q=>LvU.reach h h' b2 (l'.getD i 0).toNat i hi (by omega)⟩
end
def fltL(l:List Int)(j:Nat):List Nat:=(List.range j).filter fun i=>decide (0≤l.getD i 0)
theorem fltL_mem{l:List Int}{n j:Nat}:j∈fltL l n↔j<n∧0≤l.getD j 0:=by unfold fltL;rw[List.mem_filter,List.mem_range,decide_eq_true_eq]
theorem fltL_succ(l:List Int)(j:Nat):fltL l (j+1)=fltL l j++(if 0≤l.getD j 0 then[j]else[]):=by
 unfold fltL;rw[List.range_succ,List.filter_append];congr 1;by_cases h:0≤l.getD j 0
 ·rw[if_pos h];simp only[List.filter_cons,decide_eq_true h,if_true,List.filter_nil]
 ·rw[if_neg h];simp only[List.filter_cons,decide_eq_false h,Bool.false_eq_true,if_false,List.filter_nil]
theorem fltL_len(l:List Int)(j:Nat):(fltL l j).length≤j:=by unfold fltL;have:=List.length_filter_le (fun i=>decide (0≤l.getD i 0)) (List.range j);simpa using this
structure PaI(n:Nat)(cs:List Cb)(us:List Bool)(k:Nat)(sn:Nat→Bool)(PS:List (List Nat)):Prop where
 ok:∀P∈PS,∃r l,LvU n cs us r l∧P=fltL l n
 seen:∀j,j<n→(sn j=true↔∃P∈PS,j∈P)
 all:∀j,j<k→sn j=true
 dis:PS.Pairwise fun P Q=>∀j,j∈P→j∉Q
 len:PS.length≤k
section
variable{n k:Nat}{cs:List Cb}{us:List Bool}{sn:Nat→Bool}{PS:List (List Nat)}{l:List Int}
theorem PaI.start(n:Nat)(cs:List Cb)(us:List Bool):PaI n cs us 0 (fun _=>false) []:=
 ⟨fun P h=>by(cases h),fun j hj=>by simp,fun j hj=>by omega,List.Pairwise.nil,Nat.le_refl _⟩
theorem PaI.skip(h:PaI n cs us k sn PS)(hs:sn k=true):PaI n cs us (k+1) sn PS:=
 ⟨h.ok,h.seen,fun j hj=>(by
  by_cases e:j=k
  ·rw[e];exact hs
  ·exact h.all j (by omega)),h.dis,by have:=h.len;omega⟩
theorem PaI.push(h:PaI n cs us k sn PS)(hk:k<n)(hs:sn k=false)(hl:LvU n cs us k l):PaI n cs us (k+1) (fun j=>sn j||(decide (j<n)&&decide (0≤l.getD j 0))) (PS++[fltL l n]) where
 ok:=fun P hP=>by
  rcases List.mem_append.1 hP with q|q
  ·exact h.ok P q
  ·rw[List.mem_singleton]at q;exact⟨k,l,hl,q⟩
 seen:=fun j hj=>by
  rw[Bool.or_eq_true,h.seen j hj,decide_eq_true hj,Bool.true_and,decide_eq_true_eq];constructor
  ·rintro(⟨P,q1,q2⟩|q)
   ·exact⟨P,List.mem_append_left _ q1,q2⟩
   ·exact⟨fltL l n,by simp,fltL_mem.2 ⟨hj,q⟩⟩
  ·rintro⟨P,q1,q2⟩;rcases List.mem_append.1 q1 with q|q
   ·exact .inl ⟨P,q,q2⟩
   ·rw[List.mem_singleton]at q;subst q;exact .inr (fltL_mem.1 q2).2
 all:=fun j hj=>by
  by_cases e:j=k
  ·subst e;rw[Bool.or_eq_true];right;rw[decide_eq_true hk,decide_eq_true (by rw[hl.lv.zero];exact Int.le_refl _)];rfl
  ·rw[h.all j (by omega)];rfl
 dis:=by rw[List.pairwise_append];refine⟨h.dis,List.pairwise_singleton _ _,fun P hP Q hQ j hj hq=>?_⟩;rw[List.mem_singleton]at hQ;subst hQ;obtain⟨r,l',hr,rfl⟩:=h.ok P hP;have m1:=fltL_mem.1 hj;have m2:=fltL_mem.1 hq;have:=(hr.same hl m1.1 m1.2 m2.2 hk).2 (by rw[hl.lv.zero];exact Int.le_refl _);have:=(h.seen k hk).2 ⟨_,hP,fltL_mem.2 ⟨hk,this⟩⟩;rw[hs]at this;cases this
 len:=by rw[List.length_append];have:=h.len;simp only[List.length_cons,List.length_nil];omega
end
def cN1(j:Nat):Value:=.int .i64 (j:Int)
def PaM(base:Nat)(w:World)(v:Value)(PS:List (List Nat)):Prop:=
 ∃V:Nat→Value,w.ownsRow base 26 1 v PS.length ((List.range PS.length).map V)∧∀i,i<PS.length→w.ownsRow base 3 1 (V i) (PS.getD i []).length ((PS.getD i []).map cN1)
theorem PaM.ch{S:Nat→Prop}{base:Nat}{w w':World}{v:Value}{PS:List (List Nat)}(h:PaM base w v PS)(hc:Ch S w w')(hS:∀g,S g→∃t C,Blk w g t C∧t≠26∧t≠3):PaM base w' v PS:=by
 obtain⟨V,h1,h2⟩:=h;refine⟨V,own_ch h1 hc fun g hg s=>?_,fun i hi=>own_ch (h2 i hi) hc fun g hg s=>?_⟩
 ·obtain⟨t,C,hb,n1,_⟩:=hS g s;obtain⟨C',hb'⟩:=own_blk h1 g hg;exact n1 (Blk.same hb hb').1
 ·obtain⟨t,C,hb,_,n2⟩:=hS g s;obtain⟨C',hb'⟩:=own_blk (h2 i hi) g hg;exact n2 (Blk.same hb hb').1
theorem PaM.below{base:Nat}{w w':World}{v:Value}{PS:List (List Nat)}(h:PaM base w v PS)(hb:Below w.heap.size w w'):PaM base w' v PS:=h.ch (S:=fun _=>False) (Ch.of_below hb) fun _ s=>s.elim
theorem PaM.nil(base:Nat)(w:World):PaM base w (.slice none 0 0) []:=⟨fun _=>.slice none 0 0,World.ownsRow_nil w base _ _,fun i hi=>by simp at hi⟩
def arrB(n:Nat)(f:Nat→Bool):Array Value:=((List.range n).map fun i=>Value.bool (f i)).toArray
theorem arrB_get(n:Nat)(f:Nat→Bool){i:Nat}(h:i<n):(arrB n f)[i]?=some (.bool (f i)):=by simp[arrB,h]
theorem arrB_set(n:Nat)(f:Nat→Bool)(i:Nat)(x:Bool):(arrB n f).setIfInBounds i (.bool x)=arrB n (fun j=>if j=i then x else f j):=by
 unfold arrB;rw[List.setIfInBounds_toArray];congr 1;apply List.ext_getElem (by simp);intro j h1 h2;rw[List.getElem_set];simp only[List.getElem_map,List.getElem_range];by_cases e:i=j
 ·subst e;simp
 ·rw[if_neg e,if_neg (Ne.symm e)]
def RelPa1(n:Nat)(cs:List Cb)(us:List Bool)(w:World)(bP:Nat)(pv:Array Value)(gs:Nat)(v5 i:Value)(wr:World):Prop:=
 ∃k sn PS,k≤n∧i=.int .i64 (k:Nat)∧PaI n cs us k sn PS∧PaM w.heap.size wr v5 PS∧Blk wr gs 4 (arrB n sn)∧Blk wr bP 25 pv∧Below w.heap.size w wr
def RelPa2(n:Nat)(l:List Int)(sn:Nat→Bool)(gs:Nat)(w2:World)(v8 i:Value)(wr:World):Prop:=
 ∃j,j≤n∧i=.int .i64 (j:Nat)∧Blk wr gs 4 (arrB n fun i=>sn i||(decide (i<j)&&decide (0≤l.getD i 0)))∧wr.ownsRow w2.heap.size 3 1 v8 (fltL l j).length ((fltL l j).map cN1)∧Ch (fun i=>i=gs) w2 wr
def PartsPost(n:Nat)(cs:List Cb)(us:List Bool)(w:World)(e:Ending)(w':World):Prop:=
 ∃v sn PS,e=.returned v∧PaI n cs us n sn PS∧PaM w.heap.size w' v PS∧Below w.heap.size w w'
theorem PaM.push{base:Nat}{w w':World}{v v' v8:Value}{PS:List (List Nat)}{P:List Nat}{V:Nat→Value}{o:Obj}(h2:∀i,i<PS.length→w.ownsRow base 3 1 (V i) (PS.getD i []).length ((PS.getD i []).map cN1))(hp:w.ownsRow base 3 1 v8 P.length (P.map cN1))(h1:w.ownsRow base 26 1 v PS.length ((List.range PS.length).map V))(gr:(w.alloc o).grownBy w' v.ownBlock)(own:w'.ownsRow base 26 1 v' (PS.length+1) ((List.range PS.length).map V++[v8])):PaM base w' v' (PS++[P]):=by
 have hc:Ch (fun k=>v.ownBlock=some k) w w':=((Ch.refl _ w).alloc o).grown gr fun g e=>.inl e;have keep:∀{u:Value} {m:Nat} {xs:List Value},w.ownsRow base 3 1 u m xs→w'.ownsRow base 3 1 u m xs:=fun{u m xs} hu=>own_ch hu hc fun g hg s=>by obtain⟨C,hb⟩:=own_blk hu g hg;obtain⟨C',hb'⟩:=own_blk h1 g s;exact Blk.ne_ hb hb' (by decide) rfl
 refine⟨fun i=>if i=PS.length then v8 else V i,?_,fun i hi=>?_⟩
 ·rw[List.length_append,List.length_singleton,List.range_succ,List.map_append];have e:(List.range PS.length).map (fun i=>if i=PS.length then v8 else V i)=(List.range PS.length).map V:=List.map_congr_left fun i hi=>by
   rw[if_neg (by have:=List.mem_range.1 hi;omega)]
  rw[e];simpa using own
 ·simp only;by_cases e:i=PS.length
  ·subst e;have e2:(PS++[P]).getD PS.length []=P:=by simp[List.getD]
   rw[if_pos rfl,e2];exact keep hp
  ·rw[List.length_append,List.length_singleton]at hi;have hi':i<PS.length:=by omega
   have e2:(PS++[P]).getD i []=PS.getD i []:=(by simp[List.getD,List.getElem?_append_left hi']);rw[if_neg e,e2];exact keep (h2 i hi')
theorem infoIntsPa:(Tryz.prog.info? 26).map (fun i=>(i.zero,i.size,i.bytes))=some (some (.slice none 0 0),1,24):=by kernel_rfl
theorem parts_any(ns:List Nd)(cs:List Cb)(us:List Bool)(An Ac Au:Option Addr)(cn cc cu:Nat)(w:World)(hv:validP ⟨ns,cs⟩=0)(hul:us.length=cs.length)(hwf:WfP ⟨ns,cs⟩)(h:IsPlan w An Ac ⟨ns,cs⟩)(h2:IsRec 1 cB false w Au us.length us):Calls Tryz.prog 77 #[.agg #[.slice An ns.length cn,.slice Ac cs.length cc],.slice Au us.length cu] w (PartsPost ns.length cs us w):=by
 obtain⟨n16,c32⟩:=valid_sizes hv;obtain⟨w1,hw1⟩:∃w1:World,w.alloc (.cells #[.slice An ns.length cn,.slice Ac cs.length cc] 25)=w1:=⟨_,rfl⟩;have BW:Hid (Below w.heap.size w w1):=by rw[←hw1];exact(Below.refl _ _).alloc (Nat.le_refl _) _
 have BP:Hid (Blk w1 w.heap.size 25 #[.slice An ns.length cn,.slice Ac cs.length cc]):=by rw[←hw1];exact Blk.new w _ _
 have US:=Lib.hid (usable_any ⟨ns,cs⟩ An Ac Au cn cc cu us.length w1 (by show ns.length≤_;omega) (by show cs.length≤_;omega) (by omega) hwf (h.below (Nat.le_refl _) BW.out));have HT:usableB ⟨ns,cs⟩ us.length=true:=by unfold usableB;rw[decide_eq_true hv,decide_eq_true hul];rfl
 rw[HT]at US;simp only at US;have s0:w1.cell? ⟨w.heap.size,0,none⟩=some (.slice An ns.length cn):=BP.out.cell 0;have s1:w1.cell? ⟨w.heap.size,1,none⟩=some (.slice Ac cs.length cc):=BP.out.cell 1;have HV:=Lib.hid hv;have HP:=Lib.hid h;have HU:Hid (IsRec 1 cB false w Au cs.length us):=by rw[Hid,←hul];exact h2
 have HUL:=Lib.hid hul;clear hv hul hwf h h2 HT;obtain⟨j0,hj0,hy0,hy1,hy2⟩:=info_parts infoBool;obtain⟨o4,ho4⟩:∃o4,Obj.cells (madeCells #[.bool false] ns.length) 4=o4:=⟨_,rfl⟩;have HO4:=Lib.hid ho4;clear ho4;generalize us.length=ul at *
 go_enter Tryz.func77,Tryz.ntmps77
 go_wp2_with fail
 refine US.out.mono ?_;rintro e w2 ⟨rfl,bel⟩;have c0:=(bel.cell (p:=⟨w.heap.size,0,none⟩) BP.out.lt).trans s0;have c1:=(bel.cell (p:=⟨w.heap.size,1,none⟩) BP.out.lt).trans s1;have l2:w.heap.size<w2.heap.size:=Nat.lt_of_lt_of_le BP.out.lt bel.size;have BE:=Lib.hid bel;clear bel s0 s1
 go_wp2_with (at_make;refine wpList_make_rec _ rfl _ _ 52 rfl 4 j0 _ 1 Tryz.underlying52 hj0 hy0 hy1 .i64 .i64 _ _ ns.length rfl rfl ?m1 ?m2 (by rw[hy2];omega) (by unfold maxLen;omega) ?_)
 case m1=>rfl
 case m2=>rfl
 rw[HO4.out];obtain⟨w3,hw3⟩:∃w3:World,w2.alloc o4=w3:=⟨_,rfl⟩;have B3:Hid (Below w2.heap.size w2 w3):=by rw[←hw3];exact(Below.refl _ _).alloc (Nat.le_refl _) _
 have BW3:Hid (Below w.heap.size w w3):=(BW.out.trans (BE.out.mono BW.out.size)).trans (B3.out.mono (Nat.le_trans BW.out.size BE.out.size));have GS:Hid (Blk w3 w2.heap.size 4 (arrB ns.length fun _=>false)):=by
  rw[←hw3,←HO4.out];have e:arrB ns.length (fun _=>false)=madeCells #[.bool false] ns.length:=by
   apply Array.ext
   ·simp[arrB,size_madeCells]
   ·intro i h1 h2;simp[arrB,madeCells,Nat.mod_one]
  rw[e];exact Blk.new w2 _ _
 have BP3:Hid (Blk w3 w.heap.size 25 #[.slice An ns.length cn,.slice Ac cs.length cc]):=(BP.out.below BE.out BP.out.lt).below B3.out (Nat.lt_of_lt_of_le BP.out.lt BE.out.size);have c0:w3.cell? ⟨w.heap.size,0,none⟩=some (.slice An ns.length cn):=BP3.out.cell 0;have c1:w3.cell? ⟨w.heap.size,1,none⟩=some (.slice Ac cs.length cc):=BP3.out.cell 1;have LG:Hid (w.heap.size≤w2.heap.size):=Nat.le_trans BW.out.size BE.out.size;have ST:Hid (RelPa1 ns.length cs us w w.heap.size #[.slice An ns.length cn,.slice Ac cs.length cc] w2.heap.size (.slice none 0 0) (.int .i64 0) w3):=⟨0,fun _=>false,[],Nat.zero_le _,rfl,PaI.start _ _ _,PaM.nil _ _,GS.out,BP3.out,BW3.out⟩;clear hw1;rw[hw3];clear hw3
 go_wp2_with fail
 clear US c0 c1 hj0 hy0 hy1 hy2 B3 BE l2;generalize w2.heap.size=gs at *
 go_loopw [5,7,8,9,10,22,34] (fun v5 _ _ _ _ i _ wr=>RelPa1 ns.length cs us w w.heap.size #[.slice An ns.length cn,.slice Ac cs.length cc] gs v5 i wr) (fun _ _ _ _ _ i _ _=>ns.length-(RowKit.intOf i).toNat)
 case atStart=>exact ST.out
 case round=>
  clear ST;obtain⟨k,sn,PS,hk,rfl,hI,hM,hG,hP,hB⟩:=hrel;have IH:=Lib.hid hI;have MH:=Lib.hid hM;have GH:=Lib.hid hG;have PH:=Lib.hid hP;have BH:=Lib.hid hB;have c0:wr.cell? ⟨w.heap.size,0,none⟩=some (.slice An ns.length cn):=hP.cell 0;have c1:wr.cell? ⟨w.heap.size,1,none⟩=some (.slice Ac cs.length cc):=hP.cell 1;by_cases hkn:k<ns.length
  ·have gk:wr.cell? ⟨gs,k,none⟩=some (.bool (sn k)):=by rw[hG.cell];exact arrB_get _ _ hkn
   have k0:(0:Int)≤(k:Int):=(by omega);have k1:(k:Int)<(ns.length:Int):=(by omega);clear hI hM hG hP hB;cases hs:sn k with
   |true=>
    rw[hs]at gk;have R:Hid (RelPa1 ns.length cs us w w.heap.size #[.slice An ns.length cn,.slice Ac cs.length cc] gs u5 (.int .i64 ((k:Int)+1)) wr):=⟨k+1,sn,PS,by omega,by congr 1,IH.out.skip hs,MH.out,GH.out,PH.out,BH.out⟩
    go_wp2_with fail
    exact⟨R.out,by simp[RowKit.intOf];omega⟩
   |false=>
    rw[hs]at gk;have HS:=Lib.hid hs;have DA:Hid (Calls Tryz.prog 79 #[.agg #[.slice An ns.length cn,.slice Ac cs.length cc],.int .i64 (k:Int),.slice Au ul cu] wr fun e w'=>∃l,LvU ns.length cs us k l∧IntsPost l wr e w'):=by rw[Hid,HUL.out];exact dist_anyU ns cs us k An Ac Au cn cc cu wr HV.out hkn (HP.out.below (Nat.le_refl _) BH.out) (HU.out.below (Nat.le_refl _) BH.out)
    go_wp2_with fail
    refine DA.out.mono ?_;rintro e w4 ⟨l,hl,v,rfl,own4,bel4⟩;have ll:=hl.lv.len;obtain⟨aL,cL,eL⟩:=own_formN own4;subst eL;have LV:=Lib.hid hl;have OW:=Lib.hid own4;have B4:=Lib.hid bel4;have LLH:=Lib.hid ll;have G4:Hid (Blk w4 gs 4 (arrB ns.length sn)):=GH.out.below bel4 GH.out.lt;have M4:=Lib.hid (MH.out.below bel4);have P4:Hid (Blk w4 w.heap.size 25 #[.slice An ns.length cn,.slice Ac cs.length cc]):=PH.out.below bel4 PH.out.lt;have BB4:Hid (Below w.heap.size w w4):=BH.out.trans (bel4.mono BH.out.size);have ST2:Hid (RelPa2 ns.length l sn gs w4 (.slice none 0 0) (.int .i64 0) w4):=⟨0,Nat.zero_le _,rfl,by have e:(fun i=>sn i||(decide (i<0)&&decide (0≤l.getD i 0)))=sn:=(by funext i;simp);rw[e];exact G4.out,World.ownsRow_nil w4 _ _ _,Ch.refl _ _⟩;have KL:Hid (∀wq,Ch (fun i=>i=gs) w4 wq→∀j,j<ns.length→∃g,aL=some ⟨g,0,none⟩∧wq.cell? ⟨g,j,none⟩=some (.int .i64 (l.getD j 0))):=fun wq hc j hj=>(by obtain⟨g,cap,e1,_,hlt,ho,hcell⟩:=own_cellG (d:=(0:Int)) (c:=cI) (m:=1) (fun _=>rfl) OW.out rfl (i:=j) (by rw[LLH.out];exact hj);injection e1 with e1;refine⟨g,e1,?_⟩;have h1:=hcell j (by rw[LLH.out];exact hj) 0 (by omega);have ng:¬g=gs:=fun e=>(by obtain⟨C',hb'⟩:=own_blk OW.out g ho;rw[e]at hb';exact Blk.ne_ G4.out hb' (by decide) rfl);rw[hc.cell (p:=⟨g,j,none⟩) hlt ng];simpa[cI]using h1);rw[ll];clear hl own4 bel4 ll DA gk c0 c1
    go_wp2_with fail
    go_loopw [8,9,10,34] (fun v8 _ _ i wq=>RelPa2 ns.length l sn gs w4 v8 i wq) (fun _ _ _ i _=>ns.length-(RowKit.intOf i).toNat)
    case atStart=>exact ST2.out
    case round=>
     clear ST2;obtain⟨j,hj,rfl,hG2,hO2,hC2⟩:=hrel;have G2:=Lib.hid hG2;have O2:=Lib.hid hO2;have C2:=Lib.hid hC2;by_cases hjn:j<ns.length
     ·obtain⟨gl,eL,cl⟩:=KL.out wr hC2 j hjn;subst eL;have j0':(0:Int)≤(j:Int):=(by omega);have j1:(j:Int)<(ns.length:Int):=(by omega);have FS:=fltL_succ l j;have flen:=fltL_len l j;clear hG2 hO2 hC2;by_cases hp:0≤l.getD j 0
      ·rw[if_pos hp]at FS;have FSH:=Lib.hid FS;have HPj:=Lib.hid hp;obtain⟨lj,hlj⟩:∃lj,l.getD j 0=lj:=⟨_,rfl⟩;rw[hlj]at cl hp;obtain⟨aR,cR,eR⟩:=own_formN O2.out;subst eR;obtain⟨i0,hi0,hz0,hz1,hz2⟩:=info_parts infoInt;have gj:wr.frozen? ⟨gs,j,none⟩=false:=G2.out.frozen j;have gjc:wr.cell? ⟨gs,j,none⟩=some (.bool (sn j||(decide (j<j)&&decide (0≤l.getD j 0)))):=(by rw[G2.out.cell];exact arrB_get _ _ hjn);have FIN:Hid (∀v' w',w'.ownsRow w4.heap.size 3 1 v' ((fltL l j).length+1) ((fltL l j).map cN1++[.int .i64 (j:Int)])→(wr.alloc (.cells #[.int .i64 (j:Int)] 3)).grownBy w' (Value.slice aR (fltL l j).length cR).ownBlock→(v'.ownBlock=(Value.slice aR (fltL l j).length cR).ownBlock∨v'.ownBlock=some (wr.heap.size+1))→
        Blk w' gs 4 (arrB ns.length fun i=>sn i||(decide (i<j)&&decide (0≤l.getD i 0)))∧RelPa2 ns.length l sn gs w4 v' (.int .i64 ((j:Int)+1)) (w'.setCell ⟨gs,j,none⟩ (.bool true))):=fun v' w' ho hg hl=>by
        have hb:=own_blk O2.out;have nb:∀g,(Value.slice aR (fltL l j).length cR).ownBlock=some g→¬gs=g:=fun g e e2=>(by obtain⟨C',hb'⟩:=hb g e;subst e2;exact Blk.ne_ G2.out hb' (by decide) rfl);have hc:Ch (fun k=>(Value.slice aR (fltL l j).length cR).ownBlock=some k) wr w':=((Ch.refl _ wr).alloc _).grown hg fun g e=>.inl e;have g':Blk w' gs 4 (arrB ns.length fun i=>sn i||(decide (i<j)&&decide (0≤l.getD i 0))):=Blk.ch (S:=fun k=>(Value.slice aR (fltL l j).length cR).ownBlock=some k) G2.out hc fun e=>nb _ e rfl;refine⟨g',j+1,by omega,by congr 1,?_,?_,?_⟩
        ·have h1:=g'.set_ j (.bool true);rw[arrB_set]at h1;have e:(fun i=>if i=j then true else sn i||(decide (i<j)&&decide (0≤l.getD i 0)))=fun i=>sn i||(decide (i<j+1)&&decide (0≤l.getD i 0)):=by
          funext i;by_cases e:i=j
          ·subst e;rw[if_pos rfl,decide_eq_true (Nat.lt_succ_self i),decide_eq_true HPj.out];simp
          ·rw[if_neg e,show decide (i<j+1)=decide (i<j) by rw[Bool.eq_iff_iff,decide_eq_true_eq,decide_eq_true_eq];omega]
         rw[e]at h1;exact h1
        ·rw[FSH.out,List.length_append,List.length_singleton,List.map_append];refine own_set ho (p:=⟨gs,j,none⟩) _ fun g hg' e=>?_;obtain⟨C',hb'⟩:=own_blk ho g hg';subst e;exact Blk.ne_ g' hb' (by decide) rfl
        ·refine Ch.setCell (p:=⟨gs,j,none⟩) (C2.out.trans hc fun i hi s=>?_) (.inl rfl) _;have:=(O2.out.lt i s).1;omega
       have hd:decide ((0:Int)≤lj)=true:=decide_eq_true hp;clear hlj FS gj gjc
       go_wp2_with (at_builtin;refine wpList_append_any _ rfl (.tmp 41) (.tmp 43) 26 rfl w4.heap.size 3 i0 _ 1 8 Tryz.underlying26 hi0 hz0 hz1 hz2 rfl (by decide) _ _ _ rfl (O2.out.alloc _) (wr.heap.size+1) (some ⟨wr.heap.size,0,none⟩) 1 1 [.int .i64 (j:Int)] rfl (reads_newN wr 3 [.int .i64 (j:Int)] (n:=1) (size:=1) rfl) ?m3pa ?m4pa ?m5pa ?m6pa ?_)
       case m3pa=>intro u hu;simp only[List.mem_cons,List.not_mem_nil,or_false]at hu;subst hu;rfl
       case m4pa=>unfold maxLen;omega
       case m5pa=>omega
       case m6pa=>have:=C2.out.size;simp;omega
       intro v' w' own' gr' loc';obtain⟨g',R0⟩:=FIN.out v' w' own' gr' (by simpa using loc');have R:=Lib.hid R0;have fz:w'.frozen? ⟨gs,j,none⟩=false:=g'.frozen j;have fc:w'.cell? ⟨gs,j,none⟩=some (.bool (sn j||(decide (j<j)&&decide (0≤l.getD j 0)))):=by rw[g'.cell];exact arrB_get _ _ hjn
       clear own' gr' loc' g' R0 FIN
       go_wp2_with fail
       exact⟨R.out,by simp[RowKit.intOf];omega⟩
      ·rw[if_neg hp,List.append_nil]at FS;have R:Hid (RelPa2 ns.length l sn gs w4 u8 (.int .i64 ((j:Int)+1)) wr):=⟨j+1,by omega,by congr 1,by
        have e:(fun i=>sn i||(decide (i<j+1)&&decide (0≤l.getD i 0)))=fun i=>sn i||(decide (i<j)&&decide (0≤l.getD i 0)):=by
         funext i;by_cases e:i=j
         ·subst e;rw[decide_eq_false hp];simp
         ·rw[show decide (i<j+1)=decide (i<j) by rw[Bool.eq_iff_iff,decide_eq_true_eq,decide_eq_true_eq];omega]
        rw[e];exact G2.out,by rw[FS];exact O2.out,C2.out⟩
       clear FS;generalize l.getD j 0=lj at *;have hd:decide ((0:Int)≤lj)=false:=decide_eq_false hp
       go_wp2_with fail
       exact⟨R.out,by simp[RowKit.intOf];omega⟩
     ·obtain rfl:ns.length=j:=by omega
      obtain⟨V,h1,h2⟩:=M4.out.ch hC2 (fun g e=>⟨4,arrB ns.length sn,by have e:g=gs:=e;subst e;exact G4.out,by decide,by decide⟩);obtain⟨a5,c5,e5⟩:=own_formN h1;subst e5;obtain⟨a8,c8,e8⟩:=own_formN hO2;subst e8;have H1:=Lib.hid h1;have H2:=Lib.hid h2;obtain⟨i0,hi0,hz0,hz1,hz2⟩:=info_parts infoIntsPa;have PL:=IH.out.len;have FIN:Hid (∀v' w',w'.ownsRow w.heap.size 26 1 v' (PS.length+1) ((List.range PS.length).map V++[.slice a8 (fltL l ns.length).length c8])→(wr.alloc (.cells #[.slice a8 (fltL l ns.length).length c8] 26)).grownBy w' (Value.slice a5 PS.length c5).ownBlock→RelPa1 ns.length cs us w w.heap.size #[.slice An ns.length cn,.slice Ac cs.length cc] gs v' (.int .i64 ((k:Int)+1)) w'):=fun v' w' ho hg=>by
       have bl5:=own_blk H1.out;have hc:Ch (fun k=>(Value.slice a5 PS.length c5).ownBlock=some k) wr w':=((Ch.refl _ wr).alloc _).grown hg fun g e=>.inl e;have P4':Blk wr w.heap.size 25 #[.slice An ns.length cn,.slice Ac cs.length cc]:=Blk.ch (S:=fun i=>i=gs) P4.out C2.out fun e=>(by rw[e]at P4;exact Blk.ne_ P4.out G4.out (by decide) rfl);have BR:Below w.heap.size w w':=(by have b1:Below w.heap.size w wr:=⟨C2.out.os.trans BB4.out.os,C2.out.tape.trans BB4.out.tape,C2.out.output.trans BB4.out.output,Nat.le_trans BB4.out.size C2.out.size,fun i hi=>(C2.out.block i (Nat.lt_of_lt_of_le hi BB4.out.size) (fun e=>by have:=LG.out;omega)).trans (BB4.out.block i hi)⟩;exact(b1.alloc b1.size _).grown hg (by have:=b1.size;simp;omega) fun g e=>(H1.out.lt g e).1);refine⟨k+1,_,PS++[fltL l ns.length],by omega,by congr 1,IH.out.push hkn HS.out LV.out,PaM.push H2.out (own_base O2.out (Nat.le_trans BB4.out.size (Nat.le_refl _))) H1.out hg ho,?_,?_,BR⟩
       ·exact Blk.ch (S:=fun k=>(Value.slice a5 PS.length c5).ownBlock=some k) G2.out hc fun e=>by obtain⟨C',hb'⟩:=bl5 _ e;exact Blk.ne_ G2.out hb' (by decide) rfl
       ·exact Blk.ch (S:=fun k=>(Value.slice a5 PS.length c5).ownBlock=some k) P4' hc fun e=>by obtain⟨C',hb'⟩:=bl5 _ e;exact Blk.ne_ P4' hb' (by decide) rfl
      clear hG2 hO2 hC2 h1 h2
      go_wp2_with (at_builtin;refine wpList_append_any _ rfl (.tmp 49) (.tmp 51) 92 rfl w.heap.size 26 i0 _ 1 24 Tryz.underlying92 hi0 hz0 hz1 hz2 rfl (by decide) _ _ _ rfl (H1.out.alloc _) (wr.heap.size+1) (some ⟨wr.heap.size,0,none⟩) 1 1 [.slice a8 (fltL l ns.length).length c8] rfl (reads_newN wr 26 [.slice a8 (fltL l ns.length).length c8] (n:=1) (size:=1) rfl) ?m3pb ?m4pb ?m5pb ?m6pb ?_)
      case m3pb=>intro u hu;simp only[List.mem_cons,List.not_mem_nil,or_false]at hu;subst hu;rfl
      case m4pb=>unfold maxLen;omega
      case m5pb=>omega
      case m6pb=>have:=C2.out.size;have:=BB4.out.size;simp;omega
      intro v' w' own' gr' loc';have R:=Lib.hid (FIN.out v' w' own' gr');clear own' gr' loc' FIN
      go_wp2_with fail
      exact⟨R.out,by simp[RowKit.intOf];omega⟩
  ·obtain rfl:ns.length=k:=by omega
   have F:Hid (PartsPost ns.length cs us w (.returned u5) wr):=⟨u5,sn,PS,rfl,hI,hM,hB⟩;clear hI hM hG hP hB
   go_wp2_with fail
   go_ret
   exact F.out
end Go.Proofs.YtnjjkgjdhljfnaaGreat
