/- Part 17 of the proof of fabricErrors.proved: NB. Several texts in one, blanks struck, what is not used left out. -/
import Derived.Deep.Cut
import Derived.Deep.CutRange
import Derived.Laws.Cover4
import Derived.Laws.Runes
import Derived.Test.YtnjjkgjdhljfnaaGreatPk6
set_option maxRecDepth 100000
set_option maxHeartbeats 16000000
set_option linter.unusedVariables false
set_option linter.unusedSimpArgs false
namespace Go.Proofs.YtnjjkgjdhljfnaaGreat
open Go.RowKit Go.Maps
theorem orderB_len{p:Pl}{lv:List Int}(h:orderB p lv=true):validP p=0∧lv.length=p.ns.length:=by unfold orderB at h;simp only[Bool.and_eq_true,decide_eq_true_eq]at h;exact⟨h.1.1.1.1,h.1.1.1.2⟩
theorem infoArr2I:(Tryz.prog.info? 176).map (fun i=>(i.zero,i.size,i.bytes))=some (some (.agg #[.slice none 0 0,.slice none 0 0]),2,48):=by kernel_rfl
theorem reads_new(w:World)(t:TypeId)(cs:Array Value){n size:Nat}(h:cs.size=n*size):Reads (w.alloc (.cells cs t)) (w.heap.size+1) size (some ⟨w.heap.size,0,none⟩) n cs.toList:=
 ⟨by simpa using h,fun _=>⟨_,rfl,by simp,fun q u hu=>World.news_of_block (cs:=cs) (t:=t) (fr:=(0,0)) (heap_alloc_new w _) q u hu⟩⟩
end Go.Proofs.YtnjjkgjdhljfnaaGreat
namespace Go.Proofs.YtnjjkgjdhljfnaaGreat
open Go.RowKit Go.Maps
abbrev GT:=Nat→Nat→Nat→Int
def rowG(G:GT)(i p m:Nat):List Int:=(List.range m).map (G i p)
def upd2{α:Type}(V:Nat→Nat→α)(i p:Nat)(x:α):Nat→Nat→α:=fun a b=>if a=i∧b=p then x else V a b
def upd3(G:GT)(i p t:Nat)(x:Int):GT:=fun a b c=>if a=i∧b=p∧c=t then x else G a b c
theorem upd2_same{α:Type}(V:Nat→Nat→α)(i p:Nat)(x:α):upd2 V i p x i p=x:=by unfold upd2;rw[if_pos ⟨rfl,rfl⟩]
theorem upd2_other{α:Type}(V:Nat→Nat→α){i p a b:Nat}(x:α)(h:¬(a=i∧b=p)):upd2 V i p x a b=V a b:=by unfold upd2;rw[if_neg h]
theorem upd3_same(G:GT)(i p t:Nat)(x:Int):upd3 G i p t x i p t=x:=by unfold upd3;rw[if_pos ⟨rfl,rfl,rfl⟩]
theorem upd3_other(G:GT){i p t a b c:Nat}(x:Int)(h:¬(a=i∧b=p∧c=t)):upd3 G i p t x a b c=G a b c:=by unfold upd3;rw[if_neg h]
theorem rowG_succ(G:GT)(i p m:Nat)(x:Int):rowG (upd3 G i p m x) i p (m+1)=rowG G i p m++[x]:=by unfold rowG;rw[List.range_succ,List.map_append,List.map_singleton,upd3_same];congr 1;refine List.map_congr_left fun c hc=>upd3_other G x (fun h=>?_);have:=List.mem_range.1 hc;omega
theorem rowG_other(G:GT){i p t a b m:Nat}(x:Int)(h:¬(a=i∧b=p)):rowG (upd3 G i p t x) a b m=rowG G a b m:=by unfold rowG;exact List.map_congr_left fun c hc=>upd3_other G x (fun h2=>h ⟨h2.1,h2.2.1⟩)
def EntC(n:Nat)(cs:List Cb)(us:List Bool)(lv:List Int)(f:SMp)(tt i p:Nat)(c:Int):Prop:=
 (i=tt∧c=-2)∨(i≠tt∧Chosen cs us lv (risF n f false) (risF n f true) i (dI (f (i,p==1))) (p==0) c)
def Col(n:Nat)(cs:List Cb)(us:List Bool)(lv:List Int)(G:GT)(tt:Nat):Prop:=
 ∃f,Found n cs us lv tt f∧∀i p,i<n→p<2→EntC n cs us lv f tt i p (G i p tt)
def lenK(k m j:Nat)(i p:Nat):Nat:=if i<m∨(i=m∧p<j)then k+1 else k
theorem dI_bound{n:Nat}{cs:List Cb}{us:List Bool}{lv:List Int}{t:Nat}{f:SMp}(h:Found n cs us lv t f)(hn:n≤100)(s:St):-1≤dI (f s)∧dI (f s)≤1000:=by
 rcases h with⟨_,h⟩|⟨h,_⟩
 ·rw[h];simp[dI]
 ·cases hf:f s with
  |none=>simp[dI]
  |some d=>have h1:=h.bnd s d hf;have h2:=kn_le n f;simp only[dI];omega
theorem lenK_start(k i p:Nat):lenK k 0 0 i p=k:=by unfold lenK;rw[if_neg (by omega)]
theorem lenK_next(k m i p:Nat)(hp:p<2):lenK k m 2 i p=lenK k (m+1) 0 i p:=by
 unfold lenK;by_cases h:i<m+1
 ·rw[if_pos (by omega),if_pos (by omega)]
 ·rw[if_neg (by omega),if_neg (by omega)]
theorem lenK_all(k n i p:Nat)(hi:i<n):lenK k n 0 i p=k+1:=by unfold lenK;rw[if_pos (by omega)]
theorem lenK_at(k m j:Nat):lenK k m j m j=k:=by unfold lenK;rw[if_neg (by omega)]
theorem lenK_push(k m j i p:Nat):upd2 (lenK k m j) m j (k+1) i p=lenK k m (j+1) i p:=by
 unfold upd2 lenK;by_cases h:i=m∧p=j
 ·rw[if_pos h,if_pos (by omega)]
 ·rw[if_neg h];by_cases h2:i<m∨(i=m∧p<j)
  ·rw[if_pos h2,if_pos (by omega)]
  ·rw[if_neg h2,if_neg (by omega)]
theorem Col.upd{n:Nat}{cs:List Cb}{us:List Bool}{lv:List Int}{G:GT}{t:Nat}(h:Col n cs us lv G t){i p k:Nat}(x:Int)(hne:t≠k):Col n cs us lv (upd3 G i p k x) t:=by obtain⟨f,h1,h2⟩:=h;exact⟨f,h1,fun a b ha hb=>by rw[upd3_other G x (fun e=>hne e.2.2)];exact h2 a b ha hb⟩
structure TM(w:World)(bT base n hA hB:Nat)(V:Nat→Nat→Value)(len:Nat→Nat→Nat)(G:GT):Prop where
 row:RBlk w bT 176 2 n (fun i=>[V i 0,V i 1])
 own:∀i p,i<n→p<2→w.ownsRow base 3 1 (V i p) (len i p) ((rowG G i p (len i p)).flatMap cI)
 apart:∀i p i' p',i<n→p<2→i'<n→p'<2→¬(i'=i∧p'=p)→∀g,(V i p).ownBlock=some g→(V i' p').ownBlock≠some g
 gap:∀i p,i<n→p<2→∀g,(V i p).ownBlock=some g→g<hA∨hB≤g
 lt:bT<base
section
variable{w w':World}{bT base n hA hB:Nat}{V:Nat→Nat→Value}{len:Nat→Nat→Nat}{G:GT}
theorem TM.below(h:TM w bT base n hA hB V len G)(hb:Below w.heap.size w w'):TM w' bT base n hA hB V len G:=
 ⟨h.row.below hb h.row.lt,fun i p hi hp=>(h.own i p hi hp).kept (only_of_below hb none) (by cases(V i p).ownBlock with
  |none=>exact .inl rfl
  |some q=>exact .inr (by simp)),h.apart,h.gap,h.lt⟩
theorem TM.drew(h:TM w bT base n hA hB V len G):TM w.drew bT base n hA hB V len G:=⟨h.row.drew,h.own,h.apart,h.gap,h.lt⟩
theorem TM.congr{len':Nat→Nat→Nat}(h:TM w bT base n hA hB V len G)(e:∀i p,i<n→p<2→len i p=len' i p):TM w bT base n hA hB V len' G:=
 ⟨h.row,fun i p hi hp=>by rw[←e i p hi hp];exact h.own i p hi hp,h.apart,h.gap,h.lt⟩
theorem TM.regap{hA' hB':Nat}(h:TM w bT base n hA hB V len G)(e:∀g,g<w.heap.size→g<hA'∨hB'≤g):TM w bT base n hA' hB' V len G:=
 ⟨h.row,h.own,h.apart,fun i p hi hp g hg=>e g ((h.own i p hi hp).lt g hg).2,h.lt⟩
theorem TM.push(h:TM w bT base n hA hB V len G){i p:Nat}(hi:i<n)(hp:p<2){v':Value}{x:Int}(hB':hB≤w.heap.size)(o:w'.ownsRow base 3 1 v' (len i p+1) ((rowG G i p (len i p)).flatMap cI++[.int .i64 x]))(hg:w.grownBy w' (V i p).ownBlock)(hv:v'.ownBlock=(V i p).ownBlock∨v'.ownBlock=some w.heap.size):TM (w'.setCell ⟨bT,i*2+p,none⟩ v') bT base n hA hB (upd2 V i p v') (upd2 len i p (len i p+1)) (upd3 G i p (len i p) x):=by
 have hlt:=h.lt;have keep:∀{v:Value} {m:Nat} {xs:List Value},w'.ownsRow base 3 1 v m xs→(w'.setCell ⟨bT,i*2+p,none⟩ v').ownsRow base 3 1 v m xs:=fun ho=>
  own_keptJ ho (only_setCell (only_refl w' (some bT)) (.inl rfl) _) (fun q e=>by have:=(ho.lt q e).1;omega)
 have oth:∀a b,a<n→b<2→¬(a=i∧b=p)→w'.ownsRow base 3 1 (V a b) (len a b) ((rowG G a b (len a b)).flatMap cI):=fun a b ha hb hne=>
  (h.own a b ha hb).kept hg (by
   cases hq:(V a b).ownBlock with
   |none=>exact .inl rfl
   |some q=>exact .inr (fun e=>h.apart i p a b hi hp ha hb hne q e.symm hq))
 have fresh:∀a b,a<n→b<2→¬(a=i∧b=p)→∀g,v'.ownBlock=some g→(V a b).ownBlock≠some g:=fun a b ha hb hne g hvg=>by
  rcases hv with e|e
  ·rw[e]at hvg;exact h.apart i p a b hi hp ha hb hne g hvg
  ·rw[e]at hvg;injection hvg with hvg;intro h2;have:=((h.own a b ha hb).lt g h2).2;omega
 refine⟨?_,fun a b ha hb=>?_,fun a b a' b' ha hb ha' hb' hne g hg'=>?_,fun a b ha hb g hg'=>?_,h.lt⟩
 ·have hr:=h.row.grown hg (fun e=>by have:=((h.own i p hi hp).lt bT e.symm).1;omega);have hr2:=hr.set_ hi hp v';refine hr2.congr fun a ha=>?_;unfold setR;by_cases e:a=i
  ·subst e;rw[if_pos rfl];rcases(show p=0∨p=1 by omega)with rfl|rfl
   ·rw[upd2_same,upd2_other V v' (by omega)];rfl
   ·rw[upd2_same,upd2_other V v' (by omega)];rfl
  ·rw[if_neg e,upd2_other V v' (by omega),upd2_other V v' (by omega)]
 ·by_cases e:a=i∧b=p
  ·obtain⟨rfl,rfl⟩:=e;rw[upd2_same,upd2_same,rowG_succ,List.flatMap_append];exact keep o
  ·rw[upd2_other V v' e,upd2_other len _ e,rowG_other G x e];exact keep (oth a b ha hb e)
 ·by_cases e:a=i∧b=p
  ·obtain⟨rfl,rfl⟩:=e;rw[upd2_same]at hg';rw[upd2_other V v' hne];exact fresh a' b' ha' hb' hne g hg'
  ·rw[upd2_other V v' e]at hg';by_cases e':a'=i∧b'=p
   ·obtain⟨rfl,rfl⟩:=e';rw[upd2_same];exact fun h2=>fresh a b ha hb e g h2 hg'
   ·rw[upd2_other V v' e'];exact h.apart a b a' b' ha hb ha' hb' hne g hg'
 ·by_cases e:a=i∧b=p
  ·obtain⟨rfl,rfl⟩:=e;rw[upd2_same]at hg';rcases hv with e|e
   ·rw[e]at hg';exact h.gap a b ha hb g hg'
   ·rw[e]at hg';injection hg' with hg';right;omega
  ·rw[upd2_other V v' e]at hg';exact h.gap a b ha hb g hg'
theorem TM.rowlt(h:TM w bT base n hA hB V len G){i p:Nat}(hi:i<n)(hp:p<2):∀q,(V i p).ownBlock=some q→base≤q:=fun q e=>((h.own i p hi hp).lt q e).1
theorem TM.cell(h:TM w bT base n hA hB V len G){i p:Nat}(hi:i<n)(hp:p<2):w.cell? ⟨bT,i*2+p,none⟩=some (V i p):=by rw[h.row.cell hi hp];rcases(show p=0∨p=1 by omega)with rfl|rfl<;>rfl
end
structure MB(w wr:World)(ns:List Nd)(cs:List Cb)(us:List Bool)(lv:List Int)(An Ac Au Al:Option Addr)(cn cc cu cl bT base:Nat):Prop where
 p3:Blk wr w.heap.size 25 #[.slice An ns.length cn,.slice Ac cs.length cc]
 p4:Blk wr (w.heap.size+1) 169 #[.slice Al lv.length cl]
 p5:Blk wr (w.heap.size+1+1) 52 #[.slice Au us.length cu]
 p6:Blk wr (w.heap.size+1+1+1) 173 #[.slice none 0 0]
 p8:Blk wr (bT+1) 173 #[.slice (some ⟨bT,0,none⟩) ns.length ns.length]
 lt0:w.heap.size+1+1+1<bT
 lt1:bT+1<base
 bel:Below w.heap.size w wr
section
variable{w wr w':World}{ns:List Nd}{cs:List Cb}{us:List Bool}{lv:List Int}{An Ac Au Al:Option Addr}{cn cc cu cl bT base:Nat}
theorem MB.below(h:MB w wr ns cs us lv An Ac Au Al cn cc cu cl bT base)(hb:Below wr.heap.size wr w'):MB w w' ns cs us lv An Ac Au Al cn cc cu cl bT base:=
 ⟨h.p3.below hb h.p3.lt,h.p4.below hb h.p4.lt,h.p5.below hb h.p5.lt,h.p6.below hb h.p6.lt,h.p8.below hb h.p8.lt,h.lt0,h.lt1,h.bel.trans (hb.mono h.bel.size)⟩
theorem MB.drew(h:MB w wr ns cs us lv An Ac Au Al cn cc cu cl bT base):MB w wr.drew ns cs us lv An Ac Au Al cn cc cu cl bT base:=
 ⟨h.p3.drew,h.p4.drew,h.p5.drew,h.p6.drew,h.p8.drew,h.lt0,h.lt1,h.bel.drew⟩
theorem MB.grown(h:MB w wr ns cs us lv An Ac Au Al cn cc cu cl bT base){row:Option Nat}(hg:wr.grownBy w' row)(hr:∀q,row=some q→base≤q):MB w w' ns cs us lv An Ac Au Al cn cc cu cl bT base:=by have l0:=h.lt0;have l1:=h.lt1;have k:∀{g:Nat} {t:TypeId} {xs:Array Value},Blk wr g t xs→g<base→Blk w' g t xs:=fun hb hl=>hb.grown hg (fun e=>by have:=hr _ e.symm;omega);exact⟨k h.p3 (by omega),k h.p4 (by omega),k h.p5 (by omega),k h.p6 (by omega),k h.p8 (by omega),l0,l1,h.bel.grown hg h.bel.size (fun q e=>by have:=hr q e;omega)⟩
theorem MB.setT(h:MB w wr ns cs us lv An Ac Au Al cn cc cu cl bT base)(o:Nat)(v:Value):MB w (wr.setCell ⟨bT,o,none⟩ v) ns cs us lv An Ac Au Al cn cc cu cl bT base:=by have l0:=h.lt0;have l1:=h.lt1;exact⟨h.p3.far (p:=⟨bT,o,none⟩) (by show _≠bT;omega) _,h.p4.far (p:=⟨bT,o,none⟩) (by show _≠bT;omega) _,h.p5.far (p:=⟨bT,o,none⟩) (by show _≠bT;omega) _,h.p6.far (p:=⟨bT,o,none⟩) (by show _≠bT;omega) _,h.p8.far (p:=⟨bT,o,none⟩) (by show _≠bT;omega) _,l0,l1,h.bel.setCell (by show w.heap.size≤bT;omega) _⟩
end
def Gap(hA hB:Nat)(w w':World):Prop:=w.heap.size≤w'.heap.size∧∀b,hA≤b→b<hB→w'.heap[b]?=w.heap[b]?
section
variable{hA hB:Nat}{w w' w'':World}
theorem Gap.refl(hA hB:Nat)(w:World):Gap hA hB w w:=⟨Nat.le_refl _,fun _ _ _=>rfl⟩
theorem Gap.below(h:Gap hA hB w w')(hs:hB≤w.heap.size)(hb:Below w'.heap.size w' w''):Gap hA hB w w'':=
 ⟨Nat.le_trans h.1 hb.size,fun b h1 h2=>(hb.block b (by have:=h.1;omega)).trans (h.2 b h1 h2)⟩
theorem Gap.drew(h:Gap hA hB w w'):Gap hA hB w w'.drew:=h
theorem Gap.grown(h:Gap hA hB w w')(hs:hB≤w.heap.size){row:Option Nat}(hg:w'.grownBy w'' row)(hr:∀q,row=some q→q<hA∨hB≤q):Gap hA hB w w'':=
 ⟨Nat.le_trans h.1 hg.size,fun b h1 h2=>(hg.block b (by have:=h.1;omega) (fun e=>by have:=hr b e.symm;omega)).trans (h.2 b h1 h2)⟩
theorem Gap.setCell(h:Gap hA hB w w'){p:Addr}(hp:p.block<hA)(v:Value):Gap hA hB w (w'.setCell p v):=
 ⟨by simpa[World.setCell]using h.1,fun b h1 h2=>(Below.heap_setCell w' p v b (by omega)).trans (h.2 b h1 h2)⟩
theorem Gap.blk(h:Gap hA hB w w'){g:Nat}{t:TypeId}{xs:Array Value}(hb:Blk w g t xs)(h1:hA≤g)(h2:g<hB):Blk w' g t xs:=(h.2 g h1 h2).trans hb
theorem Gap.isRec(h:Gap hA hB w w'){α:Type}{m:Nat}{c:α→List Value}{d:α}{a:Option Addr}{len:Nat}{xs:List α}(hr:IsRec m c d w a len xs)(h1:∀x,a=some x→hA≤x.block∧x.block<hB):IsRec m c d w' a len xs:=by refine⟨hr.1,fun h0=>?_⟩;obtain⟨b,off,e,hlt,hc⟩:=hr.2 h0;have hb:=h1 _ e;refine⟨b,off,e,by have:=h.1;omega,fun i j hi hj=>?_⟩;rw[World.cell?_of_block (h.2 b hb.1 hb.2)];exact hc i j hi hj
end
end Go.Proofs.YtnjjkgjdhljfnaaGreat
namespace Go.Proofs.YtnjjkgjdhljfnaaGreat
open Go.RowKit Go.Maps
def MakePost(n:Nat)(cs:List Cb)(us:List Bool)(lv:List Int)(w:World)(e:Ending)(w':World):Prop:=
 ∃bT base V G,e=.returned (.tuple #[.agg #[.slice (some ⟨bT,0,none⟩) n n],.int .i64 0])∧w.heap.size≤bT∧TM w' bT base n 0 0 V (fun _ _=>n) G∧(∀t,t<n→Col n cs us lv G t)∧Below w.heap.size w w'
def RelMT(w:World)(ns:List Nd)(cs:List Cb)(us:List Bool)(lv:List Int)(An Ac Au Al:Option Addr)(cn cc cu cl bT base:Nat)(g:Nat)(i:Value)(wr:World):Prop:=
 ∃k V G,k+g=ns.length∧i=.int .i64 ((k:Nat):Int)∧MB w wr ns cs us lv An Ac Au Al cn cc cu cl bT base∧TM wr bT base ns.length 0 0 V (fun _ _=>k) G∧∀t,t<k→Col ns.length cs us lv G t
def RelMN(w w7:World)(ns:List Nd)(cs:List Cb)(us:List Bool)(lv:List Int)(An Ac Au Al:Option Addr)(cn cc cu cl bT base hA hB:Nat)(f:SMp)(k:Nat)(g:Nat)(i:Value)(wr:World):Prop:=
 ∃m V G,m+g=ns.length∧i=.int .i64 ((m:Nat):Int)∧MB w wr ns cs us lv An Ac Au Al cn cc cu cl bT base∧TM wr bT base ns.length hA hB V (lenK k m 0) G∧(∀t,t<k→Col ns.length cs us lv G t)∧
  (∀i p,i<m→p<2→EntC ns.length cs us lv f k i p (G i p k))∧Gap hA hB w7 wr
def NextPost(n:Nat)(cs:List Cb)(us:List Bool)(lv:List Int)(f:SMp)(k m bn:Nat)(wr wx:World):Prop:=
 ∃c0 c1:Int,Blk wx bn 73 #[.int .i64 c0,.int .i64 c1]∧EntC n cs us lv f k m 0 c0∧EntC n cs us lv f k m 1 c1∧Below wr.heap.size wr wx
def RelMP(w w7:World)(ns:List Nd)(cs:List Cb)(us:List Bool)(lv:List Int)(An Ac Au Al:Option Addr)(cn cc cu cl bT base hA hB:Nat)(f:SMp)(k m:Nat)(g:Nat)(i:Value)(wr:World):Prop:=
 ∃j V G,j+g=2∧i=.int .i64 ((j:Nat):Int)∧MB w wr ns cs us lv An Ac Au Al cn cc cu cl bT base∧TM wr bT base ns.length hA hB V (lenK k m j) G∧(∀t,t<k→Col ns.length cs us lv G t)∧
  (∀i p,i<m→p<2→EntC ns.length cs us lv f k i p (G i p k))∧(∀p,p<j→EntC ns.length cs us lv f k m p (G m p k))∧Gap hA hB w7 wr
theorem TM.far{w:World}{bT base n hA hB:Nat}{V:Nat→Nat→Value}{len:Nat→Nat→Nat}{G:GT}(h:TM w bT base n hA hB V len G){p:Addr}(h1:bT≠p.block)(h2:p.block<base)(u:Value):TM (w.setCell p u) bT base n hA hB V len G:=
 ⟨h.row.far h1 u,fun i q hi hq=>own_keptJ (h.own i q hi hq) (only_setCell (only_refl w (some p.block)) (.inl rfl) u) (fun x e=>by have:=((h.own i q hi hq).lt x e).1;omega),h.apart,h.gap,h.lt⟩
theorem RelMP.step{w w7 wr w6:World}{ns:List Nd}{cs:List Cb}{us:List Bool}{lv:List Int}{An Ac Au Al:Option Addr}{cn cc cu cl bT base hA hB:Nat}{f:SMp}{k m j g:Nat}{V:Nat→Nat→Value}{G:GT}{c:Int}{v':Value}(mb:MB w wr ns cs us lv An Ac Au Al cn cc cu cl bT base)(tm:TM wr bT base ns.length hA hB V (lenK k m j) G)(hcol:∀t,t<k→Col ns.length cs us lv G t)(hent:∀i p,i<m→p<2→EntC ns.length cs us lv f k i p (G i p k))(hph:∀p,p<j→EntC ns.length cs us lv f k m p (G m p k))(hgap:Gap hA hB w7 wr)(hm:m<ns.length)(hj:j<2)(hg:j+1+g=2)(hc:EntC ns.length cs us lv f k m j c)(hB7:hB≤w7.heap.size)(hTA:bT<hA)(o:w6.ownsRow base 3 1 v' (k+1) ((rowG G m j k).flatMap cI++[.int .i64 c]))(hgr:(wr.alloc (.cells #[.int .i64 c] 3)).drew.grownBy w6 (V m j).ownBlock)(hv:v'.ownBlock=(V m j).ownBlock∨v'.ownBlock=some (wr.heap.size+1)):RelMP w w7 ns cs us lv An Ac Au Al cn cc cu cl bT base hA hB f k m g (.int .i64 ((j+1:Nat):Int)) (w6.setCell ⟨bT,m*2+j,none⟩ v'):=by
 have gs:=hgap.1;have ba:Below wr.heap.size wr (wr.alloc (.cells #[.int .i64 c] 3)):=(Below.refl _ _).alloc (Nat.le_refl _) _;have tm1:=(tm.below ba).drew;have e:=lenK_at k m j;have tm2:=tm1.push hm hj (v':=v') (x:=c) (w':=w6) (by show hB≤(wr.alloc _).heap.size;simp;omega) (by rw[e];exact o) hgr (by rcases hv with h|h;exact .inl h;right;rw[h];show _=some (wr.alloc _).heap.size;simp);rw[e]at tm2;refine⟨j+1,_,_,hg,rfl,((mb.below ba).drew.grown hgr (tm1.rowlt hm hj)).setT _ _,tm2.congr (fun i p _ _=>lenK_push k m j i p),fun t ht=>(hcol t ht).upd c (by omega),fun i p hi hp=>?_,fun p hp=>?_,?_⟩
 ·rw[upd3_other G c (by omega)];exact hent i p hi hp
 ·by_cases e2:p=j
  ·rw[e2,upd3_same];exact hc
  ·rw[upd3_other G c (by omega)];exact hph p (by omega)
 ·have g1:Gap hA hB w7 (wr.alloc (.cells #[.int .i64 c] 3)).drew:=(hgap.below hB7 ba).drew;exact(g1.grown hB7 hgr (tm1.gap m j hm hj)).setCell (by show bT<hA;exact hTA) _
theorem make_any(ns:List Nd)(cs:List Cb)(us:List Bool)(lv:List Int)(An Ac Au Al:Option Addr)(cn cc cu cl:Nat)(w:World)(hv:validP ⟨ns,cs⟩=0)(hob:orderB ⟨ns,cs⟩ lv=true)(hul:us.length=cs.length)(hll:lv.length=ns.length)(hwf:WfP ⟨ns,cs⟩)(hwl:WfI lv)(h:IsPlan w An Ac ⟨ns,cs⟩)(h2:IsRec 1 cB false w Au us.length us)(h3:IsRec 1 cI 0 w Al lv.length lv):Calls Tryz.prog 89 #[.agg #[.slice An ns.length cn,.slice Ac cs.length cc],.agg #[.slice Al lv.length cl],.slice Au us.length cu] w (MakePost ns.length cs us lv w):=by
 obtain⟨n16,c32⟩:=valid_sizes hv;obtain⟨w1,hw1⟩:∃w1:World,(((w.alloc (.cells #[.slice An ns.length cn,.slice Ac cs.length cc] 25)).alloc (.cells #[.slice Al lv.length cl] 169)).alloc (.cells #[.slice Au us.length cu] 52)).alloc (.cells #[.slice none 0 0] 173)=w1:=⟨_,rfl⟩;have BW:Hid (Below w.heap.size w w1):=by rw[←hw1];exact((((Below.refl _ _).alloc (Nat.le_refl _) _).alloc (by simp) _).alloc (by simp;omega) _).alloc (by simp;omega) _
 have P3:Hid (Blk w1 w.heap.size 25 #[.slice An ns.length cn,.slice Ac cs.length cc]):=by rw[←hw1];exact(((Blk.new w 25 #[.slice An ns.length cn,.slice Ac cs.length cc]).alloc _).alloc _).alloc _
 have P4:Hid (Blk w1 (w.heap.size+1) 169 #[.slice Al lv.length cl]):=by rw[←hw1];have:=((Blk.new (w.alloc (.cells #[.slice An ns.length cn,.slice Ac cs.length cc] 25)) 169 #[.slice Al lv.length cl]).alloc (.cells #[.slice Au us.length cu] 52)).alloc (.cells #[.slice none 0 0] 173);rw[Hid];simpa using this
 have P5:Hid (Blk w1 (w.heap.size+1+1) 52 #[.slice Au us.length cu]):=by rw[←hw1];have:=(Blk.new ((w.alloc (.cells #[.slice An ns.length cn,.slice Ac cs.length cc] 25)).alloc (.cells #[.slice Al lv.length cl] 169)) 52 #[.slice Au us.length cu]).alloc (.cells #[.slice none 0 0] 173);rw[Hid];simpa using this
 have P6:Hid (Blk w1 (w.heap.size+1+1+1) 173 #[.slice none 0 0]):=by rw[←hw1];have:=Blk.new (((w.alloc (.cells #[.slice An ns.length cn,.slice Ac cs.length cc] 25)).alloc (.cells #[.slice Al lv.length cl] 169)).alloc (.cells #[.slice Au us.length cu] 52)) 173 #[.slice none 0 0];rw[Hid];simpa using this
 have HP:=Lib.hid h;have HU:=Lib.hid h2;have HL:=Lib.hid h3;have HV:=Lib.hid hv;have HOB:=Lib.hid hob;have HUL:=Lib.hid hul;have HLL:=Lib.hid hll;have HWF:=Lib.hid hwf;have HWL:=Lib.hid hwl;have hne:((us.length:Int)!=(cs.length:Int))=false:=by simp[hul]
 have HO:=order_any ⟨ns,cs⟩ lv An Ac Al cn cc cl w1 (by show ns.length≤_;omega) (by show cs.length≤_;omega) hwf (by omega) hwl (h.below (Nat.le_refl _) BW.out) (h3.below (Nat.le_refl _) BW.out);rw[hob]at HO;have HOO:=Lib.hid HO;have HW1:=Lib.hid hw1;obtain⟨iA,hiA,hzA,hzA1,hzA2⟩:=info_parts infoArr2I;obtain⟨iI,hiI0,hzI0,hzI10,hzI20⟩:=info_parts infoInt;have HIi:=Lib.hid hiI0;have HIz:=Lib.hid hzI0;have HIz1:=Lib.hid hzI10;have HIz2:=Lib.hid hzI20;clear hiI0 hzI0 hzI10 hzI20;clear hv hob hul hll hwf hwl h h2 h3 HO hw1
 go_enter Tryz.func89,Tryz.ntmps89
 go_wp2_with fail
 rw[HW1.out];refine HOO.out.mono ?_;rintro e w2 ⟨rfl,bel⟩;have P32:=Lib.hid (P3.out.below bel P3.out.lt);have P42:=Lib.hid (P4.out.below bel P4.out.lt);have P52:=Lib.hid (P5.out.below bel P5.out.lt);have P62:=Lib.hid (P6.out.below bel P6.out.lt);have c30:w2.cell? ⟨w.heap.size,0,none⟩=some (.slice An ns.length cn):=by rw[P32.out.cell];rfl
 have c31:w2.cell? ⟨w.heap.size,1,none⟩=some (.slice Ac cs.length cc):=by rw[P32.out.cell];rfl
 have c50:=P52.out.one.1;have l3:=P32.out.lt;have l6:=P62.out.lt;have BW2:Hid (Below w.heap.size w w2):=BW.out.trans (bel.mono BW.out.size);obtain⟨o4,ho4⟩:∃o4,Obj.cells (madeCells #[.slice none 0 0,.slice none 0 0] (ns.length*2)) 176=o4:=⟨_,rfl⟩;obtain⟨bT,hbT⟩:∃bT,w2.heap.size=bT:=⟨_,rfl⟩;obtain⟨w4,hw4⟩:∃w4:World,(w2.alloc o4).alloc (.cells #[.slice (some ⟨w2.heap.size,0,none⟩) ns.length ns.length] 173)=w4:=⟨_,rfl⟩;have SZ4:Hid (w4.heap.size=bT+2):=by rw[←hw4,←hbT];simp[Hid]
 have ST:Hid (RelMT w ns cs us lv An Ac Au Al cn cc cu cl bT (bT+2) ns.length (.int .i64 0) w4):=by
  refine⟨0,fun _ _=>.slice none 0 0,fun _ _ _=>0,by omega,rfl,?_,?_,fun t ht=>by omega⟩
  ·rw[←hw4];have p8:=Blk.new (w2.alloc o4) 173 #[.slice (some ⟨w2.heap.size,0,none⟩) ns.length ns.length];rw[World.size_alloc,hbT]at p8;refine⟨(P32.out.alloc _).alloc _,(P42.out.alloc _).alloc _,(P52.out.alloc _).alloc _,(P62.out.alloc _).alloc _,?_,by omega,by omega,(BW2.out.alloc BW2.out.size _).alloc (by have:=BW2.out.size;simp;omega) _⟩;rw[hbT];exact p8
  ·rw[←hw4,←ho4];have hr:=RBlk.made w2 (m:=2) (n:=ns.length) (t:=176) (z:=#[.slice none 0 0,.slice none 0 0]) rfl (by decide);rw[hbT]at hr;exact⟨hr.alloc _,fun _ _ _ _=>World.ownsRow_nil _ _ _ _,fun _ _ _ _ _ _ _ _ _ g hg=>by simp[Value.ownBlock]at hg,fun _ _ _ _ g hg=>by simp[Value.ownBlock]at hg,by omega⟩
 have HW4:=Lib.hid hw4;have HO4:=Lib.hid ho4;have HBT:=Lib.hid hbT;clear hw4 ho4 hbT bel HOO HW1
 go_wp2_with (at_make;refine wpList_make_rec _ rfl _ _ 94 rfl 176 iA _ 2 Tryz.underlying94 hiA hzA hzA1 .i64 .i64 _ _ ns.length rfl rfl ?m1 ?m2 (by rw[hzA2];omega) (by unfold maxLen;omega) ?_)
 case m1=>rfl
 case m2=>rfl
 rw[HO4.out,HW4.out,HBT.out];clear HO4 HW4 HBT hiA hzA hzA1 hzA2 P3 P4 P5 P6 P32 P42 P52 P62 c30 c31 c50 l3 l6 BW BW2
 go_loopg [39] ns.length (fun g i wr=>RelMT w ns cs us lv An Ac Au Al cn cc cu cl bT (bT+2) g i wr)
 case atStart=>exact ST.out
 case round=>
  clear ST SZ4;obtain⟨k,V,G,hkg,rfl,mb,tm,hcol⟩:=hrel;have MBH:=Lib.hid mb;have TMH:=Lib.hid tm;have COLH:=Lib.hid hcol;have HKG:=Lib.hid hkg;have hkn:k≤ns.length:=by omega
  clear tm hcol hkg;by_cases hkr:k<ns.length
  ·have c30:wr.cell? ⟨w.heap.size,0,none⟩=some (.slice An ns.length cn):=by rw[mb.p3.cell];rfl
   have c31:wr.cell? ⟨w.heap.size,1,none⟩=some (.slice Ac cs.length cc):=(by rw[mb.p3.cell];rfl);have c40:=mb.p4.one.1;have c50:=mb.p5.one.1;have HD:=Lib.hid (udist_any ns cs us lv An Ac Au Al cn cc cu cl k wr HV.out HOB.out HUL.out HLL.out hkr HWF.out HWL.out (HP.out.below (Nat.le_refl _) mb.bel) (HU.out.below (Nat.le_refl _) mb.bel) (HL.out.below (Nat.le_refl _) mb.bel));clear mb
   go_wp2_with fail
   refine HD.out.mono ?_;rintro e w5 ⟨f,v1,v2,hf,rfl,own1,own2,bel5⟩;obtain⟨aR,cR,hv1,_,pR,gR⟩:=rec_of_own (d:=(0:Int)) cI_length (by decide) own1;obtain⟨aF,cF,hv2,_,pF,gF⟩:=rec_of_own (d:=(0:Int)) cI_length (by decide) own2;subst hv1;subst hv2;have FND:=Lib.hid hf;have PR:=Lib.hid pR;have PF:=Lib.hid pF;have GR:=Lib.hid gR;have GF:=Lib.hid gF;have MB5:=Lib.hid (MBH.out.below bel5);have TM5:=Lib.hid (TMH.out.below bel5);have s5:=bel5.size;have BW5:=Lib.hid bel5;obtain⟨w7,hw7⟩:∃w7:World,(w5.alloc (.cells #[.slice aR ns.length cR] 26)).alloc (.cells #[.slice aF ns.length cF] 26)=w7:=⟨_,rfl⟩;have e30:w5.cell? ⟨w.heap.size,0,none⟩=some (.slice An ns.length cn):=(by rw[MB5.out.p3.cell];rfl);have l5:=MB5.out.p3.lt;have HW7:=Lib.hid hw7;clear hf pR pF gR gF own1 own2 bel5 c30 c31 c40 c50 HD hw7
   go_wp2_with fail
   rw[HW7.out];obtain⟨wo,rfl⟩:∃wo:World,wo=wr:=⟨_,rfl⟩;have SZ7:Hid (w7.heap.size=w5.heap.size+2):=by rw[Hid,←HW7.out];simp
   have B57:Hid (Below w5.heap.size w5 w7):=(by rw[←HW7.out];exact((Below.refl _ _).alloc (Nat.le_refl _) _).alloc (by simp) _);have B10:Hid (Blk w7 w5.heap.size 26 #[.slice aR ns.length cR]):=(by rw[←HW7.out];exact(Blk.new _ _ _).alloc _);have B11:Hid (Blk w7 (w5.heap.size+1) 26 #[.slice aF ns.length cF]):=(by rw[←HW7.out];have:=Blk.new (w5.alloc (.cells #[.slice aR ns.length cR] 26)) 26 #[.slice aF ns.length cF];rw[Hid];simpa using this);have HCE:Hid (∀wx,MB w wx ns cs us lv An Ac Au Al cn cc cu cl bT (bT+2)→Gap wo.heap.size (w5.heap.size+2) w7 wx→CE wx ns cs us lv (risF ns.length f false) (risF ns.length f true) An Ac Au Al aR aF cn cc cu cl cR cF w.heap.size (w.heap.size+1) (w.heap.size+1+1) w5.heap.size (w5.heap.size+1)):=fun wx mbx gx=>by
    have lt_:∀{a:Option Addr} {l:List Int},IsRec 1 cI 0 w5 a ns.length l→∀x,a=some x→x.block<w5.heap.size+2:=fun hr x hx=>(by obtain⟨b,off,e,hlt,_⟩:=hr.2 (by omega);rw[hx]at e;injection e with e;rw[e];show b<_;omega);exact⟨mbx.p3,mbx.p4,mbx.p5,gx.blk B10.out s5 (by omega),gx.blk B11.out (by omega) (by omega),HP.out.below (Nat.le_refl _) mbx.bel,HU.out.below (Nat.le_refl _) mbx.bel,HL.out.below (Nat.le_refl _) mbx.bel,
     gx.isRec (PR.out.below (Nat.le_refl _) B57.out) (fun x hx=>⟨GR.out x hx,lt_ PR.out x hx⟩),gx.isRec (PF.out.below (Nat.le_refl _) B57.out) (fun x hx=>⟨GF.out x hx,lt_ PF.out x hx⟩)⟩
   have BW57:Hid (Below wo.heap.size wo w7):=BW5.out.trans (B57.out.mono s5);have ST:Hid (RelMN w w7 ns cs us lv An Ac Au Al cn cc cu cl bT (bT+2) wo.heap.size (w5.heap.size+2) f k ns.length (.int .i64 0) w7):=(by refine⟨0,V,G,by omega,rfl,MB5.out.below B57.out,?_,COLH.out,fun i p hi=>by omega,Gap.refl _ _ _⟩;have h1:=(((TMH.out.regap (hA':=wo.heap.size) (hB':=w5.heap.size+2) (fun g hg=>.inl hg)).below (BW57.out)));exact h1.congr (fun i p _ _=>(lenK_start k i p).symm));have TLT:Hid (bT+1<wo.heap.size):=MBH.out.p8.lt;clear HW7 B57 B10 B11 e30 MB5 TM5 TMH COLH MBH
   go_loopg [59] ns.length (fun g i wr'=>RelMN w w7 ns cs us lv An Ac Au Al cn cc cu cl bT (bT+2) wo.heap.size (w5.heap.size+2) f k g i wr')
   case atStart=>exact ST.out
   case round=>
    clear ST;obtain⟨m,V,G,hmg,rfl,mb,tm,hcol,hent,gap⟩:=hrel;have MBN:=Lib.hid mb;have TMN:=Lib.hid tm;have COLN:=Lib.hid hcol;have ENTN:=Lib.hid hent;have GAPN:=Lib.hid gap;have HMG:=Lib.hid hmg;have hmn:m≤ns.length:=by omega
    have gsz:=gap.1;have sz7:=SZ7.out;have hbr:w5.heap.size+2≤wr.heap.size:=(by omega);have lT:=mb.lt1;have l0T:=mb.lt0;have lB:=mb.p8.lt;clear tm hcol hent hmg gsz sz7 gap;by_cases hmr:m<ns.length
    ·have CEN:=Lib.hid (HCE.out wr mb GAPN.out);have l3:=mb.p3.lt;clear mb
     go_upto_if 65 with fail
     go_cut []from 60 to 103 (fun wx=>NextPost ns.length cs us lv f k m wr.heap.size wr wx)
     case first=>
      by_cases hmk:m=k
      ·have F:Hid (NextPost ns.length cs us lv f k m wr.heap.size wr (wr.alloc (.cells #[.int .i64 (-2),.int .i64 (-2)] 73))):=
        ⟨-2,-2,Blk.new _ _ _,.inl ⟨hmk,rfl⟩,.inl ⟨hmk,rfl⟩,(Below.refl _ _).alloc (Nat.le_refl _) _⟩
       have hmk2:(m:Int)=(k:Int):=(by omega);clear hmk
       go_wp2_with fail
       go_meet
       case rel=>exact F.out
      ·obtain⟨wb,hwb⟩:∃wb:World,wr.alloc (.cells #[.int .i64 (-2),.int .i64 (-2)] 73)=wb:=⟨_,rfl⟩;have NB:Hid (Blk wb wr.heap.size 73 #[.int .i64 (-2),.int .i64 (-2)]):=by rw[←hwb];exact Blk.new _ _ _
       have BB:Hid (Below wr.heap.size wr wb):=(by rw[←hwb];exact(Below.refl _ _).alloc (Nat.le_refl _) _);have CEB:=CEN.out.below (Nat.le_refl _) BB.out;obtain⟨bR,oR,hAR,hbR,_,cR0⟩:=int_at CEN.out.pR m hmr;obtain⟨bF,oF,hAF,hbF,_,cF0⟩:=int_at CEN.out.pF m hmr;rw[risF_get f false hmr]at cR0;rw[risF_get f true hmr]at cF0;have bR1:=dI_bound FND.out (by omega) (m,false);have bF1:=dI_bound FND.out (by omega) (m,true);have HC1:Hid (∀W,Below wb.heap.size wb W→Calls Tryz.prog 116 #[.int .i64 (m:Int),.int .i64 (dI (f (m,false))),.bool true,.pointer (some ⟨w.heap.size,0,none⟩),.pointer (some ⟨w.heap.size+1+1,0,none⟩),.pointer (some ⟨w.heap.size+1,0,none⟩),.pointer (some ⟨w5.heap.size,0,none⟩),.pointer (some ⟨w5.heap.size+1,0,none⟩)] W (ChoosePost cs us lv (risF ns.length f false) (risF ns.length f true) m (dI (f (m,false))) true W)):=fun W hW=>
        choose_any ns cs us lv (risF ns.length f false) (risF ns.length f true) An Ac Au Al aR aF cn cc cu cl cR cF w.heap.size (w.heap.size+1) (w.heap.size+1+1) w5.heap.size (w5.heap.size+1) m _ true W HV.out HUL.out HLL.out hmr bR1.1 (by omega) (CEB.below (Nat.le_refl _) hW)
       have HC2:Hid (∀W,Below wb.heap.size wb W→Calls Tryz.prog 116 #[.int .i64 (m:Int),.int .i64 (dI (f (m,true))),.bool false,.pointer (some ⟨w.heap.size,0,none⟩),.pointer (some ⟨w.heap.size+1+1,0,none⟩),.pointer (some ⟨w.heap.size+1,0,none⟩),.pointer (some ⟨w5.heap.size,0,none⟩),.pointer (some ⟨w5.heap.size+1,0,none⟩)] W (ChoosePost cs us lv (risF ns.length f false) (risF ns.length f true) m (dI (f (m,true))) false W)):=fun W hW=>
        choose_any ns cs us lv (risF ns.length f false) (risF ns.length f true) An Ac Au Al aR aF cn cc cu cl cR cF w.heap.size (w.heap.size+1) (w.heap.size+1+1) w5.heap.size (w5.heap.size+1) m _ false W HV.out HUL.out HLL.out hmr bF1.1 (by omega) (CEB.below (Nat.le_refl _) hW)
       subst hAR;subst hAF;have t10:=CEN.out.p10.one.1;have t11:=CEN.out.p11.one.1;have q10:=CEN.out.p10.lt;have q11:=CEN.out.p11.lt;have FINN:Hid (∀W c0 c1,Below wb.heap.size wb W→Chosen cs us lv (risF ns.length f false) (risF ns.length f true) m (dI (f (m,false))) true c0→Chosen cs us lv (risF ns.length f false) (risF ns.length f true) m (dI (f (m,true))) false c1→NextPost ns.length cs us lv f k m wr.heap.size wr ((W.setCell ⟨wr.heap.size,0,none⟩ (.int .i64 c0)).setCell ⟨wr.heap.size,1,none⟩ (.int .i64 c1))):=fun W c0 c1 hW h0 h1=>by have nb:=((NB.out.below hW NB.out.lt).set_ 0 (.int .i64 c0)).set_ 1 (.int .i64 c1);have be:Below wr.heap.size wr W:=BB.out.trans (hW.mono BB.out.size);refine⟨c0,c1,nb,.inr ⟨hmk,h0⟩,.inr ⟨hmk,h1⟩,?_⟩;exact(be.setCell (Nat.le_refl _) _).setCell (Nat.le_refl _) _
       have NBF:Hid (∀W,Below wb.heap.size wb W→W.cell? ⟨wr.heap.size,0,none⟩=some (.int .i64 (-2))∧W.cell? ⟨wr.heap.size,1,none⟩=some (.int .i64 (-2))∧W.frozen? ⟨wr.heap.size,0,none⟩=false∧W.frozen? ⟨wr.heap.size,1,none⟩=false):=fun W hW=>(by have nb:=NB.out.below hW NB.out.lt;exact⟨by rw[nb.cell];rfl,by rw[nb.cell];rfl,nb.frozen 0,nb.frozen 1⟩);obtain⟨xR,hxR⟩:∃x,dI (f (m,false))=x:=⟨_,rfl⟩;obtain⟨xF,hxF⟩:∃x,dI (f (m,true))=x:=⟨_,rfl⟩;rw[hxR]at cR0 HC1 FINN;rw[hxF]at cF0 HC2 FINN;have KP:Hid (∀W,Below wr.heap.size wr W→W.cell? ⟨w5.heap.size,0,none⟩=some (.slice (some ⟨bR,oR,none⟩) ns.length cR)∧W.cell? ⟨bR,oR+m,none⟩=some (.int .i64 xR)∧W.cell? ⟨w5.heap.size+1,0,none⟩=some (.slice (some ⟨bF,oF,none⟩) ns.length cF)∧W.cell? ⟨bF,oF+m,none⟩=some (.int .i64 xF)):=fun W hW=>
        ⟨(hW.cell (by exact q10)).trans t10,(hW.cell (by exact hbR)).trans cR0,(hW.cell (by exact q11)).trans t11,(hW.cell (by exact hbF)).trans cF0⟩
       have TRB:Hid (∀W,Below wb.heap.size wb W→Below wr.heap.size wr W):=fun W hW=>BB.out.trans (hW.mono BB.out.size);have STB:Hid (∀W u v,Below wb.heap.size wb W→Below wr.heap.size wr ((W.setCell ⟨wr.heap.size,0,none⟩ u).setCell ⟨wr.heap.size,1,none⟩ v)):=fun W u v hW=>
        ((TRB.out W hW).setCell (Nat.le_refl _) _).setCell (Nat.le_refl _) _
       have hmk2:¬(m:Int)=(k:Int):=(by omega);have mi:(m:Int)<(ns.length:Int):=(by omega);have HWB:=Lib.hid hwb;clear hmk CEB hxR hxF hwb bR1 bF1
       go_wp2_with fail
       rw[HWB.out]
       go_region_held3 (fun W=>W.cell? ⟨w5.heap.size,0,none⟩=some (.slice (some ⟨bR,oR,none⟩) ns.length cR)∧W.cell? ⟨bR,oR+m,none⟩=some (.int .i64 xR)∧W.cell? ⟨w5.heap.size+1,0,none⟩=some (.slice (some ⟨bF,oF,none⟩) ns.length cF)∧W.cell? ⟨bF,oF+m,none⟩=some (.int .i64 xF))
        (first|exact KP.out _ (BB.out.drew)|exact KP.out _ (TRB.out _ BT.out)|exact KP.out _ (TRB.out _ BF.out)|exact KP.out _ (STB.out _ _ _ BT.out)|exact KP.out _ (STB.out _ _ _ BF.out))
        (first
         |((with_reducible refine(HC1.out _ BF.out).mono ?_);rintro e wt ⟨c0,rfl,hc0,belt⟩;have BT:Hid (Below wb.heap.size wb wt):=BF.out.trans (belt.mono BF.out.size);have EC0:=Lib.hid hc0;obtain⟨x0,x1,x2,x3⟩:=NBF.out _ BT.out;clear belt hc0)
         |((with_reducible refine(HC1.out _ ((Below.refl _ _).drew)).mono ?_);rintro e wt ⟨c0,rfl,hc0,belt⟩;have BT:Hid (Below wb.heap.size wb wt):=((Below.refl _ _).drew).trans belt;have EC0:=Lib.hid hc0;obtain⟨x0,x1,x2,x3⟩:=NBF.out _ BT.out;clear belt hc0)
         |((with_reducible refine(HC2.out _ BT.out).mono ?_);rintro e wf ⟨c1,rfl,hc1,belf⟩;have BF:Hid (Below wb.heap.size wb wf):=BT.out.trans (belf.mono BT.out.size);have EC1:=Lib.hid hc1;obtain⟨y0,y1,y2,y3⟩:=NBF.out _ BF.out;clear belf hc1)
         |((with_reducible refine(HC2.out _ ((Below.refl _ _).drew)).mono ?_);rintro e wf ⟨c1,rfl,hc1,belf⟩;have BF:Hid (Below wb.heap.size wb wf):=((Below.refl _ _).drew).trans belf;have EC1:=Lib.hid hc1;obtain⟨y0,y1,y2,y3⟩:=NBF.out _ BF.out;clear belf hc1))
       all_goals
        have F1:=Lib.hid (FINN.out _ _ _ BF.out EC0.out EC1.out);have F2:=Lib.hid (FINN.out _ _ _ BT.out EC0.out EC1.out)
        go_wp2_with fail
        go_meet
        case rel=>first|exact F1.out|exact F2.out
     case rest=>
      obtain⟨c0,c1,bnx,ent0,ent1,belx⟩:=hcut;have n0:wc.cell? ⟨wr.heap.size,0,none⟩=some (.int .i64 c0):=(by rw[bnx.cell];rfl);have n1:wc.cell? ⟨wr.heap.size,1,none⟩=some (.int .i64 c1):=(by rw[bnx.cell];rfl);have ENT0:=Lib.hid ent0;have ENT1:=Lib.hid ent1;have szT:bT<wo.heap.size:=(by have h1:=TLT.out;omega);have ST:Hid (RelMP w w7 ns cs us lv An Ac Au Al cn cc cu cl bT (bT+2) wo.heap.size (w5.heap.size+2) f k m 2 (.int .i64 0) wc):=
       ⟨0,V,G,rfl,rfl,MBN.out.below belx,TMN.out.below belx,COLN.out,ENTN.out,fun p hp=>by omega,GAPN.out.below (by have:=SZ7.out;omega) belx⟩
      have i0:∀w,(Instr.index 73 (.agg #[.int .i64 c0,.int .i64 c1]) (.int .i64 0)).run Tryz.prog w=.ok (.int .i64 c0) w:=fun _=>(by kernel_rfl);have i1:∀w,(Instr.index 73 (.agg #[.int .i64 c0,.int .i64 c1]) (.int .i64 1)).run Tryz.prog w=.ok (.int .i64 c1) w:=fun _=>(by kernel_rfl);clear ent0 ent1 bnx belx MBN TMN COLN ENTN GAPN CEN
      go_wp2_with fail
      clear n0 n1
      go_loopg [82] 2 (fun g i wr'=>RelMP w w7 ns cs us lv An Ac Au Al cn cc cu cl bT (bT+2) wo.heap.size (w5.heap.size+2) f k m g i wr')
      case atStart=>exact ST.out
      case round=>
       clear ST;obtain⟨j,V,G,hjg,rfl,mb,tm,hcol,hent,hph,gap⟩:=hrel;have MBP:=Lib.hid mb;have TMP:=Lib.hid tm;have COLP:=Lib.hid hcol;have ENTP:=Lib.hid hent;have PHP:=Lib.hid hph;have GAPP:=Lib.hid gap;have HJG:=Lib.hid hjg;have c8:=mb.p8.one.1;have l8:=mb.p8.lt;have lbT:bT<wr.heap.size:=by omega
       have hj':j=0∨j=1∨j=2:=(by omega);clear hcol hent hph gap hjg;rcases hj' with hj0|hj0|hj0
       ·subst hj0;have cv:=tm.cell hmr (show 0<2 by omega);have fv:wr.frozen? ⟨bT,m*2+0,none⟩=false:=tm.row.frozen _;rw[Nat.add_zero]at cv fv;have OWJ:=Lib.hid (tm.own m 0 hmr (by omega));rw[lenK_at]at OWJ;have NXT:Hid (∀w6 v',w6.ownsRow (bT+2) 3 1 v' (k+1) ((rowG G m 0 k).flatMap cI++[.int .i64 c0])→(wr.alloc (.cells #[.int .i64 c0] 3)).drew.grownBy w6 (V m 0).ownBlock→(v'.ownBlock=(V m 0).ownBlock∨v'.ownBlock=some (wr.heap.size+1))→
         RelMP w w7 ns cs us lv An Ac Au Al cn cc cu cl bT (bT+2) wo.heap.size (w5.heap.size+2) f k m 1 (.int .i64 ((0+1:Nat):Int)) (w6.setCell ⟨bT,m*2,none⟩ v')):=fun w6 v' h1 h2 h3=>
         RelMP.step MBP.out TMP.out COLP.out ENTP.out PHP.out GAPP.out hmr (by omega) rfl ENT0.out (by have:=SZ7.out;omega) szT h1 h2 h3
        have RLT:Hid (∀q,(V m 0).ownBlock=some q→bT+2≤q):=TMP.out.rowlt hmr (by omega);have GRW:Hid (∀w6 row,(wr.alloc (.cells #[.int .i64 c0] 3)).drew.grownBy w6 row→(∀q,row=some q→bT+2≤q)→w6.cell? ⟨bT+1,0,none⟩=some (.slice (some ⟨bT,0,none⟩) ns.length ns.length)∧w6.cell? ⟨bT,m*2,none⟩=some (V m 0)∧w6.frozen? ⟨bT,m*2,none⟩=false):=fun w6 row hg hr=>(by have ba:Below wr.heap.size wr (wr.alloc (.cells #[.int .i64 c0] 3)):=(Below.refl _ _).alloc (Nat.le_refl _) _;have tr:=((TMP.out.below ba).drew.row).grown hg (fun e=>by have:=hr _ e.symm;omega);have mr:=((MBP.out.below ba).drew).grown hg hr;refine⟨mr.p8.one.1,?_,tr.frozen _⟩;have:=tr.cell hmr (show 0<2 by omega);simpa using this);obtain⟨v,hv⟩:∃v,V m 0=v:=⟨_,rfl⟩;rw[hv]at cv OWJ NXT RLT GRW;have mi:(m:Int)<(ns.length:Int):=(by omega);clear mb tm hv
        go_wp2_with fail
        have hiI:=HIi.out;have hzI:=HIz.out;have hzI1:=HIz1.out;have hzI2:=HIz2.out
        go_region_law (refine step_append_any _ (by rfl) (.tmp 96) (.tmp 98) 26 (by rfl) (bT+2) 3 iI _ 1 8 Tryz.underlying26 hiI hzI hzI1 hzI2 rfl (by decide) _ _ _ (by rfl) ((OWJ.out.alloc _).drew) (wr.heap.size+1) (some ⟨wr.heap.size,0,none⟩) 1 1 [.int .i64 c0] (by rfl) (reads_new wr 3 #[.int .i64 c0] rfl) ?_ ?_ ?_ ?_ ?_;(intro u hu;simp at hu;subst hu;rfl);(unfold maxLen;omega);omega;(simp;omega);intro v' w6 own6 gr6 loc6;obtain⟨b6,q6,hv6⟩:=ownsRow_pos (by omega) own6;rw[hv6];obtain⟨d8,dv,dfv⟩:=GRW.out _ _ gr6 RLT.out)
        all_goals
         have R:=Lib.hid (NXT.out _ _ own6 gr6 (by simpa using loc6));rw[hv6]at R;clear own6 gr6 loc6 d8 dv dfv cv fv hiI hzI hzI1 hzI2 hv6
         go_wp2_with fail
         go_roundg 1
         case rel=>exact R.out
         case measure=>have:=HJG.out;omega
       ·subst hj0;have cv:=tm.cell hmr (show 1<2 by omega);have fv:wr.frozen? ⟨bT,m*2+1,none⟩=false:=tm.row.frozen _;have OWJ:=Lib.hid (tm.own m 1 hmr (by omega));rw[lenK_at]at OWJ;have NXT:Hid (∀w6 v',w6.ownsRow (bT+2) 3 1 v' (k+1) ((rowG G m 1 k).flatMap cI++[.int .i64 c1])→(wr.alloc (.cells #[.int .i64 c1] 3)).drew.grownBy w6 (V m 1).ownBlock→(v'.ownBlock=(V m 1).ownBlock∨v'.ownBlock=some (wr.heap.size+1))→
         RelMP w w7 ns cs us lv An Ac Au Al cn cc cu cl bT (bT+2) wo.heap.size (w5.heap.size+2) f k m 0 (.int .i64 ((1+1:Nat):Int)) (w6.setCell ⟨bT,m*2+1,none⟩ v')):=fun w6 v' h1 h2 h3=>
         RelMP.step MBP.out TMP.out COLP.out ENTP.out PHP.out GAPP.out hmr (by omega) rfl ENT1.out (by have:=SZ7.out;omega) szT h1 h2 h3
        have RLT:Hid (∀q,(V m 1).ownBlock=some q→bT+2≤q):=TMP.out.rowlt hmr (by omega);have GRW:Hid (∀w6 row,(wr.alloc (.cells #[.int .i64 c1] 3)).drew.grownBy w6 row→(∀q,row=some q→bT+2≤q)→w6.cell? ⟨bT+1,0,none⟩=some (.slice (some ⟨bT,0,none⟩) ns.length ns.length)∧w6.cell? ⟨bT,m*2+1,none⟩=some (V m 1)∧w6.frozen? ⟨bT,m*2+1,none⟩=false):=fun w6 row hg hr=>(by have ba:Below wr.heap.size wr (wr.alloc (.cells #[.int .i64 c1] 3)):=(Below.refl _ _).alloc (Nat.le_refl _) _;have tr:=((TMP.out.below ba).drew.row).grown hg (fun e=>by have:=hr _ e.symm;omega);have mr:=((MBP.out.below ba).drew).grown hg hr;refine⟨mr.p8.one.1,?_,tr.frozen _⟩;have:=tr.cell hmr (show 1<2 by omega);simpa using this);obtain⟨v,hv⟩:∃v,V m 1=v:=⟨_,rfl⟩;rw[hv]at cv OWJ NXT RLT GRW;have mi:(m:Int)<(ns.length:Int):=(by omega);clear mb tm hv
        go_wp2_with fail
        have hiI:=HIi.out;have hzI:=HIz.out;have hzI1:=HIz1.out;have hzI2:=HIz2.out
        go_region_law (refine step_append_any _ (by rfl) (.tmp 96) (.tmp 98) 26 (by rfl) (bT+2) 3 iI _ 1 8 Tryz.underlying26 hiI hzI hzI1 hzI2 rfl (by decide) _ _ _ (by rfl) ((OWJ.out.alloc _).drew) (wr.heap.size+1) (some ⟨wr.heap.size,0,none⟩) 1 1 [.int .i64 c1] (by rfl) (reads_new wr 3 #[.int .i64 c1] rfl) ?_ ?_ ?_ ?_ ?_;(intro u hu;simp at hu;subst hu;rfl);(unfold maxLen;omega);omega;(simp;omega);intro v' w6 own6 gr6 loc6;obtain⟨b6,q6,hv6⟩:=ownsRow_pos (by omega) own6;rw[hv6];obtain⟨d8,dv,dfv⟩:=GRW.out _ _ gr6 RLT.out)
        all_goals
         have R:=Lib.hid (NXT.out _ _ own6 gr6 (by simpa using loc6));rw[hv6]at R;clear own6 gr6 loc6 d8 dv dfv cv fv hiI hzI hzI1 hzI2 hv6
         go_wp2_with fail
         go_roundg 0
         case rel=>exact R.out
         case measure=>have:=HJG.out;omega
       ·subst hj0;have R:Hid (RelMN w w7 ns cs us lv An Ac Au Al cn cc cu cl bT (bT+2) wo.heap.size (w5.heap.size+2) f k (ns.length-(m+1)) (.int .i64 ((m+1:Nat):Int)) wr):=by
         refine⟨m+1,V,G,by omega,rfl,MBP.out,TMP.out.congr (fun i p _ hp=>lenK_next k m i p hp),COLP.out,fun i p hi hp=>?_,GAPP.out⟩;by_cases e:i=m
         ·rw[e];exact PHP.out p (by omega)
         ·exact ENTP.out i p (by omega) hp
        clear mb tm
        go_wp2_with fail
        go_roundg (ns.length-(m+1))
        case rel=>exact R.out
        case measure=>have:=HMG.out;omega
    ·obtain rfl:m=ns.length:=by omega
     have R:Hid (RelMT w ns cs us lv An Ac Au Al cn cc cu cl bT (bT+2) (ns.length-(k+1)) (.int .i64 ((k+1:Nat):Int)) wr):=by
      refine⟨k+1,V,G,by omega,rfl,mb,?_,fun t ht=>?_⟩
      ·have h1:=(TMN.out.congr (len':=fun _ _=>k+1) (fun i p hi _=>lenK_all k ns.length i p hi));exact h1.regap (fun g _=>.inr (Nat.zero_le _))
      ·by_cases e:t=k
       ·rw[e];exact⟨f,FND.out,fun i p hi hp=>ENTN.out i p hi hp⟩
       ·exact COLN.out t (by omega)
     clear mb
     go_wp2_with fail
     go_roundg (ns.length-(k+1))
     case rel=>exact R.out
     case measure=>have:=HKG.out;omega
  ·obtain rfl:k=ns.length:=by omega
   have c8:=mb.p8.one.1;have c6:=mb.p6.one.1;have f6:=mb.p6.one.2;have F:Hid (MakePost ns.length cs us lv w (.returned (.tuple #[.agg #[.slice (some ⟨bT,0,none⟩) ns.length ns.length],.int .i64 0])) (wr.setCell ⟨w.heap.size+1+1+1,0,none⟩ (.slice (some ⟨bT,0,none⟩) ns.length ns.length))):=(by have l0:=mb.lt0;exact⟨bT,bT+2,V,G,rfl,by omega,TMH.out.far (p:=⟨w.heap.size+1+1+1,0,none⟩) (by show bT≠w.heap.size+1+1+1;omega) (by show w.heap.size+1+1+1<bT+2;omega) _,COLH.out,mb.bel.setCell (by show w.heap.size≤w.heap.size+1+1+1;omega) _⟩);clear mb
   go_wp2_with fail
   refine bodyPost_ret (v:=.tuple #[.agg #[.slice (some ⟨bT,0,none⟩) ns.length ns.length],.int .i64 0]) (by simp[results,Tryz.results89,go_sem,c6]) rfl ?_;exact F.out
end Go.Proofs.YtnjjkgjdhljfnaaGreat
namespace Go.Proofs.YtnjjkgjdhljfnaaGreat
open Go.RowKit Go.Maps
theorem above_iff{lv:List Int}{a b:Nat}:aboveB lv (a:Int) (b:Int)=true↔a<lv.length∧b<lv.length∧0≤lv.getD a 0∧0≤lv.getD b 0∧(lv.getD a 0<lv.getD b 0∨(lv.getD a 0=lv.getD b 0∧a<b)):=by
 unfold aboveB hasB lvAt;simp only[Int.toNat_natCast,Bool.and_eq_true,decide_eq_true_eq];have h:orL [cmpZ (lv.getD a 0) (lv.getD b 0),cmpZ (a:Int) (b:Int)]<0↔(lv.getD a 0<lv.getD b 0∨(lv.getD a 0=lv.getD b 0∧a<b)):=by
  generalize lv.getD a 0=x;generalize lv.getD b 0=y;unfold orL cmpZ;by_cases h1:x<y
  ·simp[h1]
  ·by_cases h2:y<x
   ·rw[if_neg h1,if_pos h2];simp;omega
   ·rw[if_neg h1,if_neg h2];simp only[ne_eq,not_true_eq_false,if_false];unfold orL orL;by_cases h3:(a:Int)<b
    ·rw[if_pos h3];simp;omega
    ·rw[if_neg h3];by_cases h4:(b:Int)<a
     ·rw[if_pos h4];simp;omega
     ·rw[if_neg h4];simp;omega
 rw[h];constructor
 ·rintro⟨⟨⟨⟨h1,h2⟩,h3⟩,⟨h4,h5⟩,h6⟩,h7⟩;exact⟨by omega,by omega,h3,h6,h7⟩
 ·rintro⟨h1,h2,h3,h4,h5⟩;exact⟨⟨⟨⟨by omega,by omega⟩,h3⟩,⟨by omega,by omega⟩,h4⟩,h5⟩
theorem above_asym{lv:List Int}{a b:Nat}(h:aboveB lv (a:Int) (b:Int)=true):aboveB lv (b:Int) (a:Int)=false:=by
 cases h2:aboveB lv (b:Int) (a:Int)with
 |false=>rfl
 |true=>rw[above_iff]at h h2;omega
theorem above_total{lv:List Int}{a b:Nat}(ha:a<lv.length)(hb:b<lv.length)(la:0≤lv.getD a 0)(lb:0≤lv.getD b 0)(hne:a≠b)(h:aboveB lv (a:Int) (b:Int)=false):aboveB lv (b:Int) (a:Int)=true:=by
 rw[above_iff];refine⟨hb,ha,lb,la,?_⟩;have:¬(lv.getD a 0<lv.getD b 0∨(lv.getD a 0=lv.getD b 0∧a<b)):=fun h2=>by rw[above_iff.2 ⟨ha,hb,la,lb,h2⟩]at h;cases h
 omega
section
variable{n:Nat}{cs:List Cb}{us:List Bool}{lv:List Int}{t:Nat}{f:SMp}
end
structure Net(ns:List Nd)(cs:List Cb)(us:List Bool)(lv:List Int)(G:GT):Prop where
 valid:validP ⟨ns,cs⟩=0
 ord:orderB ⟨ns,cs⟩ lv=true
 col:∀t,t<ns.length→Col ns.length cs us lv G t
section
variable{ns:List Nd}{cs:List Cb}{us:List Bool}{lv:List Int}{G:GT}
theorem valid_abG{ns:List Nd}{cs:List Cb}(h:validP ⟨ns,cs⟩=0):∀y∈cs,y.a≠y.b:=fun y hy=>valid_abN h hy
theorem fit_touch{R F:List Int}{u i:Nat}{left:Int}{mr:Bool}(hv:validP ⟨ns,cs⟩=0)(hi:i<cs.length)(h:fitC cs us lv R F u left mr i=true):∃v:Nat,v<ns.length∧touch (cs.getD i cb0) u v:=by
 have hm:cs.getD i cb0∈cs:=by simp[List.getD,hi]
 obtain⟨⟨a0,a1⟩,b0,b1⟩:=cab_node hv hm;unfold fitC at h;simp only[Bool.and_eq_true]at h;have h2:=h.1.1.2;unfold acrossV at h2;split at h2
 ·rename_i e;exact⟨(cs.getD i cb0).b.toNat,by omega,.inl ⟨e.symm,by omega⟩⟩
 ·split at h2
  ·rename_i e;exact⟨(cs.getD i cb0).a.toNat,by omega,.inr ⟨e.symm,by omega⟩⟩
  ·cases h2
end
theorem LvI.wf{n:Nat}{cs:List Cb}{root:Nat}{l:List Int}(h:LvI n cs root l)(hn:n≤1000000):WfI l:=by
 intro x hx;obtain⟨i,hi,rfl⟩:=List.mem_iff_getElem.1 hx;have e:l.getD i 0=l[i]:=by simp[List.getD,hi]
 have h1:=h.ge (j:=i) (by rw[←h.len];exact hi);have h2:=h.lt (j:=i) (by rw[←h.len];exact hi);rw[e]at h1 h2;exact wf_small _ (by omega) (by omega)
end Go.Proofs.YtnjjkgjdhljfnaaGreat
