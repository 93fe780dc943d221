/- Part 6 of the proof of fabricErrors.proved: NA FbDi. Several texts in one, blanks struck, what is not used left out. -/
import Derived.ArgAppend
import Derived.Deep.LoopGhost
import Derived.DeepKeys4
import Derived.IntWalk
import Derived.Laws.EntriesVeiled
import Derived.Laws.OwnMore
import Derived.Outline
import Derived.Test.YtnjjkgjdhljfnaaGreatPk3
import Derived.Test.YtnjjkgjdhljfnaaGreatPk5
set_option maxRecDepth 100000
set_option maxHeartbeats 16000000
set_option linter.unusedVariables false
set_option linter.unusedSimpArgs false
namespace Go.Proofs.YtnjjkgjdhljfnaaGreat
open Go.RowKit Go.Maps
theorem nodup_lenG{α:Type}[DecidableEq α]{C S:List α}(h:C.Nodup)(hs:∀x∈C,x∈S):C.length≤S.length:=by
 induction C generalizing S with
 |nil=>simp
 |cons x C ih=>obtain⟨h1,h2⟩:=List.nodup_cons.1 h;have hx:=hs x (List.mem_cons_self ..);have h3:=ih (S:=S.erase x) h2 (fun y hy=>(List.mem_erase_of_ne (by rintro rfl;exact h1 hy)).2 (hs y (List.mem_cons_of_mem _ hy)));rw[List.length_erase_of_mem hx]at h3;have:=List.length_pos_of_mem hx;simp;omega
def touch(x:Cb)(j k:Nat):Prop:=(x.a=j∧x.b=k)∨(x.b=j∧x.a=k)
structure LvI(n:Nat)(cs:List Cb)(root:Nat)(l:List Int):Prop where
 len:l.length=n
 rlt:root<n
 zero:l.getD root 0=0
 pos:∀j,j<n→j≠root→l.getD j 0=-1∨0<l.getD j 0
 led:∀j,j<n→0<l.getD j 0→∃x∈cs,∃k,k<n∧touch x j k∧l.getD k 0=l.getD j 0-1
section
variable{n:Nat}{cs:List Cb}{root:Nat}{l:List Int}
theorem LvI.ge(h:LvI n cs root l){j:Nat}(hj:j<n):-1≤l.getD j 0:=by
 rcases Classical.em (j=root)with rfl|hne
 ·rw[h.zero];omega
 ·rcases h.pos j hj hne with h1|h1<;>omega
theorem LvI.down(h:LvI n cs root l)(d:Nat):∀j,j<n→l.getD j 0=d→∀e,e≤d→∃k,k<n∧l.getD k 0=(e:Int):=by
 induction d with
 |zero=>
  intro j hj hd e he;have h0:e=0:=by omega
  subst h0;exact⟨j,hj,hd⟩
 |succ d ih=>
  intro j hj hd e he;rcases Nat.lt_or_ge e (d+1)with h1|h1
  ·obtain⟨x,_,k,hk,_,hlk⟩:=h.led j hj (by rw[hd];omega);exact ih k hk (by rw[hlk,hd];omega) e (by omega)
  ·exact⟨j,hj,by rw[hd];omega⟩
theorem LvI.lt(h:LvI n cs root l){j:Nat}(hj:j<n):l.getD j 0<n:=by
 rcases Int.lt_or_le (l.getD j 0) 0 with h0|h0
 ·omega
 ·obtain⟨d,hd⟩:∃d:Nat,l.getD j 0=d:=⟨(l.getD j 0).toNat,by omega⟩;have hall:=h.down d j hj hd;let J:Nat→Nat:=fun e=>if he:e≤d then Classical.choose (hall e he)else 0
  have hJ:∀e,e≤d→J e<n∧l.getD (J e) 0=(e:Int):=fun e he=>by have:J e=Classical.choose (hall e he):=(by simp only[J];rw[dif_pos he]);rw[this];exact Classical.choose_spec (hall e he)
  have hnd:((List.range (d+1)).map J).Nodup:=by rw[List.nodup_iff_pairwise_ne,List.pairwise_map];refine(List.nodup_iff_pairwise_ne.1 List.nodup_range).imp_of_mem ?_;intro a b ha hb hne heq;have h1:=(hJ a (by have:=List.mem_range.1 ha;omega)).2;have h2:=(hJ b (by have:=List.mem_range.1 hb;omega)).2;rw[heq,h2]at h1;exact hne (by omega)
  have hle:=nodup_lenG hnd (S:=List.range n) (fun x hx=>by rw[List.mem_map]at hx;obtain⟨e,he,rfl⟩:=hx;exact List.mem_range.2 (hJ e (by have:=List.mem_range.1 he;omega)).1);simp at hle;omega
theorem LvI.order{ns:List Nd}(h:LvI ns.length cs root l)(hv:validP ⟨ns,cs⟩=0):orderB ⟨ns,cs⟩ l=true:=by
 unfold orderB;simp only[Bool.and_eq_true,decide_eq_true_eq];refine⟨⟨⟨⟨hv,h.len⟩,?_⟩,?_⟩,?_⟩
 ·rw[List.all_eq_true];intro x hx;obtain⟨i,hi,rfl⟩:=List.mem_iff_getElem.1 hx;have e:l.getD i 0=l[i]:=by simp[List.getD,hi]
  have hi':i<ns.length:=by rw[←h.len];exact hi
  have h1:=h.ge hi';have h2:=h.lt hi';rw[e]at h1 h2;unfold levelOk;rw[decide_eq_true h1,decide_eq_true h2];rfl
 ·
  have hr:root<l.length:=by rw[h.len];exact h.rlt
  have hsp:l=l.take root++l[root]::l.drop (root+1):=by rw[←List.drop_eq_getElem_cons hr];exact(List.take_append_drop root l).symm
  have hz:l[root]=0:=by have:=h.zero;simpa[List.getD,hr]using this
  have hnz:∀i (hi:i<l.length),i≠root→¬((l[i]==0)=true):=fun i hi hne=>by have e:l.getD i 0=l[i]:=(by simp[List.getD,hi]);have:=h.pos i (by rw[←h.len];exact hi) hne;rw[e]at this;simp;omega
  rw[hsp,List.countP_append,List.countP_cons,hz];have c1:(l.take root).countP (· ==0)=0:=by rw[List.countP_eq_zero];intro x hx;obtain⟨i,hi,rfl⟩:=List.mem_take_iff_getElem.1 hx;exact hnz i (by omega) (by omega)
  have c2:(l.drop (root+1)).countP (· ==0)=0:=by rw[List.countP_eq_zero];intro x hx;obtain⟨i,hi,rfl⟩:=List.mem_iff_getElem.1 hx;rw[List.getElem_drop];exact hnz _ (by rw[List.length_drop]at hi;omega) (by omega)
  rw[c1,c2];rfl
 ·rw[List.all_eq_true];intro i hi;rw[List.mem_range]at hi;have hi':i<ns.length:=by rw[←h.len];exact hi
  unfold nodeOk;by_cases hp:0<l.getD i 0
  ·obtain⟨x,hx,k,hk,ht,hl⟩:=h.led i hi' hp;have:ledTo cs l cs.length i=true:=by
    unfold ledTo;rw[List.take_length,List.any_eq_true];refine⟨x,hx,?_⟩;unfold leads lvAt;rcases ht with⟨e1,e2⟩|⟨e1,e2⟩
    ·rw[e1,e2,Int.toNat_natCast,Int.toNat_natCast,if_neg (by omega),if_pos hl];simp
    ·rw[e1,e2,Int.toNat_natCast,Int.toNat_natCast,if_pos hl];simp
   rw[this];simp
  ·rw[decide_eq_false hp];rfl
theorem LvI.start(hr:root<n):LvI n cs root ((List.replicate n (-1)).set root 0):=by
 have hg:∀j,j<n→((List.replicate n (-1:Int)).set root 0).getD j 0=if j=root then 0 else-1:=fun j hj=>by
  by_cases h:j=root
  ·subst h;simp[List.getD,hj]
  ·rw[if_neg h];simp[List.getD,Ne.symm h,hj]
 refine⟨by simp,hr,by rw[hg root hr,if_pos rfl],fun j hj hne=>.inl (by rw[hg j hj,if_neg hne]),fun j hj hp=>?_⟩;rw[hg j hj]at hp;split at hp<;>omega
theorem LvI.visit(h:LvI n cs root l){v u:Nat}(hv:v<n)(hu:u<n)(h1:l.getD v 0<0)(h2:0≤l.getD u 0){x:Cb}(hx:x∈cs)(ht:touch x v u):LvI n cs root (l.set v (l.getD u 0+1)):=by
 have hl:=h.len;have hg:∀j,j<n→(l.set v (l.getD u 0+1)).getD j 0=if j=v then l.getD u 0+1 else l.getD j 0:=fun j hj=>by
  by_cases e:j=v
  ·subst e;rw[if_pos rfl];simp[List.getD,hl,hj]
  ·rw[if_neg e];simp[List.getD,Ne.symm e]
 have hrv:root≠v:=fun e=>by rw[←e,h.zero]at h1;omega
 have huv:u≠v:=fun e=>by rw[e]at h2;omega
 refine⟨by simpa using hl,h.rlt,by rw[hg root h.rlt,if_neg hrv];exact h.zero,fun j hj hne=>?_,fun j hj hp=>?_⟩
 ·rw[hg j hj];split
  ·right;omega
  ·exact h.pos j hj hne
 ·rw[hg j hj]at hp⊢;by_cases e:j=v
  ·subst e;rw[if_pos rfl];exact⟨x,hx,u,hu,ht,by rw[hg u hu,if_neg huv];omega⟩
  ·rw[if_neg e]at hp⊢;obtain⟨y,hy,k,hk,htk,hlk⟩:=h.led j hj hp;have hkv:k≠v:=fun e2=>(by rw[e2]at hlk;omega);exact⟨y,hy,k,hk,htk,by rw[hg k hk,if_neg hkv];exact hlk⟩
end
def without(l:List Int):Nat:=l.countP fun x=>decide (x<0)
theorem without_set{l:List Int}{v:Nat}{x:Int}(hv:v<l.length)(h1:l.getD v 0<0)(hx:0≤x):without (l.set v x)+1=without l:=by
 have e:l.getD v 0=l[v]:=by simp[List.getD,hv]
 rw[e]at h1;have hsp:l=l.take v++l[v]::l.drop (v+1):=by rw[←List.drop_eq_getElem_cons hv];exact(List.take_append_drop v l).symm
 have hst:l.set v x=l.take v++x::l.drop (v+1):=List.set_eq_take_append_cons_drop ..|>.trans (by rw[if_pos hv]);unfold without;rw[hst]
 conv=>rhs;rw[hsp]
 rw[List.countP_append,List.countP_append,List.countP_cons,List.countP_cons,decide_eq_true h1,decide_eq_false (show ¬x<0 by omega)];simp;omega
end Go.Proofs.YtnjjkgjdhljfnaaGreat
namespace Go.Proofs.YtnjjkgjdhljfnaaGreat
open Go.RowKit Go.Maps
def QAt(w:World)(base g:Nat)(v:Value)(q:List Int):Prop:=
 ∃off cap cur,v=.slice (some ⟨g,off,none⟩) q.length cap∧base≤g∧w.heap[g]?=some (.cells cur 3 (0,0))∧q.length≤cap∧off+cap≤cur.size∧(cur.toList.drop off).take q.length=q.map (Value.int .i64)
section
variable{w w':World}{base g:Nat}{v:Value}{q:List Int}
theorem QAt.lt(h:QAt w base g v q):g<w.heap.size:=by obtain⟨_,_,_,_,_,h,_⟩:=h;exact(Array.getElem?_eq_some_iff.1 h).1
theorem QAt.ge(h:QAt w base g v q):base≤g:=by obtain⟨_,_,_,_,h,_⟩:=h;exact h
theorem QAt.keep(h:QAt w base g v q)(hb:w'.heap[g]?=w.heap[g]?):QAt w' base g v q:=by obtain⟨off,cap,cur,h1,h2,h3,r⟩:=h;exact⟨off,cap,cur,h1,h2,hb.trans h3,r⟩
theorem QAt.alloc(h:QAt w base g v q)(o:Obj):QAt (w.alloc o) base g v q:=h.keep (Below.heap_alloc w o g h.lt)
theorem QAt.set_(h:QAt w base g v q){p:Addr}(hp:p.block≠g)(u:Value):QAt (w.setCell p u) base g v q:=h.keep (Below.heap_setCell w p u g (Ne.symm hp))
theorem QAt.form(h:QAt w base g v q):∃a cap,v=.slice (some a) q.length cap∧q.length≤cap:=by obtain⟨off,cap,cur,h1,_,_,h4,_⟩:=h;exact⟨_,cap,h1,h4⟩
theorem QAt.head{x:Int}(h:QAt w base g v (x::q)):∃off cap,v=.slice (some ⟨g,off,none⟩) (q.length+1) cap∧q.length+1≤cap∧w.cell? ⟨g,off,none⟩=some (.int .i64 x)∧QAt w base g (.slice (if cap=1 then some ⟨g,off,none⟩else some ⟨g,off+1,none⟩) q.length (cap-1)) q:=by
 obtain⟨off,cap,cur,h1,h2,h3,h4,h5,h6⟩:=h;rw[List.length_cons]at h1 h4 h6;have hlt:off<cur.toList.length:=by rw[Array.length_toList];omega
 rw[List.drop_eq_getElem_cons hlt,List.take_succ_cons,List.map_cons]at h6;injection h6 with h6 h7;have hcell:=cell_of_row w g off cur 3 (0,0) h3;refine⟨off,cap,h1,h4,?_,?_⟩
 ·rw[hcell,←h6];simp[show off<cur.size by omega]
 ·by_cases hc:cap=1
  ·rw[if_pos hc];have hq:q=[]:=List.eq_nil_of_length_eq_zero (by omega);subst hq;exact⟨off,cap-1,cur,rfl,h2,h3,by simp,by omega,by simp⟩
  ·rw[if_neg hc];exact⟨off+1,cap-1,cur,rfl,h2,h3,by omega,by omega,h7⟩
theorem QAt.lit(w:World)(x:Int)(hb:base≤w.heap.size):QAt (w.alloc (.cells #[.int .i64 x] 3)) base w.heap.size (.slice (some ⟨w.heap.size,0,none⟩) 1 1) [x]:=
 ⟨0,1,#[.int .i64 x],rfl,hb,heap_alloc_new w _,Nat.le_refl _,by simp,rfl⟩
theorem cells_of_q(h:QAt w base g v q):∃off cap,v=.slice (some ⟨g,off,none⟩) q.length cap∧∀j u,(q.map (Value.int .i64))[j]?=some u→w.cell? ((⟨g,off,none⟩:Addr).add j)=some u:=by
 obtain⟨off,cap,cur,h1,h2,h3,h4,h5,h6⟩:=h;refine⟨off,cap,h1,fun j u hu=>?_⟩;have hj:j<q.length:=by
  rcases Nat.lt_or_ge j q.length with h|h
  ·exact h
  ·rw[List.getElem?_eq_none (by simpa using h)]at hu;cases hu
 have hcell:=cell_of_row w g (off+j) cur 3 (0,0) h3;rw[Addr.add_lit,hcell,←hu,←h6,List.getElem?_take,if_pos hj,List.getElem?_drop];simp
theorem run_append_q(h:QAt w base g v q)(x:Int)(ad:Addr)(c ty:Nat)(hnew:w.cell? ad=some (.int .i64 x))(hbase:base≤w.heap.size)(hlen:q.length≤1000000):∃v' g' w',(Builtin.append_ #[26,26] ty #[v,.slice (some ad) 1 c]).run Tryz.prog w=.ok v' w'∧QAt w' base g' v' (q++[x])∧w.grownBy w' (some g)∧(g'=g∨g'=w.heap.size):=by
 obtain⟨i0,hi0,hz0,hz1,hz2⟩:=info_parts infoInt;have hnews:∀j u,[Value.int .i64 x][j]?=some u→w.cell? (ad.add j)=some u:=fun j u hu=>by
  match j,hu with
  |0,hu=>simp at hu;subst hu;simpa[Addr.add]using hnew
 obtain⟨off0,cap0,hv0,hcells⟩:=cells_of_q h;obtain⟨off,cap,cur,h1,h2,h3,h4,h5,h6⟩:=h;rw[h1]at hv0;injection hv0 with e1 _ e2;injection e1 with e1;injection e1 with _ e1;subst e1;subst e2;by_cases hroom:q.length+1≤cap
 ·have hcell:=cell_of_row w g (off+q.length*i0.size+0) cur 3 (0,0) h3;have hfr:=frozen_of_row w g (off+q.length*i0.size+0) cur 3 h3;have hlt:off+q.length*i0.size+0<cur.size:=by rw[hz1];omega
  have hsome:∀j,j<[Value.int .i64 x].length→(w.cell? ⟨g,off+q.length*i0.size+j,none⟩).isSome=true:=by
   intro j hj;obtain rfl:j=0:=by simpa using hj
   rw[hcell,Array.getElem?_eq_getElem hlt];rfl
  have hfz:∀j,j<[Value.int .i64 x].length→w.frozen? ⟨g,off+q.length*i0.size+j,none⟩=false:=by
   intro j hj;obtain rfl:j=0:=by simpa using hj
   exact hfr
  have hrun:=run_append_room_cells (P:=Tryz.prog) (w:=w) 26 ty 3 i0 Tryz.underlying26 hi0 g off q.length cap ad 1 c [.int .i64 x] (by simp[hz1]) hnews (by intro u hu;simp at hu;subst hu;rfl) hroom hsome hfz;refine⟨_,g,_,by rw[h1];exact hrun,?_,?_,.inl rfl⟩
  ·refine⟨off,cap,cur.setIfInBounds (off+q.length) (.int .i64 x),by rw[List.length_append];rfl,h2,?_,by simpa using hroom,by simpa using h5,?_⟩
   ·rw[hz1,Nat.mul_one];exact heap_setCell_same w g (off+q.length) cur 3 _ h3
   ·have hcl:cur.toList.length=cur.size:=Array.length_toList;have hq:off+q.length<cur.toList.length:=by omega
    rw[Array.toList_setIfInBounds,List.length_append,List.map_append];apply List.ext_getElem?;intro j;rw[List.getElem?_take,List.getElem?_drop];by_cases hj:j<q.length
    ·rw[if_pos (by simp;omega),List.getElem?_set_ne (by omega),List.getElem?_append_left (by simpa using hj),←h6,List.getElem?_take,if_pos hj,List.getElem?_drop]
    ·by_cases hj2:j=q.length
     ·subst hj2;rw[if_pos (by simp),List.getElem?_set_self hq,List.getElem?_append_right (by simp)];simp
     ·rw[if_neg (by simp;omega),List.getElem?_eq_none (by simp;omega)]
  ·rw[hz1,Nat.mul_one];exact⟨rfl,rfl,rfl,by simp[World.setCells,World.setCell],fun i hi hne=>Below.heap_setCell w ⟨g,off+q.length,none⟩ _ i (fun e=>hne (by rw[e]))⟩
 ·have hrun:=run_append_grow (P:=Tryz.prog) (w:=w) 26 ty 3 i0 _ Tryz.underlying26 hi0 hz0 ⟨g,off,none⟩ q.length cap (q.map (Value.int .i64)) (by simp[hz1]) hcells ad 1 c [.int .i64 x] (by simp[hz1]) hnews (by omega) (by omega)
   (growslice_fits (by omega) (by rw[hz2];omega))
  have hge:q.length+1≤grownCap w (q.length+1) cap 3:=by exact Go.grownCap_ge w (q.length+1) cap 3
  refine⟨_,w.heap.size,_,by rw[h1];exact hrun,?_,?_,.inr rfl⟩
  ·refine⟨0,_,_,by rw[List.length_append];rfl,hbase,heap_alloc_new w.drew _,by simpa using hge,?_,?_⟩
   ·simp[Builtin.zeroCells,Value.cells];omega
   ·rw[List.length_append,List.map_append];simp only[List.drop_zero,Array.toList_append,List.length_singleton,List.map_singleton];exact List.take_left' (by simp)
  ·exact⟨rfl,rfl,rfl,by simp,fun i hi _=>Below.heap_alloc w.drew _ i hi⟩
end
end Go.Proofs.YtnjjkgjdhljfnaaGreat
namespace Go.Proofs.YtnjjkgjdhljfnaaGreat
open Go.RowKit Go.Maps
theorem wpList_append_q{ops:Array Oper}{rest:List Oper}{o:Oper}{a:Act}{w:World}{Q:Exit→Act→World→Prop}(hgd:o.guard=none)(s x:Operand)(ho:o.op=.call {callee:=.builtin .append,args:=#[s,x],argTypes:=#[26,26]}){base g:Nat}{v:Value}{q:List Int}(hs:a.eval s=v)(hq:QAt w base g v q)(y:Int)(ad:Addr)(c:Nat)(hx:a.eval x=.slice (some ad) 1 c)(hnew:w.cell? ad=some (.int .i64 y))(hbase:base≤w.heap.size)(hlen:q.length≤1000000)(h:∀v' g' w',QAt w' base g' v' (q++[y])→w.grownBy w' (some g)→(g'=g∨g'=w.heap.size)→wpList Tryz.prog ops Q rest (a.put o.dst v') w'):wpList Tryz.prog ops Q (o::rest) a w:=by refine wpList_plain hgd fun K hK=>?_;obtain⟨v',g',w',hrun,r1,r2,r3⟩:=run_append_q hq y ad c o.type hnew hbase hlen;unfold Oper.wp execOp;simp only[ho,resolve,invoke,builtin,Sem.run_bind,Sem.run_pure,Result.andThen_ok,List.map_toArray,List.map_cons,List.map_nil,hs,hx,hrun];exact hK _ _ (h v' g' w' r1 r2 r3)
def rowI(l:List Int):Array Value:=(l.map (Value.int .i64)).toArray
theorem rowI_get(l:List Int)(i:Nat)(hi:i<l.length):(rowI l)[i]?=some (.int .i64 (l.getD i 0)):=by unfold rowI;simp[List.getD,hi]
theorem rowI_set(l:List Int)(i:Nat)(x:Int):(rowI l).setIfInBounds i (.int .i64 x)=rowI (l.set i x):=by unfold rowI;simp[List.map_set]
structure DS(w:World)(n base b7 bl b10 b9 gq:Nat)(node:Int)(qv:Value)(l q:List Int):Prop where
 box:Blk w b7 26 #[.slice (some ⟨bl,0,none⟩) n n]
 row:Blk w bl 3 (rowI l)
 len:l.length=n
 node:Blk w b10 3 #[.int .i64 node]
 qbox:Blk w b9 26 #[qv]
 que:QAt w base gq qv q
 ne1:gq≠bl
 ne2:gq≠b10
 ne3:bl≠b10
 ne4:gq≠b7
 ne5:gq≠b9
 ne6:b7≠b9
theorem Blk.tne{w:World}{g g':Nat}{t t':TypeId}{cs cs':Array Value}(h:Blk w g t cs)(h':Blk w g' t' cs')(hne:t≠t'):g≠g':=Blk.ne_ h h' hne
def visL1(l q:List Int)(node:Int)(v:Nat):List Int×List Int:=if l.getD v 0<0 then(l.set v (l.getD node.toNat 0+1),q++[(v:Int)])else(l,q)
def DPost1(w:World)(n base b7 bl b10 b9 gq:Nat)(node:Int)(l q:List Int)(w':World):Prop:=
 ∃gq' qv',DS w' n base b7 bl b10 b9 gq' node qv' l q∧KB w.heap.size [bl,b9,gq] w w'∧(gq'=gq∨w.heap.size≤gq')
theorem distVisit_any(w:World)(n base b7 bl b10 b9 gq:Nat)(u v:Nat)(qv:Value)(l q:List Int)(h:DS w n base b7 bl b10 b9 gq (u:Int) qv l q)(hbase:base≤w.heap.size)(hv:v<n)(hu:u<n)(hn:n≤1000000)(hq:q.length≤1000000)(hb:0≤l.getD u 0∧l.getD u 0≤1000000):Calls Tryz.prog 110 #[.int .i64 v,.pointer (some ⟨b7,0,none⟩),.pointer (some ⟨b10,0,none⟩),.pointer (some ⟨b9,0,none⟩)] w fun e w'=>e=.returned (.tuple #[])∧DPost1 w n base b7 bl b10 b9 gq (u:Int) (visL1 l q (u:Int) v).1 (visL1 l q (u:Int) v).2 w':=by
 have hlen:=h.len;have c7:=h.box.one.1;have f9:=h.qbox.one.2;have c9:=h.qbox.one.1;have c10:=h.node.one.1;have cv:w.cell? ⟨bl,v,none⟩=some (.int .i64 (l.getD v 0)):=by rw[h.row.cell];exact rowI_get l v (by omega)
 have cu:w.cell? ⟨bl,u,none⟩=some (.int .i64 (l.getD u 0)):=by rw[h.row.cell];exact rowI_get l u (by omega)
 have fv:w.frozen? ⟨bl,v,none⟩=false:=h.row.frozen v;have H:=Lib.hid h;have v0:(0:Int)≤(v:Int):=by omega
 have v1:(v:Int)<(n:Int):=by omega
 have u0:(0:Int)≤(u:Int):=by omega
 have u1:(u:Int)<(n:Int):=by omega
 have VL:Hid (visL1 l q (u:Int) v=if l.getD v 0<0 then(l.set v (l.getD u 0+1),q++[(v:Int)])else(l,q)):=by rw[Hid];unfold visL1;rw[Int.toNat_natCast]
 obtain⟨x,hx⟩:∃x,l.getD v 0=x:=⟨_,rfl⟩;obtain⟨y,hy⟩:∃y,l.getD u 0=y:=⟨_,rfl⟩;rw[hx]at cv VL;rw[hy]at cu VL hb;clear hx hy h;by_cases hx0:x<0
 ·rw[if_pos hx0]at VL;have hq1:IntKind.i64.wrap (y+1)=y+1:=IntWalk.i64_in _ (by omega);have huv:u≠v:=fun e=>by subst e;rw[cv]at cu;injection cu with cu;injection cu with _ cu;omega
  have D:=H.out;have hg1:w.drew.grownBy (w.drew.setCell ⟨bl,v,none⟩ (.int .i64 (y+1))) (some bl):=only_setCell (only_refl w.drew (some bl)) (.inl rfl) _;have D1:Hid (DS (w.drew.setCell ⟨bl,v,none⟩ (.int .i64 (y+1))) n base b7 bl b10 b9 gq (u:Int) qv (l.set v (y+1)) q):=
   ⟨D.box.drew.far (p:=⟨bl,v,none⟩) (Blk.tne D.box D.row (by decide)) _,by rw[←rowI_set];exact D.row.drew.set_ v _,by simpa using D.len,D.node.drew.far (p:=⟨bl,v,none⟩) (Ne.symm D.ne3) _,D.qbox.drew.far (p:=⟨bl,v,none⟩) (Blk.tne D.qbox D.row (by decide)) _,(D.que.keep (w':=w.drew) rfl).set_ (p:=⟨bl,v,none⟩) (Ne.symm D.ne1) _,D.ne1,D.ne2,D.ne3,D.ne4,D.ne5,D.ne6⟩
  have KB1:Hid (KB w.heap.size [bl,b9,gq] w (w.drew.setCell ⟨bl,v,none⟩ (.int .i64 (y+1)))):=((KB.refl _ _ _).drew).setCell (Nat.le_refl _) (.inl (by simp)) _;obtain⟨w2,hw2⟩:∃w2:World,w.drew.setCell ⟨bl,v,none⟩ (.int .i64 (y+1))=w2:=⟨_,rfl⟩;rw[hw2]at D1 KB1;have KX:Hid (w2.cell? ⟨b7,0,none⟩=some (.slice (some ⟨bl,0,none⟩) n n)∧w2.cell? ⟨b10,0,none⟩=some (.int .i64 (u:Int))∧w2.cell? ⟨bl,u,none⟩=some (.int .i64 y)):=by refine⟨D1.out.box.one.1,D1.out.node.one.1,?_⟩;rw[D1.out.row.cell,rowI_get _ u (by rw[List.length_set];omega)];have:(l.set v (y+1)).getD u 0=l.getD u 0:=(by simp[List.getD,Ne.symm huv]);rw[this];have h2:=D.row.cell u;rw[cu,rowI_get l u (by omega)]at h2;exact h2.symm
  have HW2:=Lib.hid hw2;clear hg1 D c9 f9
  go_enter Tryz.func110,Tryz.ntmps110
  go_wp2_with fail
  go_region_held3 (fun W=>W.cell? ⟨b7,0,none⟩=some (.slice (some ⟨bl,0,none⟩) n n)∧W.cell? ⟨b10,0,none⟩=some (.int .i64 (u:Int))∧W.cell? ⟨bl,u,none⟩=some (.int .i64 y))
   (first|exact⟨c7,c10,cu⟩|exact KX.out) (fail)
  clear hw2 HW2 KX c7 c10 cv cu;have c9:=D1.out.qbox.one.1;have f9:=D1.out.qbox.one.2;have hsz:w.heap.size≤w2.heap.size:=KB1.out.size;have gqlt:=D1.out.que.lt;have Q1:Hid (QAt (w2.alloc (.cells #[.int .i64 (v:Int)] 3)) base gq qv q):=D1.out.que.alloc _;have hnew:(w2.alloc (.cells #[.int .i64 (v:Int)] 3)).cell? ⟨w2.heap.size,0,none⟩=some (.int .i64 (v:Int)):=by simp[go_sem]
  obtain⟨qa,qc,hqv,_⟩:=D1.out.que.form;subst hqv
  go_wp2_with (at_builtin;refine wpList_append_q rfl (.tmp 18) (.tmp 20) rfl rfl Q1.out (v:Int) ⟨w2.heap.size,0,none⟩ 1 rfl hnew ?z1 hq ?_)
  case z1=>simp;omega
  intro v3 g3 w3 q3 gr3 loc3;obtain⟨qa3,qc3,hqv3,_⟩:=q3.form;subst hqv3;have s3:=gr3.size;simp at s3;have hloc:g3=gq∨w2.heap.size≤g3:=by
   rcases loc3 with e|e
   ·exact .inl e
   ·right;rw[e];simp
  have D2:Hid (DS (w3.setCell ⟨b9,0,none⟩ (.slice (some qa3) (q++[(v:Int)]).length qc3)) n base b7 bl b10 b9 g3 (u:Int) (.slice (some qa3) (q++[(v:Int)]).length qc3) (l.set v (y+1)) (q++[(v:Int)])):=by
   have D:=D1.out;have l7:=D.box.lt;have ll:=D.row.lt;have l10:=D.node.lt;have l9:=D.qbox.lt;have n1:g3≠bl:=by have:=D.ne1;rcases hloc with e|e<;>omega
   have n2:g3≠b10:=by have:=D.ne2;rcases hloc with e|e<;>omega
   have n4:g3≠b7:=by have:=D.ne4;rcases hloc with e|e<;>omega
   have n5:g3≠b9:=by have:=D.ne5;rcases hloc with e|e<;>omega
   have k:∀{g:Nat} {t:TypeId} {cs:Array Value},Blk w2 g t cs→gq≠g→Blk w3 g t cs:=fun hb hne=>(hb.alloc _).grown gr3 (by simp;exact Ne.symm hne);exact⟨(k D.box D.ne4).far (p:=⟨b9,0,none⟩) D.ne6 _,(k D.row D.ne1).far (p:=⟨b9,0,none⟩) (Ne.symm (Blk.tne D.qbox D.row (by decide))) _,D.len,(k D.node D.ne2).far (p:=⟨b9,0,none⟩) (Ne.symm (Blk.tne D.qbox D.node (by decide))) _,(k D.qbox D.ne5).set0 _,q3.set_ (p:=⟨b9,0,none⟩) (Ne.symm n5) _,n1,n2,D.ne3,n4,n5,D.ne6⟩
  have KB2:Hid (KB w.heap.size [bl,b9,gq] w (w3.setCell ⟨b9,0,none⟩ (.slice (some qa3) (q++[(v:Int)]).length qc3))):=
   (((KB1.out.alloc (Nat.le_refl _) _).grown (Nat.le_refl _) gr3 (fun g e=>by injection e with e;subst e;exact .inl (by simp)))).setCell (Nat.le_refl _) (.inl (by simp)) _
  have F:Hid (DPost1 w n base b7 bl b10 b9 gq (u:Int) (l.set v (y+1)) (q++[(v:Int)]) (w3.setCell ⟨b9,0,none⟩ (.slice (some qa3) (q++[(v:Int)]).length qc3))):=
   ⟨g3,_,D2.out,KB2.out,hloc.imp id (fun e=>Nat.le_trans hsz e)⟩
  have D:=D1.out;have cb:w3.cell? ⟨b9,0,none⟩=some (.slice (some qa) q.length qc):=(((D.qbox.alloc _).grown gr3 (by simp;exact Ne.symm D.ne5)).one).1;have fb:w3.frozen? ⟨b9,0,none⟩=false:=(((D.qbox.alloc _).grown gr3 (by simp;exact Ne.symm D.ne5)).one).2;clear q3 gr3 loc3 hloc D c9 f9 s3
  go_wp2_with fail
  go_end0
  have F1:=F.out;rw[List.length_append,List.length_singleton]at F1;exact⟨rfl,by rw[VL.out];exact F1⟩
 ·rw[if_neg hx0]at VL;have F:Hid (DPost1 w n base b7 bl b10 b9 gq (u:Int) l q w):=⟨gq,qv,H.out,KB.refl _ _ _,.inl rfl⟩
  go_enter Tryz.func110,Tryz.ntmps110
  go_wp2_with fail
  go_end0
  exact⟨rfl,by rw[VL.out];exact F.out⟩
end Go.Proofs.YtnjjkgjdhljfnaaGreat
namespace Go.Proofs.YtnjjkgjdhljfnaaGreat
open Go.RowKit Go.Maps
def fillL(n k:Nat):List Int:=(List.range n).map fun j=>if j<k then-1 else 0
theorem fillL_len(n k:Nat):(fillL n k).length=n:=by simp[fillL]
theorem fillL_set(n k:Nat):(fillL n k).set k (-1)=fillL n (k+1):=by apply List.ext_getElem (by simp[fillL]);intro i h1 h2;rw[List.getElem_set];simp only[fillL,List.getElem_map,List.getElem_range];split<;>split<;>(try split)<;>first|rfl|omega
theorem fillL_all(n:Nat):fillL n n=List.replicate n (-1):=by apply List.ext_getElem (by simp[fillL]);intro i h1 h2;simp[fillL]at h1⊢;omega
theorem fillL_zero(n:Nat):rowI (fillL n 0)=madeCells #[.int .i64 0] (n*1):=by
 apply Array.ext
 ·simp[rowI,fillL_len,size_madeCells]
 ·intro i h1 h2;simp[rowI,fillL,madeCells,Nat.mod_one]
def RelFN(n bl:Nat)(w w3:World)(i:Value)(wr:World):Prop:=
 ∃k:Nat,k≤n∧i=.int .i64 k∧Blk wr bl 3 (rowI (fillL n k))∧KB w3.heap.size [bl] w3 wr∧Below w.heap.size w wr
def lenQ:Value→Nat
 |.slice _ n _=>n
 |_=>0
def negs(o:Option Obj):Nat:=match o with
 |some (.cells cs _ _)=>cs.toList.countP fun v=>decide (RowKit.intOf v<0)
 |_=>0
def mesW(b9 bl:Nat)(w:World):Nat:=lenQ ((w.cell? ⟨b9,0,none⟩).getD (.bool false))+negs w.heap[bl]?
def QOk(n:Nat)(l q:List Int):Prop:=∀x∈q,∃j:Nat,x=j∧j<n∧0≤l.getD j 0
structure S2(w:World)(ns:List Nd)(cs:List Cb)(root:Nat)(pv:Array Value)(b9 gq:Nat)(qv:Value)(l q:List Int)(wr:World):Prop where
 box:Blk wr (w.heap.size+1+1) 26 #[.slice (some ⟨w.heap.size+1,0,none⟩) ns.length ns.length]
 row:Blk wr (w.heap.size+1) 3 (rowI l)
 plan:Blk wr w.heap.size 25 pv
 qbox:Blk wr b9 26 #[qv]
 que:QAt wr w.heap.size gq qv q
 ne1:gq≠w.heap.size+1
 ne4:gq≠w.heap.size+1+1
 ne5:gq≠b9
 ne6:w.heap.size+1+1≠b9
 ne7:gq≠w.heap.size
 ge9:w.heap.size≤b9
 lv:LvI ns.length cs root l
 qok:QOk ns.length l q
 low:q.length+without l≤ns.length
 below:Below w.heap.size w wr
theorem mesW_eq{w:World}{b9 bl g base:Nat}{qv:Value}{l q:List Int}(hr:Blk w bl 3 (rowI l))(hb:Blk w b9 26 #[qv])(hq:QAt w base g qv q):mesW b9 bl w=q.length+without l:=by obtain⟨a,c,rfl,_⟩:=hq.form;unfold mesW;rw[hb.one.1];have h2:w.heap[bl]?=some (.cells (rowI l) 3 (0,0)):=hr;rw[h2];simp only[Option.getD_some,lenQ,negs,rowI,List.countP_map,without];rfl
theorem S2.ds{w wr:World}{ns:List Nd}{cs:List Cb}{root b9 gq b10 u:Nat}{pv:Array Value}{qv:Value}{l q:List Int}(hS:S2 w ns cs root pv b9 gq qv l q wr)(hn:Blk wr b10 3 #[.int .i64 u])(hne:gq≠b10)(h3:w.heap.size+1≠b10):DS wr ns.length w.heap.size (w.heap.size+1+1) (w.heap.size+1) b10 b9 gq (u:Int) qv l q:=
 ⟨hS.box,hS.row,hS.lv.len,hn,hS.qbox,hS.que,hS.ne1,hne,h3,hS.ne4,hS.ne5,hS.ne6⟩
theorem S2.alloc{w wr:World}{ns:List Nd}{cs:List Cb}{root b9 gq:Nat}{pv:Array Value}{qv:Value}{l q:List Int}(hS:S2 w ns cs root pv b9 gq qv l q wr)(o:Obj):S2 w ns cs root pv b9 gq qv l q (wr.alloc o):=
 ⟨hS.box.alloc _,hS.row.alloc _,hS.plan.alloc _,hS.qbox.alloc _,hS.que.alloc _,hS.ne1,hS.ne4,hS.ne5,hS.ne6,hS.ne7,hS.ge9,hS.lv,hS.qok,hS.low,hS.below.alloc hS.below.size _⟩
theorem valid_abN{p:Pl}(h:validP p=0){x:Cb}(hx:x∈p.cs):x.a≠x.b:=by
 unfold validP at h;split at h;·cases h
 split at h;·cases h
 split at h;·cases h
 split at h;·cases h
 split at h;·cases h
 rename_i hh;simp only[Bool.not_eq_false,List.all_eq_true,decide_eq_true_eq]at hh;exact hh x hx
end Go.Proofs.YtnjjkgjdhljfnaaGreat
namespace Go.Proofs.YtnjjkgjdhljfnaaGreat
open Go.RowKit Go.Maps
def usableB(p:Pl)(n:Nat):Bool:=decide (validP p=0)&&decide (n=p.cs.length)
theorem usable_any(p:Pl)(An Ac Au:Option Addr)(cn cc cu m:Nat)(w:World)(hl:p.ns.length≤1000000)(hl2:p.cs.length≤1000000)(hm:m≤1000000)(hwf:WfP p)(h:IsPlan w An Ac p):Calls Tryz.prog 78 #[.agg #[.slice An p.ns.length cn,.slice Ac p.cs.length cc],.slice Au m cu] w fun e w'=>e=.returned (.bool (usableB p m))∧Below w.heap.size w w':=by
 obtain⟨ns,cs⟩:=p;simp only at hl hl2⊢;obtain⟨w1,hw1⟩:∃w1:World,w.alloc (.cells #[.slice An ns.length cn,.slice Ac cs.length cc] 25)=w1:=⟨_,rfl⟩;have s0:w1.cell? ⟨w.heap.size,0,none⟩=some (.slice An ns.length cn):=by rw[←hw1];simp[go_sem]
 have s1:w1.cell? ⟨w.heap.size,1,none⟩=some (.slice Ac cs.length cc):=by rw[←hw1];simp[go_sem]
 have sz1:w.heap.size<w1.heap.size:=by rw[←hw1];simp
 have BW:Hid (Below w.heap.size w w1):=by rw[←hw1];exact(Below.refl _ _).alloc (Nat.le_refl _) _
 have H1:=Lib.hid (h.below (Nat.le_refl _) BW.out);have HC:=Lib.hid (gvalid_any ⟨ns,cs⟩ An Ac cn cc w1 hl hl2 hwf H1.out);have HW1:=Lib.hid hw1;clear hw1 h hwf
 go_enter Tryz.func78,Tryz.ntmps78
 go_wp2_with fail
 rw[HW1.out];refine HC.out.mono ?_;rintro e w2 ⟨rfl,bel⟩;have c1:=(bel.cell (p:=⟨w.heap.size,1,none⟩) sz1).trans s1;have BF:Hid (Below w.heap.size w w2):=BW.out.trans (bel.mono BW.out.size);clear bel HC s0 s1 HW1;cases hv:validP ⟨ns,cs⟩==0 with
 |false=>
  have F:Hid (usableB ⟨ns,cs⟩ m=false):=by rw[Hid];unfold usableB;rw[decide_eq_false (by simpa using hv)];rfl
  generalize validP ⟨ns,cs⟩=z at *
  go_wp2_with fail
  go_ret
  exact⟨by rw[F.out];rfl,BF.out⟩
 |true=>
  have hv0:validP ⟨ns,cs⟩=0:=by simpa using hv
  have F:Hid (usableB ⟨ns,cs⟩ m=decide (m=cs.length)):=by rw[Hid];unfold usableB;rw[decide_eq_true hv0];rfl
  rw[hv0];clear hv hv0;by_cases hm2:m=cs.length
  ·have F2:Hid (usableB ⟨ns,cs⟩ m=true):=by rw[Hid,F.out,decide_eq_true hm2]
   go_wp2_with fail
   go_ret
   exact⟨by rw[F2.out];first|rfl|(simp;omega),BF.out⟩
  ·have F2:Hid (usableB ⟨ns,cs⟩ m=false):=by rw[Hid,F.out,decide_eq_false hm2]
   go_wp2_with fail
   go_ret
   exact⟨by rw[F2.out];first|rfl|(simp;omega),BF.out⟩
def OfOk(p:Pl)(us:List Bool)(root:Int):Prop:=validP p=0∧us.length=p.cs.length∧0≤root∧root<p.ns.length
end Go.Proofs.YtnjjkgjdhljfnaaGreat
namespace Go.Proofs.YtnjjkgjdhljfnaaGreat
open Go.RowKit Go.Maps
abbrev St:=Nat×Bool
abbrev SMp:=St→Option Nat
def updS(f:SMp)(s:St)(v:Nat):SMp:=fun x=>if x=s then some v else f x
def upB(lv:List Int)(u v:Nat):Bool:=aboveB lv (v:Int) (u:Int)
def nxtS(lv:List Int)(s:St)(o:Nat):St:=(o,!upB lv s.1 o)
def perS(lv:List Int)(s:St)(o:Nat):Bool:=!upB lv s.1 o||!s.2
def impr(lv:List Int)(f:SMp)(s:St)(o:Nat):Option Nat:=
 if perS lv s o=true then
  match f (nxtS lv s o)with
  |none=>none
  |some d=>match f s with
   |none=>some (d+1)
   |some old=>if old≤d+1 then none else some (d+1)
 else none
def newF(f:SMp)(s:St):Option Nat→SMp
 |none=>f
 |some v=>updS f s v
def allS(n:Nat):List St:=(List.range n).flatMap fun i=>[(i,false),(i,true)]
def costS:Option Nat→Nat
 |none=>1000
 |some d=>d
def pot(n:Nat)(f:SMp):Nat:=((allS n).map fun s=>costS (f s)).sum
def kn(n:Nat)(f:SMp):Nat:=(allS n).countP fun s=>(f s).isSome
theorem mem_allS{n:Nat}{s:St}:s∈allS n↔s.1<n:=by
 obtain⟨i,b⟩:=s;unfold allS;simp only[List.mem_flatMap,List.mem_range,List.mem_cons,List.not_mem_nil,or_false,Prod.mk.injEq];constructor
 ·rintro⟨j,hj,h|h⟩<;>omega
 ·intro h;refine⟨i,h,?_⟩;cases b<;>simp
theorem allS_succ(n:Nat):allS (n+1)=allS n++[(n,false),(n,true)]:=by unfold allS;rw[List.range_succ,List.flatMap_append];simp
theorem allS_len(n:Nat):(allS n).length=2*n:=by
 induction n with
 |zero=>rfl
 |succ n ih=>rw[allS_succ,List.length_append,ih];simp;omega
theorem allS_nodup(n:Nat):(allS n).Nodup:=by
 induction n with
 |zero=>exact List.nodup_nil
 |succ n ih=>rw[allS_succ,List.nodup_append];refine⟨ih,by simp,fun a ha b hb=>?_⟩;have h1:=mem_allS.1 ha;rintro rfl;simp at hb;rcases hb with h|h<;>(rw[h]at h1;simp at h1)
theorem sum_upd{α:Type}[DecidableEq α](g g':α→Nat)(s:α)(hg:∀x,x≠s→g' x=g x):∀L:List α,L.Nodup→s∈L→(L.map g').sum+g s=(L.map g).sum+g' s:=by
 intro L
 induction L with
 |nil=>intro _ h;cases h
 |cons x L ih=>
  intro hn hs;obtain⟨h1,h2⟩:=List.nodup_cons.1 hn;rw[List.map_cons,List.map_cons,List.sum_cons,List.sum_cons];by_cases e:x=s
  ·subst e;have:L.map g'=L.map g:=List.map_congr_left fun y hy=>hg y (fun e=>h1 (e▸hy));rw[this];omega
  ·rcases List.mem_cons.1 hs with h|h
   ·exact absurd h.symm e
   ·have:=ih h2 h;rw[hg x e];omega
theorem count_mono{α:Type}(p q:α→Bool)(h:∀x,p x=true→q x=true)(L:List α):L.countP p≤L.countP q:=by
 induction L with
 |nil=>simp
 |cons x L ih=>
  rw[List.countP_cons,List.countP_cons];have:=h x;cases hp:p x
  ·simp;omega
  ·rw[this hp];simp;omega
theorem count_more{α:Type}(p q:α→Bool)(h:∀x,p x=true→q x=true)(s:α)(hp:p s=false)(hq:q s=true):∀L:List α,s∈L→L.countP p+1≤L.countP q:=by
 intro L
 induction L with
 |nil=>intro h;cases h
 |cons x L ih=>
  intro hs;rw[List.countP_cons,List.countP_cons];rcases List.mem_cons.1 hs with e|hs
  ·subst e;rw[hp,hq];have:=count_mono p q h L;simp;omega
  ·have:=ih hs;have hx:=h x;cases hpx:p x
   ·simp;omega
   ·rw[hx hpx];simp;omega
theorem pot_upd{n:Nat}{f:SMp}{s:St}{v:Nat}(hs:s.1<n):pot n (updS f s v)+costS (f s)=pot n f+v:=by
 have:=sum_upd (fun x=>costS (f x)) (fun x=>costS (updS f s v x)) s (fun x hx=>by unfold updS;rw[if_neg hx]) (allS n) (allS_nodup n) (mem_allS.2 hs);unfold pot;have e:costS (updS f s v s)=v:=by unfold updS;rw[if_pos rfl];rfl
 rw[e]at this;exact this
theorem kn_le(n:Nat)(f:SMp):kn n f≤2*n:=by unfold kn;have:=List.countP_le_length (p:=fun s=>(f s).isSome) (l:=allS n);rw[allS_len]at this;exact this
theorem updS_some{f:SMp}{s:St}{v:Nat}(x:St)(h:(f x).isSome=true):(updS f s v x).isSome=true:=by
 unfold updS;split
 ·rfl
 ·exact h
def Sup(n:Nat)(cs:List Cb)(us:List Bool)(lv:List Int)(f:SMp)(s:St)(d:Nat):Prop:=
 ∃i,i<cs.length∧us.getD i false=true∧∃o,o<n∧touch (cs.getD i cb0) (s.1:Nat) o∧perS lv s o=true∧∃d',f (nxtS lv s o)=some d'∧d'+1≤d
structure SI(n:Nat)(cs:List Cb)(us:List Bool)(lv:List Int)(to:Nat)(f:SMp):Prop where
 tlt:to<n
 tlv:0≤lv.getD to 0
 t0:∀b,f (to,b)=some 0
 sup:∀s d,f s=some d→s.1<n∧0≤lv.getD s.1 0∧((s.1=to∧d=0)∨Sup n cs us lv f s d)
 bnd:∀s d,f s=some d→d+1≤kn n f
section
variable{n:Nat}{cs:List Cb}{us:List Bool}{lv:List Int}{to:Nat}{f:SMp}
theorem impr_some{s:St}{o v:Nat}(h:impr lv f s o=some v):perS lv s o=true∧∃d,f (nxtS lv s o)=some d∧v=d+1∧(f s=none∨∃old,f s=some old∧d+1<old):=by
 unfold impr at h;split at h
 ·rename_i hp;refine⟨hp,?_⟩;split at h
  ·cases h
  ·rename_i d hd;refine⟨d,hd,?_⟩;split at h
   ·rename_i hs;injection h with h;exact⟨h.symm,.inl hs⟩
   ·rename_i old hs;split at h
    ·cases h
    ·injection h with h;exact⟨h.symm,.inr ⟨old,hs,by omega⟩⟩
 ·cases h
theorem SI.step(h:SI n cs us lv to f)(hn:n≤100){i o v:Nat}{s:St}(hi:i<cs.length)(hu:us.getD i false=true)(ht:touch (cs.getD i cb0) s.1 o)(hs:s.1<n)(ho:o<n)(hne:s.1≠o)(hl:0≤lv.getD s.1 0)(hv:impr lv f s o=some v):SI n cs us lv to (updS f s v)∧pot n (updS f s v)<pot n f:=by
 obtain⟨hp,d,hd,rfl,hold⟩:=impr_some hv;have hst:s.1≠to:=by
  intro e;have:f s=some 0:=by have:=h.t0 s.2;rw[←e]at this;exact this
  rcases hold with h1|⟨old,h1,h2⟩
  ·rw[h1]at this;cases this
  ·rw[h1]at this;injection this with this;omega
 have hnx:nxtS lv s o≠s:=fun e=>hne (by rw[←e];rfl);have hk:kn n f≤kn n (updS f s (d+1)):=count_mono _ _ (fun x hx=>updS_some x hx) _;have hself:updS f s (d+1) s=some (d+1):=by unfold updS;rw[if_pos rfl]
 have hoth:∀x,x≠s→updS f s (d+1) x=f x:=fun x hx=>by unfold updS;rw[if_neg hx]
 have hb:=h.bnd _ _ hd;have hbs:d+1+1≤kn n (updS f s (d+1)):=by
  rcases hold with h1|⟨old,h1,h2⟩
  ·have:kn n f+1≤kn n (updS f s (d+1)):=count_more _ _ (fun x hx=>updS_some x hx) s (by rw[h1];rfl) (by rw[hself];rfl) _ (mem_allS.2 hs);omega
  ·have:=h.bnd _ _ h1;omega
 refine⟨⟨h.tlt,h.tlv,fun b=>?_,fun x d0 hx=>?_,fun x d0 hx=>?_⟩,?_⟩
 ·rw[hoth _ (fun e=>hst (by rw[←e]))];exact h.t0 b
 ·by_cases e:x=s
  ·subst e;rw[hself]at hx;injection hx with hx;subst hx;exact⟨hs,hl,.inr ⟨i,hi,hu,o,ho,ht,hp,d,by rw[hoth _ hnx];exact hd,Nat.le_refl _⟩⟩
  ·rw[hoth _ e]at hx;obtain⟨h1,h2,h3⟩:=h.sup x d0 hx;refine⟨h1,h2,?_⟩;rcases h3 with h3|⟨j,hj,huj,o',ho',htj,hpj,d',hd',hle⟩
   ·exact .inl h3
   ·right;refine⟨j,hj,huj,o',ho',htj,hpj,?_⟩;by_cases e2:nxtS lv x o'=s
    ·rw[e2]at hd'⊢;refine⟨d+1,hself,?_⟩;rcases hold with h4|⟨old,h4,h5⟩
     ·rw[h4]at hd';cases hd'
     ·rw[h4]at hd';injection hd' with hd';omega
    ·exact⟨d',by rw[hoth _ e2];exact hd',hle⟩
 ·by_cases e:x=s
  ·subst e;rw[hself]at hx;injection hx with hx;subst hx;exact hbs
  ·rw[hoth _ e]at hx;have:=h.bnd _ _ hx;omega
 ·have h1:=pot_upd (n:=n) (f:=f) (s:=s) (v:=d+1) hs;have h2:=kn_le n (updS f s (d+1));rcases hold with h3|⟨old,h3,h4⟩
  ·rw[h3]at h1;simp only[costS]at h1;omega
  ·rw[h3]at h1;simp only[costS]at h1;omega
def start0(to:Nat):SMp:=updS (updS (fun _=>none) (to,false) 0) (to,true) 0
theorem start0_some{s:St}{d:Nat}(h:start0 to s=some d):s.1=to∧d=0:=by
 unfold start0 updS at h;split at h
 ·rename_i e;injection h with h;exact⟨by rw[e],h.symm⟩
 ·split at h
  ·rename_i e;injection h with h;exact⟨by rw[e],h.symm⟩
  ·cases h
theorem start0_at(b:Bool):start0 to (to,b)=some 0:=by unfold start0 updS;cases b<;>simp
theorem SI.start(ht:to<n)(hl:0≤lv.getD to 0):SI n cs us lv to (start0 to):=by
 refine⟨ht,hl,start0_at,fun s d h=>?_,fun s d h=>?_⟩
 ·obtain⟨h1,h2⟩:=start0_some h;exact⟨by rw[h1];exact ht,by rw[h1];exact hl,.inl ⟨h1,h2⟩⟩
 ·obtain⟨h1,rfl⟩:=start0_some h;have:0<kn n (start0 to):=List.countP_pos_iff.2 ⟨s,mem_allS.2 (by rw[h1];exact ht),by rw[h];rfl⟩;omega
def PSr(n:Nat)(cs:List Cb)(us:List Bool)(lv:List Int)(to:Nat)(f0:SMp)(L:List (St×Nat))(c:Bool)(f:SMp):Prop:=
 SI n cs us lv to f∧((c=true∧pot n f<pot n f0)∨(c=false∧f=f0∧∀x∈L,impr lv f x.1 x.2=none))
theorem PSr.start(h:SI n cs us lv to f):PSr n cs us lv to f [] false f:=⟨h,.inr ⟨rfl,rfl,by simp⟩⟩
theorem PSr.pot_le{f0:SMp}{L:List (St×Nat)}{c:Bool}(h:PSr n cs us lv to f0 L c f):pot n f≤pot n f0:=by
 rcases h.2 with⟨_,h⟩|⟨_,h,_⟩
 ·omega
 ·rw[h];exact Nat.le_refl _
theorem PSr.step{f0:SMp}{L:List (St×Nat)}{c:Bool}(h:PSr n cs us lv to f0 L c f)(hn:n≤100){i o:Nat}{s:St}(hi:i<cs.length)(hu:us.getD i false=true)(ht:touch (cs.getD i cb0) s.1 o)(hs:s.1<n)(ho:o<n)(hne:s.1≠o)(hl:0≤lv.getD s.1 0):PSr n cs us lv to f0 (L++[(s,o)]) ((impr lv f s o).isSome||c) (newF f s (impr lv f s o)):=by
 cases hv:impr lv f s o with
 |none=>
  refine⟨h.1,?_⟩;rcases h.2 with⟨h1,h2⟩|⟨h1,h2,h3⟩
  ·exact .inl ⟨by rw[h1];rfl,h2⟩
  ·refine .inr ⟨by rw[h1];rfl,h2,fun x hx=>?_⟩;rcases List.mem_append.1 hx with hx|hx
   ·exact h3 x hx
   ·obtain rfl:=List.mem_singleton.1 hx;exact hv
 |some v=>obtain⟨h1,h2⟩:=h.1.step hn hi hu ht hs ho hne hl hv;exact⟨h1,.inl ⟨rfl,Nat.lt_of_lt_of_le h2 h.pot_le⟩⟩
end
def tryI(cs:List Cb)(us:List Bool)(lv:List Int)(i:Nat):List (St×Nat):=
 if us.getD i false=true∧0≤lv.getD (cs.getD i cb0).a.toNat 0∧0≤lv.getD (cs.getD i cb0).b.toNat 0 then
  [(((cs.getD i cb0).a.toNat,false),(cs.getD i cb0).b.toNat),(((cs.getD i cb0).b.toNat,false),(cs.getD i cb0).a.toNat),(((cs.getD i cb0).a.toNat,true),(cs.getD i cb0).b.toNat),(((cs.getD i cb0).b.toNat,true),(cs.getD i cb0).a.toNat)]
 else[]
def triesTo(cs:List Cb)(us:List Bool)(lv:List Int)(k:Nat):List (St×Nat):=(List.range k).flatMap (tryI cs us lv)
theorem triesTo_succ(cs:List Cb)(us:List Bool)(lv:List Int)(k:Nat):triesTo cs us lv (k+1)=triesTo cs us lv k++tryI cs us lv k:=by unfold triesTo;rw[List.range_succ,List.flatMap_append];simp
def Found(n:Nat)(cs:List Cb)(us:List Bool)(lv:List Int)(to:Nat)(f:SMp):Prop:=
 (lv.getD to 0<0∧f=fun _=>none)∨(SI n cs us lv to f∧∀x∈triesTo cs us lv cs.length,impr lv f x.1 x.2=none)
end Go.Proofs.YtnjjkgjdhljfnaaGreat
namespace Go.Proofs.YtnjjkgjdhljfnaaGreat
open Go.RowKit Go.Maps
theorem rowSt:(254:TypeId)<Tryz.prog.types.size:=of_decide_eq_true (by kernel_rfl)
theorem cellsSt:Tryz.prog.cellsOf 254=2:=by kernel_rfl
theorem cellsBool:Tryz.prog.cellsOf 4=1:=by kernel_rfl
theorem deepSt:Tryz.prog.keyType 254=true:=by kernel_rfl
theorem wideSt:(match Tryz.prog.underlying 254 with|some (.array _ _)|some (.struct _)=>true|_=>false)=true:=by rw[Tryz.underlying254]
theorem deepStm:Tryz.prog.keyTypeAt 2 254=true:=by kernel_rfl
theorem lawStk:WideMaps.KeyLaw Tryz.prog 254:=deep_law_laid laidOutK (m:=2) (by omega) rowSt deepStm wideSt
theorem lawSt:Keyed Tryz.prog 254:=Keyed.of_law lawStk
def encSt(x:St):Value:=.agg #[.int .i64 (x.1:Int),.bool x.2]
def WfSt(x:St):Prop:=(Lit.int .i64 (x.1:Int)).wf=true
def pkS(x:St):Lit:=.string (keyBytes [.int .i64 (x.1:Int),.bool x.2])
theorem formedSt(x:St):(encSt x).formed Tryz.prog 254=true:=by simp[encSt,Value.formed,Tryz.underlying254,cellsSt]
theorem keySt{x:St}(h:WfSt x):keyOf Tryz.prog 254 (encSt x)=some (pkS x):=by unfold keyOf;rw[Tryz.underlying254];simp only[deepSt,formedSt,Bool.and_self,if_true];have hs:∃n,Tryz.prog.types.size=n+1:=⟨Tryz.prog.types.size-1,by have h:0<Tryz.prog.types.size:=Nat.lt_of_le_of_lt (Nat.zero_le _) rowSt;omega⟩;obtain⟨n,hn⟩:=hs;rw[hn];unfold WfSt at h;simp[Program.keyLits,Tryz.underlying254,Tryz.underlying3,Tryz.underlying4,cellsSt,cellsInt,cellsBool,encSt,Value.cells,h,pkS]
theorem encSt_inj{x y:St}(h:encSt x=encSt y):x=y:=by unfold encSt at h;simp at h;obtain⟨h1,h2⟩:=h;exact Prod.ext (by omega) h2
theorem pkS_inj{x y:St}(hx:WfSt x)(hy:WfSt y)(h:pkS x=pkS y):x=y:=by have h1:=keySt hx;have h2:=keySt hy;rw[←h]at h2;exact encSt_inj (lawSt.inj h1 h2)
theorem pkS_key(x:St):WideAt.IsKeyLit (pkS x):=trivial
theorem wf_nat{i:Nat}(h:i<1000000):(Lit.int .i64 (i:Int)).wf=true:=wf_small _ (by omega) (by omega)
def SMem(w:World)(b n:Nat)(f:SMp):Prop:=
 ∃m M,m+pot n f≤1000000∧OMap w Tryz.prog 254 b m M∧∀x:St,x.1<1000000→M (pkS x)=(f x).map fun d=>.int .i64 (d:Int)
section
variable{w w':World}{b n:Nat}{f:SMp}
theorem SMem.lt(h:SMem w b n f):b<w.heap.size:=by obtain⟨_,_,_,h,_⟩:=h;exact h.lt
theorem SMem.alloc(h:SMem w b n f)(o:Obj):SMem (w.alloc o) b n f:=by obtain⟨m,M,h1,h2,h3⟩:=h;exact⟨m,M,h1,h2.alloc o,h3⟩
theorem SMem.below{B:Nat}(h:SMem w b n f)(hb:Below B w w')(hlt:b<B):SMem w' b n f:=by obtain⟨m,M,h1,h2,h3⟩:=h;exact⟨m,M,h1,h2.below hb hlt,h3⟩
theorem putM_same{M:Lit→Option Value}{s:St}(v:Value):putM M (pkS s) v (pkS s)=some v:=by unfold putM;rw[if_pos (WideAt.sameKey_self (pkS_key s))]
theorem putM_other{M:Lit→Option Value}{s x:St}(hs:s.1<1000000)(hx:x.1<1000000)(hne:x≠s)(v:Value):putM M (pkS s) v (pkS x)=M (pkS x):=by unfold putM;rw[if_neg];intro h;exact hne (pkS_inj (wf_nat hx) (wf_nat hs) (WideAt.sameKey_eq h))
theorem putM_upd{M:Lit→Option Value}{s:St}{v:Nat}(hs:s.1<1000000)(hM:∀x:St,x.1<1000000→M (pkS x)=(f x).map fun d=>.int .i64 (d:Int)):∀x:St,x.1<1000000→putM M (pkS s) (.int .i64 (v:Int)) (pkS x)=(updS f s v x).map fun d=>.int .i64 (d:Int):=by
 intro x hx;unfold updS;by_cases e:x=s
 ·subst e;rw[if_pos rfl,putM_same];rfl
 ·rw[if_neg e,putM_other hs hx e,hM x hx]
end
theorem step_any(lv:List Int)(Al:Option Addr)(cl:Nat)(s:St)(o:Nat)(w:World)(hl:lv.length≤1000000)(h:IsRec 1 cI 0 w Al lv.length lv):Calls Tryz.prog 172 #[.agg #[.slice Al lv.length cl],.agg #[.int .i64 (s.1:Int),.bool s.2],.int .i64 (o:Int)] w fun e w'=>e=.returned (.tuple #[.agg #[.int .i64 (o:Int),.bool (!upB lv s.1 o)],.bool (perS lv s o)])∧Below w.heap.size w w':=by
 obtain⟨u,fl⟩:=s;simp only;obtain⟨w1,hw1⟩:∃w1:World,((w.alloc (.cells #[.slice Al lv.length cl] 169)).alloc (.cells #[.int .i64 (u:Int),.bool fl] 254)).alloc (.cells #[.int .i64 0,.bool false] 254)=w1:=⟨_,rfl⟩;have BW0:Below w.heap.size w w1:=by rw[←hw1];exact(((Below.refl _ _).alloc (Nat.le_refl _) _).alloc (by simp) _).alloc (by simp;omega) _
 have s0:w1.cell? ⟨w.heap.size,0,none⟩=some (.slice Al lv.length cl):=by rw[←hw1];simp[go_sem]
 have s1:w1.cell? ⟨w.heap.size+1,0,none⟩=some (.int .i64 (u:Int)):=by rw[←hw1];simp[go_sem]
 have s2:w1.cell? ⟨w.heap.size+1,1,none⟩=some (.bool fl):=by rw[←hw1];simp[go_sem]
 have R1:Hid (Blk w1 (w.heap.size+1+1) 254 #[.int .i64 0,.bool false]):=by rw[←hw1];have:=Blk.new ((w.alloc (.cells #[.slice Al lv.length cl] 169)).alloc (.cells #[.int .i64 (u:Int),.bool fl] 254)) 254 #[.int .i64 0,.bool false];rw[Hid];simpa using this
 have sz1:w.heap.size+1+1<w1.heap.size:=by rw[←hw1];simp
 have L1:=Lib.hid (h.below (Nat.le_refl _) BW0);have BW:=Lib.hid BW0;have HC:=Lib.hid (above_any lv Al cl (o:Int) (u:Int) w1 hl L1.out);have HW1:=Lib.hid hw1;clear h hw1 BW0
 go_enter Tryz.func172,Tryz.ntmps172
 go_wp2_with fail
 rw[HW1.out];refine HC.out.mono ?_;rintro e w2 ⟨rfl,bel⟩;have c0:=(bel.cell (p:=⟨w.heap.size+1,0,none⟩) (by show w.heap.size+1<_;omega)).trans s1;have c1:=(bel.cell (p:=⟨w.heap.size+1,1,none⟩) (by show w.heap.size+1<_;omega)).trans s2;have R2:=R1.out.below bel R1.out.lt;have r0:w2.cell? ⟨w.heap.size+1+1,0,none⟩=some (.int .i64 0):=by rw[R2.cell];rfl
 have r1:w2.cell? ⟨w.heap.size+1+1,1,none⟩=some (.bool false):=by rw[R2.cell];rfl
 have q0:w2.frozen? ⟨w.heap.size+1+1,0,none⟩=false:=R2.frozen 0;have q1:w2.frozen? ⟨w.heap.size+1+1,1,none⟩=false:=R2.frozen 1;have BF:Hid (Below w.heap.size w w2):=BW.out.trans (bel.mono BW.out.size);clear bel HC s0 s1 s2 HW1 R2;have E:aboveB lv (o:Int) (u:Int)=upB lv u o:=rfl;rw[E];clear E;have P:Hid (perS lv (u,fl) o=(!upB lv u o||!fl)):=rfl;cases hu:upB lv u o with
 |false=>
  have U:=Lib.hid hu;rw[hu]at P;clear hu
  go_wp2_with fail
  go_region
  all_goals
   go_wp2_with fail
   refine bodyPost_ret (v:=.tuple #[.agg #[.int .i64 (o:Int),.bool true],.bool true]) (by simp[results,Tryz.results172,go_sem,r0,r1]) rfl ?_;exact⟨by rw[P.out,U.out];rfl,((BF.out.setCell (by simp;omega) _).setCell (by simp;omega) _).drew⟩
 |true=>
  have U:=Lib.hid hu;rw[hu]at P;clear hu;cases fl
  all_goals
   go_wp2_with fail
   go_region
   all_goals
    go_wp2_with fail
    first
     |refine bodyPost_ret (v:=.tuple #[.agg #[.int .i64 (o:Int),.bool false],.bool true]) (by simp[results,Tryz.results172,go_sem,r0,r1]) rfl ⟨by rw[P.out,U.out];rfl,((BF.out.setCell (by simp;omega) _).setCell (by simp;omega) _).drew⟩
     |refine bodyPost_ret (v:=.tuple #[.agg #[.int .i64 (o:Int),.bool false],.bool false]) (by simp[results,Tryz.results172,go_sem,r0,r1]) rfl ⟨by rw[P.out,U.out];rfl,((BF.out.setCell (by simp;omega) _).setCell (by simp;omega) _).drew⟩
end Go.Proofs.YtnjjkgjdhljfnaaGreat
namespace Go.Proofs.YtnjjkgjdhljfnaaGreat
open Go.RowKit Go.Maps
def ImprPost(w:World)(bm n:Nat)(lv:List Int)(f:SMp)(s:St)(o:Nat)(e:Ending)(w':World):Prop:=
 e=.returned (.bool (impr lv f s o).isSome)∧SMem w' bm n (newF f s (impr lv f s o))∧KB w.heap.size [bm] w w'
theorem impr_any (lv : List Int) (Al : Option Addr) (cl b5 b9 bm n : Nat) (f : SMp) (s : St) (o : Nat) (w : World) (hl : lv.length ≤ 1000000) (h : IsRec 1 cI 0 w Al lv.length lv)
    (h5 : Blk w b5 169 #[.slice Al lv.length cl]) (h9 : Blk w b9 251 #[.map (some bm)]) (hm : SMem w bm n f) (hs : s.1 < 1000000) (ho : o < 1000000)
    (hb : ∀ x d, f x = some d → d ≤ 1000000) (hc : ∀ v, impr lv f s o = some v → pot n (updS f s v) < pot n f) :
    Calls Tryz.prog 171 #[.agg #[.int .i64 (s.1 : Int), .bool s.2], .int .i64 (o : Int), .pointer (some ⟨b5, 0, none⟩), .pointer (some ⟨b9, 0, none⟩)] w (ImprPost w bm n lv f s o) := by
  obtain ⟨u, fl⟩ := s
  simp only at hs ⊢
  obtain ⟨w1, hw1⟩ : ∃ w1 : World, w.alloc (.cells #[.int .i64 (u : Int), .bool fl] 254) = w1 := ⟨_, rfl⟩
  have BW0 : Below w.heap.size w w1 := by rw [← hw1]; exact (Below.refl _ _).alloc (Nat.le_refl _) _
  have c5 : w.cell? ⟨b5, 0, none⟩ = some (.slice Al lv.length cl) := h5.one.1
  have l5 := h5.lt
  have D1 : Hid (Blk w1 w.heap.size 254 #[.int .i64 (u : Int), .bool fl]) := by rw [← hw1]; exact Blk.new _ _ _
  have B9 := Lib.hid (h9.below BW0 h9.lt)
  have M1 := Lib.hid (hm.below BW0 hm.lt)
  have sz1 : w.heap.size < w1.heap.size := by rw [← hw1]; simp
  have L1 := Lib.hid (h.below (Nat.le_refl _) BW0)
  have BW := Lib.hid BW0
  have HC := step_any lv Al cl (u, fl) o w1 hl L1.out
  obtain ⟨nb, hnb⟩ : ∃ nb, (!upB lv u o) = nb := ⟨_, rfl⟩
  obtain ⟨pb, hpb⟩ : ∃ pb, perS lv (u, fl) o = pb := ⟨_, rfl⟩
  simp only [hnb, hpb] at HC
  have NX : Hid (nxtS lv (u, fl) o = (o, nb)) := by rw [Hid, ← hnb]; rfl
  have IM : Hid (impr lv f (u, fl) o = if pb = true then (match f (o, nb) with
      | none => none
      | some d => match f (u, fl) with
        | none => some (d + 1)
        | some old => if old ≤ d + 1 then none else some (d + 1)) else none) := by rw [Hid, ← hpb, ← NX.out]; rfl
  have HCC := Lib.hid HC
  have HW1 := Lib.hid hw1
  have HB := Lib.hid hb
  have HCO := Lib.hid hc
  have kN : keyOf Tryz.prog 254 (.agg #[.int .i64 (o : Int), .bool nb]) = some (pkS (o, nb)) := keySt (x := (o, nb)) (wf_nat ho)
  have kS : keyOf Tryz.prog 254 (.agg #[.int .i64 (u : Int), .bool fl]) = some (pkS (u, fl)) := keySt (x := (u, fl)) (wf_nat hs)
  have KN := Lib.hid kN
  have KS := Lib.hid kS
  clear hw1 hnb hpb HC h h5 h9 hm hb hc BW0 kN kS
  go_enter Tryz.func171, Tryz.ntmps171
  go_wp2_with fail
  rw [HW1.out]
  refine HCC.out.mono ?_
  rintro e w2 ⟨rfl, bel⟩
  have D2 := Lib.hid (D1.out.below bel D1.out.lt)
  have d0 : w2.cell? ⟨w.heap.size, 0, none⟩ = some (.int .i64 (u : Int)) := by rw [D2.out.cell]; rfl
  have d1 : w2.cell? ⟨w.heap.size, 1, none⟩ = some (.bool fl) := by rw [D2.out.cell]; rfl
  have c9 : w2.cell? ⟨b9, 0, none⟩ = some (.map (some bm)) := (B9.out.below bel B9.out.lt).one.1
  have l9 : b9 < w2.heap.size := (B9.out.below bel B9.out.lt).lt
  have ld : w.heap.size < w2.heap.size := D2.out.lt
  have BF : Hid (Below w.heap.size w w2) := BW.out.trans (bel.mono BW.out.size)
  obtain ⟨w3, hw3⟩ : ∃ w3 : World, w2.alloc (.cells #[.int .i64 (o : Int), .bool nb] 254) = w3 := ⟨_, rfl⟩
  have BF3 : Hid (Below w.heap.size w w3) := by rw [← hw3]; exact BF.out.alloc BF.out.size _
  have M3 : Hid (SMem w3 bm n f) := by rw [← hw3]; exact (M1.out.below bel M1.out.lt).alloc _
  have SAME : impr lv f (u, fl) o = none → Hid (ImprPost w bm n lv f (u, fl) o (.returned (.bool false)) w3) := fun e => by
    rw [Hid]
    unfold ImprPost
    rw [e]
    exact ⟨rfl, M3.out, (KB.refl _ _ _).below (Nat.le_refl _) BF3.out⟩
  obtain ⟨m, M, hmm, om, hM⟩ := M3.out
  have OM : Hid (OMap (w2.alloc (.cells #[.int .i64 (o : Int), .bool nb] 254)) Tryz.prog 254 bm m M) := by rw [hw3]; exact om
  have mN := hM (o, nb) ho
  have mS := hM (u, fl) hs
  have HMM := Lib.hid hM
  have OM3 := Lib.hid om
  have HW3 := Lib.hid hw3
  clear hw3 bel hM om c5
  obtain ⟨ff, hff⟩ : ∃ ff, f (o, nb) = ff := ⟨_, rfl⟩
  obtain ⟨fs, hfs⟩ : ∃ fs, f (u, fl) = fs := ⟨_, rfl⟩
  rw [hff] at IM mN
  rw [hfs] at IM mS
  have MN := Lib.hid mN
  have MS := Lib.hid mS
  have HFF := Lib.hid hff
  have HFS := Lib.hid hfs
  clear hff hfs mN mS
  cases pb with
  | false =>
    have F := SAME (by rw [IM.out]; rfl)
    clear SAME
    cases ff <;> cases fs
    all_goals
      go_wp2_with (first
          | (at_lookup; refine wpList_look_ok _ rfl _ _ 251 rfl 254 3 lawSt Tryz.underlying251 (.int .i64 0) (zeroInt _) bm m M rfl OM.out _ _ rfl KN.out ?_; rw [MN.out])
          | (at_lookup; refine wpList_look_ok _ rfl _ _ 251 rfl 254 3 lawSt Tryz.underlying251 (.int .i64 0) (zeroInt _) bm m M rfl OM.out _ _ rfl KS.out ?_; rw [MS.out]))
      go_ret
      rw [HW3.out]
      exact F.out
  | true =>
    cases ff with
    | none =>
      have F := SAME (by rw [IM.out]; rfl)
      clear SAME
      cases fs
      all_goals
        go_wp2_with (first
          | (at_lookup; refine wpList_look_ok _ rfl _ _ 251 rfl 254 3 lawSt Tryz.underlying251 (.int .i64 0) (zeroInt _) bm m M rfl OM.out _ _ rfl KN.out ?_; rw [MN.out])
          | (at_lookup; refine wpList_look_ok _ rfl _ _ 251 rfl 254 3 lawSt Tryz.underlying251 (.int .i64 0) (zeroInt _) bm m M rfl OM.out _ _ rfl KS.out ?_; rw [MS.out]))
        go_ret
        rw [HW3.out]
        exact F.out
    | some d =>
      have hd : d ≤ 1000000 := HB.out _ _ HFF.out
      have UPD : Hid (impr lv f (u, fl) o = some (d + 1) → ∀ w4, OMap w4 Tryz.prog 254 bm (m + 1) (putM M (pkS (u, fl)) (.int .i64 ((d : Int) + 1))) → w3.grownBy w4 (some bm) → ImprPost w bm n lv f (u, fl) o (.returned (.bool true)) w4) := fun e w4 ho4 hg => by
        have hcost := HCO.out _ e
        unfold ImprPost
        rw [e]
        refine ⟨rfl, ⟨m + 1, _, by show m + 1 + pot n (updS f (u, fl) (d + 1)) ≤ _; omega, ho4, ?_⟩, ((KB.refl _ _ _).below (Nat.le_refl _) BF3.out).grown (Nat.le_refl _) hg (fun g e => by injection e with e; subst e; exact .inl (by simp))⟩
        exact putM_upd hs HMM.out
      cases fs with
      | none =>
        have IMS : Hid (impr lv f (u, fl) o = some (d + 1)) := by rw [Hid, IM.out]; rfl
        clear SAME
        go_wp2_with (first
          | (at_lookup; refine wpList_look_ok _ rfl _ _ 251 rfl 254 3 lawSt Tryz.underlying251 (.int .i64 0) (zeroInt _) bm m M rfl OM.out _ _ rfl KN.out ?_; rw [MN.out])
          | (at_lookup; refine wpList_look_ok _ rfl _ _ 251 rfl 254 3 lawSt Tryz.underlying251 (.int .i64 0) (zeroInt _) bm m M rfl OM.out _ _ rfl KS.out ?_; rw [MS.out])
                  | (at_mapUpdate; refine wpList_put _ rfl _ _ _ 251 rfl 254 3 lawSt Tryz.underlying251 bm m M rfl OM.out ?c1 _ _ _ rfl rfl KS.out ?_))
        case c1 => unfold maxLen; omega
        intro w4 ho4 hg
        rw [HW3.out] at hg
        have F := UPD.out IMS.out w4 ho4 hg
        have FF := Lib.hid F
        clear ho4 hg F
        go_wp2_with fail
        go_ret
        exact FF.out
      | some old =>
        have ho : old ≤ 1000000 := HB.out _ _ HFS.out
        by_cases hle : old ≤ d + 1
        · have F := SAME (by rw [IM.out]; simp [hle])
          clear SAME
          have hle2 : (old : Int) ≤ (d : Int) + 1 := by omega
          clear hle
          go_wp2_with (first
          | (at_lookup; refine wpList_look_ok _ rfl _ _ 251 rfl 254 3 lawSt Tryz.underlying251 (.int .i64 0) (zeroInt _) bm m M rfl OM.out _ _ rfl KN.out ?_; rw [MN.out])
          | (at_lookup; refine wpList_look_ok _ rfl _ _ 251 rfl 254 3 lawSt Tryz.underlying251 (.int .i64 0) (zeroInt _) bm m M rfl OM.out _ _ rfl KS.out ?_; rw [MS.out]))
          go_ret
          rw [HW3.out]
          exact F.out
        · have IMS : Hid (impr lv f (u, fl) o = some (d + 1)) := by rw [Hid, IM.out]; simp [hle]
          clear SAME
          have hle2 : ¬ (old : Int) ≤ (d : Int) + 1 := by omega
          clear hle
          go_wp2_with (first
          | (at_lookup; refine wpList_look_ok _ rfl _ _ 251 rfl 254 3 lawSt Tryz.underlying251 (.int .i64 0) (zeroInt _) bm m M rfl OM.out _ _ rfl KN.out ?_; rw [MN.out])
          | (at_lookup; refine wpList_look_ok _ rfl _ _ 251 rfl 254 3 lawSt Tryz.underlying251 (.int .i64 0) (zeroInt _) bm m M rfl OM.out _ _ rfl KS.out ?_; rw [MS.out])
                    | (at_mapUpdate; refine wpList_put _ rfl _ _ _ 251 rfl 254 3 lawSt Tryz.underlying251 bm m M rfl OM.out ?c2 _ _ _ rfl rfl KS.out ?_))
          case c2 => unfold maxLen; omega
          intro w4 ho4 hg
          rw [HW3.out] at hg
          have F := UPD.out IMS.out w4 ho4 hg
          have FF := Lib.hid F
          clear ho4 hg F
          go_wp2_with fail
          go_ret
          exact FF.out
end Go.Proofs.YtnjjkgjdhljfnaaGreat
namespace Go.Proofs.YtnjjkgjdhljfnaaGreat
open Go.RowKit Go.Maps
structure PE(w0 wr:World)(ns:List Nd)(cs:List Cb)(us:List Bool)(lv:List Int)(An Ac Au Al:Option Addr)(cn cc cu cl b4 b5 b6 b9 b10 bm:Nat):Prop where
 p4:Blk wr b4 25 #[.slice An ns.length cn,.slice Ac cs.length cc]
 p5:Blk wr b5 169 #[.slice Al lv.length cl]
 p6:Blk wr b6 52 #[.slice Au us.length cu]
 p9:Blk wr b9 251 #[.map (some bm)]
 p10:Blk wr b10 275 #[.func (.func 171) #[] #[.pointer (some ⟨b5,0,none⟩),.pointer (some ⟨b9,0,none⟩)]]
 pl:IsPlan w0 An Ac ⟨ns,cs⟩
 pu:IsRec 1 cB false w0 Au us.length us
 plv:IsRec 1 cI 0 w0 Al lv.length lv
 bel:Below w0.heap.size w0 wr
 mge:w0.heap.size≤bm
 m4:bm≠b4
 m5:bm≠b5
 m6:bm≠b6
 m9:bm≠b9
 m10:bm≠b10
theorem KB.tr{B B':Nat}{X:List Nat}{w w' w'':World}(h:KB B X w w')(h2:KB B' X w' w'')(hB:B≤B'):KB B X w w'':=
 ⟨h2.os.trans h.os,h2.tape.trans h.tape,h2.output.trans h.output,Nat.le_trans h.size h2.size,fun i hi hx=>(h2.block i (by omega) hx).trans (h.block i hi hx)⟩
section
variable{w0 wr w':World}{ns:List Nd}{cs:List Cb}{us:List Bool}{lv:List Int}{An Ac Au Al:Option Addr}{cn cc cu cl b4 b5 b6 b9 b10 bm:Nat}
theorem PE.kb(h:PE w0 wr ns cs us lv An Ac Au Al cn cc cu cl b4 b5 b6 b9 b10 bm){B:Nat}(hk:KB B [bm] wr w')(hB:B=wr.heap.size):PE w0 w' ns cs us lv An Ac Au Al cn cc cu cl b4 b5 b6 b9 b10 bm:=by subst hB;have f:∀{g:Nat} {t:TypeId} {xs:Array Value},Blk wr g t xs→bm≠g→Blk w' g t xs:=fun hb hne=>hk.blk hb hb.lt (by simp;exact Ne.symm hne);exact⟨f h.p4 h.m4,f h.p5 h.m5,f h.p6 h.m6,f h.p9 h.m9,f h.p10 h.m10,h.pl,h.pu,h.plv,h.bel.trans (hk.toBelow h.bel.size (by simp;exact h.mge)),h.mge,h.m4,h.m5,h.m6,h.m9,h.m10⟩
theorem PE.alloc(h:PE w0 wr ns cs us lv An Ac Au Al cn cc cu cl b4 b5 b6 b9 b10 bm)(o:Obj):PE w0 (wr.alloc o) ns cs us lv An Ac Au Al cn cc cu cl b4 b5 b6 b9 b10 bm:=
 h.kb ((KB.refl _ _ _).alloc (Nat.le_refl _) o) rfl
theorem try_any{n to i o:Nat}{f0 f:SMp}{L:List (St×Nat)}{c:Bool}{s:St}(h:PE w0 wr ns cs us lv An Ac Au Al cn cc cu cl b4 b5 b6 b9 b10 bm)(hm:SMem wr bm n f)(hP:PSr n cs us lv to f0 L c f)(hn:n≤100)(hl:lv.length≤1000000)(hi:i<cs.length)(hu:us.getD i false=true)(ht:touch (cs.getD i cb0) s.1 o)(hs:s.1<n)(ho:o<n)(hne:s.1≠o)(hlv:0≤lv.getD s.1 0):Calls Tryz.prog 171 #[.agg #[.int .i64 (s.1:Int),.bool s.2],.int .i64 (o:Int),.pointer (some ⟨b5,0,none⟩),.pointer (some ⟨b9,0,none⟩)] wr fun e w'=>∃r f1,e=.returned (.bool r)∧PSr n cs us lv to f0 (L++[(s,o)]) (r||c) f1∧SMem w' bm n f1∧PE w0 w' ns cs us lv An Ac Au Al cn cc cu cl b4 b5 b6 b9 b10 bm∧KB wr.heap.size [bm] wr w':=by
 refine(impr_any lv Al cl b5 b9 bm n f s o wr hl (h.plv.below (Nat.le_refl _) h.bel) h.p5 h.p9 hm (by omega) (by omega) (fun x d hd=>?_) (fun v hv=>(hP.1.step hn hi hu ht hs ho hne hlv hv).2)).mono ?_
 ·have h1:=hP.1.bnd x d hd;have h2:=kn_le n f;omega
 ·rintro e w1 ⟨rfl,hm1,hk⟩;exact⟨_,_,rfl,hP.step hn hi hu ht hs ho hne hlv,hm1,h.kb hk rfl,hk⟩
end
def four(a b:Nat):List (St×Nat):=[((a,false),b),((b,false),a),((a,true),b),((b,true),a)]
def RelPN(w0 wP:World)(ns:List Nd)(cs:List Cb)(us:List Bool)(lv:List Int)(An Ac Au Al:Option Addr)(cn cc cu cl b4 b5 b6 b9 b10 bm to:Nat)(f0:SMp)(c i:Value)(wr:World):Prop:=
 ∃(k:Nat) (c':Bool) (f:SMp),k≤cs.length∧i=.int .i64 k∧c=.bool c'∧PE w0 wr ns cs us lv An Ac Au Al cn cc cu cl b4 b5 b6 b9 b10 bm∧SMem wr bm ns.length f∧PSr ns.length cs us lv to f0 (triesTo cs us lv k) c' f∧KB wP.heap.size [bm] wP wr
def RelPI(w0 wP:World)(ns:List Nd)(cs:List Cb)(us:List Bool)(lv:List Int)(An Ac Au Al:Option Addr)(cn cc cu cl b4 b5 b6 b9 b10 bm to:Nat)(f0:SMp)(k a b bx:Nat)(xs:Array Value)(c j:Value)(wr:World):Prop:=
 ∃(j':Nat) (c':Bool) (f:SMp),j'≤2∧j=.int .i64 j'∧c=.bool c'∧PE w0 wr ns cs us lv An Ac Au Al cn cc cu cl b4 b5 b6 b9 b10 bm∧SMem wr bm ns.length f∧PSr ns.length cs us lv to f0 (triesTo cs us lv k++(four a b).take (2*j')) c' f∧KB wP.heap.size [bm] wP wr∧Blk wr bx 86 xs∧bm≠bx
def PassPost(w0 w:World)(ns:List Nd)(cs:List Cb)(us:List Bool)(lv:List Int)(An Ac Au Al:Option Addr)(cn cc cu cl b4 b5 b6 b9 b10 bm to:Nat)(f0:SMp)(e:Ending)(w':World):Prop:=
 ∃(c:Bool) (f:SMp),e=.returned (.bool c)∧PE w0 w' ns cs us lv An Ac Au Al cn cc cu cl b4 b5 b6 b9 b10 bm∧SMem w' bm ns.length f∧PSr ns.length cs us lv to f0 (triesTo cs us lv cs.length) c f∧KB w.heap.size [bm] w w'
theorem pass_any(ns:List Nd)(cs:List Cb)(us:List Bool)(lv:List Int)(An Ac Au Al:Option Addr)(cn cc cu cl b4 b5 b6 b9 b10 bm to:Nat)(f0:SMp)(w0 w:World)(hv:validP ⟨ns,cs⟩=0)(hul:us.length=cs.length)(hll:lv.length=ns.length)(h:PE w0 w ns cs us lv An Ac Au Al cn cc cu cl b4 b5 b6 b9 b10 bm)(hm:SMem w bm ns.length f0)(hS:SI ns.length cs us lv to f0):Calls Tryz.prog 173 #[.pointer (some ⟨b4,0,none⟩),.pointer (some ⟨b6,0,none⟩),.pointer (some ⟨b5,0,none⟩),.pointer (some ⟨b10,0,none⟩)] w (PassPost w0 w ns cs us lv An Ac Au Al cn cc cu cl b4 b5 b6 b9 b10 bm to f0):=by
 obtain⟨n16,c32⟩:=valid_sizes hv;have HV:=Lib.hid hv;have HUL:=Lib.hid hul;have HLL:=Lib.hid hll;have HB10:=Lib.hid h.p10;have c40:w.cell? ⟨b4,0,none⟩=some (.slice An ns.length cn):=by rw[h.p4.cell];rfl
 have c41:w.cell? ⟨b4,1,none⟩=some (.slice Ac cs.length cc):=by rw[h.p4.cell];rfl
 have ST:Hid (RelPN w0 w ns cs us lv An Ac Au Al cn cc cu cl b4 b5 b6 b9 b10 bm to f0 (.bool false) (.int .i64 0) w):=⟨0,false,f0,Nat.zero_le _,rfl,rfl,h,hm,PSr.start hS,KB.refl _ _ _⟩;clear hv hul hll h hm hS
 go_enter Tryz.func173,Tryz.ntmps173
 go_wp2_with fail
 go_loopw [5,13] (fun c i wr=>RelPN w0 w ns cs us lv An Ac Au Al cn cc cu cl b4 b5 b6 b9 b10 bm to f0 c i wr) (fun _ i _=>cs.length-(RowKit.intOf i).toNat)
 case atStart=>exact ST.out
 case round=>
  clear ST c40 c41;obtain⟨k,c,f,hk,rfl,rfl,pe,sm,ps,kb⟩:=hrel;have PEH:=Lib.hid pe;have SMH:=Lib.hid sm;have PSH:=Lib.hid ps;have KBH:=Lib.hid kb;by_cases hkr:k<cs.length
  ·obtain⟨bc,oc,hAc,hbc,hmem,ca,cap',cb,cbp,cd,ccp⟩:=cable_at pe.pl.2 k hkr;obtain⟨bu,ou,hAu,hbu,_,cu'⟩:=bool_at pe.pu k (by rw[HUL.out];exact hkr);obtain⟨⟨na0,na1⟩,nb0,nb1⟩:=cab_node HV.out hmem;have nab:=valid_abN HV.out hmem;have HX:Hid (tryI cs us lv k=if us.getD k false=true∧0≤lv.getD (cs.getD k cb0).a.toNat 0∧0≤lv.getD (cs.getD k cb0).b.toNat 0 then four (cs.getD k cb0).a.toNat (cs.getD k cb0).b.toNat else[]):=rfl;have TCH:Hid (∀a b:Nat,(cs.getD k cb0).a=a→(cs.getD k cb0).b=b→touch (cs.getD k cb0) a b∧touch (cs.getD k cb0) b a):=fun a b ha hb=>⟨.inl ⟨ha,hb⟩,.inr ⟨hb,ha⟩⟩;obtain⟨x,hx⟩:∃x,cs.getD k cb0=x:=⟨_,rfl⟩;rw[hx]at hmem ca cap' cb cbp cd ccp na0 na1 nb0 nb1 nab HX;obtain⟨xa,xap,xb,xbp,xd,xc⟩:=x;simp only at ca cap' cb cbp cd ccp na0 na1 nb0 nb1 nab HX;obtain⟨ia,rfl⟩:∃ia:Nat,xa=ia:=⟨xa.toNat,by omega⟩;obtain⟨ib,rfl⟩:∃ib:Nat,xb=ib:=⟨xb.toNat,by omega⟩;simp only[Int.toNat_natCast]at HX;have TC:=Lib.hid (TCH.out ia ib (by rw[hx]) (by rw[hx]));have hian:ia<ns.length:=(by omega);have hibn:ib<ns.length:=(by omega);have nabN:Hid (ia≠ib):=fun e=>nab (by rw[e]);have hll:=HLL.out;have iaw:(ia:Int)<(lv.length:Int):=(by omega);have ibw:(ib:Int)<(lv.length:Int):=(by omega);obtain⟨bl,ol,hAl,hbl,_,ela⟩:=int_at pe.plv ia (by omega);obtain⟨bl',ol',hAl',_,_,elb⟩:=int_at pe.plv ib (by omega);rw[hAl]at hAl';injection hAl' with hAl';injection hAl' with hl1 hl2;subst hl1;subst hl2;subst hAc;subst hAu;subst hAl;have bel0:=pe.bel;have bs0:=bel0.size;have hus:=HUL.out;have kus:(k:Int)<(us.length:Int):=(by omega);have cu2:wr.cell? ⟨bu,ou+k,none⟩=some (.bool (us.getD k false)):=(bel0.cell (p:=⟨bu,ou+k,none⟩) hbu).trans cu';have ca2:wr.cell? ⟨bc,oc+k*6,none⟩=some (.int .i64 ia):=(bel0.cell (p:=⟨bc,oc+k*6,none⟩) hbc).trans ca;have cap2:wr.cell? ⟨bc,oc+k*6+1,none⟩=some (.int .i64 xap):=(bel0.cell (p:=⟨bc,oc+k*6+1,none⟩) hbc).trans cap';have cb2:wr.cell? ⟨bc,oc+k*6+2,none⟩=some (.int .i64 ib):=(bel0.cell (p:=⟨bc,oc+k*6+2,none⟩) hbc).trans cb;have cbp2:wr.cell? ⟨bc,oc+k*6+3,none⟩=some (.int .i64 xbp):=(bel0.cell (p:=⟨bc,oc+k*6+3,none⟩) hbc).trans cbp;have cd2:wr.cell? ⟨bc,oc+k*6+4,none⟩=some (.int .i64 xd):=(bel0.cell (p:=⟨bc,oc+k*6+4,none⟩) hbc).trans cd;have ccp2:wr.cell? ⟨bc,oc+k*6+5,none⟩=some (.int .i64 xc):=(bel0.cell (p:=⟨bc,oc+k*6+5,none⟩) hbc).trans ccp;have el2:wr.cell? ⟨bl,ol+ia,none⟩=some (.int .i64 (lv.getD ia 0)):=(bel0.cell (p:=⟨bl,ol+ia,none⟩) hbl).trans ela;have el3:wr.cell? ⟨bl,ol+ib,none⟩=some (.int .i64 (lv.getD ib 0)):=(bel0.cell (p:=⟨bl,ol+ib,none⟩) hbl).trans elb;have hbu2:bu<wr.heap.size:=(by omega);have hbl2:bl<wr.heap.size:=(by omega);have c5:=pe.p5.one.1;have c6:=pe.p6.one.1;have l5:=pe.p5.lt;have l6:=pe.p6.lt;have l10:=pe.p10.lt;have lm:=sm.lt;have SKIP:Hid (tryI cs us lv k=[]→RelPN w0 w ns cs us lv An (some ⟨bc,oc,none⟩) (some ⟨bu,ou,none⟩) (some ⟨bl,ol,none⟩) cn cc cu cl b4 b5 b6 b9 b10 bm to f0 (.bool c) (.int .i64 ((k+1:Nat):Int)) (wr.alloc (Obj.cells #[.int .i64 ia,.int .i64 xap,.int .i64 ib,.int .i64 xbp,.int .i64 xd,.int .i64 xc] 86))):=fun e=>
    ⟨k+1,c,f,by omega,rfl,rfl,PEH.out.alloc _,SMH.out.alloc _,by rw[triesTo_succ,e,List.append_nil];exact PSH.out,KBH.out.alloc (Nat.le_refl _) _⟩
   clear hx hmem ca cap' cb cbp cd ccp nab cu' ela elb pe sm ps kb bel0 hll hus TCH;cases hub:us.getD k false with
   |false=>
    rw[hub]at cu2 HX;have R:=Lib.hid (SKIP.out (by rw[HX.out];simp));clear hub
    go_wp2_with fail
    exact⟨by simpa using R.out,by simp[RowKit.intOf];omega⟩
   |true=>
    rw[hub]at cu2;have HUB:=Lib.hid hub;rw[hub]at HX;clear hub;have LA:Hid (lv.getD ia 0=lv.getD ia 0):=rfl;obtain⟨la,hla⟩:∃la,lv.getD ia 0=la:=⟨_,rfl⟩;obtain⟨lb,hlb⟩:∃lb,lv.getD ib 0=lb:=⟨_,rfl⟩;rw[hla]at el2 HX;rw[hlb]at el3 HX;have HLA:=Lib.hid hla;have HLB:=Lib.hid hlb;clear hla hlb LA;by_cases h1:la<0
    ·have R:=Lib.hid (SKIP.out (by rw[HX.out,if_neg (by omega)]))
     go_wp2_with fail
     exact⟨by simpa using R.out,by simp[RowKit.intOf];omega⟩
    ·by_cases h2:lb<0
     ·have R:=Lib.hid (SKIP.out (by rw[HX.out,if_neg (by omega)]))
      go_wp2_with fail
      exact⟨by simpa using R.out,by simp[RowKit.intOf];omega⟩
     ·have TR:Hid (tryI cs us lv k=four ia ib):=by rw[Hid,HX.out,if_pos ⟨rfl,by omega,by omega⟩]
      have LA0:Hid (0≤lv.getD ia 0):=(by rw[Hid,HLA.out];omega);have LB0:Hid (0≤lv.getD ib 0):=(by rw[Hid,HLB.out];omega);have ST:Hid (RelPI w0 w ns cs us lv An (some ⟨bc,oc,none⟩) (some ⟨bu,ou,none⟩) (some ⟨bl,ol,none⟩) cn cc cu cl b4 b5 b6 b9 b10 bm to f0 k ia ib wr.heap.size #[.int .i64 ia,.int .i64 xap,.int .i64 ib,.int .i64 xbp,.int .i64 xd,.int .i64 xc] (.bool c) (.int .i64 0) (wr.alloc (Obj.cells #[.int .i64 ia,.int .i64 xap,.int .i64 ib,.int .i64 xbp,.int .i64 xd,.int .i64 xc] 86))):=
       ⟨0,c,f,by omega,rfl,rfl,PEH.out.alloc _,SMH.out.alloc _,by simpa using PSH.out,KBH.out.alloc (Nat.le_refl _) _,Blk.new _ _ _,by omega⟩
      have i0:∀w,(Instr.index 276 (.agg #[.bool false,.bool true]) (.int .i64 0)).run Tryz.prog w=.ok (.bool false) w:=fun _=>(by kernel_rfl);have i1:∀w,(Instr.index 276 (.agg #[.bool false,.bool true]) (.int .i64 1)).run Tryz.prog w=.ok (.bool true) w:=fun _=>(by kernel_rfl);clear SKIP PEH SMH PSH KBH HX;have h1':0≤la:=(by omega);have h2':0≤lb:=by omega
      go_wp2_with fail
      obtain⟨wo,rfl⟩:∃wo:World,wo=wr:=⟨_,rfl⟩;clear cu2 ca2 cap2 cb2 cbp2 cd2 ccp2 el2 el3 c5 c6 h1 h2 h1' h2'
      go_loopw [5,42] (fun c j wr'=>RelPI w0 w ns cs us lv An (some ⟨bc,oc,none⟩) (some ⟨bu,ou,none⟩) (some ⟨bl,ol,none⟩) cn cc cu cl b4 b5 b6 b9 b10 bm to f0 k ia ib wo.heap.size #[.int .i64 ia,.int .i64 xap,.int .i64 ib,.int .i64 xbp,.int .i64 xd,.int .i64 xc] c j wr') (fun _ j _=>2-(RowKit.intOf j).toNat)
      case atStart=>exact ST.out
      case round=>
       clear ST;obtain⟨j,c1,f1,hj,rfl,rfl,pe,sm,ps,kb,bx,mbx⟩:=hrel;have PE1:=Lib.hid pe;have SM1:=Lib.hid sm;have PS1:=Lib.hid ps;have KB1:=Lib.hid kb;have BX1:=Lib.hid bx;have c10:=pe.p10.one.1;have x0:wr.cell? ⟨wo.heap.size,0,none⟩=some (.int .i64 ia):=by rw[bx.cell];rfl
       have x2:wr.cell? ⟨wo.heap.size,2,none⟩=some (.int .i64 ib):=(by rw[bx.cell];rfl);have xl:=bx.lt;clear pe sm ps kb bx;have hj':j=0∨j=1∨j=2:=(by omega);rcases hj' with hj0|hj0|hj0
       ·subst hj0;have HC:=Lib.hid (try_any (s:=(ia,false)) (o:=ib) PE1.out SM1.out PS1.out (by omega) (by rw[HLL.out];omega) hkr HUB.out TC.out.1 hian hibn nabN.out LA0.out)
        go_wp2_with fail
        refine HC.out.mono ?_;rintro e w2 ⟨r,f2,rfl,ps2,sm2,pe2,kb2⟩;have PE2:=Lib.hid pe2;have SM2:=Lib.hid sm2;have KB2:=Lib.hid kb2;have BX2:=Lib.hid (kb2.blk BX1.out BX1.out.lt (by simp;exact Ne.symm mbx));have d10:=pe2.p10.one.1;have y0:w2.cell? ⟨wo.heap.size,0,none⟩=some (.int .i64 ia):=(by rw[BX2.out.cell];rfl);have y2:w2.cell? ⟨wo.heap.size,2,none⟩=some (.int .i64 ib):=(by rw[BX2.out.cell];rfl);clear pe2 sm2 kb2 x0 x2 c10 HC;cases r
        ·simp only[Bool.false_or,Bool.true_or]at ps2;have HD:=Lib.hid (try_any (s:=(ib,false)) (o:=ia) PE2.out SM2.out ps2 (by omega) (by rw[HLL.out];omega) hkr HUB.out TC.out.2 hibn hian (Ne.symm nabN.out) LB0.out);clear ps2
         go_wp2_with fail
         refine HD.out.mono ?_;rintro e w3 ⟨r2,f3,rfl,ps3,sm3,pe3,kb3⟩;have BX3:=kb3.blk BX2.out BX2.out.lt (by simp;exact Ne.symm mbx);cases r2
         ·simp only[Bool.false_or,Bool.true_or]at ps3;have R:Hid (RelPI w0 w ns cs us lv An (some ⟨bc,oc,none⟩) (some ⟨bu,ou,none⟩) (some ⟨bl,ol,none⟩) cn cc cu cl b4 b5 b6 b9 b10 bm to f0 k ia ib wo.heap.size #[.int .i64 ia,.int .i64 xap,.int .i64 ib,.int .i64 xbp,.int .i64 xd,.int .i64 xc] (.bool c1) (.int .i64 ((0+1:Nat):Int)) w3):=
           ⟨0+1,c1,f3,by omega,rfl,rfl,pe3,sm3,by simpa[four]using ps3,(KB1.out.tr KB2.out KB1.out.size).tr kb3 (Nat.le_trans KB1.out.size KB2.out.size),BX3,mbx⟩
          clear ps3 sm3 pe3 kb3 BX3 y0 y2 d10 HD
          go_wp2_with fail
          exact⟨by simpa using R.out,by simp[RowKit.intOf]⟩
         ·simp only[Bool.false_or,Bool.true_or]at ps3;have R:Hid (RelPI w0 w ns cs us lv An (some ⟨bc,oc,none⟩) (some ⟨bu,ou,none⟩) (some ⟨bl,ol,none⟩) cn cc cu cl b4 b5 b6 b9 b10 bm to f0 k ia ib wo.heap.size #[.int .i64 ia,.int .i64 xap,.int .i64 ib,.int .i64 xbp,.int .i64 xd,.int .i64 xc] (.bool true) (.int .i64 ((0+1:Nat):Int)) w3):=
           ⟨0+1,true,f3,by omega,rfl,rfl,pe3,sm3,by simpa[four]using ps3,(KB1.out.tr KB2.out KB1.out.size).tr kb3 (Nat.le_trans KB1.out.size KB2.out.size),BX3,mbx⟩
          clear ps3 sm3 pe3 kb3 BX3 y0 y2 d10 HD
          go_wp2_with fail
          exact⟨by simpa using R.out,by simp[RowKit.intOf]⟩
        ·simp only[Bool.false_or,Bool.true_or]at ps2;have HD:=Lib.hid (try_any (s:=(ib,false)) (o:=ia) PE2.out SM2.out ps2 (by omega) (by rw[HLL.out];omega) hkr HUB.out TC.out.2 hibn hian (Ne.symm nabN.out) LB0.out);clear ps2
         go_wp2_with fail
         refine HD.out.mono ?_;rintro e w3 ⟨r2,f3,rfl,ps3,sm3,pe3,kb3⟩;have BX3:=kb3.blk BX2.out BX2.out.lt (by simp;exact Ne.symm mbx);cases r2
         ·simp only[Bool.false_or,Bool.true_or]at ps3;have R:Hid (RelPI w0 w ns cs us lv An (some ⟨bc,oc,none⟩) (some ⟨bu,ou,none⟩) (some ⟨bl,ol,none⟩) cn cc cu cl b4 b5 b6 b9 b10 bm to f0 k ia ib wo.heap.size #[.int .i64 ia,.int .i64 xap,.int .i64 ib,.int .i64 xbp,.int .i64 xd,.int .i64 xc] (.bool true) (.int .i64 ((0+1:Nat):Int)) w3):=
           ⟨0+1,true,f3,by omega,rfl,rfl,pe3,sm3,by simpa[four]using ps3,(KB1.out.tr KB2.out KB1.out.size).tr kb3 (Nat.le_trans KB1.out.size KB2.out.size),BX3,mbx⟩
          clear ps3 sm3 pe3 kb3 BX3 y0 y2 d10 HD
          go_wp2_with fail
          exact⟨by simpa using R.out,by simp[RowKit.intOf]⟩
         ·simp only[Bool.false_or,Bool.true_or]at ps3;have R:Hid (RelPI w0 w ns cs us lv An (some ⟨bc,oc,none⟩) (some ⟨bu,ou,none⟩) (some ⟨bl,ol,none⟩) cn cc cu cl b4 b5 b6 b9 b10 bm to f0 k ia ib wo.heap.size #[.int .i64 ia,.int .i64 xap,.int .i64 ib,.int .i64 xbp,.int .i64 xd,.int .i64 xc] (.bool true) (.int .i64 ((0+1:Nat):Int)) w3):=
           ⟨0+1,true,f3,by omega,rfl,rfl,pe3,sm3,by simpa[four]using ps3,(KB1.out.tr KB2.out KB1.out.size).tr kb3 (Nat.le_trans KB1.out.size KB2.out.size),BX3,mbx⟩
          clear ps3 sm3 pe3 kb3 BX3 y0 y2 d10 HD
          go_wp2_with fail
          exact⟨by simpa using R.out,by simp[RowKit.intOf]⟩
       ·subst hj0;have HC:=Lib.hid (try_any (s:=(ia,true)) (o:=ib) PE1.out SM1.out PS1.out (by omega) (by rw[HLL.out];omega) hkr HUB.out TC.out.1 hian hibn nabN.out LA0.out)
        go_wp2_with fail
        refine HC.out.mono ?_;rintro e w2 ⟨r,f2,rfl,ps2,sm2,pe2,kb2⟩;have PE2:=Lib.hid pe2;have SM2:=Lib.hid sm2;have KB2:=Lib.hid kb2;have BX2:=Lib.hid (kb2.blk BX1.out BX1.out.lt (by simp;exact Ne.symm mbx));have d10:=pe2.p10.one.1;have y0:w2.cell? ⟨wo.heap.size,0,none⟩=some (.int .i64 ia):=(by rw[BX2.out.cell];rfl);have y2:w2.cell? ⟨wo.heap.size,2,none⟩=some (.int .i64 ib):=(by rw[BX2.out.cell];rfl);clear pe2 sm2 kb2 x0 x2 c10 HC;cases r
        ·simp only[Bool.false_or,Bool.true_or]at ps2;have HD:=Lib.hid (try_any (s:=(ib,true)) (o:=ia) PE2.out SM2.out ps2 (by omega) (by rw[HLL.out];omega) hkr HUB.out TC.out.2 hibn hian (Ne.symm nabN.out) LB0.out);clear ps2
         go_wp2_with fail
         refine HD.out.mono ?_;rintro e w3 ⟨r2,f3,rfl,ps3,sm3,pe3,kb3⟩;have BX3:=kb3.blk BX2.out BX2.out.lt (by simp;exact Ne.symm mbx);cases r2
         ·simp only[Bool.false_or,Bool.true_or]at ps3;have R:Hid (RelPI w0 w ns cs us lv An (some ⟨bc,oc,none⟩) (some ⟨bu,ou,none⟩) (some ⟨bl,ol,none⟩) cn cc cu cl b4 b5 b6 b9 b10 bm to f0 k ia ib wo.heap.size #[.int .i64 ia,.int .i64 xap,.int .i64 ib,.int .i64 xbp,.int .i64 xd,.int .i64 xc] (.bool c1) (.int .i64 ((1+1:Nat):Int)) w3):=
           ⟨1+1,c1,f3,by omega,rfl,rfl,pe3,sm3,by simpa[four]using ps3,(KB1.out.tr KB2.out KB1.out.size).tr kb3 (Nat.le_trans KB1.out.size KB2.out.size),BX3,mbx⟩
          clear ps3 sm3 pe3 kb3 BX3 y0 y2 d10 HD
          go_wp2_with fail
          exact⟨by simpa using R.out,by simp[RowKit.intOf]⟩
         ·simp only[Bool.false_or,Bool.true_or]at ps3;have R:Hid (RelPI w0 w ns cs us lv An (some ⟨bc,oc,none⟩) (some ⟨bu,ou,none⟩) (some ⟨bl,ol,none⟩) cn cc cu cl b4 b5 b6 b9 b10 bm to f0 k ia ib wo.heap.size #[.int .i64 ia,.int .i64 xap,.int .i64 ib,.int .i64 xbp,.int .i64 xd,.int .i64 xc] (.bool true) (.int .i64 ((1+1:Nat):Int)) w3):=
           ⟨1+1,true,f3,by omega,rfl,rfl,pe3,sm3,by simpa[four]using ps3,(KB1.out.tr KB2.out KB1.out.size).tr kb3 (Nat.le_trans KB1.out.size KB2.out.size),BX3,mbx⟩
          clear ps3 sm3 pe3 kb3 BX3 y0 y2 d10 HD
          go_wp2_with fail
          exact⟨by simpa using R.out,by simp[RowKit.intOf]⟩
        ·simp only[Bool.false_or,Bool.true_or]at ps2;have HD:=Lib.hid (try_any (s:=(ib,true)) (o:=ia) PE2.out SM2.out ps2 (by omega) (by rw[HLL.out];omega) hkr HUB.out TC.out.2 hibn hian (Ne.symm nabN.out) LB0.out);clear ps2
         go_wp2_with fail
         refine HD.out.mono ?_;rintro e w3 ⟨r2,f3,rfl,ps3,sm3,pe3,kb3⟩;have BX3:=kb3.blk BX2.out BX2.out.lt (by simp;exact Ne.symm mbx);cases r2
         ·simp only[Bool.false_or,Bool.true_or]at ps3;have R:Hid (RelPI w0 w ns cs us lv An (some ⟨bc,oc,none⟩) (some ⟨bu,ou,none⟩) (some ⟨bl,ol,none⟩) cn cc cu cl b4 b5 b6 b9 b10 bm to f0 k ia ib wo.heap.size #[.int .i64 ia,.int .i64 xap,.int .i64 ib,.int .i64 xbp,.int .i64 xd,.int .i64 xc] (.bool true) (.int .i64 ((1+1:Nat):Int)) w3):=
           ⟨1+1,true,f3,by omega,rfl,rfl,pe3,sm3,by simpa[four]using ps3,(KB1.out.tr KB2.out KB1.out.size).tr kb3 (Nat.le_trans KB1.out.size KB2.out.size),BX3,mbx⟩
          clear ps3 sm3 pe3 kb3 BX3 y0 y2 d10 HD
          go_wp2_with fail
          exact⟨by simpa using R.out,by simp[RowKit.intOf]⟩
         ·simp only[Bool.false_or,Bool.true_or]at ps3;have R:Hid (RelPI w0 w ns cs us lv An (some ⟨bc,oc,none⟩) (some ⟨bu,ou,none⟩) (some ⟨bl,ol,none⟩) cn cc cu cl b4 b5 b6 b9 b10 bm to f0 k ia ib wo.heap.size #[.int .i64 ia,.int .i64 xap,.int .i64 ib,.int .i64 xbp,.int .i64 xd,.int .i64 xc] (.bool true) (.int .i64 ((1+1:Nat):Int)) w3):=
           ⟨1+1,true,f3,by omega,rfl,rfl,pe3,sm3,by simpa[four]using ps3,(KB1.out.tr KB2.out KB1.out.size).tr kb3 (Nat.le_trans KB1.out.size KB2.out.size),BX3,mbx⟩
          clear ps3 sm3 pe3 kb3 BX3 y0 y2 d10 HD
          go_wp2_with fail
          exact⟨by simpa using R.out,by simp[RowKit.intOf]⟩
       ·subst hj0;have R:Hid (RelPN w0 w ns cs us lv An (some ⟨bc,oc,none⟩) (some ⟨bu,ou,none⟩) (some ⟨bl,ol,none⟩) cn cc cu cl b4 b5 b6 b9 b10 bm to f0 (.bool c1) (.int .i64 ((k+1:Nat):Int)) wr):=⟨k+1,c1,f1,by omega,rfl,rfl,PE1.out,SM1.out,by rw[triesTo_succ,TR.out];simpa[four]using PS1.out,KB1.out⟩;clear x0 x2 c10
        go_wp2_with fail
        exact⟨by simpa using R.out,by simp[RowKit.intOf];omega⟩
  ·obtain rfl:k=cs.length:=by omega
   have F:Hid (PassPost w0 w ns cs us lv An Ac Au Al cn cc cu cl b4 b5 b6 b9 b10 bm to f0 (.returned (.bool c)) wr):=⟨c,f,rfl,pe,sm,ps,kb⟩;clear pe sm ps kb
   go_wp2_with fail
   go_ret
   exact F.out
end Go.Proofs.YtnjjkgjdhljfnaaGreat
namespace Go.Proofs.YtnjjkgjdhljfnaaGreat
open Go.RowKit Go.Maps
theorem pot_none(n:Nat):pot n (fun _=>none)=2*n*1000:=by
 induction n with
 |zero=>rfl
 |succ n ih=>unfold pot at *;rw[allS_succ,List.map_append,List.sum_append,ih];simp[costS];omega
theorem pot_start{n to:Nat}(h:to<n):pot n (start0 to)≤2*n*1000:=by have h1:=pot_upd (n:=n) (f:=fun _=>none) (s:=(to,false)) (v:=0) h;have h2:=pot_upd (n:=n) (f:=updS (fun _=>none) (to,false) 0) (s:=(to,true)) (v:=0) h;have h3:=pot_none n;unfold start0;omega
def SearchPost(ns:List Nd)(cs:List Cb)(us:List Bool)(lv:List Int)(to:Nat)(w:World)(e:Ending)(w':World):Prop:=
 ∃(bm:Nat) (f:SMp),e=.returned (.map (some bm))∧w.heap.size≤bm∧SMem w' bm ns.length f∧Found ns.length cs us lv to f∧Below w.heap.size w w'
theorem search_any(ns:List Nd)(cs:List Cb)(us:List Bool)(lv:List Int)(An Ac Au Al:Option Addr)(cn cc cu cl to:Nat)(w:World)(hv:validP ⟨ns,cs⟩=0)(hul:us.length=cs.length)(hll:lv.length=ns.length)(hto:to<ns.length)(h:IsPlan w An Ac ⟨ns,cs⟩)(h2:IsRec 1 cB false w Au us.length us)(h3:IsRec 1 cI 0 w Al lv.length lv):Calls Tryz.prog 147 #[.agg #[.slice An ns.length cn,.slice Ac cs.length cc],.agg #[.slice Al lv.length cl],.slice Au us.length cu,.int .i64 (to:Int)] w (SearchPost ns cs us lv to w):=by
 obtain⟨n16,c32⟩:=valid_sizes hv;have HV:=Lib.hid hv;have HUL:=Lib.hid hul;have HLL:=Lib.hid hll;have HP:=Lib.hid h;have HU:=Lib.hid h2;have HL:=Lib.hid h3;obtain⟨bl,ol,hAl,hbl,_,ela⟩:=int_at h3 to (by omega);subst hAl;have tow:(to:Int)<(lv.length:Int):=by omega
 obtain⟨lt,hlt⟩:∃lt,lv.getD to 0=lt:=⟨_,rfl⟩;rw[hlt]at ela;have HLT:=Lib.hid hlt;clear hv hul hll h h2 h3 hlt;have hmm:=@run_makeMap Tryz.prog;obtain⟨w1,hw1⟩:∃w1:World,((((w.alloc (.cells #[.slice An ns.length cn,.slice Ac cs.length cc] 25)).alloc (.cells #[.slice (some ⟨bl,ol,none⟩) lv.length cl] 169)).alloc (.cells #[.slice Au us.length cu] 52)).alloc (.map #[] 0)).alloc (.cells #[.map (some (w.heap.size+1+1+1))] 251)=w1:=⟨_,rfl⟩;have BW:Hid (Below w.heap.size w w1):=by rw[←hw1];exact(((((Below.refl _ _).alloc (Nat.le_refl _) _).alloc (by simp) _).alloc (by simp;omega) _).alloc (by simp;omega) _).alloc (by simp;omega) _
 have sz1:w1.heap.size=w.heap.size+5:=by rw[←hw1];simp
 have P4:Hid (Blk w1 w.heap.size 25 #[.slice An ns.length cn,.slice Ac cs.length cc]):=by rw[←hw1];exact((((Blk.new w 25 #[.slice An ns.length cn,.slice Ac cs.length cc]).alloc _).alloc _).alloc _).alloc _
 have P5:Hid (Blk w1 (w.heap.size+1) 169 #[.slice (some ⟨bl,ol,none⟩) lv.length cl]):=by rw[←hw1];have:=(((Blk.new (w.alloc (.cells #[.slice An ns.length cn,.slice Ac cs.length cc] 25)) 169 #[.slice (some ⟨bl,ol,none⟩) lv.length cl]).alloc (.cells #[.slice Au us.length cu] 52)).alloc (.map #[] 0)).alloc (.cells #[.map (some (w.heap.size+1+1+1))] 251);rw[Hid];simpa using this
 have P6:Hid (Blk w1 (w.heap.size+1+1) 52 #[.slice Au us.length cu]):=by rw[←hw1];have:=((Blk.new ((w.alloc (.cells #[.slice An ns.length cn,.slice Ac cs.length cc] 25)).alloc (.cells #[.slice (some ⟨bl,ol,none⟩) lv.length cl] 169)) 52 #[.slice Au us.length cu]).alloc (.map #[] 0)).alloc (.cells #[.map (some (w.heap.size+1+1+1))] 251);rw[Hid];simpa using this
 have OM1:Hid (OMap w1 Tryz.prog 254 (w.heap.size+1+1+1) 0 (fun _=>none)):=by rw[←hw1];have:=(OMap.made (((w.alloc (.cells #[.slice An ns.length cn,.slice Ac cs.length cc] 25)).alloc (.cells #[.slice (some ⟨bl,ol,none⟩) lv.length cl] 169)).alloc (.cells #[.slice Au us.length cu] 52)) Tryz.prog 254).alloc (.cells #[.map (some (w.heap.size+1+1+1))] 251);rw[Hid];simpa using this
 have P9:Hid (Blk w1 (w.heap.size+1+1+1+1) 251 #[.map (some (w.heap.size+1+1+1))]):=by rw[←hw1];have:=Blk.new ((((w.alloc (.cells #[.slice An ns.length cn,.slice Ac cs.length cc] 25)).alloc (.cells #[.slice (some ⟨bl,ol,none⟩) lv.length cl] 169)).alloc (.cells #[.slice Au us.length cu] 52)).alloc (.map #[] 0)) 251 #[.map (some (w.heap.size+1+1+1))];rw[Hid];simpa using this
 have SZ1:=Lib.hid sz1;have s5:=P5.out.one.1;have s9:=P9.out.one.1;have ela1:=(BW.out.cell (p:=⟨bl,ol+to,none⟩) hbl).trans ela;clear ela sz1;by_cases hneg:lt<0
 ·have F:Hid (SearchPost ns cs us lv to w (.returned (.map (some (w.heap.size+1+1+1)))) w1):=
   ⟨_,fun _=>none,rfl,by omega,⟨0,_,by rw[pot_none];omega,OM1.out,fun x _=>rfl⟩,.inl ⟨by rw[HLT.out];exact hneg,rfl⟩,BW.out⟩
  go_enter Tryz.func147,Tryz.ntmps147
  go_wp2_with fail
  go_ret
  exact F.out
 ·have kF:keyOf Tryz.prog 254 (.agg #[.int .i64 (to:Int),.bool false])=some (pkS (to,false)):=keySt (x:=(to,false)) (wf_nat (by show to<1000000;omega));have kT:keyOf Tryz.prog 254 (.agg #[.int .i64 (to:Int),.bool true])=some (pkS (to,true)):=keySt (x:=(to,true)) (wf_nat (by show to<1000000;omega));have KF:=Lib.hid kF;have KT:=Lib.hid kT;clear kF kT
  go_enter Tryz.func147,Tryz.ntmps147
  go_wp2_with (at_mapUpdate;refine wpList_put _ rfl _ _ _ 251 rfl 254 3 lawSt Tryz.underlying251 (w.heap.size+1+1+1) 0 _ rfl OM1.out ?c1 _ _ _ rfl rfl KF.out ?_)
  case c1=>decide
  intro w2 om2 hg2;have P42:=Lib.hid (P4.out.grown hg2 (by simp;omega));have P52:=Lib.hid (P5.out.grown hg2 (by simp));have P62:=Lib.hid (P6.out.grown hg2 (by simp));have P92:=Lib.hid (P9.out.grown hg2 (by simp));have BW2:Hid (Below w.heap.size w w2):=BW.out.grown hg2 BW.out.size (by intro g e;injection e with e;omega);have OM2:=Lib.hid om2;have s92:=P92.out.one.1;clear om2 hg2 s5 s9 ela1 hw1
  go_wp2_with (at_mapUpdate;refine wpList_put _ rfl _ _ _ 251 rfl 254 3 lawSt Tryz.underlying251 (w.heap.size+1+1+1) 1 _ rfl OM2.out ?c2 _ _ _ rfl rfl KT.out ?_)
  case c2=>decide
  intro w3 om3 hg3;obtain⟨w4,hw4⟩:∃w4:World,w3.alloc (.cells #[.func (.func 171) #[] #[.pointer (some ⟨w.heap.size+1,0,none⟩),.pointer (some ⟨w.heap.size+1+1+1+1,0,none⟩)]] 275)=w4:=⟨_,rfl⟩;obtain⟨b10,hb10⟩:∃b10,w3.heap.size=b10:=⟨_,rfl⟩;have P43:=P42.out.grown hg3 (by simp;omega);have P53:=P52.out.grown hg3 (by simp);have P63:=P62.out.grown hg3 (by simp);have P93:=P92.out.grown hg3 (by simp);have BW3:Below w.heap.size w w3:=BW2.out.grown hg3 BW2.out.size (by intro g e;injection e with e;omega);have PE4:Hid (PE w w4 ns cs us lv An Ac Au (some ⟨bl,ol,none⟩) cn cc cu cl w.heap.size (w.heap.size+1) (w.heap.size+1+1) (w.heap.size+1+1+1+1) b10 (w.heap.size+1+1+1)):=by have l9:=P93.lt;rw[←hw4,←hb10];exact⟨P43.alloc _,P53.alloc _,P63.alloc _,P93.alloc _,Blk.new _ _ _,HP.out,HU.out,HL.out,BW3.alloc BW3.size _,by omega,by omega,by omega,by omega,by omega,by omega⟩
  have SM4:Hid (SMem w4 (w.heap.size+1+1+1) ns.length (start0 to)):=by rw[←hw4];have hps:=pot_start hto;refine⟨2,_,by omega,om3.alloc _,fun x hx=>?_⟩;exact putM_upd (f:=updS (fun _=>none) (to,false) 0) (s:=(to,true)) (v:=0) (by show to<1000000;omega) (putM_upd (f:=fun _=>none) (s:=(to,false)) (v:=0) (by show to<1000000;omega) (fun x _=>rfl)) x hx
  have SI4:Hid (SI ns.length cs us lv to (start0 to)):=SI.start hto (by rw[HLT.out];omega);have HW4:=Lib.hid hw4;have HB10:=Lib.hid hb10;clear hb10 hw4 om3 hg3 P43 P53 P63 P93 BW3 s92
  go_wp2_with fail
  rw[HW4.out,HB10.out];clear HB10 HW4
  go_loopg [29] (pot ns.length (start0 to)) (fun g _ wr=>∃f,g=pot ns.length f∧PE w wr ns cs us lv An Ac Au (some ⟨bl,ol,none⟩) cn cc cu cl w.heap.size (w.heap.size+1) (w.heap.size+1+1) (w.heap.size+1+1+1+1) b10 (w.heap.size+1+1+1)∧SMem wr (w.heap.size+1+1+1) ns.length f∧SI ns.length cs us lv to f)
  case atStart=>exact⟨_,rfl,PE4.out,SM4.out,SI4.out⟩
  case round=>
   clear PE4 SM4 SI4;obtain⟨f,hg,pe,sm,si⟩:=hrel;have HG:=Lib.hid hg;have HC:=Lib.hid (pass_any ns cs us lv An Ac Au (some ⟨bl,ol,none⟩) cn cc cu cl w.heap.size (w.heap.size+1) (w.heap.size+1+1) (w.heap.size+1+1+1+1) b10 (w.heap.size+1+1+1) to f w wr HV.out HUL.out HLL.out pe sm si);clear hg pe sm si
   go_wp2_with fail
   refine HC.out.mono ?_;rintro e w5 ⟨c,f5,rfl,pe5,sm5,ps5,kb5⟩;have s9:=pe5.p9.one.1;cases c
   ·have F:Hid (SearchPost ns cs us lv to w (.returned (.map (some (w.heap.size+1+1+1)))) w5):=by
     rcases ps5.2 with⟨h1,_⟩|⟨_,h2,h3⟩
     ·cases h1
     ·subst h2;exact⟨_,_,rfl,by omega,sm5,.inr ⟨ps5.1,h3⟩,pe5.bel⟩
    clear pe5 sm5 ps5 kb5 HC
    go_wp2_with fail
    go_ret
    exact F.out
   ·have LT:Hid (pot ns.length f5<pot ns.length f):=by
     rcases ps5.2 with⟨_,h1⟩|⟨h1,_⟩
     ·exact h1
     ·cases h1
    have R:Hid (∃f,pot ns.length f5=pot ns.length f∧PE w w5 ns cs us lv An Ac Au (some ⟨bl,ol,none⟩) cn cc cu cl w.heap.size (w.heap.size+1) (w.heap.size+1+1) (w.heap.size+1+1+1+1) b10 (w.heap.size+1+1+1)∧SMem w5 (w.heap.size+1+1+1) ns.length f∧SI ns.length cs us lv to f):=⟨f5,rfl,pe5,sm5,ps5.1⟩;clear pe5 sm5 ps5 kb5 HC s9
    go_wp2_with fail
    go_roundg (pot ns.length f5)
    case rel=>exact R.out
    case measure=>rw[HG.out];exact LT.out
end Go.Proofs.YtnjjkgjdhljfnaaGreat
namespace Go.Proofs.YtnjjkgjdhljfnaaGreat
open Go.RowKit Go.Maps
def dI:Option Nat→Int
 |none=>-1
 |some d=>d
def risF(n:Nat)(f:SMp)(b:Bool):List Int:=(List.range n).map fun i=>dI (f (i,b))
theorem risF_get{n:Nat}(f:SMp)(b:Bool){i:Nat}(h:i<n):(risF n f b).getD i 0=dI (f (i,b)):=by simp[risF,List.getD,h]
theorem risF_succ(n:Nat)(f:SMp)(b:Bool):risF (n+1) f b=risF n f b++[dI (f (n,b))]:=by unfold risF;rw[List.range_succ,List.map_append];rfl
theorem dlen_any(bx bm n:Nat)(f:SMp)(s:St)(w:World)(hx:Blk w bx 251 #[.map (some bm)])(hm:SMem w bm n f)(hs:s.1<1000000):Calls Tryz.prog 148 #[.agg #[.int .i64 (s.1:Int),.bool s.2],.pointer (some ⟨bx,0,none⟩)] w fun e w'=>e=.returned (.int .i64 (dI (f s)))∧Below w.heap.size w w':=by
 obtain⟨u,fl⟩:=s;simp only at hs⊢;have B:Hid (Below w.heap.size w (w.alloc (.cells #[.int .i64 (u:Int),.bool fl] 254))):=(Below.refl _ _).alloc (Nat.le_refl _) _;have c9:=hx.one.1;have l9:=hx.lt;obtain⟨m,M,_,om,hM⟩:=hm.alloc (.cells #[.int .i64 (u:Int),.bool fl] 254);have MS:=Lib.hid (hM (u,fl) hs);have OM:=Lib.hid om;have kS:keyOf Tryz.prog 254 (.agg #[.int .i64 (u:Int),.bool fl])=some (pkS (u,fl)):=keySt (x:=(u,fl)) (wf_nat hs);have KS:=Lib.hid kS;clear kS om hM hx hm;cases hf:f (u,fl)with
 |none=>
  rw[hf]at MS;clear hf
  go_enter Tryz.func148,Tryz.ntmps148
  go_wp2_with (at_lookup;refine wpList_look_ok _ rfl _ _ 251 rfl 254 3 lawSt Tryz.underlying251 (.int .i64 0) (zeroInt _) bm m M rfl OM.out _ _ rfl KS.out ?_;rw[MS.out])
  go_ret
  exact⟨rfl,B.out⟩
 |some d=>
  rw[hf]at MS;clear hf
  go_enter Tryz.func148,Tryz.ntmps148
  go_wp2_with (at_lookup;refine wpList_look_ok _ rfl _ _ 251 rfl 254 3 lawSt Tryz.underlying251 (.int .i64 0) (zeroInt _) bm m M rfl OM.out _ _ rfl KS.out ?_;rw[MS.out])
  go_ret
  exact⟨rfl,B.out⟩
def isnB(n:Nat)(node:Int):Bool:=decide (0≤node∧node<n)
theorem unode_any(An Ac:Option Addr)(n cn m cc:Nat)(node:Int)(w:World)(hl:n≤1000000):Calls Tryz.prog 146 #[.agg #[.slice An n cn,.slice Ac m cc],.int .i64 node] w fun e w'=>e=.returned (.bool (isnB n node))∧Below w.heap.size w w':=by
 have B:Hid (Below w.heap.size w (w.alloc (.cells #[.slice An n cn,.slice Ac m cc] 25))):=(Below.refl _ _).alloc (Nat.le_refl _) _;by_cases h1:0≤node
 ·by_cases h2:node<n
  ·have F:Hid (isnB n node=true):=decide_eq_true ⟨h1,h2⟩
   go_enter Tryz.func146,Tryz.ntmps146
   go_wp2_with fail
   go_ret
   exact⟨by rw[F.out];first|rfl|simp[h1,h2],B.out⟩
  ·have F:Hid (isnB n node=false):=decide_eq_false (by omega)
   go_enter Tryz.func146,Tryz.ntmps146
   go_wp2_with fail
   go_ret
   exact⟨by rw[F.out];first|rfl|simp[h1,h2],B.out⟩
 ·have F:Hid (isnB n node=false):=decide_eq_false (by omega)
  go_enter Tryz.func146,Tryz.ntmps146
  go_wp2_with fail
  go_ret
  exact⟨by rw[F.out];first|rfl|simp[h1],B.out⟩
theorem Slots.below{w w':World}{base:Nat}{S:List Slot}(h:Slots w base S)(hb:Below w.heap.size w w'):Slots w' base S:=
 ⟨fun s hs=>(h.1 s hs).kept (only_of_below hb none) (by cases s.v.ownBlock with
  |none=>exact .inl rfl
  |some q=>exact .inr (by simp)),h.2⟩
theorem SMem.grown{w w':World}{b n:Nat}{f:SMp}{row:Option Nat}(h:SMem w b n f)(hg:w.grownBy w' row)(hne:some b≠row):SMem w' b n f:=by obtain⟨m,M,h1,h2,h3⟩:=h;exact⟨m,M,h1,h2.kept hg hne,h3⟩
def UDPost(n:Nat)(cs:List Cb)(us:List Bool)(lv:List Int)(to:Nat)(w:World)(e:Ending)(w':World):Prop:=
 ∃f v1 v2,Found n cs us lv to f∧e=.returned (.tuple #[v1,v2,.int .i64 0])∧w'.ownsRow w.heap.size 3 1 v1 n ((risF n f false).flatMap cI)∧w'.ownsRow w.heap.size 3 1 v2 n ((risF n f true).flatMap cI)∧Below w.heap.size w w'
def RelUD(n:Nat)(f:SMp)(base bx bm:Nat)(w5:World)(v1 v2 i:Value)(wr:World):Prop:=
 ∃k:Nat,k≤n∧i=.int .i64 k∧Slots wr base [⟨v1,3,1,k,(risF k f false).flatMap cI⟩,⟨v2,3,1,k,(risF k f true).flatMap cI⟩]∧Blk wr bx 251 #[.map (some bm)]∧SMem wr bm n f∧Below base w5 wr
theorem udist_any(ns:List Nd)(cs:List Cb)(us:List Bool)(lv:List Int)(An Ac Au Al:Option Addr)(cn cc cu cl to:Nat)(w:World)(hv:validP ⟨ns,cs⟩=0)(hob:orderB ⟨ns,cs⟩ lv=true)(hul:us.length=cs.length)(hll:lv.length=ns.length)(hto:to<ns.length)(hwf:WfP ⟨ns,cs⟩)(hwl:WfI lv)(h:IsPlan w An Ac ⟨ns,cs⟩)(h2:IsRec 1 cB false w Au us.length us)(h3:IsRec 1 cI 0 w Al lv.length lv):Calls Tryz.prog 115 #[.agg #[.slice An ns.length cn,.slice Ac cs.length cc],.agg #[.slice Al lv.length cl],.slice Au us.length cu,.int .i64 (to:Int)] w (UDPost ns.length cs us lv to w):=by
 obtain⟨n16,c32⟩:=valid_sizes hv;obtain⟨w1,hw1⟩:∃w1:World,(w.alloc (.cells #[.slice An ns.length cn,.slice Ac cs.length cc] 25)).alloc (.cells #[.slice Al lv.length cl] 169)=w1:=⟨_,rfl⟩;have BW:Hid (Below w.heap.size w w1):=by rw[←hw1];exact((Below.refl _ _).alloc (Nat.le_refl _) _).alloc (by simp) _
 have P4:Hid (Blk w1 w.heap.size 25 #[.slice An ns.length cn,.slice Ac cs.length cc]):=by rw[←hw1];exact(Blk.new w 25 #[.slice An ns.length cn,.slice Ac cs.length cc]).alloc _
 have P5:Hid (Blk w1 (w.heap.size+1) 169 #[.slice Al lv.length cl]):=by rw[←hw1];have:=Blk.new (w.alloc (.cells #[.slice An ns.length cn,.slice Ac cs.length cc] 25)) 169 #[.slice Al lv.length cl];rw[Hid];simpa using this
 have HP:=Lib.hid (h.below (Nat.le_refl _) BW.out);have HU:=Lib.hid (h2.below (Nat.le_refl _) BW.out);have HL:=Lib.hid (h3.below (Nat.le_refl _) BW.out);have HV:=Lib.hid hv;have HUL:=Lib.hid hul;have HLL:=Lib.hid hll;have hne:((us.length:Int)!=(cs.length:Int))=false:=by simp[hul]
 have HO:=order_any ⟨ns,cs⟩ lv An Ac Al cn cc cl w1 (by show ns.length≤_;omega) (by show cs.length≤_;omega) hwf (by omega) hwl HP.out HL.out;rw[hob]at HO;have HOO:=Lib.hid HO;have t0:(0:Int)≤(to:Int):=by omega
 have t1:(to:Int)<(ns.length:Int):=by omega
 have HW1:=Lib.hid hw1;clear hv hob hul hll hwf hwl h h2 h3 HO hw1
 go_enter Tryz.func115,Tryz.ntmps115
 go_wp2_with fail
 rw[HW1.out];refine HOO.out.mono ?_;rintro e w2 ⟨rfl,bel⟩;have P42:=Lib.hid (P4.out.below bel P4.out.lt);have P52:=Lib.hid (P5.out.below bel P5.out.lt);have c40:w2.cell? ⟨w.heap.size,0,none⟩=some (.slice An ns.length cn):=by rw[P42.out.cell];rfl
 have c41:w2.cell? ⟨w.heap.size,1,none⟩=some (.slice Ac cs.length cc):=by rw[P42.out.cell];rfl
 have c50:=P52.out.one.1;have HP2:=Lib.hid (HP.out.below (Nat.le_refl _) bel);have HU2:=Lib.hid (HU.out.below (Nat.le_refl _) bel);have HL2:=Lib.hid (HL.out.below (Nat.le_refl _) bel);have BW2:Hid (Below w.heap.size w w2):=BW.out.trans (bel.mono BW.out.size);have HN:=unode_any An Ac ns.length cn cs.length cc (to:Int) w2 (by omega);rw[show isnB ns.length (to:Int)=true from decide_eq_true ⟨t0,t1⟩]at HN;have HNN:=Lib.hid HN;clear bel HN HOO HW1
 go_wp2_with fail
 refine HNN.out.mono ?_;rintro e w3 ⟨rfl,bel⟩;have P43:=Lib.hid (P42.out.below bel P42.out.lt);have P53:=Lib.hid (P52.out.below bel P52.out.lt);have d40:w3.cell? ⟨w.heap.size,0,none⟩=some (.slice An ns.length cn):=by rw[P43.out.cell];rfl
 have d41:w3.cell? ⟨w.heap.size,1,none⟩=some (.slice Ac cs.length cc):=by rw[P43.out.cell];rfl
 have d50:=P53.out.one.1;have BW3:Hid (Below w.heap.size w w3):=BW2.out.trans (bel.mono BW2.out.size);have HS:=Lib.hid (search_any ns cs us lv An Ac Au Al cn cc cu cl to w3 HV.out HUL.out HLL.out hto (HP2.out.below (Nat.le_refl _) bel) (HU2.out.below (Nat.le_refl _) bel) (HL2.out.below (Nat.le_refl _) bel));clear bel HNN c40 c41 c50
 go_wp2_with fail
 refine HS.out.mono ?_;rintro e w4 ⟨bm,f,rfl,hbm,sm,hfound,bel⟩;have P44:=Lib.hid (P43.out.below bel P43.out.lt);have e40:w4.cell? ⟨w.heap.size,0,none⟩=some (.slice An ns.length cn):=by rw[P44.out.cell];rfl
 have l40:=P44.out.lt;have FND:=Lib.hid hfound;have BW4:Hid (Below w.heap.size w w4):=BW3.out.trans (bel.mono BW3.out.size);obtain⟨w5,hw5⟩:∃w5:World,w4.alloc (.cells #[.map (some bm)] 251)=w5:=⟨_,rfl⟩;obtain⟨bx,hbx⟩:∃bx,w4.heap.size=bx:=⟨_,rfl⟩;have BX5:Hid (Blk w5 bx 251 #[.map (some bm)]):=by rw[←hw5,←hbx];exact Blk.new _ _ _
 have SM5:Hid (SMem w5 bm ns.length f):=by rw[←hw5];exact sm.alloc _
 have BW5:Hid (Below w.heap.size w w5):=by rw[←hw5];exact BW4.out.alloc BW4.out.size _
 have HW5:=Lib.hid hw5;have HBX:=Lib.hid hbx;have ST:Hid (RelUD ns.length f w5.heap.size bx bm w5 (.slice none 0 0) (.slice none 0 0) (.int .i64 0) w5):=⟨0,Nat.zero_le _,rfl,((Slots.nil _ _).empty _ _).empty _ _,BX5.out,SM5.out,Below.refl _ _⟩;have S95:=Lib.hid BX5.out.lt;have M95:=Lib.hid SM5.out.lt;obtain⟨i0,hi0,hz0,hz1,hz2⟩:=info_parts infoInt;have HI0:=Lib.hid hi0;have HZ0:=Lib.hid hz0;have HZ1:=Lib.hid hz1;have HZ2:=Lib.hid hz2;clear hw5 hbx bel sm hfound d40 d41 d50 HS hi0 hz0 hz1 hz2
 go_wp2_with fail
 rw[HW5.out,HBX.out];clear HW5 HBX
 go_loopw [8,9,39] (fun v1 v2 i wr=>RelUD ns.length f w5.heap.size bx bm w5 v1 v2 i wr) (fun _ _ i _=>ns.length-(RowKit.intOf i).toNat)
 case atStart=>exact ST.out
 case round=>
  clear ST;obtain⟨k,hk,rfl,sl,bxr,sm,bel⟩:=hrel;have SL:=Lib.hid sl;have BXR:=Lib.hid bxr;have SMR:=Lib.hid sm;have BEL:=Lib.hid bel;by_cases hkr:k<ns.length
  ·have HD:=Lib.hid (dlen_any bx bm ns.length f (k,false) wr bxr sm (by show k<1000000;omega));clear sl bxr sm bel
   go_wp2_with fail
   refine HD.out.mono ?_;rintro e w6 ⟨rfl,bel6⟩;have SL6:=Lib.hid ((SL.out.below bel6).alloc (.cells #[.int .i64 (dI (f (k,false)))] 3));have OW1:=Lib.hid SL6.out.head;have BX6:=Lib.hid ((BXR.out.below bel6 BXR.out.lt).alloc (.cells #[.int .i64 (dI (f (k,false)))] 3));have SM6:=Lib.hid ((SMR.out.below bel6 SMR.out.lt).alloc (.cells #[.int .i64 (dI (f (k,false)))] 3));have B6:=Lib.hid bel6;have BE6:Hid (Below w5.heap.size w5 (w6.alloc (.cells #[.int .i64 (dI (f (k,false)))] 3))):=(BEL.out.trans (bel6.mono BEL.out.size)).alloc (by have h1:=BEL.out.size;have h2:=bel6.size;omega) _;have OG1:Hid (∀g,u8.ownBlock=some g→w5.heap.size≤g):=fun g e=>(SL.out.head.lt g e).1;have OG2:Hid (∀g,u9.ownBlock=some g→w5.heap.size≤g):=fun g e=>((SL.out.1 _ (List.mem_cons_of_mem _ (List.mem_cons_self ..))).lt g e).1;clear bel6 HD
   go_wp2_with (at_builtin;refine wpList_append_own_at _ rfl _ _ 26 rfl w5.heap.size 3 i0 _ 1 8 Tryz.underlying26 HI0.out HZ0.out HZ1.out HZ2.out rfl (by decide) _ _ _ rfl OW1.out ⟨w6.heap.size,0,none⟩ 1 1 [.int .i64 (dI (f (k,false)))] rfl rfl ?e11 ?e12 ?e13 ?e14 ?e15 ?_)
   case e11=>intro j u hu;cases j<;>simp at hu;subst hu;simp[Addr.add,go_sem]
   case e12=>intro u hu;simp at hu;subst hu;rfl
   case e13=>unfold maxLen;omega
   case e14=>omega
   case e15=>have h1:=BEL.out.size;have h2:=B6.out.size;simp at *;omega
   intro v1' w7 own7 gr7 _ loc7;have SL7:=Lib.hid (SL6.out.push own7 gr7 (by simpa using loc7));have nb:∀g,g<w5.heap.size→some g≠u8.ownBlock:=fun g hg e=>by have:=OG1.out g e.symm;omega
   have BX7:=BX6.out.grown gr7 (nb bx S95.out);have SM7:=SM6.out.grown gr7 (nb bm M95.out);have BE7:Hid (Below w5.heap.size w5 w7):=BE6.out.grown gr7 BE6.out.size OG1.out;have G7:=Lib.hid gr7;have BX7H:=Lib.hid BX7;have SM7H:=Lib.hid SM7;have HE:=Lib.hid (dlen_any bx bm ns.length f (k,true) w7 BX7 SM7 (by show k<1000000;omega));clear own7 gr7 loc7 nb BX7 SM7
   go_wp2_with fail
   refine HE.out.mono ?_;rintro e w8 ⟨rfl,bel8⟩;have B8:=Lib.hid bel8;have SL8:=Lib.hid (((SL7.out.below bel8).alloc (.cells #[.int .i64 (dI (f (k,true)))] 3)).perm (List.Perm.swap _ _ _));have OW2:=Lib.hid SL8.out.head;have BX8:=Lib.hid ((BX7H.out.below bel8 BX7H.out.lt).alloc (.cells #[.int .i64 (dI (f (k,true)))] 3));have SM8:=Lib.hid ((SM7H.out.below bel8 SM7H.out.lt).alloc (.cells #[.int .i64 (dI (f (k,true)))] 3));have BE8:Hid (Below w5.heap.size w5 (w8.alloc (.cells #[.int .i64 (dI (f (k,true)))] 3))):=(BE7.out.trans (bel8.mono BE7.out.size)).alloc (by have h1:=BE7.out.size;have h2:=bel8.size;omega) _;clear bel8 HE
   go_wp2_with (at_builtin;refine wpList_append_own_at _ rfl _ _ 26 rfl w5.heap.size 3 i0 _ 1 8 Tryz.underlying26 HI0.out HZ0.out HZ1.out HZ2.out rfl (by decide) _ _ _ rfl OW2.out ⟨w8.heap.size,0,none⟩ 1 1 [.int .i64 (dI (f (k,true)))] rfl rfl ?e21 ?e22 ?e23 ?e24 ?e25 ?_)
   case e21=>intro j u hu;cases j<;>simp at hu;subst hu;simp[Addr.add,go_sem]
   case e22=>intro u hu;simp at hu;subst hu;rfl
   case e23=>unfold maxLen;omega
   case e24=>omega
   case e25=>have h1:=BEL.out.size;have h2:=B6.out.size;have h3:=G7.out.size;have h4:=B8.out.size;simp at *;omega
   intro v2' w9 own9 gr9 _ loc9;have nb:∀g,g<w5.heap.size→some g≠u9.ownBlock:=fun g hg e=>by have:=OG2.out g e.symm;omega
   have R:Hid (RelUD ns.length f w5.heap.size bx bm w5 v1' v2' (.int .i64 ((k+1:Nat):Int)) w9):=(by have SL9:=(SL8.out.push own9 gr9 (by simpa using loc9)).perm (List.Perm.swap _ _ _);refine⟨k+1,by omega,rfl,?_,BX8.out.grown gr9 (nb bx S95.out),SM8.out.grown gr9 (nb bm M95.out),BE8.out.grown gr9 BE8.out.size OG2.out⟩;rw[risF_succ,risF_succ,List.flatMap_append,List.flatMap_append];exact SL9);clear own9 gr9 loc9 nb
   go_wp2_with fail
   exact⟨by simpa using R.out,by simp[RowKit.intOf];omega⟩
  ·obtain rfl:k=ns.length:=by omega
   have F:Hid (UDPost ns.length cs us lv to w (.returned (.tuple #[u8,u9,.int .i64 0])) wr):=(by refine⟨f,u8,u9,FND.out,rfl,own_mono (sl.1 _ (List.mem_cons_self ..)) BW5.out.size,own_mono (sl.1 _ (List.mem_cons_of_mem _ (List.mem_cons_self ..))) BW5.out.size,BW5.out.trans (bel.mono BW5.out.size)⟩);clear sl bxr sm bel
   go_wp2_with fail
   go_ret3
   exact F.out
end Go.Proofs.YtnjjkgjdhljfnaaGreat
namespace Go.Proofs.YtnjjkgjdhljfnaaGreat
open Go.RowKit Go.Maps
def fitC (cs : List Cb) (us : List Bool) (lv R F : List Int) (node : Nat) (left : Int) (mr : Bool) (i : Nat) : Bool :=
  decide (1 ≤ left) && (acrossV (cs.getD i cb0) (node : Int)).2 && us.getD i false &&
    (if aboveB lv (acrossV (cs.getD i cb0) (node : Int)).1 (node : Int) = true then mr && decide (R.getD (acrossV (cs.getD i cb0) (node : Int)).1.toNat 0 = left - 1)
     else decide (F.getD (acrossV (cs.getD i cb0) (node : Int)).1.toNat 0 = left - 1))
def Chosen(cs:List Cb)(us:List Bool)(lv R F:List Int)(node:Nat)(left:Int)(mr:Bool)(c:Int):Prop:=
 (c=-1∧∀i,i<cs.length→fitC cs us lv R F node left mr i=false)∨∃i:Nat,i<cs.length∧c=i∧fitC cs us lv R F node left mr i=true
structure CE(w:World)(ns:List Nd)(cs:List Cb)(us:List Bool)(lv R F:List Int)(An Ac Au Al AR AF:Option Addr)(cn cc cu cl cR cF b3 b4 b5 b10 b11:Nat):Prop where
 p3:Blk w b3 25 #[.slice An ns.length cn,.slice Ac cs.length cc]
 p4:Blk w b4 169 #[.slice Al lv.length cl]
 p5:Blk w b5 52 #[.slice Au us.length cu]
 p10:Blk w b10 26 #[.slice AR ns.length cR]
 p11:Blk w b11 26 #[.slice AF ns.length cF]
 pl:IsPlan w An Ac ⟨ns,cs⟩
 pu:IsRec 1 cB false w Au us.length us
 plv:IsRec 1 cI 0 w Al lv.length lv
 pR:IsRec 1 cI 0 w AR ns.length R
 pF:IsRec 1 cI 0 w AF ns.length F
theorem CE.below{w w':World}{ns:List Nd}{cs:List Cb}{us:List Bool}{lv R F:List Int}{An Ac Au Al AR AF:Option Addr}{cn cc cu cl cR cF b3 b4 b5 b10 b11:Nat}(h:CE w ns cs us lv R F An Ac Au Al AR AF cn cc cu cl cR cF b3 b4 b5 b10 b11){B:Nat}(hB:w.heap.size≤B)(hb:Below B w w'):CE w' ns cs us lv R F An Ac Au Al AR AF cn cc cu cl cR cF b3 b4 b5 b10 b11:=by have f:∀{g:Nat} {t:TypeId} {xs:Array Value},Blk w g t xs→Blk w' g t xs:=fun hx=>hx.below hb (Nat.lt_of_lt_of_le hx.lt hB);exact⟨f h.p3,f h.p4,f h.p5,f h.p10,f h.p11,h.pl.below hB hb,h.pu.below hB hb,h.plv.below hB hb,h.pR.below hB hb,h.pF.below hB hb⟩
def RelChN(cs:List Cb)(us:List Bool)(lv R F:List Int)(node:Nat)(left:Int)(mr:Bool)(w:World)(i:Value)(wr:World):Prop:=
 ∃k:Nat,k≤cs.length∧i=.int .i64 k∧(∀j,j<k→fitC cs us lv R F node left mr j=false)∧Below w.heap.size w wr
def ChoosePost(cs:List Cb)(us:List Bool)(lv R F:List Int)(node:Nat)(left:Int)(mr:Bool)(w:World)(e:Ending)(w':World):Prop:=
 ∃c,e=.returned (.int .i64 c)∧Chosen cs us lv R F node left mr c∧Below w.heap.size w w'
theorem choose_any (ns : List Nd) (cs : List Cb) (us : List Bool) (lv R F : List Int) (An Ac Au Al AR AF : Option Addr) (cn cc cu cl cR cF b3 b4 b5 b10 b11 node : Nat) (left : Int) (mr : Bool) (w : World) (hv : validP ⟨ns, cs⟩ = 0) (hul : us.length = cs.length) (hll : lv.length = ns.length)
    (hnode : node < ns.length) (hl0 : -1 ≤ left) (hl1 : left ≤ 1000000) (h : CE w ns cs us lv R F An Ac Au Al AR AF cn cc cu cl cR cF b3 b4 b5 b10 b11) :
    Calls Tryz.prog 116 #[.int .i64 (node : Int), .int .i64 left, .bool mr, .pointer (some ⟨b3, 0, none⟩), .pointer (some ⟨b5, 0, none⟩), .pointer (some ⟨b4, 0, none⟩), .pointer (some ⟨b10, 0, none⟩), .pointer (some ⟨b11, 0, none⟩)] w (ChoosePost cs us lv R F node left mr w) := by
  obtain ⟨n16, c32⟩ := valid_sizes hv
  have HV := Lib.hid hv
  have HUL := Lib.hid hul
  have HLL := Lib.hid hll
  have H := Lib.hid h
  have c31 : w.cell? ⟨b3, 1, none⟩ = some (.slice Ac cs.length cc) := by rw [h.p3.cell]; rfl
  have ST : Hid (RelChN cs us lv R F node left mr w (.int .i64 0) w) := ⟨0, Nat.zero_le _, rfl, fun j hj => by omega, Below.refl _ _⟩
  clear hv hul hll h
  go_enter Tryz.func116, Tryz.ntmps116
  go_wp2_with fail
  go_loopw [20] (fun i wr => RelChN cs us lv R F node left mr w i wr) (fun i _ => cs.length - (RowKit.intOf i).toNat)
  case atStart => exact ST.out
  case round =>
    clear ST c31
    obtain ⟨k, hk, rfl, hno, bel⟩ := hrel
    have HNO := Lib.hid hno
    have BEL := Lib.hid bel
    clear hno
    by_cases hkr : k < cs.length
    · have CW := H.out.below (Nat.le_refl _) bel
      obtain ⟨bc, oc, hAc, hbc, hmem, ca, cap', cb, cbp, cd, ccp⟩ := cable_at CW.pl.2 k hkr
      obtain ⟨⟨na0, na1⟩, nb0, nb1⟩ := cab_node HV.out hmem
      have NEXT : Hid (fitC cs us lv R F node left mr k = false → ∀ w9, Below w.heap.size w w9 → RelChN cs us lv R F node left mr w (.int .i64 ((k + 1 : Nat) : Int)) w9) := fun e w9 hb => by
        refine ⟨k + 1, by omega, rfl, fun j hj => ?_, hb⟩
        by_cases hjk : j = k
        · rw [hjk]; exact e
        · exact HNO.out j (by omega)
      have FD : Hid (fitC cs us lv R F node left mr k = (decide (1 ≤ left) && (acrossV (cs.getD k cb0) (node : Int)).2 && us.getD k false &&
        (if aboveB lv (acrossV (cs.getD k cb0) (node : Int)).1 (node : Int) = true then mr && decide (R.getD (acrossV (cs.getD k cb0) (node : Int)).1.toNat 0 = left - 1)
         else decide (F.getD (acrossV (cs.getD k cb0) (node : Int)).1.toNat 0 = left - 1)))) := rfl
      have AR0 : Hid ((acrossV (cs.getD k cb0) (node : Int)).2 = true → 0 ≤ (acrossV (cs.getD k cb0) (node : Int)).1 ∧ (acrossV (cs.getD k cb0) (node : Int)).1 < ns.length) := by
        unfold acrossV
        intro ht
        split at ht
        · rename_i h1; rw [if_pos h1]; exact ⟨nb0, nb1⟩
        · split at ht
          · rename_i h1 h2; rw [if_neg h1, if_pos h2]; exact ⟨na0, na1⟩
          · cases ht
      obtain ⟨w1, hw1⟩ : ∃ w1 : World, wr.alloc (Obj.cells #[.int .i64 (cs.getD k cb0).a, .int .i64 (cs.getD k cb0).ap, .int .i64 (cs.getD k cb0).b, .int .i64 (cs.getD k cb0).bp, .int .i64 (cs.getD k cb0).dl, .int .i64 (cs.getD k cb0).cp] 86) = w1 := ⟨_, rfl⟩
      have BEL1 : Hid (Below w.heap.size w w1) := by rw [← hw1]; exact bel.alloc bel.size _
      have HA := Lib.hid (across_any (cs.getD k cb0) (node : Int) w1)
      have HW1 := Lib.hid hw1
      generalize cs.getD k cb0 = x at *
      obtain ⟨av, aok⟩ : ∃ y, acrossV x (node : Int) = y := ⟨_, rfl⟩
      subst hAc
      clear hmem na0 na1 nb0 nb1 CW hw1
      rw [aok] at HA FD AR0
      obtain ⟨oth, ok⟩ := av
      simp only at HA FD AR0
      go_wp2_with fail
      rw [HW1.out]
      refine HA.out.mono ?_
      rintro e w2 ⟨rfl, bel2⟩
      have BEL2 : Hid (Below w.heap.size w w2) := BEL1.out.trans (bel2.mono BEL1.out.size)
      have AOK := Lib.hid aok
      clear bel2 bel HA ca cap' cb cbp cd ccp HW1 aok
      by_cases hle : 1 ≤ left
      · cases ok with
        | false =>
          have R := Lib.hid (NEXT.out (by rw [FD.out]; simp) w2 BEL2.out)
          have hlt : ¬ left < 1 := by omega
          clear NEXT FD AR0
          go_wp2_with fail
          exact ⟨by simpa using R.out, by simp [RowKit.intOf]; omega⟩
        | true =>
          obtain ⟨o0, o1⟩ := AR0.out rfl
          obtain ⟨o, rfl⟩ : ∃ o : Nat, oth = o := ⟨oth.toNat, by omega⟩
          have hon : o < ns.length := by omega
          have hll := HLL.out
          have hul := HUL.out
          have CW2 := H.out.below (Nat.le_refl _) BEL2.out
          obtain ⟨bu, ou, hAu, hbu, _, cu'⟩ := bool_at CW2.pu k (by omega)
          have c5 := CW2.p5.one.1
          have c4 := CW2.p4.one.1
          have HAB := Lib.hid (above_any lv Al cl (o : Int) (node : Int) w2 (by omega) CW2.plv)
          subst hAu
          have kus : (k : Int) < (us.length : Int) := by omega
          have hlt : ¬ left < 1 := by omega
          rw [decide_eq_true hle, Int.toNat_natCast] at FD
          cases hub : us.getD k false with
          | false =>
            rw [hub] at cu' FD
            have R := Lib.hid (NEXT.out (by rw [FD.out]; simp) w2 BEL2.out)
            clear NEXT FD AR0 hub CW2 hll hul HAB
            go_wp2_with fail
            exact ⟨by simpa using R.out, by simp [RowKit.intOf]; omega⟩
          | true =>
            rw [hub] at cu' FD
            clear hub CW2 hll hul
            go_wp2_with fail
            refine HAB.out.mono ?_
            rintro e w3 ⟨rfl, bel3⟩
            have BEL3 : Hid (Below w.heap.size w w3) := BEL2.out.trans (bel3.mono BEL2.out.size)
            have CW3 := H.out.below (Nat.le_refl _) BEL3.out
            obtain ⟨bR, oR, hAR, hbR, _, cR'⟩ := int_at CW3.pR o hon
            obtain ⟨bF, oF, hAF, hbF, _, cF'⟩ := int_at CW3.pF o hon
            have c10 := CW3.p10.one.1
            have c11 := CW3.p11.one.1
            subst hAR
            subst hAF
            have q1 : IntKind.i64.wrap (left - 1) = left - 1 := IntWalk.i64_in _ (by omega)
            have RET : Hid (fitC cs us lv R F node left mr k = true → ChoosePost cs us lv R F node left mr w (.returned (.int .i64 (k : Int))) w3) := fun e => ⟨k, rfl, .inr ⟨k, hkr, rfl, e⟩, BEL3.out⟩
            clear bel3 CW3 HAB c4 c5 cu'
            obtain ⟨r, hr⟩ : ∃ r, R.getD o 0 = r := ⟨_, rfl⟩
            obtain ⟨f, hf⟩ : ∃ f, F.getD o 0 = f := ⟨_, rfl⟩
            rw [hr] at cR' FD
            rw [hf] at cF' FD
            clear hr hf
            cases hup : aboveB lv (o : Int) (node : Int) with
            | true =>
              rw [hup] at FD
              clear hup
              cases mr with
              | false =>
                have R := Lib.hid (NEXT.out (by rw [FD.out]; simp) w3 BEL3.out)
                clear NEXT FD AR0 RET
                go_wp2_with fail
                exact ⟨by simpa using R.out, by simp [RowKit.intOf]; omega⟩
              | true =>
                by_cases hq : r = left - 1
                · have F := Lib.hid (RET.out (by rw [FD.out]; simp [hq]))
                  clear NEXT FD AR0 RET
                  have hq2 : (r == left - 1) = true := by simpa using hq
                  clear hq
                  go_wp2_with fail
                  go_ret
                  exact F.out
                · have R := Lib.hid (NEXT.out (by rw [FD.out]; simp [hq]) w3 BEL3.out)
                  clear NEXT FD AR0 RET
                  have hq2 : (r == left - 1) = false := by simpa using hq
                  go_wp2_with fail
                  exact ⟨by simpa using R.out, by simp [RowKit.intOf]; omega⟩
            | false =>
              rw [hup] at FD
              clear hup
              by_cases hq : f = left - 1
              · have F := Lib.hid (RET.out (by rw [FD.out]; simp [hq]))
                clear NEXT FD AR0 RET
                have hq2 : (f == left - 1) = true := by simpa using hq
                clear hq
                go_wp2_with fail
                go_ret
                exact F.out
              · have R := Lib.hid (NEXT.out (by rw [FD.out]; simp [hq]) w3 BEL3.out)
                clear NEXT FD AR0 RET
                have hq2 : (f == left - 1) = false := by simpa using hq
                go_wp2_with fail
                exact ⟨by simpa using R.out, by simp [RowKit.intOf]; omega⟩
      · have R := Lib.hid (NEXT.out (by rw [FD.out, decide_eq_false hle]; simp) w2 BEL2.out)
        have hlt : left < 1 := by omega
        clear NEXT FD AR0 hle
        cases ok
        all_goals
          go_wp2_with fail
          exact ⟨by simpa using R.out, by simp [RowKit.intOf]; omega⟩
    · obtain rfl : k = cs.length := by omega
      have F : Hid (ChoosePost cs us lv R F node left mr w (.returned (.int .i64 (-1))) wr) := ⟨-1, rfl, .inl ⟨rfl, HNO.out⟩, bel⟩
      clear bel
      go_wp2_with fail
      go_ret
      exact F.out
end Go.Proofs.YtnjjkgjdhljfnaaGreat
namespace Go.Proofs.YtnjjkgjdhljfnaaGreat
open Go.RowKit Go.Maps
def clo(cs:List Cb)(us:List Bool)(l:List Int)(j:Nat):Prop:=∀i v:Nat,i<cs.length→us.getD i false=true→touch (cs.getD i cb0) j v→0≤l.getD v 0
def LedU(n:Nat)(cs:List Cb)(us:List Bool)(l:List Int):Prop:=∀j,j<n→0<l.getD j 0→∃i k:Nat,i<cs.length∧us.getD i false=true∧k<n∧touch (cs.getD i cb0) j k∧l.getD k 0=l.getD j 0-1
structure LvU(n:Nat)(cs:List Cb)(us:List Bool)(root:Nat)(l:List Int):Prop where
 lv:LvI n cs root l
 led:LedU n cs us l
 clo:∀j,j<n→0≤l.getD j 0→clo cs us l j
structure CB(n:Nat)(cs:List Cb)(us:List Bool)(l q:List Int):Prop where
 led:LedU n cs us l
 clo:∀j:Nat,j<n→0≤l.getD j 0→(j:Int)∈q∨clo cs us l j
structure CI(n:Nat)(cs:List Cb)(us:List Bool)(l q:List Int)(u k:Nat):Prop where
 led:LedU n cs us l
 clo:∀j:Nat,j<n→j≠u→0≤l.getD j 0→(j:Int)∈q∨clo cs us l j
 cur:∀i v:Nat,i<k→us.getD i false=true→touch (cs.getD i cb0) u v→0≤l.getD v 0
section
variable{n:Nat}{cs:List Cb}{us:List Bool}{l q:List Int}{u v k root:Nat}
theorem CB.start(hr:root<n):CB n cs us ((List.replicate n (-1)).set root 0) [(root:Int)]:=by
 have hg:∀j,j<n→((List.replicate n (-1:Int)).set root 0).getD j 0=if j=root then 0 else-1:=fun j hj=>by
  by_cases h:j=root
  ·subst h;simp[List.getD,hj]
  ·rw[if_neg h];simp[List.getD,Ne.symm h,hj]
 refine⟨fun j hj hp=>?_,fun j hj hp=>?_⟩
 ·rw[hg j hj]at hp;split at hp<;>omega
 ·rw[hg j hj]at hp;split at hp
  ·rename_i e;left;rw[e];simp
  ·omega
theorem CB.pop(h:CB n cs us l ((u:Int)::q)):CI n cs us l q u 0 where
 led:=h.led
 clo:=fun j hj hne hp=>by
  rcases h.clo j hj hp with e|e
  ·rcases List.mem_cons.1 e with e|e
   ·exact absurd (by omega) hne
   ·exact .inl e
  ·exact .inr e
 cur:=fun i v hi=>by omega
theorem CI.skip(h:CI n cs us l q u k)(hs:us.getD k false=false∨∀v:Nat,¬touch (cs.getD k cb0) u v):CI n cs us l q u (k+1) where
 led:=h.led
 clo:=h.clo
 cur:=fun i v hi hu ht=>by
  by_cases e:i=k
  ·subst e;rcases hs with hs|hs
   ·rw[hs]at hu;cases hu
   ·exact absurd ht (hs v)
  ·exact h.cur i v (by omega) hu ht
theorem touch_uniq{x:Cb}{u v w:Nat}(hne:x.a≠x.b)(h:touch x u v)(h2:touch x u w):v=w:=by unfold touch at h h2;rcases h with h|h<;>rcases h2 with h2|h2<;>omega
theorem touch_symm{x:Cb}{u v:Nat}(h:touch x u v):touch x v u:=by
 unfold touch at h⊢;rcases h with h|h
 ·exact .inr ⟨h.2,h.1⟩
 ·exact .inl ⟨h.2,h.1⟩
theorem CI.visit(h:CI n cs us l q u k)(hl:l.length=n)(hk:k<cs.length)(hu:u<n)(hv:v<n)(hlu:0≤l.getD u 0)(hs:us.getD k false=true)(ht:touch (cs.getD k cb0) u v)(hne:(cs.getD k cb0).a≠(cs.getD k cb0).b):CI n cs us (visL1 l q (u:Int) v).1 (visL1 l q (u:Int) v).2 u (k+1):=by
 unfold visL1;by_cases h1:l.getD v 0<0
 ·rw[if_pos h1,Int.toNat_natCast];have huv:u≠v:=fun e=>by rw[e]at hlu;omega
  have gv:(l.set v (l.getD u 0+1)).getD v 0=l.getD u 0+1:=by simp[List.getD,hl,hv]
  have go:∀j,j≠v→(l.set v (l.getD u 0+1)).getD j 0=l.getD j 0:=fun j e=>by simp[List.getD,Ne.symm e]
  have mono:∀j,0≤l.getD j 0→0≤(l.set v (l.getD u 0+1)).getD j 0:=fun j hj=>by
   by_cases e:j=v
   ·rw[e,gv];omega
   ·rw[go j e];exact hj
  refine⟨fun j hj hp=>?_,fun j hj hne' hp=>?_,fun i w hi hu' ht'=>?_⟩
  ·simp only at hp⊢;by_cases e:j=v
   ·subst e;exact⟨k,u,hk,hs,hu,touch_symm ht,by rw[gv,go u huv];omega⟩
   ·rw[go j e]at hp;obtain⟨i,k',a1,a2,a3,a4,a5⟩:=h.led j hj hp;have:k'≠v:=fun e2=>(by rw[e2]at a5;omega);exact⟨i,k',a1,a2,a3,a4,by rw[go k' this,go j e];exact a5⟩
  ·simp only at hp⊢;by_cases e:j=v
   ·left;rw[e];simp
   ·rw[go j e]at hp;rcases h.clo j hj hne' hp with q'|q'
    ·left;exact List.mem_append_left _ q'
    ·right;exact fun i w hi hu' ht'=>mono w (q' i w hi hu' ht')
  ·simp only;by_cases e:i=k
   ·subst e;rw[←touch_uniq hne ht ht',gv];omega
   ·exact mono w (h.cur i w (by omega) hu' ht')
 ·rw[if_neg h1];refine⟨h.led,h.clo,fun i w hi hu' ht'=>?_⟩;by_cases e:i=k
  ·subst e;rw[←touch_uniq hne ht ht'];simp only;omega
  ·exact h.cur i w (by omega) hu' ht'
theorem CI.done(h:CI n cs us l q u cs.length):CB n cs us l q where
 led:=h.led
 clo:=fun j hj hp=>by
  by_cases e:j=u
  ·subst e;exact .inr fun i v hi=>h.cur i v hi
  ·exact h.clo j hj e hp
theorem CB.nil(h:CB n cs us l [])(hl:LvI n cs root l):LvU n cs us root l:=⟨hl,h.led,fun j hj hp=>(h.clo j hj hp).resolve_left (by simp)⟩
end
theorem S2.visitU{w wr w':World}{ns:List Nd}{cs:List Cb}{root b9 gq b10 u v:Nat}{pv:Array Value}{qv:Value}{l q:List Int}{x:Cb}(hS:S2 w ns cs root pv b9 gq qv l q wr)(hv:v<ns.length)(hu:u<ns.length)(hlu:0≤l.getD u 0)(hx:x∈cs)(ht:touch x v u)(hp:DPost1 wr ns.length w.heap.size (w.heap.size+1+1) (w.heap.size+1) b10 b9 gq (u:Int) (visL1 l q (u:Int) v).1 (visL1 l q (u:Int) v).2 w'):∃gq' qv' l' q',S2 w ns cs root pv b9 gq' qv' l' q' w'∧Blk w' b10 3 #[.int .i64 u]∧gq'≠b10∧0≤l'.getD u 0∧q'.length+without l'=q.length+without l∧KB wr.heap.size [w.heap.size+1,b9,gq] wr w'∧w.heap.size+1≠b10∧l'=(visL1 l q (u:Int) v).1∧q'=(visL1 l q (u:Int) v).2:=by
 obtain⟨gq',qv',D,kb,loc⟩:=hp;have hlen:=hS.lv.len;have gp:=hS.plan.lt;have n9:b9≠w.heap.size:=Blk.tne hS.qbox hS.plan (by decide);have n7:=hS.ne7;have m7:gq'≠w.heap.size:=by rcases loc with e|e<;>omega
 have PL:Blk w' w.heap.size 25 pv:=kb.blk hS.plan gp (by simp;exact⟨Ne.symm n9,Ne.symm n7⟩);have BL:Below w.heap.size w w':=hS.below.trans (kb.toBelow (by omega) (by simp;exact⟨hS.ge9,hS.que.ge⟩));by_cases h1:l.getD v 0<0
 ·have e:visL1 l q (u:Int) v=(l.set v (l.getD u 0+1),q++[(v:Int)]):=by unfold visL1;rw[if_pos h1,Int.toNat_natCast]
  rw[e]at D;simp only at D;have huv:v≠u:=fun e=>by rw[e]at h1;omega
  have wo:=without_set (l:=l) (v:=v) (x:=l.getD u 0+1) (by omega) h1 (by omega);have gu:(l.set v (l.getD u 0+1)).getD u 0=l.getD u 0:=by simp[List.getD,huv]
  have hsum:(q++[(v:Int)]).length+without (l.set v (l.getD u 0+1))=q.length+without l:=by rw[List.length_append,List.length_singleton];omega
  refine⟨gq',qv',_,_,⟨D.box,D.row,PL,D.qbox,D.que,D.ne1,D.ne4,D.ne5,D.ne6,m7,hS.ge9,hS.lv.visit hv hu h1 hlu hx ht,?_,by rw[hsum];exact hS.low,BL⟩,D.node,D.ne2,by rw[gu];exact hlu,hsum,kb,D.ne3,by rw[e],by rw[e]⟩;intro y hy;have gv:(l.set v (l.getD u 0+1)).getD v 0=l.getD u 0+1:=by simp[List.getD,hlen,hv]
  rcases List.mem_append.1 hy with hy|hy
  ·obtain⟨j,rfl,hj,hl⟩:=hS.qok y hy;refine⟨j,rfl,hj,?_⟩;by_cases e:v=j
   ·rw[←e,gv];omega
   ·have:(l.set v (l.getD u 0+1)).getD j 0=l.getD j 0:=by simp[List.getD,e]
    rw[this];exact hl
  ·obtain rfl:=List.mem_singleton.1 hy;exact⟨v,rfl,hv,by rw[gv];omega⟩
 ·have e:visL1 l q (u:Int) v=(l,q):=by unfold visL1;rw[if_neg h1]
  rw[e]at D;simp only at D;exact⟨gq',qv',_,_,⟨D.box,D.row,PL,D.qbox,D.que,D.ne1,D.ne4,D.ne5,D.ne6,m7,hS.ge9,hS.lv,hS.qok,hS.low,BL⟩,D.node,D.ne2,hlu,rfl,kb,D.ne3,by rw[e],by rw[e]⟩
def RelQU(us:List Bool)(w:World)(ns:List Nd)(cs:List Cb)(root:Nat)(pv:Array Value)(b9 b10 u M:Nat)(i:Value)(wr:World):Prop:=
 ∃k:Nat,k≤cs.length∧i=.int .i64 k∧∃gq qv l q,S2 w ns cs root pv b9 gq qv l q wr∧Blk wr b10 3 #[.int .i64 u]∧gq≠b10∧0≤l.getD u 0∧q.length+without l=M∧w.heap.size+1≠b10∧CI ns.length cs us l q u k
theorem dist_anyU(ns:List Nd)(cs:List Cb)(us:List Bool)(root:Nat)(An Ac Au:Option Addr)(cn cc cu:Nat)(w:World)(hv:validP ⟨ns,cs⟩=0)(hr:root<ns.length)(h:IsPlan w An Ac ⟨ns,cs⟩)(h2:IsRec 1 cB false w Au cs.length us):Calls Tryz.prog 79 #[.agg #[.slice An ns.length cn,.slice Ac cs.length cc],.int .i64 root,.slice Au cs.length cu] w fun e w'=>∃l,LvU ns.length cs us root l∧IntsPost l w e w':=by
 obtain⟨n16,c32⟩:=valid_sizes hv;have HV:=Lib.hid hv;have HP:=Lib.hid h;have HU:=Lib.hid h2;clear hv h h2;obtain⟨j0,hj0,hy0,hy1,hy2⟩:=info_parts infoInt;obtain⟨o4,ho4⟩:∃o4,Obj.cells (madeCells #[.int .i64 0] ns.length) 3=o4:=⟨_,rfl⟩;have HO4:=Lib.hid ho4;clear ho4
 go_enter Tryz.func79,Tryz.ntmps79
 go_wp2_with (at_make;refine wpList_make_rec _ rfl _ _ 26 rfl 3 j0 _ 1 Tryz.underlying26 hj0 hy0 hy1 .i64 .i64 _ _ ns.length rfl rfl ?m1 ?m2 (by rw[hy2];omega) (by unfold maxLen;omega) ?_)
 case m1=>rfl
 case m2=>rfl
 rw[HO4.out];obtain⟨w3,hw3⟩:∃w3:World,((w.alloc (Obj.cells #[Value.slice An ns.length cn,Value.slice Ac cs.length cc] 25)).alloc o4).alloc (Obj.cells #[Value.slice (some {block:=w.heap.size+1,off:=0}) ns.length ns.length] 26)=w3:=⟨_,rfl⟩;have BW3:Hid (Below w.heap.size w w3):=by rw[←hw3];exact(((Below.refl _ _).alloc (Nat.le_refl _) _).alloc (by simp) _).alloc (by simp;omega) _
 have R3:Hid (Blk w3 (w.heap.size+1) 3 (rowI (fillL ns.length 0))):=by rw[←hw3,fillL_zero,Nat.mul_one];have:=(Blk.new (w.alloc (Obj.cells #[Value.slice An ns.length cn,Value.slice Ac cs.length cc] 25)) 3 (madeCells #[.int .i64 0] ns.length)).alloc (Obj.cells #[Value.slice (some {block:=w.heap.size+1,off:=0}) ns.length ns.length] 26);rw[←HO4.out,Hid];simpa using this
 have B73:Hid (Blk w3 (w.heap.size+1+1) 26 #[.slice (some ⟨w.heap.size+1,0,none⟩) ns.length ns.length]):=by rw[←hw3];have:=Blk.new ((w.alloc (Obj.cells #[Value.slice An ns.length cn,Value.slice Ac cs.length cc] 25)).alloc o4) 26 #[Value.slice (some {block:=w.heap.size+1,off:=0}) ns.length ns.length];rw[Hid];simpa using this
 have P3:Hid (Blk w3 w.heap.size 25 #[Value.slice An ns.length cn,Value.slice Ac cs.length cc]):=by rw[←hw3];exact((Blk.new w _ _).alloc _).alloc _
 have sz3:w3.heap.size=w.heap.size+3:=by rw[←hw3];simp
 have SZ3:=Lib.hid sz3;have HW3:=Lib.hid hw3;have ST:Hid (RelFN ns.length (w.heap.size+1) w w3 (.int .i64 0) w3):=⟨0,Nat.zero_le _,rfl,R3.out,KB.refl _ _ _,BW3.out⟩;clear hw3 sz3 hj0 hy0 hy1 hy2
 go_wp2_with fail
 rw[HW3.out];clear HW3 HO4
 go_loopw [20] (fun i wr=>RelFN ns.length (w.heap.size+1) w w3 i wr) (fun i _=>ns.length-(RowKit.intOf i).toNat)
 case atStart=>exact ST.out
 case round=>
  clear ST;obtain⟨k,hk,rfl,rb,kb,bel⟩:=hrel;have sz3:=SZ3.out;have bs:=kb.size;have c7:wr.cell? ⟨w.heap.size+1+1,0,none⟩=some (.slice (some ⟨w.heap.size+1,0,none⟩) ns.length ns.length):=(kb.blk B73.out (by omega) (by simp)).one.1;have KBE:=Lib.hid kb;have BE:=Lib.hid bel;have RB:=Lib.hid rb;by_cases hkr:k<ns.length
  ·have ck:wr.cell? ⟨w.heap.size+1,k,none⟩=some (.int .i64 ((fillL ns.length k).getD k 0)):=by rw[rb.cell];exact rowI_get _ k (by rw[fillL_len];exact hkr)
   have fk:wr.frozen? ⟨w.heap.size+1,k,none⟩=false:=rb.frozen k;have k1:(k:Int)<(ns.length:Int):=(by omega);have R:Hid (∀q,RelFN ns.length (w.heap.size+1) w w3 (.int .i64 ((k+1:Nat):Int)) ((wr.drewN q).setCell ⟨w.heap.size+1,k,none⟩ (.int .i64 (-1)))):=fun q=>
    ⟨k+1,by omega,rfl,by rw[←fillL_set,←rowI_set];exact(RB.out.drewN q).set_ k _,(KBE.out.drewN q).setCell (Nat.le_refl _) (.inl (by simp)) _,(below_drewN BE.out q).setCell (by simp) _⟩
   clear rb kb bel sz3
   go_wp2_with fail
   exact⟨by simpa[World.drewN]using R.out 0,by simp[RowKit.intOf];omega⟩
  ·obtain rfl:k=ns.length:=by omega
   rw[fillL_all]at rb;have rr:wr.frozen? ⟨w.heap.size+1,root,none⟩=false:=rb.frozen root;have cr:wr.cell? ⟨w.heap.size+1,root,none⟩=some (.int .i64 (-1)):=by rw[rb.cell,rowI_get _ root (by simpa using hr)];simp[List.getD,hr]
   have r1:(root:Int)<(ns.length:Int):=(by omega);obtain⟨w5,hw5⟩:∃w5:World,((wr.setCell ⟨w.heap.size+1,root,none⟩ (.int .i64 0)).alloc (.cells #[.int .i64 root] 3)).alloc (.cells #[.slice (some ⟨wr.heap.size,0,none⟩) 1 1] 26)=w5:=⟨_,rfl⟩;have ST2:Hid (S2 w ns cs root #[Value.slice An ns.length cn,Value.slice Ac cs.length cc] (wr.heap.size+1) wr.heap.size (.slice (some ⟨wr.heap.size,0,none⟩) 1 1) ((List.replicate ns.length (-1)).set root 0) [(root:Int)] w5):=by
    have z:(wr.setCell ⟨w.heap.size+1,root,none⟩ (.int .i64 0)).heap.size=wr.heap.size:=(by simp);have z2:((wr.setCell ⟨w.heap.size+1,root,none⟩ (.int .i64 0)).alloc (.cells #[.int .i64 root] 3)).heap.size=wr.heap.size+1:=(by simp);have q0:=QAt.lit (base:=w.heap.size) (wr.setCell ⟨w.heap.size+1,root,none⟩ (.int .i64 0)) (root:Int) (by rw[z];omega);have n0:=Blk.new ((wr.setCell ⟨w.heap.size+1,root,none⟩ (.int .i64 0)).alloc (.cells #[.int .i64 root] 3)) 26 #[.slice (some ⟨wr.heap.size,0,none⟩) 1 1];rw[z]at q0;rw[z2]at n0;have wo:without ((List.replicate ns.length (-1)).set root 0)+1=ns.length:=(by have:=without_set (l:=List.replicate ns.length (-1)) (v:=root) (x:=0) (by simpa using hr) (by simp[List.getD,hr]) (by omega);rw[this];simp[without,List.countP_replicate]);rw[←hw5];refine⟨?_,?_,?_,n0,q0.alloc _,by omega,by omega,by omega,by omega,by omega,by omega,LvI.start hr,?_,?_,?_⟩
    ·exact(((kb.blk B73.out (by omega) (by simp)).far (p:=⟨w.heap.size+1,root,none⟩) (by simp) _).alloc _).alloc _
    ·rw[←rowI_set];exact((rb.set_ root _).alloc _).alloc _
    ·exact(((kb.blk P3.out (by omega) (by simp)).far (p:=⟨w.heap.size+1,root,none⟩) (by simp) _).alloc _).alloc _
    ·intro x hx;obtain rfl:=List.mem_singleton.1 hx;exact⟨root,rfl,hr,by simp[List.getD,hr]⟩
    ·simp only[List.length_singleton];omega
    ·exact((bel.setCell (by simp) _).alloc (by simp;omega) _).alloc (by simp;omega) _
   have HW5:=Lib.hid hw5;obtain⟨b9,hb9⟩:∃b9,wr.heap.size+1=b9:=⟨_,rfl⟩;clear rb kb bel hw5
   go_wp2_with fail
   rw[HW5.out];clear HW5 c7 rr cr R3 B73 P3 KBE BE RB;rw[hb9]at ST2;clear hb9 SZ3 BW3 sz3 bs
   go_loopw [10] (fun _ wr'=>∃gq qv l q,S2 w ns cs root #[Value.slice An ns.length cn,Value.slice Ac cs.length cc] b9 gq qv l q wr'∧CB ns.length cs us l q) (fun _ wr'=>mesW b9 (w.heap.size+1) wr')
   case atStart=>exact⟨_,_,_,_,ST2.out,CB.start hr⟩
   case round=>
    clear ST2;obtain⟨gq,qv,l,q,hS,hCB⟩:=hrel;have HS:=Lib.hid hS;have HCB:=Lib.hid hCB;clear hCB;have cq:=hS.qbox.one.1;have fq:=hS.qbox.one.2;cases q with
    |nil=>
     obtain⟨off,cap,cur,rfl,_⟩:=hS.que;have c7:=hS.box.one.1;have F:Hid (∃l,LvU ns.length cs us root l∧IntsPost l w (.returned (.slice (some ⟨w.heap.size+1,0,none⟩) ns.length ns.length)) wr):=by
      have hll:=hS.lv.len;refine⟨l,HCB.out.nil hS.lv,_,rfl,?_,hS.below⟩;have hm:l.flatMap cI=l.map (Value.int .i64):=(by rw[List.map_eq_flatMap];rfl);rw[hll,hm];refine⟨by simp[hll],.inr ⟨w.heap.size+1,ns.length,rowI l,rfl,by omega,hS.row,?_⟩⟩;simp[rowI,hll,maxLen]
      all_goals(first|omega|exact List.take_of_length_le (by simp[hll])|(refine⟨by omega,?_⟩;first|omega|exact List.take_of_length_le (by simp[hll])))
     clear hS
     go_wp2_with fail
     go_ret
     exact F.out
    |cons x q=>
     obtain⟨off,cap,hqv,hcap,c0,q1⟩:=hS.que.head;subst hqv;obtain⟨u,rfl,hu,hlu⟩:=hS.qok x (List.mem_cons_self ..);have cp0:wr.cell? ⟨w.heap.size,0,none⟩=some (.slice An ns.length cn):=(by rw[hS.plan.cell];rfl);have cp1:wr.cell? ⟨w.heap.size,1,none⟩=some (.slice Ac cs.length cc):=(by rw[hS.plan.cell];rfl);have hpos:(0:Int)<((q.length+1:Nat):Int):=(by omega);have gl:=hS.que.lt;have g9:=hS.qbox.lt;have gp:=hS.plan.lt;have M0:=mesW_eq hS.row hS.qbox hS.que;have STEP:Hid (∀qv',QAt wr w.heap.size gq qv' q→RelQU us w ns cs root #[Value.slice An ns.length cn,Value.slice Ac cs.length cc] b9 wr.heap.size u (q.length+without l) (.int .i64 0) ((wr.setCell ⟨b9,0,none⟩ qv').alloc (.cells #[.int .i64 u] 3))):=fun qv' q1=>(by have n9:b9≠w.heap.size:=Blk.tne hS.qbox hS.plan (by decide);have n9r:b9≠w.heap.size+1:=Blk.tne hS.qbox hS.row (by decide);have low:=hS.low;rw[List.length_cons]at low;have gr:=hS.row.lt;have z:(wr.setCell ⟨b9,0,none⟩ qv').heap.size=wr.heap.size:=(by simp);have nb:=Blk.new (wr.setCell ⟨b9,0,none⟩ qv') 3 #[.int .i64 (u:Int)];rw[z]at nb;refine⟨0,Nat.zero_le _,rfl,gq,qv',l,q,⟨(hS.box.far (p:=⟨b9,0,none⟩) hS.ne6 _).alloc _,(hS.row.far (p:=⟨b9,0,none⟩) (Ne.symm n9r) _).alloc _,(hS.plan.far (p:=⟨b9,0,none⟩) (Ne.symm n9) _).alloc _,(hS.qbox.set0 _).alloc _,(q1.set_ (p:=⟨b9,0,none⟩) (Ne.symm hS.ne5) _).alloc _,hS.ne1,hS.ne4,hS.ne5,hS.ne6,hS.ne7,hS.ge9,hS.lv,fun y hy=>hS.qok y (List.mem_cons_of_mem _ hy),by omega,?_⟩,nb,by omega,hlu,rfl,by omega,HCB.out.pop⟩;exact(hS.below.setCell hS.ge9 _).alloc (by rw[z];omega) _);clear hS
     go_wp2_with fail
     all_goals(first|rw[if_pos ‹cap=1›]at q1|rw[if_neg ‹¬cap=1›]at q1)
     all_goals
      try rw[show cap-1=0 by omega]at q1
      have ST3:=Lib.hid (STEP.out _ q1);have MH:=Lib.hid M0;clear STEP q1
      first|generalize Value.slice (some ⟨gq,off,none⟩) q.length 0=qv' at * |generalize Value.slice (some ⟨gq,off+1,none⟩) q.length (cap-1)=qv' at *
      clear HS cq fq c0 hpos cp0 cp1 M0 g9 gp gl hcap;obtain⟨wo,rfl⟩:∃wo:World,wo=wr:=⟨_,rfl⟩
      go_loopw [44] (fun i wr'=>RelQU us w ns cs root #[Value.slice An ns.length cn,Value.slice Ac cs.length cc] b9 wo.heap.size u (q.length+without l) i wr') (fun i _=>cs.length-(RowKit.intOf i).toNat)
      case atStart=>exact ST3.out
      case round=>
       clear ST3;obtain⟨k,hk,rfl,gq3,qv3,l3,q3,hS3,hn3,ne3,hl3,hM3,hb3,hci⟩:=hrel;have HCI:=Lib.hid hci;clear hci;have S3:=Lib.hid hS3;have N3:=Lib.hid hn3;have HM3:=Lib.hid hM3;clear hM3;by_cases hkr:k<cs.length
       ·obtain⟨bc,oc,hAc,hbc,hmem,ca,cap',cb,cbp,cd,ccp⟩:=cable_at HP.out.2 k hkr;obtain⟨bu,ou,hAu,hbu,_,cu⟩:=bool_at HU.out k hkr;obtain⟨⟨na0,na1⟩,nb0,nb1⟩:=cab_node HV.out hmem;have nab:=valid_abN HV.out hmem;have HMEM:=Lib.hid hmem;generalize hgx:cs.getD k cb0=x at *;have HGX:=Lib.hid hgx;have HKR:=Lib.hid hkr;clear hgx;obtain⟨xa,xap,xb,xbp,xd,xc⟩:=x;simp only at ca cap' cb cbp cd ccp na0 na1 nb0 nb1 nab;obtain⟨ia,rfl⟩:∃ia:Nat,xa=ia:=⟨xa.toNat,by omega⟩;obtain⟨ib,rfl⟩:∃ib:Nat,xb=ib:=⟨xb.toNat,by omega⟩;have hian:ia<ns.length:=(by omega);have hibn:ib<ns.length:=(by omega);subst hAc;subst hAu;clear hmem;have bl0:=hS3.below;have cu2:wr.cell? ⟨bu,ou+k,none⟩=some (.bool (us.getD k false)):=(bl0.cell (p:=⟨bu,ou+k,none⟩) hbu).trans cu;have ca2:wr.cell? ⟨bc,oc+k*6,none⟩=some (.int .i64 ia):=(bl0.cell (p:=⟨bc,oc+k*6,none⟩) hbc).trans ca;have cap2:wr.cell? ⟨bc,oc+k*6+1,none⟩=some (.int .i64 xap):=(bl0.cell (p:=⟨bc,oc+k*6+1,none⟩) hbc).trans cap';have cb2:wr.cell? ⟨bc,oc+k*6+2,none⟩=some (.int .i64 ib):=(bl0.cell (p:=⟨bc,oc+k*6+2,none⟩) hbc).trans cb;have cbp2:wr.cell? ⟨bc,oc+k*6+3,none⟩=some (.int .i64 xbp):=(bl0.cell (p:=⟨bc,oc+k*6+3,none⟩) hbc).trans cbp;have cd2:wr.cell? ⟨bc,oc+k*6+4,none⟩=some (.int .i64 xd):=(bl0.cell (p:=⟨bc,oc+k*6+4,none⟩) hbc).trans cd;have ccp2:wr.cell? ⟨bc,oc+k*6+5,none⟩=some (.int .i64 xc):=(bl0.cell (p:=⟨bc,oc+k*6+5,none⟩) hbc).trans ccp;have c10:=hn3.one.1;have h10:=hn3.lt;have hbase:w.heap.size≤wr.heap.size:=bl0.size;have hlv:l3.getD u 0≤1000000:=(by have:=hS3.lv.lt hu;omega);have hql:q3.length≤1000000:=(by have:=hS3.low;omega);have hbu2:bu<wr.heap.size:=(by omega);cases hub:us.getD k false with
        |false=>
         rw[hub]at cu2;have R:Hid (RelQU us w ns cs root #[Value.slice An ns.length cn,Value.slice (some ⟨bc,oc,none⟩) cs.length cc] b9 wo.heap.size u (q.length+without l) (.int .i64 ((k+1:Nat):Int)) (wr.alloc (Obj.cells #[.int .i64 ia,.int .i64 xap,.int .i64 ib,.int .i64 xbp,.int .i64 xd,.int .i64 xc] 86))):=⟨k+1,by omega,rfl,gq3,qv3,l3,q3,S3.out.alloc _,N3.out.alloc _,ne3,hl3,HM3.out,hb3,HCI.out.skip (.inl hub)⟩;clear hS3 hn3 cu ca cap' cb cbp cd ccp hub bl0
         go_wp2_with fail
         exact⟨by simpa using R.out,by simp[RowKit.intOf];omega⟩
        |true=>
         rw[hub]at cu2;have HUB:=Lib.hid hub;have nabN:ia≠ib:=fun e=>nab (by rw[e]);by_cases ha:u=ia
         ·subst ha;have hne:¬(ib=u):=fun e=>nabN e.symm;clear nabN nab;have SA:=S3.out.alloc (Obj.cells #[.int .i64 u,.int .i64 xap,.int .i64 ib,.int .i64 xbp,.int .i64 xd,.int .i64 xc] 86);have NB:=Blk.new wr 86 #[.int .i64 u,.int .i64 xap,.int .i64 ib,.int .i64 xbp,.int .i64 xd,.int .i64 xc];have C:=distVisit_any (wr.alloc (Obj.cells #[.int .i64 u,.int .i64 xap,.int .i64 ib,.int .i64 xbp,.int .i64 xd,.int .i64 xc] 86)) _ _ _ _ _ _ _ u ib qv3 l3 q3 (SA.ds (N3.out.alloc _) ne3 hb3) (by simp;omega) hibn hu (by omega) hql ⟨hl3,hlv⟩;have VS:Hid (∀w4,DPost1 (wr.alloc (Obj.cells #[.int .i64 u,.int .i64 xap,.int .i64 ib,.int .i64 xbp,.int .i64 xd,.int .i64 xc] 86)) ns.length w.heap.size (w.heap.size+1+1) (w.heap.size+1) wo.heap.size b9 gq3 (u:Int) (visL1 l3 q3 (u:Int) ib).1 (visL1 l3 q3 (u:Int) ib).2 w4→
           RelQU us w ns cs root #[Value.slice An ns.length cn,Value.slice (some ⟨bc,oc,none⟩) cs.length cc] b9 wo.heap.size u (q.length+without l) (.int .i64 ((k+1:Nat):Int)) w4∧Blk w4 wr.heap.size 86 #[.int .i64 u,.int .i64 xap,.int .i64 ib,.int .i64 xbp,.int .i64 xd,.int .i64 xc]∧Blk w4 wo.heap.size 3 #[.int .i64 u]∧Below w.heap.size w w4):=fun w4 hp=>by
           obtain⟨gq4,qv4,l4,q4,S4,N4,ne4,hl4,hM4,kb4,hb4,hl4',hq4'⟩:=SA.visitU hibn hu hl3 HMEM.out (.inr ⟨rfl,rfl⟩) hp;have hci4:CI ns.length cs us l4 q4 u (k+1):=(by rw[hl4',hq4'];exact HCI.out.visit hS3.lv.len HKR.out hu hibn hl3 HUB.out (by rw[HGX.out];exact .inl ⟨rfl,rfl⟩) (by rw[HGX.out];simp only;omega));exact⟨⟨k+1,by omega,rfl,gq4,qv4,l4,q4,S4,N4,ne4,hl4,hM4.trans HM3.out,hb4,hci4⟩,kb4.blk NB (by simp) (by have e1:=hS3.row.lt;have e2:=hS3.qbox.lt;have e3:=hS3.que.lt;simp;omega),N4,S4.below⟩
          have HC:=Lib.hid C;have CU:=Lib.hid cu;clear hS3 hn3 cu ca cap' cb cbp cd ccp hub bl0 SA NB C
          go_wp2_with fail
          refine HC.out.mono ?_;rintro en w4 ⟨rfl,hp⟩;obtain⟨R4,B4,N4,bel4⟩:=VS.out w4 hp;have R:=Lib.hid R4;have d0:w4.cell? ⟨wr.heap.size,0,none⟩=some (.int .i64 u):=(by rw[B4.cell];rfl);have d2:w4.cell? ⟨wr.heap.size,2,none⟩=some (.int .i64 ib):=(by rw[B4.cell];rfl);have d10:=N4.one.1;have cu4:w4.cell? ⟨bu,ou+k,none⟩=some (.bool true):=(by rw[bel4.cell (p:=⟨bu,ou+k,none⟩) hbu,CU.out,HUB.out]);clear hp R4 B4 N4 bel4 cu2 ca2 cap2 cb2 cbp2 cd2 ccp2 c10
          go_wp2_with fail
          exact⟨by simpa using R.out,by simp[RowKit.intOf];omega⟩
         ·by_cases hb:u=ib
          ·subst hb;have hne:¬(ia=u):=fun e=>ha e.symm;clear nabN nab ha;have SA:=S3.out.alloc (Obj.cells #[.int .i64 ia,.int .i64 xap,.int .i64 u,.int .i64 xbp,.int .i64 xd,.int .i64 xc] 86);have NB:=Blk.new wr 86 #[.int .i64 ia,.int .i64 xap,.int .i64 u,.int .i64 xbp,.int .i64 xd,.int .i64 xc];have C:=distVisit_any (wr.alloc (Obj.cells #[.int .i64 ia,.int .i64 xap,.int .i64 u,.int .i64 xbp,.int .i64 xd,.int .i64 xc] 86)) _ _ _ _ _ _ _ u ia qv3 l3 q3 (SA.ds (N3.out.alloc _) ne3 hb3) (by simp;omega) hian hu (by omega) hql ⟨hl3,hlv⟩;have VS:Hid (∀w4,DPost1 (wr.alloc (Obj.cells #[.int .i64 ia,.int .i64 xap,.int .i64 u,.int .i64 xbp,.int .i64 xd,.int .i64 xc] 86)) ns.length w.heap.size (w.heap.size+1+1) (w.heap.size+1) wo.heap.size b9 gq3 (u:Int) (visL1 l3 q3 (u:Int) ia).1 (visL1 l3 q3 (u:Int) ia).2 w4→
            RelQU us w ns cs root #[Value.slice An ns.length cn,Value.slice (some ⟨bc,oc,none⟩) cs.length cc] b9 wo.heap.size u (q.length+without l) (.int .i64 ((k+1:Nat):Int)) w4∧Blk w4 wr.heap.size 86 #[.int .i64 ia,.int .i64 xap,.int .i64 u,.int .i64 xbp,.int .i64 xd,.int .i64 xc]∧Blk w4 wo.heap.size 3 #[.int .i64 u]∧Below w.heap.size w w4):=fun w4 hp=>by
            obtain⟨gq4,qv4,l4,q4,S4,N4,ne4,hl4,hM4,kb4,hb4,hl4',hq4'⟩:=SA.visitU hian hu hl3 HMEM.out (.inl ⟨rfl,rfl⟩) hp;have hci4:CI ns.length cs us l4 q4 u (k+1):=(by rw[hl4',hq4'];exact HCI.out.visit hS3.lv.len HKR.out hu hian hl3 HUB.out (by rw[HGX.out];exact .inr ⟨rfl,rfl⟩) (by rw[HGX.out];simp only;omega));exact⟨⟨k+1,by omega,rfl,gq4,qv4,l4,q4,S4,N4,ne4,hl4,hM4.trans HM3.out,hb4,hci4⟩,kb4.blk NB (by simp) (by have e1:=hS3.row.lt;have e2:=hS3.qbox.lt;have e3:=hS3.que.lt;simp;omega),N4,S4.below⟩
           have HC:=Lib.hid C;have CU:=Lib.hid cu;clear hS3 hn3 cu ca cap' cb cbp cd ccp hub bl0 SA NB C
           go_wp2_with fail
           refine HC.out.mono ?_;rintro en w4 ⟨rfl,hp⟩;obtain⟨R4,B4,N4,bel4⟩:=VS.out w4 hp;have R:=Lib.hid R4;have d0:w4.cell? ⟨wr.heap.size,0,none⟩=some (.int .i64 ia):=(by rw[B4.cell];rfl);have d2:w4.cell? ⟨wr.heap.size,2,none⟩=some (.int .i64 u):=(by rw[B4.cell];rfl);have d10:=N4.one.1;have cu4:w4.cell? ⟨bu,ou+k,none⟩=some (.bool true):=(by rw[bel4.cell (p:=⟨bu,ou+k,none⟩) hbu,CU.out,HUB.out]);clear hp R4 B4 N4 bel4 cu2 ca2 cap2 cb2 cbp2 cd2 ccp2 c10
           go_wp2_with fail
           exact⟨by simpa using R.out,by simp[RowKit.intOf];omega⟩
          ·have hne:¬(ia=u):=fun e=>ha e.symm;have hne2:¬(ib=u):=fun e=>hb e.symm;have R:Hid (RelQU us w ns cs root #[Value.slice An ns.length cn,Value.slice (some ⟨bc,oc,none⟩) cs.length cc] b9 wo.heap.size u (q.length+without l) (.int .i64 ((k+1:Nat):Int)) (wr.alloc (Obj.cells #[.int .i64 ia,.int .i64 xap,.int .i64 ib,.int .i64 xbp,.int .i64 xd,.int .i64 xc] 86))):=⟨k+1,by omega,rfl,gq3,qv3,l3,q3,S3.out.alloc _,N3.out.alloc _,ne3,hl3,HM3.out,hb3,HCI.out.skip (.inr fun v ht=>by rw[HGX.out]at ht;unfold touch at ht;simp only at ht;omega)⟩;clear hS3 hn3 cu ca cap' cb cbp cd ccp hub bl0 nabN nab ha hb
           go_wp2_with fail
           exact⟨by simpa using R.out,by simp[RowKit.intOf];omega⟩
       ·obtain rfl:k=cs.length:=by omega
        have FIN:Hid (mesW b9 (w.heap.size+1) wr=q.length+without l):=(by rw[Hid,mesW_eq hS3.row hS3.qbox hS3.que,HM3.out]);clear hn3 hS3
        go_wp2_with fail
        exact⟨⟨_,_,_,_,S3.out,HCI.out.done⟩,by rw[FIN.out,MH.out,List.length_cons];omega⟩
theorem gdist_anyU(p:Pl)(us:List Bool)(root:Int)(An Ac Au:Option Addr)(cn cc cu:Nat)(w:World)(hl:p.ns.length≤1000000)(hl2:p.cs.length≤1000000)(hm:us.length≤1000000)(hwf:WfP p)(h:IsPlan w An Ac p)(h2:IsRec 1 cB false w Au us.length us)(hok:OfOk p us root):Calls Tryz.prog 32 #[.agg #[.slice An p.ns.length cn,.slice Ac p.cs.length cc],.int .i64 root,.slice Au us.length cu] w fun e w'=>∃l,LvU p.ns.length p.cs us root.toNat l∧IntsPost l w e w':=by
 obtain⟨ns,cs⟩:=p;simp only at hl hl2⊢;obtain⟨hv,hul,hr0,hr1⟩:=hok;simp only at hul hr1;obtain⟨r,rfl⟩:∃r:Nat,root=r:=⟨root.toNat,by omega⟩;rw[Int.toNat_natCast];have hrn:r<ns.length:=by omega
 obtain⟨w1,hw1⟩:∃w1:World,w.alloc (.cells #[.slice An ns.length cn,.slice Ac cs.length cc] 25)=w1:=⟨_,rfl⟩;have s0:w1.cell? ⟨w.heap.size,0,none⟩=some (.slice An ns.length cn):=by rw[←hw1];simp[go_sem]
 have s1:w1.cell? ⟨w.heap.size,1,none⟩=some (.slice Ac cs.length cc):=by rw[←hw1];simp[go_sem]
 have sz1:w.heap.size<w1.heap.size:=by rw[←hw1];simp
 have BW:Hid (Below w.heap.size w w1):=by rw[←hw1];exact(Below.refl _ _).alloc (Nat.le_refl _) _
 have H1:=Lib.hid (h.below (Nat.le_refl _) BW.out);have H2:=Lib.hid (h2.below (Nat.le_refl _) BW.out);have HC:=Lib.hid (usable_any ⟨ns,cs⟩ An Ac Au cn cc cu us.length w1 hl hl2 hm hwf H1.out);have HT:Hid (usableB ⟨ns,cs⟩ us.length=true):=by rw[Hid];unfold usableB;rw[decide_eq_true hv,decide_eq_true hul];rfl
 have HV:=Lib.hid hv;have HUL:=Lib.hid hul;have HW1:=Lib.hid hw1;clear hw1 h h2 hwf hv hul
 go_enter Tryz.func32,Tryz.ntmps32
 go_wp2_with fail
 rw[HW1.out];refine HC.out.mono ?_;rintro e w2 ⟨rfl,bel⟩;rw[HT.out];have c0:=(bel.cell (p:=⟨w.heap.size,0,none⟩) sz1).trans s0;have c1:=(bel.cell (p:=⟨w.heap.size,1,none⟩) sz1).trans s1;have BF:Hid (Below w.heap.size w w2):=BW.out.trans (bel.mono BW.out.size);have H12:=Lib.hid (H1.out.below (Nat.le_refl _) bel);have H22:=Lib.hid (H2.out.below (Nat.le_refl _) bel);have HD:Hid (Calls Tryz.prog 79 #[.agg #[.slice An ns.length cn,.slice Ac cs.length cc],.int .i64 r,.slice Au us.length cu] w2 (fun e w'=>∃l,LvU ns.length cs us r l∧IntsPost l w2 e w')):=by have h22:=H22.out;rw[HUL.out]at h22;rw[Hid,HUL.out];exact dist_anyU ns cs us r An Ac Au cn cc cu w2 HV.out hrn H12.out h22
 clear bel HC s0 s1 HW1
 go_wp2_with fail
 refine HD.out.mono ?_;rintro e w3 ⟨l,hl,v,rfl,own,bel3⟩;have F:Hid (∃l,LvU ns.length cs us r l∧IntsPost l w (.returned v) w3):=⟨l,hl,v,rfl,own_mono own BF.out.size,BF.out.trans (bel3.mono BF.out.size)⟩;clear own bel3 hl
 go_wp2_with fail
 go_ret
 exact F.out
def OfPostU(p:Pl)(us:List Bool)(root:Int)(w:World)(e:Ending)(w':World):Prop:=
 Below w.heap.size w w'∧((¬OfOk p us root∧∃c:Int,c≠0∧e=.returned (.tuple #[.agg #[.slice none 0 0],.int .i64 c]))∨
  (OfOk p us root∧∃l v,LvU p.ns.length p.cs us root.toNat l∧e=.returned (.tuple #[.agg #[v],.int .i64 0])∧w'.ownsRow w.heap.size 3 1 v l.length (l.flatMap cI)))
theorem of_anyUU(p:Pl)(us:List Bool)(root:Int)(An Ac Au:Option Addr)(cn cc cu:Nat)(w:World)(hl:p.ns.length≤1000000)(hl2:p.cs.length≤1000000)(hwf:WfP p)(h:IsPlan w An Ac p)(h2:IsRec 1 cB false w Au us.length us):Calls Tryz.prog 88 #[.agg #[.slice An p.ns.length cn,.slice Ac p.cs.length cc],.slice Au us.length cu,.int .i64 root] w (OfPostU p us root w):=by
 obtain⟨ns,cs⟩:=p;simp only at hl hl2⊢;obtain⟨w1,hw1⟩:∃w1:World,(w.alloc (.cells #[.slice An ns.length cn,.slice Ac cs.length cc] 25)).alloc (.cells #[.slice none 0 0] 169)=w1:=⟨_,rfl⟩;have s0:w1.cell? ⟨w.heap.size,0,none⟩=some (.slice An ns.length cn):=by rw[←hw1];simp[go_sem]
 have s1:w1.cell? ⟨w.heap.size,1,none⟩=some (.slice Ac cs.length cc):=by rw[←hw1];simp[go_sem]
 have OB1:Hid (Blk w1 (w.heap.size+1) 169 #[.slice none 0 0]):=by rw[←hw1];have:=Blk.new (w.alloc (.cells #[.slice An ns.length cn,.slice Ac cs.length cc] 25)) 169 #[.slice none 0 0];rw[Hid];simpa using this
 have sz1:w.heap.size+1<w1.heap.size:=by rw[←hw1];simp
 have BW:Hid (Below w.heap.size w w1):=by rw[←hw1];exact((Below.refl _ _).alloc (Nat.le_refl _) _).alloc (by simp) _
 have H1:=Lib.hid (h.below (Nat.le_refl _) BW.out);have H2:=Lib.hid (h2.below (Nat.le_refl _) BW.out);have HC:=Lib.hid (gvalid_any ⟨ns,cs⟩ An Ac cn cc w1 hl hl2 hwf H1.out);have HW:=Lib.hid hwf;have HW1:=Lib.hid hw1;clear hw1 h h2 hwf
 go_enter Tryz.func88,Tryz.ntmps88
 go_wp2_with fail
 rw[HW1.out];refine HC.out.mono ?_;rintro e w2 ⟨rfl,bel⟩;have c0:=(bel.cell (p:=⟨w.heap.size,0,none⟩) (by show w.heap.size<_;omega)).trans s0;have c1:=(bel.cell (p:=⟨w.heap.size,1,none⟩) (by show w.heap.size<_;omega)).trans s1;have OB2:=Lib.hid (OB1.out.below bel OB1.out.lt);have o1:=OB2.out.one.1;have o2:=OB2.out.one.2;have BF:Hid (Below w.heap.size w w2):=BW.out.trans (bel.mono BW.out.size);have H12:=Lib.hid (H1.out.below (Nat.le_refl _) bel);have H22:=Lib.hid (H2.out.below (Nat.le_refl _) bel);clear bel HC s0 s1 HW1;have ERR:Hid (¬OfOk ⟨ns,cs⟩ us root→∀c:Int,c≠0→OfPostU ⟨ns,cs⟩ us root w (.returned (.tuple #[.agg #[.slice none 0 0],.int .i64 c])) (w2.setCell ⟨w.heap.size+1,0,none⟩ (.slice none 0 0))):=fun hn c hc=>
  ⟨BF.out.setCell (by simp) _,.inl ⟨hn,c,hc,rfl⟩⟩
 cases hv:validP ⟨ns,cs⟩==0 with
 |false=>
  have F:=Lib.hid (ERR.out (fun h=>by have:=h.1;rw[this]at hv;cases hv) 1 (by decide));have hv2:(validP ⟨ns,cs⟩!=0)=true:=by simpa using hv
  generalize validP ⟨ns,cs⟩=z at *
  go_wp2_with fail
  refine bodyPost_ret (v:=.tuple #[.agg #[.slice none 0 0],.int .i64 1]) (by simp[results,Tryz.results88,go_sem,o1]) rfl ?_;exact F.out
 |true=>
  have hv0:validP ⟨ns,cs⟩=0:=by simpa using hv
  rw[hv0];have HV:=Lib.hid hv0;clear hv hv0;by_cases hm2:us.length=cs.length
  ·by_cases hr:root<0∨(ns.length:Int)≤root
   ·have F:=Lib.hid (ERR.out (fun h=>by have h1:=h.2.2.1;have h2:=h.2.2.2;simp only at h2;omega) 2 (by decide));have hr':root<0∨(0≤root∧(ns.length:Int)≤root):=by omega
    clear hr;have HM2:=Lib.hid hm2;have hm3:((us.length:Int)!=(cs.length:Int))=false:=by simp[hm2]
    clear hm2;rcases hr' with h1|⟨h1,h2⟩
    all_goals
     go_wp2_with fail
     refine bodyPost_ret (v:=.tuple #[.agg #[.slice none 0 0],.int .i64 2]) (by simp[results,Tryz.results88,go_sem,o1]) rfl ?_;exact F.out
   ·have hok:OfOk ⟨ns,cs⟩ us root:=⟨HV.out,hm2,by omega,by show root<(ns.length:Int);omega⟩;have r0:0≤root:=by omega
    have r1:root<(ns.length:Int):=(by omega);have HOK:=Lib.hid hok;have HD:=Lib.hid (gdist_anyU ⟨ns,cs⟩ us root An Ac Au cn cc cu w2 hl hl2 (by rw[hm2];exact hl2) HW.out H12.out H22.out hok);have hm3:((us.length:Int)!=(cs.length:Int))=false:=(by simp[hm2]);clear hm2 hok hr
    go_wp2_with fail
    refine HD.out.mono ?_;rintro e w3 ⟨l,hl,v,rfl,own,bel3⟩;obtain⟨av,capv,hve,_⟩:=rec_of_own (d:=(0:Int)) cI_length (by decide) own;subst hve;have OB3:=Lib.hid (OB2.out.below bel3 OB2.out.lt);have p1:=OB3.out.one.1;have p2:=OB3.out.one.2;have F:Hid (OfPostU ⟨ns,cs⟩ us root w (.returned (.tuple #[.agg #[Value.slice av l.length capv],.int .i64 0])) (w3.setCell ⟨w.heap.size+1,0,none⟩ (.slice av l.length capv))):=(by refine⟨(BF.out.trans (bel3.mono BF.out.size)).setCell (by simp) _,.inr ⟨HOK.out,l,_,hl,rfl,?_⟩⟩;exact own_keptJ (own_mono own BF.out.size) (only_setCell (only_refl w3 (some (w.heap.size+1))) (.inl rfl) _) (fun q e=>by have h1:=(own.lt q e).1;have h2:=OB2.out.lt;omega));clear own bel3 hl
    go_wp2_with fail
    refine bodyPost_ret (v:=.tuple #[.agg #[Value.slice av l.length capv],.int .i64 0]) (by simp[results,Tryz.results88,go_sem,p1]) rfl ?_;exact F.out
  ·have F:=Lib.hid (ERR.out (fun h=>hm2 h.2.1) 1 (by decide))
   go_wp2_with fail
   refine bodyPost_ret (v:=.tuple #[.agg #[.slice none 0 0],.int .i64 1]) (by simp[results,Tryz.results88,go_sem,o1]) rfl ?_;exact F.out
end Go.Proofs.YtnjjkgjdhljfnaaGreat
