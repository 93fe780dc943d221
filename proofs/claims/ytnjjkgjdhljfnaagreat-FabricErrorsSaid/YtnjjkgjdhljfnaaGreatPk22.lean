/- Part 22 of the proof of fabricErrors.proved: FbW1. Several texts in one, blanks struck, what is not used left out. -/
import Derived.Laws.CopyOwn
import Derived.Test.YtnjjkgjdhljfnaaGreatPk11
set_option maxRecDepth 100000
set_option maxHeartbeats 16000000
set_option linter.unusedVariables false
set_option linter.unusedSimpArgs false
namespace Go.Proofs.YtnjjkgjdhljfnaaGreat
open Go.RowKit Go.Maps
attribute [local go_sem ↓] Go.wp_at_zero Go.wp_at_succ
theorem own_emptyW(w:World)(e size:Nat):(w.alloc (.cells #[] e)).ownsRow w.heap.size e size (.slice (some ⟨w.heap.size,0,none⟩) 0 0) 0 []:=
 ⟨by simp,.inr ⟨w.heap.size,0,#[],rfl,Nat.le_refl _,heap_alloc_new w _,Nat.le_refl _,by unfold maxLen;omega,by simp,by simp⟩⟩
def RowPostW{α:Type}(e m:Nat)(c:α→List Value)(l:List α)(w:World)(r:Ending)(w':World):Prop:=∃v,r=.returned v∧w'.ownsRow w.heap.size e m v l.length (l.flatMap c)∧Below w.heap.size w w'
theorem infoN:(Tryz.prog.info? 83).map (fun i=>(i.zero,i.size,i.bytes))=some (some (.agg #[.string ByteArray.empty,.bool false,.int .i64 0]),3,32):=by kernel_rfl
theorem oneN(l:List Nd):∀u∈l.flatMap cN,u.oneCell'=true:=by intro u hu;obtain⟨x,_,hx⟩:=List.mem_flatMap.1 hu;simp only[cN,List.mem_cons,List.not_mem_nil,or_false]at hx;rcases hx with rfl|rfl|rfl<;>rfl
theorem cloneN_any(a:Option Addr)(cp:Nat)(l:List Nd)(w:World)(hl:l.length≤1000000)(h:IsRec 3 cN nd0 w a l.length l):Calls Tryz.prog 36 #[.slice a l.length cp] w (RowPostW 83 3 cN l w):=by
 have hnil:∀(w:World) (a:Option Addr) (n c n' c':Nat),(binOp .eql 22 (.slice a n c) (.slice none n' c')).run Tryz.prog w=.ok (.bool a.isNone) w:=fun w a n c n' c'=>Lib.run_eql_slice_nil w 22 83 a n c n' c' Tryz.underlying22;cases a with
 |none=>
  obtain rfl:l=[]:=by
   rcases Nat.eq_zero_or_pos l.length with q|q
   ·exact List.eq_nil_of_length_eq_zero q
   ·obtain⟨b,off,e,_⟩:=h.2 q;cases e
  have F:Hid (RowPostW 83 3 cN [] w (.returned (.slice none 0 0)) w):=⟨_,rfl,World.ownsRow_nil _ _ _ _,Below.refl _ _⟩;clear h
  go_enter Tryz.func36,Tryz.ntmps36
  go_wp2_with fail
  go_ret
  exact F.out
 |some ad=>
  have RA:=Lib.hid ((reads_of_rec (c:=cN) (m:=3) (fun _=>rfl) h).alloc (Nat.le_refl _) (.cells #[] 83));have fo:=Lib.hid (oneN l);clear h;obtain⟨i0,hi0,hz0,hz1,hz2⟩:=info_parts infoN
  go_enter Tryz.func36,Tryz.ntmps36
  go_wp2_with (at_builtin;refine wpList_append_any _ rfl (.tmp 5) (.tmp 6) 22 rfl w.heap.size 83 i0 _ 3 32 Tryz.underlying22 hi0 hz0 hz1 hz2 rfl (by decide) _ 0 [] rfl (own_emptyW w 83 3) w.heap.size _ l.length cp (l.flatMap cN) rfl RA.out fo.out ?c3 ?c4 ?c5 ?_)
  case c3=>unfold maxLen;omega
  case c4=>omega
  case c5=>simp
  intro v1 w1 own1 gr1 _
  try simp only[Nat.zero_add,List.nil_append]at own1
  have bel:Hid (Below w.heap.size w w1):=((Below.refl _ _).alloc (Nat.le_refl _) _).grown gr1 (by simp) (by intro g e;simp[Value.ownBlock]at e;omega);have F:Hid (RowPostW 83 3 cN l w (.returned v1) w1):=⟨v1,rfl,own1,bel.out⟩;clear own1 gr1
  go_wp2_with fail
  go_ret
  exact F.out
theorem infoC:(Tryz.prog.info? 86).map (fun i=>(i.zero,i.size,i.bytes))=some (some (.agg #[.int .i64 0,.int .i64 0,.int .i64 0,.int .i64 0,.int .i64 0,.int .i64 0]),6,48):=by kernel_rfl
theorem oneC(l:List Cb):∀u∈l.flatMap cC,u.oneCell'=true:=by intro u hu;obtain⟨x,_,hx⟩:=List.mem_flatMap.1 hu;simp only[cC,List.mem_cons,List.not_mem_nil,or_false]at hx;rcases hx with rfl|rfl|rfl|rfl|rfl|rfl<;>rfl
theorem cloneC_any(a:Option Addr)(cp:Nat)(l:List Cb)(w:World)(hl:l.length≤1000000)(h:IsRec 6 cC cb0 w a l.length l):Calls Tryz.prog 37 #[.slice a l.length cp] w (RowPostW 86 6 cC l w):=by
 have hnil:∀(w:World) (a:Option Addr) (n c n' c':Nat),(binOp .eql 23 (.slice a n c) (.slice none n' c')).run Tryz.prog w=.ok (.bool a.isNone) w:=fun w a n c n' c'=>Lib.run_eql_slice_nil w 23 86 a n c n' c' Tryz.underlying23;cases a with
 |none=>
  obtain rfl:l=[]:=by
   rcases Nat.eq_zero_or_pos l.length with q|q
   ·exact List.eq_nil_of_length_eq_zero q
   ·obtain⟨b,off,e,_⟩:=h.2 q;cases e
  have F:Hid (RowPostW 86 6 cC [] w (.returned (.slice none 0 0)) w):=⟨_,rfl,World.ownsRow_nil _ _ _ _,Below.refl _ _⟩;clear h
  go_enter Tryz.func37,Tryz.ntmps37
  go_wp2_with fail
  go_ret
  exact F.out
 |some ad=>
  have RA:=Lib.hid ((reads_of_rec (c:=cC) (m:=6) (fun _=>rfl) h).alloc (Nat.le_refl _) (.cells #[] 86));have fo:=Lib.hid (oneC l);clear h;obtain⟨i0,hi0,hz0,hz1,hz2⟩:=info_parts infoC
  go_enter Tryz.func37,Tryz.ntmps37
  go_wp2_with (at_builtin;refine wpList_append_any _ rfl (.tmp 5) (.tmp 6) 23 rfl w.heap.size 86 i0 _ 6 48 Tryz.underlying23 hi0 hz0 hz1 hz2 rfl (by decide) _ 0 [] rfl (own_emptyW w 86 6) w.heap.size _ l.length cp (l.flatMap cC) rfl RA.out fo.out ?c3 ?c4 ?c5 ?_)
  case c3=>unfold maxLen;omega
  case c4=>omega
  case c5=>simp
  intro v1 w1 own1 gr1 _
  try simp only[Nat.zero_add,List.nil_append]at own1
  have bel:Hid (Below w.heap.size w w1):=((Below.refl _ _).alloc (Nat.le_refl _) _).grown gr1 (by simp) (by intro g e;simp[Value.ownBlock]at e;omega);have F:Hid (RowPostW 86 6 cC l w (.returned v1) w1):=⟨v1,rfl,own1,bel.out⟩;clear own1 gr1
  go_wp2_with fail
  go_ret
  exact F.out
theorem mul64_small(n:Nat)(w:World)(h0:1≤n)(h1:n≤8):Calls Tryz.prog 113 #[.int .u64 1,.int .u64 n] w fun e w'=>e=.returned (.tuple #[.int .u64 0,.int .u64 n])∧w=w':=by
 obtain rfl|rfl|rfl|rfl|rfl|rfl|rfl|rfl:n=1∨n=2∨n=3∨n=4∨n=5∨n=6∨n=7∨n=8:=by omega
 all_goals
  go_enter Tryz.func113,Tryz.ntmps113
  go_wp2_with fail
  go_ret2
  exact⟨rfl,rfl⟩
theorem mul_small(n:Nat)(w:World)(h0:1≤n)(h1:n≤8):Calls Tryz.prog 87 #[.int .u64 1,.int .u64 n] w fun e w'=>e=.returned (.tuple #[.int .u64 0,.int .u64 n])∧w=w':=by
 have M:=Lib.hid (mul64_small n w h0 h1)
 go_enter Tryz.func87,Tryz.ntmps87
 go_wp2_with (first|(go_at_call 113;refine M.out.mono ?_;rintro e w' ⟨rfl,rfl⟩))
 go_ret2
 exact⟨rfl,rfl⟩
theorem infoIntW:(Tryz.prog.info? 3).map (fun i=>(i.zero,i.size,i.bytes))=some (some (.int .i64 0),1,8):=by kernel_rfl
theorem sizeIntW:(Tryz.prog.info? 3).map (·.size)=some 1:=by kernel_rfl
def rpL(x:Int)(n m:Nat):List Value:=List.replicate m (.int .i64 x)++List.replicate (n-m) (.int .i64 0)
def RelRp(x:Int)(n g:Nat)(w0:World)(i:Value)(wr:World):Prop:=∃m:Nat,1≤m∧m≤n∧i=.int .i64 m∧wr.heap[g]?=some (.cells (rpL x n m).toArray 3 (0,0))∧Below g w0 wr
theorem rp_splice(x:Int)(n m k:Nat)(h:m+k≤n):splice (rpL x n m) m (List.replicate k (.int .i64 x))=rpL x n (m+k):=by unfold splice rpL;rw[List.take_left' (by simp),List.length_replicate,←List.append_assoc,List.replicate_append_replicate];congr 1;rw[List.drop_append,List.drop_of_length_le (by simp),List.nil_append,List.length_replicate,List.drop_replicate];congr 1;omega
theorem madeOne(v:Value)(n:Nat):madeCells #[v] n=(List.replicate n v).toArray:=by unfold madeCells;apply Array.ext';simp[Nat.mod_one];rw[List.map_const',List.length_range]
theorem rep_flat(x:Int)(n:Nat):(List.replicate n x).flatMap cI=List.replicate n (.int .i64 x):=by
 induction n with
 |zero=>rfl
 |succ n ih=>rw[List.replicate_succ,List.flatMap_cons,ih,List.replicate_succ];rfl
theorem rp_copy(x:Int)(n m g:Nat)(w wr:World)(h0:1≤m)(h1:m<n)(hg:wr.heap[g]?=some (.cells (rpL x n m).toArray 3 (0,0)))(hb:Below g w wr):∃w3,(Builtin.copy_ #[26,26] 3 #[.slice (some ⟨g,m,none⟩) (n-m) (n-m),.slice (some ⟨g,0,none⟩) m n]).run Tryz.prog wr.drew=.ok (.int .i64 ((min m (n-m):Nat):Int)) w3∧w3.heap[g]?=some (.cells (rpL x n (m+min m (n-m))).toArray 3 (0,0))∧Below g w w3:=by
 have hg':wr.drew.heap[g]?=some (.cells (rpL x n m).toArray 3 (0,0)):=hg;have hB:Blk wr.drew g 3 (rpL x n m).toArray:=hg';have r:=run_copy_row (P:=Tryz.prog) wr.drew 26 26 3 3 g m (n-m) (n-m) ⟨g,0,none⟩ m n (rpL x n m).toArray 3 (List.replicate (min m (n-m)) (.int .i64 x)) Tryz.underlying26 sizeIntW hg' (by rw[List.length_replicate]) (fun j v hj=>by
  have hj':j<min m (n-m):=by
   rcases Nat.lt_or_ge j (min m (n-m))with q|q
   ·exact q
   ·rw[List.getElem?_eq_none (by rw[List.length_replicate];exact q)]at hj;cases hj
  have e:(⟨g,0,none⟩:Addr).add j=⟨g,j,none⟩:=by unfold Addr.add;split<;>simp_all
  rw[e,hB.cell,←hj];rw[List.getElem?_replicate,if_pos hj'];rw[List.getElem?_toArray];unfold rpL;rw[List.getElem?_append_left (by rw[List.length_replicate];omega),List.getElem?_replicate,if_pos (by omega)]) (by simp[rpL];omega) (fun v hv=>by rw[List.eq_of_mem_replicate hv];rfl)
 refine⟨_,?_,setRow_heap wr.drew g _ _ 3 _ hg',below_setRow hb.drew (Nat.le_refl _) _⟩;rw[r];have e:=rp_splice x n m (min m (n-m)) (by omega);unfold splice at e;rw[←e];simp[goInt]
theorem repeat_any(x:Int)(n gx cp:Nat)(w:World)(h0:1≤n)(h1:n≤8)(hx:w.cell? ⟨gx,0,none⟩=some (.int .i64 x)):Calls Tryz.prog 41 #[.slice (some ⟨gx,0,none⟩) 1 cp,.int .i64 n] w (RowPostW 3 1 cI (List.replicate n x) w):=by
 have M:=Lib.hid (mul_small n w h0 h1);have LX:=World.block_lt_of_cell? _ _ hx;obtain⟨j0,hj0,hy0,hy1,hy2⟩:=info_parts infoIntW
 go_enter Tryz.func41,Tryz.ntmps41
 go_wp2_with (first
  |(go_at_call 87;refine M.out.mono ?_;rintro e w' ⟨rfl,rfl⟩)
  |(at_make;refine wpList_make_rec _ rfl _ _ 26 rfl 3 j0 _ 1 Tryz.underlying26 hj0 hy0 hy1 .i64 .i64 _ _ n rfl rfl (by rfl) (by rfl) (by rw[hy2];omega) (by unfold maxLen;omega) ?_)
  |(with_reducible refine wpList_copy_splice rfl (.tmp 31) (.tmp 32) 26 26 rfl 3 Tryz.underlying26 sizeIntW _ _ _ _ _ _ rfl rfl w.heap.size 0 (rpL x n 0) 3 ?c1 [.int .i64 x] ?c2 ?c3 ?c4 ?c5 w.heap.size w ?c6 ?c7 ?_))
 case c1=>rw[heap_alloc_new,madeOne,rpL];simp
 case c2=>show 1=min 1 n;omega
 case c3=>
  intro j v hj;obtain rfl:j=0:=by
   rcases Nat.eq_zero_or_pos j with q|q
   ·exact q
   ·rw[List.getElem?_eq_none (by simp;omega)]at hj;cases hj
  simp at hj;subst hj;exact hx
 case c4=>simp[rpL];omega
 case c5=>intro v hv;simp at hv;subst hv;rfl
 case c6=>exact(Below.refl _ _).alloc (Nat.le_refl _) _
 case c7=>exact Nat.le_refl _
 intro w2 hg2 hb2;have ST:Hid (RelRp x n w.heap.size w (.int .i64 1) w2):=by refine⟨1,Nat.le_refl _,h0,rfl,?_,hb2⟩;have:=hg2.out;have e:=rp_splice x n 0 1 (by omega);rw[show List.replicate 1 (Value.int .i64 x)=[.int .i64 x]from rfl]at e;rw[e]at this;exact this
 obtain⟨g,hg⟩:∃g,w.heap.size=g:=⟨_,rfl⟩;have HG:=Lib.hid hg;rw[hg]at ST⊢;clear hg2 hb2 hg
 go_wp2_with fail
 go_loopw [8,34,35,36,37,38,39,40,41,42,43,44,45,46] (fun i _ _ _ _ _ _ _ _ _ _ _ _ _ wr=>RelRp x n g w i wr) (fun i _ _ _ _ _ _ _ _ _ _ _ _ _ _=>n-(RowKit.intOf i).toNat)
 case atStart=>exact ST.out
 case round=>
  clear ST;obtain⟨m,hm0,hm1,rfl,hrow,hbel⟩:=hrel;have ROW:=Lib.hid hrow;have BEL:=Lib.hid hbel;by_cases hmn:m<n
  ·have i0:(m:Int)<(n:Int):=by omega
   have i1:(0:Int)≤(m:Int):=(by omega);obtain⟨w3,hrun,hg3,hb3⟩:=rp_copy x n m g w wr hm0 (by omega) hrow hbel;have NXT:Hid (RelRp x n g w (.int .i64 ((m+min m (n-m):Nat):Int)) w3):=⟨_,by omega,by omega,rfl,hg3,hb3⟩;have hq:((m:Int)+((min m (n-m):Nat):Int))=((m+min m (n-m):Nat):Int):=(by omega);have hw:wrap64 ((m:Int)+((min m (n-m):Nat):Int))=((m+min m (n-m):Nat):Int):=(by unfold wrap64;omega);obtain⟨k,hk⟩:∃k,min m (n-m)=k:=⟨_,rfl⟩;have k0:0<k:=(by omega);rw[hk]at hrun NXT hq hw;clear hrow hbel hg3 hb3 hk hq
   go_wp2_with fail
   go_region
   go_wp2_with fail
   rw[hw];exact⟨NXT.out,by simp[RowKit.intOf];omega⟩
  ·obtain rfl:n=m:=by omega
   clear hrow hbel;have F:Hid (RowPostW 3 1 cI (List.replicate n x) w (.returned (.slice (some ⟨g,0,none⟩) n n)) wr):=by refine⟨.slice (some ⟨g,0,none⟩) n n,rfl,?_,by rw[HG.out];exact BEL.out⟩;have e1:=rep_flat x n;have e2:rpL x n n=List.replicate n (.int .i64 x):=(by unfold rpL;simp);have R:=ROW.out;rw[e2]at R;rw[e1,List.length_replicate];refine⟨by simp,.inr ⟨g,n,_,rfl,by have:=HG.out;omega,R,Nat.le_refl _,by unfold maxLen;omega,by simp,by simp⟩⟩
   go_wp2_with fail
   go_ret
   exact F.out
end Go.Proofs.YtnjjkgjdhljfnaaGreat
