/- Part 22. -/
import Derived.Laws.CopyOwn
import Derived.Test.YtnjjkgjdhljfnaaGreatPk11
open Go.Proofs.Tryz
open Go renaming Calls->di,World->aG,info_parts->eQ,maxLen->fJ
open Go.Ending renaming returned->ax
open Go.IntKind renaming i64->ag
open Go.Lib renaming hid->aA,run_eql_slice_nil->sJ
open Go.Obj renaming cells->af
open Go.Proofs.Tryz renaming prog->aH
open Go.RowKit renaming Below->aO,intOf->aK
open Go.RowKit.Below renaming refl->aS
open Go.Value renaming int->ah,ownBlock->eO,slice->ay
open Go.World renaming ownsRow_nil->dR
open List renaming eq_nil_of_length_eq_zero->gX,getElem?_eq_none->gG,getElem?_replicate->gD,length_replicate->ig,mem_cons->dM,mem_flatMap->gZ,nil_append->kK,not_mem_nil->dZ,replicate->aQ,replicate_succ->oI
open Nat renaming eq_zero_or_pos->nD,le_refl->aC,zero_add->rG
open Option renaming none->aj,some->az
set_option maxRecDepth 100000
set_option maxHeartbeats 16000000
set_option linter.unusedVariables false
set_option linter.unusedSimpArgs false
namespace Go.Proofs.YtnjjkgjdhljfnaaGreat
open Go.RowKit Go.Maps
attribute [local go_sem ↓] Go.wp_at_zero Go.wp_at_succ
theorem Jq(w:aG)(e size:Nat):(w.alloc (af #[] e)).ownsRow w.heap.size e size (ay (az ⟨w.heap.size,0,aj⟩) 0 0) 0 []:=
 ⟨by simp,.inr ⟨w.heap.size,0,#[],rfl,aC _,heap_alloc_new w _,aC _,by unfold fJ;omega,by simp,by simp⟩⟩
def pz{α:Type}(e m:Nat)(c:α->List Value)(l:List α)(w:aG)(r:Ending)(w':aG):Prop:=∃v,r=ax v/\w'.ownsRow w.heap.size e m v l.length (l.flatMap c)/\aO w.heap.size w w'
theorem aru:(Tryz.prog.info? 83).map (fun i=>(i.zero,i.size,i.bytes))=az (az (.agg #[.string ByteArray.empty,.bool false,ah ag 0]),3,32):=by kernel_rfl
theorem azd(l:List Nd):∀u∈l.flatMap cN,u.oneCell'=true:=by intro u hu;obtain⟨x,_,hx⟩:=gZ.1 hu;simp only[cN,dM,dZ,or_false]at hx;rcases hx with rfl|rfl|rfl<;>rfl
theorem XW(a:Option Addr)(cp:Nat)(l:List Nd)(w:aG)(hl:l.length<=1000000)(h:gH 3 cN iZ w a l.length l):di aH 36 #[ay a l.length cp] w (pz 83 3 cN l w):=by
 have hnil:∀(w:aG) (a:Option Addr) (n c n' c':Nat),(binOp .eql 22 (ay a n c) (ay aj n' c')).run aH w=.ok (.bool a.isNone) w:=fun w a n c n' c'=>sJ w 22 83 a n c n' c' underlying22;cases a with
 |none=>
  obtain rfl:l=[]:=by
   rcases nD l.length with q|q
   ·exact gX q
   ·obtain⟨b,off,e,_⟩:=h.2 q;cases e
  have F:Hid (pz 83 3 cN [] w (ax (ay aj 0 0)) w):=⟨_,rfl,dR _ _ _ _,aS _ _⟩;clear h;go_enter func36,ntmps36;go_wp2_with fail;go_ret;exact F.o
 |some ad=>
  have RA:=aA ((uf (c:=cN) (m:=3) (fun _=>rfl) h).alloc (aC _) (af #[] 83));have fo:=aA (azd l);clear h;obtain⟨i0,hi0,wE,uY,wN⟩:=eQ aru;go_enter func36,ntmps36;go_wp2_with (at_builtin;refine gY _ rfl (.tmp 5) (.tmp 6) 22 rfl w.heap.size 83 i0 _ 3 32 underlying22 hi0 wE uY wN rfl (by decide) _ 0 [] rfl (Jq w 83 3) w.heap.size _ l.length cp (l.flatMap cN) rfl RA.o fo.out ?c3 ?c4 ?c5 ?_);case c3=>unfold fJ;omega
  case c4=>omega
  case c5=>simp
  intro v1 w1 nR yG _;try simp only[rG,kK]at nR
  have gB:Hid (aO w.heap.size w w1):=((aS _ _).alloc (aC _) _).grown yG (by simp) (by intro g e;simp[eO]at e;omega);have F:Hid (pz 83 3 cN l w (ax v1) w1):=⟨v1,rfl,nR,gB.out⟩;clear nR yG;go_wp2_with fail;go_ret;exact F.o
theorem art:(Tryz.prog.info? 86).map (fun i=>(i.zero,i.size,i.bytes))=az (az (.agg #[ah ag 0,ah ag 0,ah ag 0,ah ag 0,ah ag 0,ah ag 0]),6,48):=by kernel_rfl
theorem azc(l:List Cb):∀u∈l.flatMap cC,u.oneCell'=true:=by intro u hu;obtain⟨x,_,hx⟩:=gZ.1 hu;simp only[cC,dM,dZ,or_false]at hx;rcases hx with rfl|rfl|rfl|rfl|rfl|rfl<;>rfl
theorem XU(a:Option Addr)(cp:Nat)(l:List Cb)(w:aG)(hl:l.length<=1000000)(h:gH 6 cC gV w a l.length l):di aH 37 #[ay a l.length cp] w (pz 86 6 cC l w):=by
 have hnil:∀(w:aG) (a:Option Addr) (n c n' c':Nat),(binOp .eql 23 (ay a n c) (ay aj n' c')).run aH w=.ok (.bool a.isNone) w:=fun w a n c n' c'=>sJ w 23 86 a n c n' c' underlying23;cases a with
 |none=>
  obtain rfl:l=[]:=by
   rcases nD l.length with q|q
   ·exact gX q
   ·obtain⟨b,off,e,_⟩:=h.2 q;cases e
  have F:Hid (pz 86 6 cC [] w (ax (ay aj 0 0)) w):=⟨_,rfl,dR _ _ _ _,aS _ _⟩;clear h;go_enter func37,ntmps37;go_wp2_with fail;go_ret;exact F.o
 |some ad=>
  have RA:=aA ((uf (c:=cC) (m:=6) (fun _=>rfl) h).alloc (aC _) (af #[] 86));have fo:=aA (azc l);clear h;obtain⟨i0,hi0,wE,uY,wN⟩:=eQ art;go_enter func37,ntmps37;go_wp2_with (at_builtin;refine gY _ rfl (.tmp 5) (.tmp 6) 23 rfl w.heap.size 86 i0 _ 6 48 underlying23 hi0 wE uY wN rfl (by decide) _ 0 [] rfl (Jq w 86 6) w.heap.size _ l.length cp (l.flatMap cC) rfl RA.o fo.out ?c3 ?c4 ?c5 ?_);case c3=>unfold fJ;omega
  case c4=>omega
  case c5=>simp
  intro v1 w1 nR yG _;try simp only[rG,kK]at nR
  have gB:Hid (aO w.heap.size w w1):=((aS _ _).alloc (aC _) _).grown yG (by simp) (by intro g e;simp[eO]at e;omega);have F:Hid (pz 86 6 cC l w (ax v1) w1):=⟨v1,rfl,nR,gB.out⟩;clear nR yG;go_wp2_with fail;go_ret;exact F.o
theorem VY(n:Nat)(w:aG)(h0:1<=n)(h1:n<=8):di aH 113 #[.int .u64 1,.int .u64 n] w fun e w'=>e=ax (.tuple #[.int .u64 0,.int .u64 n])/\w=w':=by
 obtain rfl|rfl|rfl|rfl|rfl|rfl|rfl|rfl:n=1\/n=2\/n=3\/n=4\/n=5\/n=6\/n=7\/n=8:=by omega
 all_goals
  go_enter func113,ntmps113;go_wp2_with fail
  go_ret2;exact⟨rfl,rfl⟩
theorem acg(n:Nat)(w:aG)(h0:1<=n)(h1:n<=8):di aH 87 #[.int .u64 1,.int .u64 n] w fun e w'=>e=ax (.tuple #[.int .u64 0,.int .u64 n])/\w=w':=by have M:=aA (VY n w h0 h1);go_enter func87,ntmps87;go_wp2_with (first|(go_at_call 113;refine M.o.mono ?_;rintro e w' ⟨rfl,rfl⟩));go_ret2;exact⟨rfl,rfl⟩
theorem Kv:(Tryz.prog.info? 3).map (fun i=>(i.zero,i.size,i.bytes))=az (az (ah ag 0),1,8):=by kernel_rfl
theorem Ww:(Tryz.prog.info? 3).map (·.size)=az 1:=by kernel_rfl
def WZ(x:Int)(n m:Nat):List Value:=aQ m (ah ag x)++aQ (n-m) (ah ag 0)
def adU(x:Int)(n g:Nat)(w0:aG)(i:Value)(wr:aG):Prop:=∃m:Nat,1<=m/\m<=n/\i=ah ag m/\wr.heap[g]?=az (af (WZ x n m).toArray 3 (0,0))/\aO g w0 wr
theorem Sw(x:Int)(n m k:Nat)(h:m+k<=n):splice (WZ x n m) m (aQ k (ah ag x))=WZ x n (m+k):=by unfold splice WZ;rw[List.take_left' (by simp),ig,<-List.append_assoc,List.replicate_append_replicate];congr 1;rw[List.drop_append,List.drop_of_length_le (by simp),kK,ig,List.drop_replicate];congr 1;omega
theorem Gx(v:Value)(n:Nat):madeCells #[v] n=(aQ n v).toArray:=by unfold madeCells;apply Array.ext';simp[Nat.mod_one];rw[List.map_const',List.length_range]
theorem Wt(x:Int)(n:Nat):(aQ n x).flatMap cI=aQ n (ah ag x):=by
 induction n with
 |zero=>rfl
 |succ n ih=>rw[oI,List.flatMap_cons,ih,oI];rfl
theorem aiv(x:Int)(n m g:Nat)(w wr:aG)(h0:1<=m)(h1:m<n)(hg:wr.heap[g]?=az (af (WZ x n m).toArray 3 (0,0)))(hb:aO g w wr):∃w3,(Builtin.copy_ #[26,26] 3 #[ay (az ⟨g,m,aj⟩) (n-m) (n-m),ay (az ⟨g,0,aj⟩) m n]).run aH wr.drew=.ok (ah ag ((min m (n-m):Nat):Int)) w3/\w3.heap[g]?=az (af (WZ x n (m+min m (n-m))).toArray 3 (0,0))/\aO g w w3:=by
 have uz:wr.drew.heap[g]?=az (af (WZ x n m).toArray 3 (0,0)):=hg;have hB:dG wr.drew g 3 (WZ x n m).toArray:=uz;have r:=run_copy_row (P:=aH) wr.drew 26 26 3 3 g m (n-m) (n-m) ⟨g,0,aj⟩ m n (WZ x n m).toArray 3 (aQ (min m (n-m)) (ah ag x)) underlying26 Ww uz (by rw[ig]) (fun j v hj=>by
  have hj':j<min m (n-m):=by
   rcases Nat.lt_or_ge j (min m (n-m))with q|q
   ·exact q
   ·rw[gG (by rw[ig];exact q)]at hj;cases hj
  have e:(⟨g,0,aj⟩:Addr).add j=⟨g,j,aj⟩:=by unfold Addr.add;split<;>simp_all
  rw[e,hB.cell,<-hj];rw[gD,if_pos hj'];rw[List.getElem?_toArray];unfold WZ;rw[List.getElem?_append_left (by rw[ig];omega),gD,if_pos (by omega)]) (by simp[WZ];omega) (fun v hv=>by rw[List.eq_of_mem_replicate hv];rfl)
 refine⟨_,?_,setRow_heap wr.drew g _ _ 3 _ uz,below_setRow hb.drew (aC _) _⟩;rw[r];have e:=Sw x n m (min m (n-m)) (by omega);unfold splice at e;rw[<-e];simp[goInt]
theorem YR(x:Int)(n gx cp:Nat)(w:aG)(h0:1<=n)(h1:n<=8)(hx:w.cell? ⟨gx,0,aj⟩=az (ah ag x)):di aH 41 #[ay (az ⟨gx,0,aj⟩) 1 cp,ah ag n] w (pz 3 1 cI (aQ n x) w):=by
 have M:=aA (acg n w h0 h1);have LX:=World.block_lt_of_cell? _ _ hx;obtain⟨j0,xQ,zC,Aq,Av⟩:=eQ Kv;go_enter func41,ntmps41;go_wp2_with (first
  |(go_at_call 87;refine M.o.mono ?_;rintro e w' ⟨rfl,rfl⟩)
  |(at_make;refine kL _ rfl _ _ 26 rfl 3 j0 _ 1 underlying26 xQ zC Aq .i64 .i64 _ _ n rfl rfl (by rfl) (by rfl) (by rw[Av];omega) (by unfold fJ;omega) ?_)
  |(with_reducible refine wpList_copy_splice rfl (.tmp 31) (.tmp 32) 26 26 rfl 3 underlying26 Ww _ _ _ _ _ _ rfl rfl w.heap.size 0 (WZ x n 0) 3 ?c1 [ah ag x] ?c2 ?c3 ?c4 ?c5 w.heap.size w ?c6 ?c7 ?_))
 case c1=>rw[heap_alloc_new,Gx,WZ];simp
 case c2=>show 1=min 1 n;omega
 case c3=>
  intro j v hj;obtain rfl:j=0:=by
   rcases nD j with q|q
   ·exact q
   ·rw[gG (by simp;omega)]at hj;cases hj
  simp at hj;subst hj;exact hx
 case c4=>simp[WZ];omega
 case c5=>intro v hv;simp at hv;subst hv;rfl
 case c6=>exact(aS _ _).alloc (aC _) _
 case c7=>exact aC _
 intro w2 hg2 uy;have ST:Hid (adU x n w.heap.size w (ah ag 1) w2):=by refine⟨1,aC _,h0,rfl,?_,uy⟩;have:=hg2.out;have e:=Sw x n 0 1 (by omega);rw[show aQ 1 (ah .i64 x)=[ah ag x]from rfl]at e;rw[e]at this;exact this
 obtain⟨g,hg⟩:∃g,w.heap.size=g:=⟨_,rfl⟩;have HG:=aA hg;rw[hg]at ST|-;clear hg2 uy hg;go_wp2_with fail;go_loopw [8,34,35,36,37,38,39,40,41,42,43,44,45,46] (fun i _ _ _ _ _ _ _ _ _ _ _ _ _ wr=>adU x n g w i wr) (fun i _ _ _ _ _ _ _ _ _ _ _ _ _ _=>n-(aK i).toNat);case atStart=>exact ST.o
 case round=>
  clear ST;obtain⟨m,hm0,Pw,rfl,zY,hbel⟩:=hrel;have ROW:=aA zY;have xW:=aA hbel;by_cases hmn:m<n
  ·have i0:(m:Int)<(n:Int):=by omega
   have i1:(0:Int)<=(m:Int):=(by omega);obtain⟨w3,hrun,hg3,Pt⟩:=aiv x n m g w wr hm0 (by omega) zY hbel;have Gj:Hid (adU x n g w (ah ag ((m+min m (n-m):Nat):Int)) w3):=⟨_,by omega,by omega,rfl,hg3,Pt⟩;have hq:((m:Int)+((min m (n-m):Nat):Int))=((m+min m (n-m):Nat):Int):=(by omega);have hw:wrap64 ((m:Int)+((min m (n-m):Nat):Int))=((m+min m (n-m):Nat):Int):=(by unfold wrap64;omega);obtain⟨k,hk⟩:∃k,min m (n-m)=k:=⟨_,rfl⟩;have k0:0<k:=(by omega);rw[hk]at hrun Gj hq hw;clear zY hbel hg3 Pt hk hq;go_wp2_with fail;go_region;go_wp2_with fail;rw[hw];exact⟨Gj.o,by simp[aK];omega⟩
  ·obtain rfl:n=m:=by omega
   clear zY hbel;have F:Hid (pz 3 1 cI (aQ n x) w (ax (ay (az ⟨g,0,aj⟩) n n)) wr):=by refine⟨ay (az ⟨g,0,aj⟩) n n,rfl,?_,by rw[HG.o];exact xW.out⟩;have e1:=Wt x n;have e2:WZ x n n=aQ n (ah ag x):=(by unfold WZ;simp);have R:=ROW.o;rw[e2]at R;rw[e1,ig];refine⟨by simp,.inr ⟨g,n,_,rfl,by have:=HG.o;omega,R,aC _,by unfold fJ;omega,by simp,by simp⟩⟩
   go_wp2_with fail;go_ret
   exact F.o
end Go.Proofs.YtnjjkgjdhljfnaaGreat
