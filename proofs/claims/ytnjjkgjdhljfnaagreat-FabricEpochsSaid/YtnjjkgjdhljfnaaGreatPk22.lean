/- Part 22. -/
import Derived.Laws.CopyOwn
import Derived.Test.YtnjjkgjdhljfnaaGreatPk11
open Go.Proofs.Tryz
open Go renaming Calls->bZ,World->aG,info_parts->dX,maxLen->fB
open Go.Ending renaming returned->ax
open Go.IntKind renaming i64->ag
open Go.Lib renaming hid->aA,run_eql_slice_nil->rZ
open Go.Obj renaming cells->af
open Go.Proofs.Tryz renaming prog->aH
open Go.RowKit renaming Below->aN,intOf->aJ
open Go.RowKit.Below renaming refl->aQ
open Go.Value renaming int->ah,ownBlock->dV,slice->ay
open Go.World renaming ownsRow_nil->dM
open List renaming eq_nil_of_length_eq_zero->gT,getElem?_eq_none->gD,getElem?_replicate->gz,length_replicate->iH,mem_cons->dG,mem_flatMap->iF,nil_append->kg,not_mem_nil->dP,replicate->aS,replicate_succ->oG
open Nat renaming eq_zero_or_pos->nD,le_refl->aC,zero_add->ry
open Option renaming none->aj,some->az
set_option maxRecDepth 100000
set_option maxHeartbeats 16000000
set_option linter.unusedVariables false
set_option linter.unusedSimpArgs false
namespace Go.Proofs.YtnjjkgjdhljfnaaGreat
open Go.RowKit Go.Maps
attribute [local go_sem ↓] Go.wp_at_zero Go.wp_at_succ
theorem Jk(w:aG)(e size:Nat):(w.alloc (af #[] e)).ownsRow w.heap.size e size (ay (az ⟨w.heap.size,0,aj⟩) 0 0) 0 []:=
 ⟨by simp,.inr ⟨w.heap.size,0,#[],rfl,aC _,heap_alloc_new w _,aC _,by unfold fB;omega,by simp,by simp⟩⟩
def pE{α:Type}(e m:Nat)(c:α->List Value)(l:List α)(w:aG)(r:Ending)(w':aG):Prop:=∃v,r=ax v/\w'.ownsRow w.heap.size e m v l.length (l.flatMap c)/\aN w.heap.size w w'
theorem arB:(Tryz.prog.info? 83).map (fun i=>(i.zero,i.size,i.bytes))=az (az (.agg #[.string ByteArray.empty,.bool false,ah ag 0]),3,32):=by kernel_rfl
theorem azs(l:List Nd):∀u∈l.flatMap cN,u.oneCell'=true:=by intro u hu;obtain⟨x,_,hx⟩:=iF.1 hu;simp only[cN,dG,dP,or_false]at hx;rcases hx with rfl|rfl|rfl<;>rfl
theorem XZ(a:Option Addr)(cp:Nat)(l:List Nd)(w:aG)(hl:l.length<=1000000)(h:gI 3 cN jk w a l.length l):bZ aH 36 #[ay a l.length cp] w (pE 83 3 cN l w):=by
 have hnil:∀(w:aG) (a:Option Addr) (n c n' c':Nat),(binOp .eql 22 (ay a n c) (ay aj n' c')).run aH w=.ok (.bool a.isNone) w:=fun w a n c n' c'=>rZ w 22 83 a n c n' c' underlying22;cases a with
 |none=>
  obtain rfl:l=[]:=by
   rcases nD l.length with q|q
   ·exact gT q
   ·obtain⟨b,off,e,_⟩:=h.2 q;cases e
  have F:Hid (pE 83 3 cN [] w (ax (ay aj 0 0)) w):=⟨_,rfl,dM _ _ _ _,aQ _ _⟩;clear h;go_enter func36,ntmps36;go_wp2_with fail;go_ret;exact F.o
 |some ad=>
  have RA:=aA ((tY (c:=cN) (m:=3) (fun _=>rfl) h).alloc (aC _) (af #[] 83));have fo:=aA (azs l);clear h;obtain⟨i0,hi0,wC,uX,wK⟩:=dX arB;go_enter func36,ntmps36;go_wp2_with (at_builtin;refine gW _ rfl (.tmp 5) (.tmp 6) 22 rfl w.heap.size 83 i0 _ 3 32 underlying22 hi0 wC uX wK rfl (by decide) _ 0 [] rfl (Jk w 83 3) w.heap.size _ l.length cp (l.flatMap cN) rfl RA.o fo.out ?c3 ?c4 ?c5 ?_);case c3=>unfold fB;omega
  case c4=>omega
  case c5=>simp
  intro v1 w1 nV yo _;try simp only[ry,kg]at nV
  have gm:Hid (aN w.heap.size w w1):=((aQ _ _).alloc (aC _) _).grown yo (by simp) (by intro g e;simp[dV]at e;omega);have F:Hid (pE 83 3 cN l w (ax v1) w1):=⟨v1,rfl,nV,gm.out⟩;clear nV yo;go_wp2_with fail;go_ret;exact F.o
theorem arA:(Tryz.prog.info? 86).map (fun i=>(i.zero,i.size,i.bytes))=az (az (.agg #[ah ag 0,ah ag 0,ah ag 0,ah ag 0,ah ag 0,ah ag 0]),6,48):=by kernel_rfl
theorem azr(l:List Cb):∀u∈l.flatMap cC,u.oneCell'=true:=by intro u hu;obtain⟨x,_,hx⟩:=iF.1 hu;simp only[cC,dG,dP,or_false]at hx;rcases hx with rfl|rfl|rfl|rfl|rfl|rfl<;>rfl
theorem XX(a:Option Addr)(cp:Nat)(l:List Cb)(w:aG)(hl:l.length<=1000000)(h:gI 6 cC gX w a l.length l):bZ aH 37 #[ay a l.length cp] w (pE 86 6 cC l w):=by
 have hnil:∀(w:aG) (a:Option Addr) (n c n' c':Nat),(binOp .eql 23 (ay a n c) (ay aj n' c')).run aH w=.ok (.bool a.isNone) w:=fun w a n c n' c'=>rZ w 23 86 a n c n' c' underlying23;cases a with
 |none=>
  obtain rfl:l=[]:=by
   rcases nD l.length with q|q
   ·exact gT q
   ·obtain⟨b,off,e,_⟩:=h.2 q;cases e
  have F:Hid (pE 86 6 cC [] w (ax (ay aj 0 0)) w):=⟨_,rfl,dM _ _ _ _,aQ _ _⟩;clear h;go_enter func37,ntmps37;go_wp2_with fail;go_ret;exact F.o
 |some ad=>
  have RA:=aA ((tY (c:=cC) (m:=6) (fun _=>rfl) h).alloc (aC _) (af #[] 86));have fo:=aA (azr l);clear h;obtain⟨i0,hi0,wC,uX,wK⟩:=dX arA;go_enter func37,ntmps37;go_wp2_with (at_builtin;refine gW _ rfl (.tmp 5) (.tmp 6) 23 rfl w.heap.size 86 i0 _ 6 48 underlying23 hi0 wC uX wK rfl (by decide) _ 0 [] rfl (Jk w 86 6) w.heap.size _ l.length cp (l.flatMap cC) rfl RA.o fo.out ?c3 ?c4 ?c5 ?_);case c3=>unfold fB;omega
  case c4=>omega
  case c5=>simp
  intro v1 w1 nV yo _;try simp only[ry,kg]at nV
  have gm:Hid (aN w.heap.size w w1):=((aQ _ _).alloc (aC _) _).grown yo (by simp) (by intro g e;simp[dV]at e;omega);have F:Hid (pE 86 6 cC l w (ax v1) w1):=⟨v1,rfl,nV,gm.out⟩;clear nV yo;go_wp2_with fail;go_ret;exact F.o
theorem Wd(n:Nat)(w:aG)(h0:1<=n)(h1:n<=8):bZ aH 113 #[.int .u64 1,.int .u64 n] w fun e w'=>e=ax (.tuple #[.int .u64 0,.int .u64 n])/\w=w':=by
 obtain rfl|rfl|rfl|rfl|rfl|rfl|rfl|rfl:n=1\/n=2\/n=3\/n=4\/n=5\/n=6\/n=7\/n=8:=by omega
 all_goals
  go_enter func113,ntmps113;go_wp2_with fail
  go_ret2;exact⟨rfl,rfl⟩
theorem ace(n:Nat)(w:aG)(h0:1<=n)(h1:n<=8):bZ aH 87 #[.int .u64 1,.int .u64 n] w fun e w'=>e=ax (.tuple #[.int .u64 0,.int .u64 n])/\w=w':=by have M:=aA (Wd n w h0 h1);go_enter func87,ntmps87;go_wp2_with (first|(go_at_call 113;refine M.o.mono ?_;rintro e w' ⟨rfl,rfl⟩));go_ret2;exact⟨rfl,rfl⟩
theorem Kk:(Tryz.prog.info? 3).map (fun i=>(i.zero,i.size,i.bytes))=az (az (ah ag 0),1,8):=by kernel_rfl
theorem Wy:(Tryz.prog.info? 3).map (·.size)=az 1:=by kernel_rfl
def Xc(x:Int)(n m:Nat):List Value:=aS m (ah ag x)++aS (n-m) (ah ag 0)
def adT(x:Int)(n g:Nat)(w0:aG)(i:Value)(wr:aG):Prop:=∃m:Nat,1<=m/\m<=n/\i=ah ag m/\wr.heap[g]?=az (af (Xc x n m).toArray 3 (0,0))/\aN g w0 wr
theorem Sj(x:Int)(n m k:Nat)(h:m+k<=n):splice (Xc x n m) m (aS k (ah ag x))=Xc x n (m+k):=by unfold splice Xc;rw[List.take_left' (by simp),iH,<-List.append_assoc,List.replicate_append_replicate];congr 1;rw[List.drop_append,List.drop_of_length_le (by simp),kg,iH,List.drop_replicate];congr 1;omega
theorem Gj(v:Value)(n:Nat):madeCells #[v] n=(aS n v).toArray:=by unfold madeCells;apply Array.ext';simp[Nat.mod_one];rw[List.map_const',List.length_range]
theorem Wv(x:Int)(n:Nat):(aS n x).flatMap cI=aS n (ah ag x):=by
 induction n with
 |zero=>rfl
 |succ n ih=>rw[oG,List.flatMap_cons,ih,oG];rfl
theorem air(x:Int)(n m g:Nat)(w wr:aG)(h0:1<=m)(h1:m<n)(hg:wr.heap[g]?=az (af (Xc x n m).toArray 3 (0,0)))(hb:aN g w wr):∃w3,(Builtin.copy_ #[26,26] 3 #[ay (az ⟨g,m,aj⟩) (n-m) (n-m),ay (az ⟨g,0,aj⟩) m n]).run aH wr.drew=.ok (ah ag ((min m (n-m):Nat):Int)) w3/\w3.heap[g]?=az (af (Xc x n (m+min m (n-m))).toArray 3 (0,0))/\aN g w w3:=by
 have uy:wr.drew.heap[g]?=az (af (Xc x n m).toArray 3 (0,0)):=hg;have hB:dh wr.drew g 3 (Xc x n m).toArray:=uy;have r:=run_copy_row (P:=aH) wr.drew 26 26 3 3 g m (n-m) (n-m) ⟨g,0,aj⟩ m n (Xc x n m).toArray 3 (aS (min m (n-m)) (ah ag x)) underlying26 Wy uy (by rw[iH]) (fun j v hj=>by
  have hj':j<min m (n-m):=by
   rcases Nat.lt_or_ge j (min m (n-m))with q|q
   ·exact q
   ·rw[gD (by rw[iH];exact q)]at hj;cases hj
  have e:(⟨g,0,aj⟩:Addr).add j=⟨g,j,aj⟩:=by unfold Addr.add;split<;>simp_all
  rw[e,hB.cell,<-hj];rw[gz,if_pos hj'];rw[List.getElem?_toArray];unfold Xc;rw[List.getElem?_append_left (by rw[iH];omega),gz,if_pos (by omega)]) (by simp[Xc];omega) (fun v hv=>by rw[List.eq_of_mem_replicate hv];rfl)
 refine⟨_,?_,setRow_heap wr.drew g _ _ 3 _ uy,below_setRow hb.drew (aC _) _⟩;rw[r];have e:=Sj x n m (min m (n-m)) (by omega);unfold splice at e;rw[<-e];simp[goInt]
theorem YS(x:Int)(n gx cp:Nat)(w:aG)(h0:1<=n)(h1:n<=8)(hx:w.cell? ⟨gx,0,aj⟩=az (ah ag x)):bZ aH 41 #[ay (az ⟨gx,0,aj⟩) 1 cp,ah ag n] w (pE 3 1 cI (aS n x) w):=by
 have M:=aA (ace n w h0 h1);have LX:=World.block_lt_of_cell? _ _ hx;obtain⟨j0,xI,zb,Ad,Ae⟩:=dX Kk;go_enter func41,ntmps41;go_wp2_with (first
  |(go_at_call 87;refine M.o.mono ?_;rintro e w' ⟨rfl,rfl⟩)
  |(at_make;refine ko _ rfl _ _ 26 rfl 3 j0 _ 1 underlying26 xI zb Ad .i64 .i64 _ _ n rfl rfl (by rfl) (by rfl) (by rw[Ae];omega) (by unfold fB;omega) ?_)
  |(with_reducible refine wpList_copy_splice rfl (.tmp 31) (.tmp 32) 26 26 rfl 3 underlying26 Wy _ _ _ _ _ _ rfl rfl w.heap.size 0 (Xc x n 0) 3 ?c1 [ah ag x] ?c2 ?c3 ?c4 ?c5 w.heap.size w ?c6 ?c7 ?_))
 case c1=>rw[heap_alloc_new,Gj,Xc];simp
 case c2=>show 1=min 1 n;omega
 case c3=>
  intro j v hj;obtain rfl:j=0:=by
   rcases nD j with q|q
   ·exact q
   ·rw[gD (by simp;omega)]at hj;cases hj
  simp at hj;subst hj;exact hx
 case c4=>simp[Xc];omega
 case c5=>intro v hv;simp at hv;subst hv;rfl
 case c6=>exact(aQ _ _).alloc (aC _) _
 case c7=>exact aC _
 intro w2 hg2 uu;have ST:Hid (adT x n w.heap.size w (ah ag 1) w2):=by refine⟨1,aC _,h0,rfl,?_,uu⟩;have:=hg2.out;have e:=Sj x n 0 1 (by omega);rw[show aS 1 (ah .i64 x)=[ah ag x]from rfl]at e;rw[e]at this;exact this
 obtain⟨g,hg⟩:∃g,w.heap.size=g:=⟨_,rfl⟩;have HG:=aA hg;rw[hg]at ST|-;clear hg2 uu hg;go_wp2_with fail;go_loopw [8,34,35,36,37,38,39,40,41,42,43,44,45,46] (fun i _ _ _ _ _ _ _ _ _ _ _ _ _ wr=>adT x n g w i wr) (fun i _ _ _ _ _ _ _ _ _ _ _ _ _ _=>n-(aJ i).toNat);case atStart=>exact ST.o
 case round=>
  clear ST;obtain⟨m,hm0,Ps,rfl,zO,hbel⟩:=hrel;have ROW:=aA zO;have xM:=aA hbel;by_cases hmn:m<n
  ·have i0:(m:Int)<(n:Int):=by omega
   have i1:(0:Int)<=(m:Int):=(by omega);obtain⟨w3,hrun,hg3,Pp⟩:=air x n m g w wr hm0 (by omega) zO hbel;have FT:Hid (adT x n g w (ah ag ((m+min m (n-m):Nat):Int)) w3):=⟨_,by omega,by omega,rfl,hg3,Pp⟩;have hq:((m:Int)+((min m (n-m):Nat):Int))=((m+min m (n-m):Nat):Int):=(by omega);have hw:wrap64 ((m:Int)+((min m (n-m):Nat):Int))=((m+min m (n-m):Nat):Int):=(by unfold wrap64;omega);obtain⟨k,hk⟩:∃k,min m (n-m)=k:=⟨_,rfl⟩;have k0:0<k:=(by omega);rw[hk]at hrun FT hq hw;clear zO hbel hg3 Pp hk hq;go_wp2_with fail;go_region;go_wp2_with fail;rw[hw];exact⟨FT.o,by simp[aJ];omega⟩
  ·obtain rfl:n=m:=by omega
   clear zO hbel;have F:Hid (pE 3 1 cI (aS n x) w (ax (ay (az ⟨g,0,aj⟩) n n)) wr):=by refine⟨ay (az ⟨g,0,aj⟩) n n,rfl,?_,by rw[HG.o];exact xM.out⟩;have e1:=Wv x n;have e2:Xc x n n=aS n (ah ag x):=(by unfold Xc;simp);have R:=ROW.o;rw[e2]at R;rw[e1,iH];refine⟨by simp,.inr ⟨g,n,_,rfl,by have:=HG.o;omega,R,aC _,by unfold fB;omega,by simp,by simp⟩⟩
   go_wp2_with fail;go_ret
   exact F.o
end Go.Proofs.YtnjjkgjdhljfnaaGreat
