/- Part 29. -/
import Derived.LoopIn
import Derived.LoopNIn
import Derived.OwnWalkIn
import Derived.RangeFuncBound
import Derived.RangeFuncBox
import Derived.RangeFuncCalls
import Derived.RangeFuncLeaves
import Derived.RangeFuncNested
import Derived.RegionIn
import Derived.Shelf.AbstractIn
import Derived.Shelf.RegionOpen
import Derived.TacticsInMore
import Derived.Test.YtnjjkgjdhljfnaaGreatLaid
import Derived.Test.YtnjjkgjdhljfnaaGreatPk15
open Go.Proofs.Tryz
open Array renaming replicate_succ->Et,replicate_zero->Eu
open Go renaming Addr->fA,Calls->bZ,Value->aI,World->aG
open Go.Ending renaming returned->ax
open Go.Fence renaming wide->Ou
open Go.IntKind renaming i64->ag
open Go.Lib renaming hid->aA
open Go.Obj renaming cells->af
open Go.Proofs.Tryz renaming prog->aH
open Go.RowKit renaming Below->aN
open Go.RowKit.Below renaming refl->aQ
open Go.Value renaming int->ah,pointer->au,slice->ay
open List renaming append_toArray->Gy,length_cons->eQ,length_nil->jZ,nil_append->kg,push_toArray->JG,size_toArray->JH
open Nat renaming le_refl->aC
open Option renaming none->aj,some->az
set_option maxRecDepth 100000
set_option maxHeartbeats 16000000
set_option linter.unusedVariables false
set_option linter.unusedSimpArgs false
namespace Go.Proofs.YtnjjkgjdhljfnaaGreat
open Go.RowKit Go.Maps Go.Sort Go.Shelf
attribute [local go_sem] Oper.semAt_some
def ZK(x:Int):Array aI:=#[ah ag x]
def Io(n₀:Nat)(W:aG)(a:Option fA)(zs:List Int):Prop:=∀k,k<zs.length->∃g,a=az ⟨g,0,aj⟩/\g<n₀/\W.cell? ⟨g,k,aj⟩=az (ah ag (zs.getD k 0))
theorem Io.below{n₀:Nat}{A B:aG}{a:Option fA}{zs:List Int}(h:Io n₀ A a zs)(hb:aN n₀ A B):Io n₀ B a zs:=fun k hk=>by obtain⟨g,e,hg,hc⟩:=h k hk;exact⟨g,e,hg,(hb.cell (p:=⟨g,k,aj⟩) hg).trans hc⟩
theorem WQ(n:Nat)(hn:1<=n)(Bs n₀:Nat)(a:Option fA)(cap:Nat)(zs:List Int)(w:aG)(hl:zs.length<=1000000)(hBs:Bs<w.heap.size)(hn₀:n₀<=w.heap.size)(hc:w.cell? ⟨Bs,0,aj⟩=az (ay a zs.length cap))(hI:Io n₀ w a zs):SeqStopsK Ou n aH 104 #[au (az ⟨Bs,0,aj⟩)] ZK (aN n₀) (fun ss=>ss=zs) (fun _=>True) zs.length w:=fun l J Jx W hW hJ _ hY h0=>by
 have hcW:W.cell? ⟨Bs,0,aj⟩=az (ay a zs.length cap):=(hW.cell (p:=⟨Bs,0,aj⟩) hBs).trans hc;have HI:=aA (hI.below (hW.mono hn₀));have HY:=aA hY;clear hc hI hY hJ;refine callsIn_of_wp func104 rfl trivial ?_ rfl;simp only[ntmps104,JH,eQ,jZ,Nat.reduceAdd,Nat.reduceSub,Et,Eu,JG,Gy,kg,List.cons_append]
 gi_wp2
 gi_loopw [7] (fun i wr=>∃k:Nat,k<=zs.length/\i=ah ag k/\J (zs.take k) wr/\aN n₀ W wr) (fun i _=>zs.length-(intOf i).toNat)
 case atStart=>exact⟨0,Nat.zero_le _,rfl,h0,aQ _ _⟩
 case round=>
  obtain⟨k,hk,rfl,hJs,hnx⟩:=hrel;clear h0 hcW;by_cases tK:k<zs.length
  ·obtain⟨g,rfl,hg,hcx⟩:=(HI.o.below hnx) k tK;obtain⟨fn,tmps,assign,body,hy,hR⟩:=HY.o _ (zs.getD k 0) wr hJs (by rw[List.length_take];omega);have TK:Hid (zs.take (k+1)=zs.take k++[zs.getD k 0]):=ji 0 zs k tK;have HR:=aA hR;have NX:=aA hnx;unfold ZK at hy;clear hR hnx hJs;generalize zs.getD k 0=x at *;have k0:(0:Int)<=(k:Int):=(by omega);have k1:(k:Int)<(zs.length:Int):=by omega
   gi_wp2
   refine HR.o.mono ?_;rintro e W3 (⟨rfl,hJ3,hk3⟩|⟨rfl,hJx3⟩)
   ·gi_wp2
    go_roundw
    case rel=>exact⟨k+1,by omega,by simp,by rw[TK.o];exact hJ3,NX.o.trans hk3⟩
    case measure=>simp[intOf];omega
   ·gi_wp2;refine bodyPost_ret (results_none rfl _ _ _) rfl ?_;exact⟨⟨_,rfl⟩,.inr ⟨_,trivial,hJx3⟩⟩
  ·obtain rfl:k=zs.length:=by omega
   rw[List.take_length]at hJs
   gi_wp2
   go_end0
   exact⟨⟨_,rfl⟩,.inl ⟨_,rfl,hJs⟩⟩
theorem afv:(26:TypeId)≠3:=by decide
theorem XD(n:Nat)(hn:2<=n)(g:Nat)(lb:Array aI)(eg:∀args w,(callFunc g args).run aH w=.ok (.enter g args) w)(S Sp:List Int->Prop)(N:Nat)(hN:N<=1000000)(w:aG)(hseq:SeqStopsK Ou (n-1) aH g lb ZK (aN w.heap.size) S Sp N w):CallsIn Ou n aH 134 #[ay aj 0 0,.func (.func g) #[] lb] w fun e w'=>∃(v:aI) (ss:List Int),e=ax v/\S ss/\w'.ownsRow w.heap.size 3 1 v ss.length (ss.flatMap cI)/\aN w.heap.size w w':=by
 have h1:1<=n:=by omega
 obtain⟨i0,hi0,wC,uX,wK⟩:=info_parts Dc;refine callsIn_of_wp_marks func134 rfl trivial ?_ rfl;simp only[ntmps134,JH,eQ,jZ,Nat.reduceAdd,Nat.reduceSub,Et,Eu,JG,Gy,kg,List.cons_append]
 gi_wp2
 obtain⟨W0,hW0⟩:∃W0,w.alloc (af #[ay aj 0 0] 26)=W0:=⟨_,rfl⟩;have hs0:W0.heap.size=w.heap.size+1:=by rw[<-hW0];simp
 have hB0:Boxed W0 w.heap.size 26 (ay aj 0 0):=by rw[<-hW0];exact Boxed.new _ _ _
 have hBW:aN w.heap.size w W0:=by rw[<-hW0];exact(aQ _ w).alloc (aC _) _
 rw[hW0];refine wpIn_rangeFunc_ownH rfl h1 (gf:=g) (lb:=lb) rfl trivial eg hseq belowK_t (fun W l o o' hl h hc hw=>belowK_b (w:=w) (aC _) W l o o' (by omega) h hc hw) hBW (fun _=>rfl)
  (fun pre W=>(∃v,Boxed W w.heap.size 26 v/\W.ownsRow w.heap.size 3 1 v pre.length (pre.flatMap cI)/\True)/\aN w.heap.size w W)
  (fun _ _ _=>False)
  (OwnFrom.and (Own.from (holdsRow_own w.heap.size w.heap.size 26 3 1 (fun pre:List Int=>pre.length) (fun pre=>pre.flatMap cI) (fun _ _=>True)) _) (ownFrom_below (aC _) (by omega)))
  (fun c=>fun _ _ _ _ h _ _=>h.elim)
  ⟨⟨_,hB0,World.ownsRow_nil _ _ _ _,trivial⟩,hBW⟩
  (fun x a' W=>a'={tmps:=#[ay aj 0 0,.func (.func g) #[] lb,au (az ⟨w.heap.size,0,aj⟩),undef,ay aj 0 0,ah ag x,.func (.func g) #[] lb,ah ag x,undef,undef,undef,undef,undef],defers:=[]})
  (fun x a'=>fun s A B row h hg hr=>h) ?assign ?body ?done ?stop
 case assign=>
  rintro l pre x W K ⟨⟨v,bv,own,_⟩,hB⟩ hK;unfold ZK
  gi_wp2
  exact hK _ _ (KeepsFrom.refl _ _) (aQ _ _) ⟨⟨v,bv,own,trivial⟩,hB⟩ rfl
 case body=>
  rintro l pre x a' W hl ⟨r,hr⟩ ⟨⟨v,bv,own,_⟩,hB⟩ rfl tK;have hc:=bv.cell;have bs:=hB.size
  gi_wp2_with (first
   |(gi_at_builtin;refine wpListIn_append_own _ rfl _ _ 26 rfl w.heap.size 3 i0 _ 1 8 underlying26 hi0 wC uX wK rfl (by decide) _ _ _ rfl (own.alloc _) ⟨W.heap.size,0,aj⟩ 1 1 [ah ag x] rfl rfl ?e1 ?e2 ?e3 ?e4 ?e5 ?_;rotate_right;intro v' w1 hown' hgrow _;obtain⟨g',pG,rfl⟩:=ownsRow_succ hown';obtain⟨hv1,hv2,hr2,hk2,uu⟩:=bv.appended afv own hB.size (aC _) hown' hgrow;have hc1:=hv1.cell;have hf1:=hv1.frozen)
   |gi_in)
  ·exact⟨hk2.from _,uu,⟨⟨_,hv2,by rw[List.length_append,List.flatMap_append];exact⟨hr2,trivial⟩⟩,hB.trans uu⟩⟩
  case e1=>
   intro j u hu;rw[show(⟨W.heap.size,0,aj⟩:fA).add j=⟨W.heap.size,j,aj⟩ by(simp[Addr.add];omega),(dh.new W 3 #[ah ag x]).cell j];cases j with
   |zero=>simpa using hu
   |succ j=>simp at hu
  case e2=>intro u hu;simp at hu;subst hu;rfl
  case e3=>unfold maxLen;omega
  case e4=>omega
  case e5=>first|omega|(simp;omega)
 case done=>
  rintro D xs W hD hSx ⟨⟨v,bv,own,_⟩,hB⟩ hK;have hc:=bv.cell
  gi_wp2
  refine⟨by simp,.inl ⟨_,_,rfl,run_takeDeferred hK,?_⟩⟩;exact⟨_,results_tmp rfl _ _ _,v,xs,rfl,hSx,ownsRow_putObj own _ hK rfl,hB.trans (belowK_b (w:=w) (aC _) W D _ _ (by omega) hK rfl rfl)⟩
 case stop=>rintro D c pre W hD _ hF _;exact hF.elim
theorem Tx(Bs:Nat)(a:Option fA)(cap:Nat)(zs:List Int)(w:aG)(hl:zs.length<=1000000)(hBs:Bs<w.heap.size)(hc:w.cell? ⟨Bs,0,aj⟩=az (ay a zs.length cap))(hI:Io w.heap.size w a zs):bZ aH 102 #[.func (.func 104) #[] #[au (az ⟨Bs,0,aj⟩)]] w fun e w'=>∃v,e=ax v/\w'.ownsRow w.heap.size 3 1 v zs.length (zs.flatMap cI)/\aN w.heap.size w w':=by have hcon:=aA ((callsIn_wide (n:=5)).1 (XD 5 (by omega) 104 _ (enters_of func104 (by kernel_rfl) rfl) (fun ss=>ss=zs) (fun _=>True) zs.length hl w (WQ 4 (by omega) Bs w.heap.size a cap zs w hl hBs (aC _) hc hI)));clear hc hI;go_enter func102,ntmps102;go_wp2_with fail;refine hcon.out.mono ?_;rintro e w' ⟨v,ss,rfl,rfl,zO,hb⟩;have F:=aA (show ∃v',Ending.returned v=ax v'/\w'.ownsRow w.heap.size 3 1 v' ss.length (ss.flatMap cI)/\aN w.heap.size w w' from⟨v,rfl,zO,hb⟩);clear zO hb;go_wp2_with fail;go_ret;exact F.o
theorem WT(a:Option fA)(n c:Nat)(w:aG):bZ aH 63 #[ay a n c] w fun e w'=>e=ax (.func (.func 104) #[] #[au (az ⟨w.heap.size,0,aj⟩)])/\w.alloc (af #[ay a n c] 26)=w':=by
 go_enter func63,ntmps63;go_wp2_with fail
 go_ret;exact⟨rfl,rfl⟩
def aaI(base:Nat)(v:aI)(l:List Int)(w:aG)(e:Ending)(w':aG):Prop:=
 e=ax (.tuple #[])/\w'.ownsRow base 3 1 v l.length ((l.mergeSort leI).flatMap cI)/\w.grownBy w' v.ownBlock
theorem Zb(base:Nat)(v:aI)(l:List Int)(w:aG)(hl:l.length<=1000000)(h:w.ownsRow base 3 1 v l.length (l.flatMap cI)):bZ aH 103 #[v] w (aaI base v l w):=by
 rcases h.2 with⟨hv,hz⟩|⟨g,cap,cur,hv,oV,hgb,r1,r2,r3,r4⟩
 ·have yZ:l=[]:=List.eq_nil_of_length_eq_zero hz;subst yZ;subst hv;refine(AnyM.slices_Sort_int_none Tryz.sortA aj 0 w).mono ?_;rintro e w' ⟨rfl,rfl⟩;exact⟨rfl,by simpa using h,zg _ _⟩
 ·subst hv;have r4':cur.toList.take l.length=l.map encZ:=by rw[aez]at r4;simpa using r4
  have hH:Holds encZ w g 0 l.toArray:=holds_of_block_i hgb r4';have hgl:g<w.heap.size:=(Array.getElem?_eq_some_iff.1 hgb).1;refine(AnyM.slices_Sort_int Tryz.sortA g 0 cap l w hH hgl (by omega)).mono ?_;rintro e w' ⟨rfl,nn,os,rfl⟩;refine⟨rfl,?_,grownBy_sorted_i _⟩;rw[aez];exact ownsRow_sorted_i (by rw[List.length_mergeSort]) oV hgb r1 r2 r3
theorem WC(Bs:Nat)(a:Option fA)(cap:Nat)(zs:List Int)(w:aG)(hl:zs.length<=1000000)(hBs:Bs<w.heap.size)(hc:w.cell? ⟨Bs,0,aj⟩=az (ay a zs.length cap))(hI:Io w.heap.size w a zs):bZ aH 62 #[.func (.func 104) #[] #[au (az ⟨Bs,0,aj⟩)]] w fun e w'=>∃v,e=ax v/\w'.ownsRow w.heap.size 3 1 v zs.length ((zs.mergeSort leI).flatMap cI)/\aN w.heap.size w w':=by
 have hcon:=aA (Tx Bs a cap zs w hl hBs hc hI);clear hc hI;generalize hP:(fun(e:Ending) (w':aG)=>∃v,e=ax v/\w'.ownsRow w.heap.size 3 1 v zs.length ((zs.mergeSort leI).flatMap cI)/\aN w.heap.size w w')=NW;have HP:=aA hP;clear hP;go_enter func62,ntmps62;go_wp2_with fail;refine hcon.out.mono ?_;rintro e w1 ⟨v,rfl,zO,hb⟩;have HR:=aA zO;have HB:=aA hb;clear zO hb;go_wp2_with fail;refine(Zb w.heap.size v zs _ hl HR.o).mono ?_;rintro e w2 ⟨rfl,own,hg⟩;have F:Hid (NW (ax v) w2):=by rw[<-HP.o];exact⟨v,rfl,own,HB.o.grown hg HB.o.size (fun g e=>(HR.o.lt g e).1)⟩
 clear own hg;go_wp2_with fail;exact F.o
def Zt(f:dx)(w:aG)(e:Ending)(w':aG):Prop:=∃v,e=ax v/\w'.ownsRow w.heap.size 3 1 v f.lost.length (((f.lost.map (·.id)).mergeSort leI).flatMap cI)/\aN w.heap.size w w'
theorem abz{f:dx}{b:Nat}{ns:List Nd}{cs:List Cb}{L:rY}{Z:Own}{w:aG}(h:gy Z w b ns cs f L)(hl:f.lost.length<=1000000):bZ aH 19 #[pt b] w (Zt f w):=by
 obtain⟨ids,i1,i2,i3⟩:=h.lost;have li:ids.length=f.lost.length:=by rw[i3.length_eq,List.length_map]
 obtain⟨a,cap,eL⟩:=dO i1;have c15:w.cell? ⟨b,19,aj⟩=az (ay a ids.length cap):=by rw[h.xA];show az L.vl=_;rw[eL]
 obtain⟨w1,gK⟩:∃w1:aG,w.alloc (af #[ay a ids.length cap] 26)=w1:=⟨_,rfl⟩;have B1:aN w.heap.size w w1:=by rw[<-gK];exact(aQ _ _).alloc (aC _) _
 have s1:w1.heap.size=w.heap.size+1:=by rw[<-gK];simp
 have IA:Io w1.heap.size w1 a ids:=fun k hk=>by obtain⟨g,pG,e1,_,hl,_,hc⟩:=nH (d:=(0:Int)) (m:=1) (c:=cI) (fun _=>rfl) i1 rfl hk;rw[eL]at e1;injection e1 with e1;refine⟨g,e1,by omega,(B1.cell (p:=⟨g,k,aj⟩) hl).trans ?_⟩;have:=hc k hk 0 (by decide);simpa[cI]using this
 have SO:=WC w.heap.size a cap ids w1 (by omega) (by omega) (by rw[<-gK];exact(dh.new w _ _).cell 0) IA;have SOR:Hid (∀w',(∃v,w'.ownsRow w1.heap.size 3 1 v ids.length ((ids.mergeSort leI).flatMap cI)/\aN w1.heap.size w1 w')->∃v,Zt f w (ax v) w'):=fun w' ⟨v,h1,h2⟩=>by refine⟨v,v,rfl,?_,B1.trans (h2.mono (by omega))⟩;rw[<-mergeSort_of_perm_i i3,<-li];exact rQ h1 (by omega)
 have VAL:=aA (WT a ids.length cap w);have SOH:Hid (bZ aH 62 #[.func (.func 104) #[] #[au (az ⟨w.heap.size,0,aj⟩)]] w1 fun e w'=>∃v,e=ax v/\Zt f w (ax v) w'):=SO.mono fun e w' ⟨v,h0,h1,h2⟩=>⟨v,h0,by refine⟨v,rfl,?_,B1.trans (h2.mono (by omega))⟩;rw[<-mergeSort_of_perm_i i3,<-li];exact rQ h1 (by omega)⟩;clear SO IA SOR h i1 i2 i3 li eL s1;generalize Zt f w=NW at *;unfold pt;go_enter func19,ntmps19;go_wp2_with (first
  |(go_at_call 63;(with_reducible refine VAL.o.mono ?_);rintro e w' ⟨rfl,hw'⟩;rw[gK]at hw';subst hw')
  |(go_at_call 62;(with_reducible refine SOH.o.mono ?_);rintro e w' ⟨v,rfl,hP⟩;have HP:=aA hP;clear hP))
 exact HP.o
end Go.Proofs.YtnjjkgjdhljfnaaGreat
