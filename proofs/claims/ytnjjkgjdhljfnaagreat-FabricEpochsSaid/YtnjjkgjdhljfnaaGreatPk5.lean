/- Part 5. -/
import Derived.Sort.Grow
import Derived.Test.YtnjjkgjdhljfnaaGreatPk3
open Go.Proofs.Tryz
open Go renaming Value->aI,World->aG
open Go.Ending renaming returned->ax
open Go.IntKind renaming i64->ag
open Go.Lib renaming hid->aA
open Go.Obj renaming cells->af
open Go.Proofs.Tryz renaming prog->aH
open Go.RowKit renaming Hid->aY,intOf->aJ
open Go.RowKit.Below renaming refl->aQ
open Go.Value renaming int->ah,pointer->au,slice->ay
open Int renaming toNat_natCast->cK
open List renaming mem_cons->dG,mem_cons_of_mem->dU,pairwise_cons->uU
open List.Pairwise renaming nil->sJ
open Nat renaming le_refl->aC
open Option renaming none->aj,some->az
set_option maxRecDepth 100000
set_option maxHeartbeats 16000000
set_option linter.unusedVariables false
set_option linter.unusedSimpArgs false
namespace Go.Proofs.YtnjjkgjdhljfnaaGreat
open Go.RowKit Go.Maps
def uE(x y:Int):Int:=if x<y then-1 else if y<x then 1 else 0
def orL:List Int->Int
 |[]=>0
 |x::l=>if x≠0 then x else orL l
theorem Vj(x y:Int)(w:aG):Calls aH 70 #[ah ag x,ah ag y] w fun e w'=>e=ax (ah ag (uE x y))/\w=w':=by
 have q1:(x !=x)=false:=by simp
 have q2:(y !=y)=false:=by simp
 by_cases h1:x<y
 ·have F:aY (uE x y=-1):=by rw[aY];unfold uE;rw[if_pos h1]
  go_enter func70,ntmps70;go_wp2
  go_ret;exact⟨by rw[F.o];rfl,rfl⟩
 ·by_cases h2:y<x
  ·have F:aY (uE x y=1):=by rw[aY];unfold uE;rw[if_neg h1,if_pos h2]
   go_enter func70,ntmps70;go_wp2
   go_ret;exact⟨by rw[F.o];rfl,rfl⟩
  ·have F:aY (uE x y=0):=by rw[aY];unfold uE;rw[if_neg h1,if_neg h2]
   go_enter func70,ntmps70;go_wp2
   go_ret;exact⟨by rw[F.o];rfl,rfl⟩
theorem Wm{l:List Int}{k:Nat}(h:∀x∈l.take k,x=0):orL l=orL (l.drop k):=by
 induction k generalizing l with
 |zero=>rfl
 |succ k ih=>
  cases l with
  |nil=>rfl
  |cons x r=>have hx:x=0:=h x (by simp);have e:orL (x::r)=orL r:=(by rw[orL,if_neg (by simp[hx])]);rw[e,ih (fun y hy=>h y (by simp[hy]))];rfl
def ajc(l:List Int)(i:aI):Prop:=∃k:Nat,k<=l.length/\i=ah ag k/\∀x∈l.take k,x=0
theorem abj(l:List Int)(a:Option Addr)(c:Nat)(w:aG)(hl:l.length<=1000000)(h:gI 1 cI 0 w a l.length l):Calls aH 69 #[ay a l.length c] w fun e w'=>e=ax (ah ag (orL l))/\w=w':=by
 have H:=aA h;clear h;go_enter func69,ntmps69;go_wp2_with fail
 go_loop [8] (fun i=>ajc l i) (fun i=>l.length-(aJ i).toNat)
 case atStart=>exact⟨0,Nat.zero_le _,rfl,by simp⟩
 case round=>
  obtain⟨k,hk,rfl,hall⟩:=hrel;have HA:=aA hall;clear hall;by_cases nI:k<l.length
  ·obtain⟨b1,o1,ha1,hb1,Ps,e1⟩:=oC H.o k nI;have HS:aY (l.getD k 0=0->ajc l (ah ag ((k+1:Nat):Int))):=fun hx=>⟨k+1,by omega,rfl,Ig (d:=0) (P:=fun x=>x=0) nI HA.o hx⟩;have HY:aY (l.getD k 0≠0->orL l=l.getD k 0):=fun hx=>by
    rw[Wm HA.o,List.drop_eq_getElem_cons nI];have e:l.getD k 0=l[k]:=by simp[List.getD,nI]
    rw[e]at hx|-;unfold orL;rw[if_pos hx]
   subst ha1;generalize l.getD k 0=x at *;clear Ps;cases hq:x !=0 with
   |false=>have R:=aA (HS.o (by simpa using hq));clear HS HY;go_wp2_with fail;exact⟨by simpa using R.o,by simp[aJ];omega⟩
   |true=>have F:=aA (HY.o (by simpa using hq));clear HS HY;go_wp2_with fail;go_ret;exact⟨by rw[F.o];rfl,rfl⟩
  ·obtain rfl:k=l.length:=by omega
   have F:aY (orL l=0):=(by rw[aY,Wm HA.o];simp[orL]);go_wp2_with fail;go_ret;exact⟨by rw[F.o];rfl,rfl⟩
def hasB(lv:List Int)(n:Int):Bool:=decide (0<=n)&&decide (n<lv.length)&&decide (0<=GX lv n)
def qI(lv:List Int)(a b:Int):Bool:=hasB lv a&&hasB lv b&&decide (orL [uE (GX lv a) (GX lv b),uE a b]<0)
theorem ZN(lv:List Int)(Al:Option Addr)(cl g:Nat)(n:Int)(w:aG)(hl:lv.length<=1000000)(hc:w.cell? ⟨g,0,aj⟩=az (ay Al lv.length cl))(h:gI 1 cI 0 w Al lv.length lv):Calls aH 149 #[ah ag n,au (az ⟨g,0,aj⟩)] w fun e w'=>e=ax (.bool (hasB lv n))/\w=w':=by
 have HD:aY (hasB lv n=(decide (0<=n)&&decide (n<lv.length)&&decide (0<=GX lv n))):=rfl;by_cases h1:0<=n
 ·by_cases h2:n<lv.length
  ·obtain⟨k,rfl⟩:∃k:Nat,n=k:=⟨n.toNat,by omega⟩;have hk:k<lv.length:=by omega
   obtain⟨b1,o1,ha1,hb1,Ps,e1⟩:=oC h k hk;have HE:aY (GX lv k=lv.getD k 0):=(by rw[aY];unfold GX;rw[cK]);generalize lv.getD k 0=x at *;subst ha1;clear Ps h;cases h3:decide (0<=x)with
   |true=>have F:aY (hasB lv k=true):=(by rw[aY,HD.o,HE.o,decide_eq_true h1,decide_eq_true h2,h3];rfl);clear HD;go_enter func149,ntmps149;go_wp2_with fail;go_ret;exact⟨by rw[F.o];rfl,rfl⟩
   |false=>have F:aY (hasB lv k=false):=(by rw[aY,HD.o,HE.o,decide_eq_true h1,decide_eq_true h2,h3];rfl);clear HD;go_enter func149,ntmps149;go_wp2_with fail;go_ret;exact⟨by rw[F.o];rfl,rfl⟩
  ·have F:aY (hasB lv n=false):=by rw[aY,HD.o,decide_eq_false h2];simp
   clear HD h;go_enter func149,ntmps149;go_wp2_with fail;go_ret;exact⟨by rw[F.o];rfl,rfl⟩
 ·have F:aY (hasB lv n=false):=by rw[aY,HD.o,decide_eq_false h1];simp
  clear HD h;go_enter func149,ntmps149;go_wp2_with fail;go_ret;exact⟨by rw[F.o];rfl,rfl⟩
theorem Ls(lv:List Int)(Al:Option Addr)(cl:Nat)(a b:Int)(w:aG)(hl:lv.length<=1000000)(h:gI 1 cI 0 w Al lv.length lv):Calls aH 118 #[.agg #[ay Al lv.length cl],ah ag a,ah ag b] w fun e w'=>e=ax (.bool (qI lv a b))/\Below w.heap.size w w':=by
 obtain⟨w1,gK⟩:∃w1:aG,w.alloc (af #[ay Al lv.length cl] 169)=w1:=⟨_,rfl⟩;have s0:w1.cell? ⟨w.heap.size,0,aj⟩=az (ay Al lv.length cl):=by rw[<-gK];simp[go_sem]
 have Sk:w.heap.size<w1.heap.size:=by rw[<-gK];simp
 have FO:Below w.heap.size w w1:=by rw[<-gK];exact(aQ _ _).alloc (aC _) _
 have L1:=aA (h.below (aC _) FO);have BW:=aA FO;have Bf:=aA gK;have HD:aY (qI lv a b=(hasB lv a&&hasB lv b&&decide (orL [uE (GX lv a) (GX lv b),uE a b]<0))):=rfl;have ca:=aA (ZN lv Al cl w.heap.size a w1 hl s0 L1.o);have cb:=aA (ZN lv Al cl w.heap.size b w1 hl s0 L1.o);clear h gK FO;cases h1:hasB lv a with
 |false=>
  have F:aY (qI lv a b=false):=by rw[aY,HD.o,h1];rfl
  rw[h1]at ca;clear HD h1;go_enter func118,ntmps118;go_wp2_with fail;rw[Bf.o];refine ca.out.mono ?_;rintro e w' ⟨rfl,rfl⟩;go_wp2_with fail;go_ret;exact⟨by rw[F.o];rfl,BW.o⟩
 |true=>
  cases h2:hasB lv b with
  |false=>have F:aY (qI lv a b=false):=(by rw[aY,HD.o,h2];simp);rw[h1]at ca;rw[h2]at cb;clear HD h1 h2;go_enter func118,ntmps118;go_wp2_with fail;rw[Bf.o];refine ca.out.mono ?_;rintro e w' ⟨rfl,rfl⟩;go_wp2_with fail;refine cb.out.mono ?_;rintro e w' ⟨rfl,rfl⟩;go_wp2_with fail;go_ret;exact⟨by rw[F.o];rfl,BW.o⟩
  |true=>
   have ha:=h1;have hb:=h2;unfold hasB at ha hb;simp only[Bool.and_eq_true,decide_eq_true_eq]at ha hb;obtain⟨i,rfl⟩:∃i:Nat,a=i:=⟨a.toNat,by omega⟩;obtain⟨j,rfl⟩:∃j:Nat,b=j:=⟨b.toNat,by omega⟩;have hi:i<lv.length:=(by omega);have hj:j<lv.length:=(by omega);have i1:(i:Int)<(lv.length:Int):=(by omega);have j1:(j:Int)<(lv.length:Int):=(by omega);have i0:(0:Int)<=(i:Int):=(by omega);have j0:(0:Int)<=(j:Int):=(by omega);obtain⟨bl,ol,hal,hbl,hma,ea⟩:=oC L1.o i hi;obtain⟨bl',ol',TP,_,hmb,eb⟩:=oC L1.o j hj;rw[hal]at TP;injection TP with TP;injection TP with alS alT;subst alS;subst alT;have F:aY (qI lv i j=decide (orL [uE (lv.getD i 0) (lv.getD j 0),uE i j]<0)):=(by rw[aY,HD.o,h1,h2];unfold GX;simp only[cK,Bool.true_and]);rw[h1]at ca;rw[h2]at cb;generalize lv.getD i 0=va at *;generalize lv.getD j 0=vb at *;subst hal;clear HD h1 h2 ha hb hma hmb;have KP:aY (∀w',Below w1.heap.size w1 w'->w'.cell? ⟨w.heap.size,0,aj⟩=az (ay (az ⟨bl,ol,aj⟩) lv.length cl)/\w'.cell? ⟨bl,ol+i,aj⟩=az (ah ag va)/\w'.cell? ⟨bl,ol+j,aj⟩=az (ah ag vb)):=
    fun w' hb=>⟨(hb.cell (by exact Sk)).trans s0,(hb.cell (by exact hbl)).trans ea,(hb.cell (by exact hbl)).trans eb⟩
   have BA:aY (∀o,Below w1.heap.size w1 (w1.alloc o).drew):=fun o=>((aQ _ _).alloc (aC _) _).drew;have RC:aY (gI 1 cI 0 (w1.alloc (af #[ah ag (uE va vb),ah ag (uE i j)] 3)).drew (az ⟨w1.heap.size,0,aj⟩) 2 [uE va vb,uE i j]):=by
    refine⟨rfl,fun _=>⟨_,0,rfl,by simp,fun q r hq hr=>?_⟩⟩;rw[((dh.new w1 3 _).drew).cell];obtain rfl:r=0:=by omega
    match q,hq with
    |0,_=>rfl
    |1,_=>rfl
   go_enter func118,ntmps118;go_wp2_with fail
   rw[Bf.o];refine ca.out.mono ?_;rintro e w' ⟨rfl,rfl⟩;go_wp2_with fail;refine cb.out.mono ?_;rintro e w' ⟨rfl,rfl⟩;go_wp2_with fail;go_region_held3 (fun w'=>w'.cell? ⟨w.heap.size,0,aj⟩=az (ay (az ⟨bl,ol,aj⟩) lv.length cl)/\w'.cell? ⟨bl,ol+i,aj⟩=az (ah ag va)/\w'.cell? ⟨bl,ol+j,aj⟩=az (ah ag vb))
    (first|exact KP.o _ ((aQ _ _).drew)|exact KP.o _ (BA.o _))
    (first
     |(go_at_call 70;refine(Vj _ _ _).mono ?_;rintro e w' ⟨rfl,rfl⟩)
     |(go_at_call 69;refine(abj [uE va vb,uE i j] _ _ _ (by simp) RC.o).mono ?_;rintro e w' ⟨rfl,rfl⟩))
   all_goals
    generalize orL [uE va vb,uE i j]=z at *;go_wp2_with fail;go_ret;exact⟨by rw[F.o];rfl,BW.o.trans ((BA.o _).mono (by omega))⟩
structure Slot where
 v:aI
 e:TypeId
 size:Nat
 n:Nat
 xs:List aI
def apart(s t:Slot):Prop:=∀g,s.v.ownBlock=az g->t.v.ownBlock≠az g
def uD(w:aG)(base:Nat)(S:List Slot):Prop:=
 (∀s∈S,w.ownsRow base s.e s.size s.v s.n s.xs)/\S.Pairwise apart
theorem XC{s t:Slot}(h:apart s t):apart t s:=fun g hg hs=>h g hs hg
section
variable{w w':aG}{base:Nat}{S T:List Slot}{s:Slot}
theorem uD.perm(h:uD w base S)(p:S.Perm T):uD w base T:=
 ⟨fun s hs=>h.1 s (p.mem_iff.2 hs),p.pairwise h.2 (fun{_ _}=>XC)⟩
theorem uD.head(h:uD w base (s::S)):w.ownsRow base s.e s.size s.v s.n s.xs:=h.1 s (List.mem_cons_self ..)
theorem uD.alloc(h:uD w base S)(o:Obj):uD (w.alloc o) base S:=⟨fun s hs=>(h.1 s hs).alloc o,h.2⟩
theorem uD.push(h:uD w base (s::S)){v':aI}{n':Nat}{xs':List aI}(o:w'.ownsRow base s.e s.size v' n' xs')(hg:w.grownBy w' s.v.ownBlock)(hv:v'.ownBlock=s.v.ownBlock\/v'.ownBlock=az w.heap.size):uD w' base (⟨v',s.e,s.size,n',xs'⟩::S):=by
 obtain⟨h1,h2⟩:=h;rw[uU]at h2;refine⟨fun t ht=>?_,?_⟩
 ·rcases dG.1 ht with rfl|ht
  ·exact o
  ·have ho:=h1 t (dU _ ht);refine ho.kept hg ?_;cases hb:t.v.ownBlock with
   |none=>exact .inl rfl
   |some q=>exact .inr (fun e=>h2.1 t ht q e.symm hb)
 ·rw[uU];refine⟨fun t ht g hgv htv=>?_,h2.2⟩;have hvg:v'.ownBlock=az g:=hgv;rcases hv with hv|hv
  ·exact h2.1 t ht g (hv.symm.trans hvg) htv
  ·have:=((h1 t (dU _ ht)).lt g htv).2;rw[hv]at hvg;injection hvg with hvg;omega
theorem uD.empty(h:uD w base S)(e:TypeId)(size:Nat):uD w base (⟨ay aj 0 0,e,size,0,[]⟩::S):=by
 refine⟨fun t ht=>?_,?_⟩
 ·rcases dG.1 ht with rfl|ht
  ·exact World.ownsRow_nil _ _ _ _
  ·exact h.1 t ht
 ·rw[uU];exact⟨fun t ht g hg=>by simp[Value.ownBlock]at hg,h.2⟩
theorem uD.nil(w:aG)(base:Nat):uD w base []:=⟨by simp,sJ⟩
end
abbrev avy:=aI×aI×List Int
def cF(q:avy):List aI:=[q.1,q.2.1]
end Go.Proofs.YtnjjkgjdhljfnaaGreat
