/- Part 5 of the proof of fabricErrors.proved: CCmp CAbove Ring. Several texts in one, blanks struck, what is not used left out. -/
import Derived.Sort.Grow
import Derived.Test.YtnjjkgjdhljfnaaGreatPk3
set_option maxRecDepth 100000
set_option maxHeartbeats 16000000
set_option linter.unusedVariables false
set_option linter.unusedSimpArgs false
namespace Go.Proofs.YtnjjkgjdhljfnaaGreat
open Go.RowKit Go.Maps
def cmpZ(x y:Int):Int:=if x<y then-1 else if y<x then 1 else 0
def orL:List Int→Int
 |[]=>0
 |x::l=>if x≠0 then x else orL l
theorem cmpI_any(x y:Int)(w:World):Calls Tryz.prog 70 #[.int .i64 x,.int .i64 y] w fun e w'=>e=.returned (.int .i64 (cmpZ x y))∧w=w':=by
 have q1:(x !=x)=false:=by simp
 have q2:(y !=y)=false:=by simp
 by_cases h1:x<y
 ·have F:Hid (cmpZ x y=-1):=by rw[Hid];unfold cmpZ;rw[if_pos h1]
  go_enter Tryz.func70,Tryz.ntmps70
  go_wp2
  go_ret
  exact⟨by rw[F.out];rfl,rfl⟩
 ·by_cases h2:y<x
  ·have F:Hid (cmpZ x y=1):=by rw[Hid];unfold cmpZ;rw[if_neg h1,if_pos h2]
   go_enter Tryz.func70,Tryz.ntmps70
   go_wp2
   go_ret
   exact⟨by rw[F.out];rfl,rfl⟩
  ·have F:Hid (cmpZ x y=0):=by rw[Hid];unfold cmpZ;rw[if_neg h1,if_neg h2]
   go_enter Tryz.func70,Tryz.ntmps70
   go_wp2
   go_ret
   exact⟨by rw[F.out];rfl,rfl⟩
theorem orL_zero{l:List Int}{k:Nat}(h:∀x∈l.take k,x=0):orL l=orL (l.drop k):=by
 induction k generalizing l with
 |zero=>rfl
 |succ k ih=>
  cases l with
  |nil=>rfl
  |cons x r=>have hx:x=0:=h x (by simp);have e:orL (x::r)=orL r:=(by rw[orL,if_neg (by simp[hx])]);rw[e,ih (fun y hy=>h y (by simp[hy]))];rfl
def RelOr(l:List Int)(i:Value):Prop:=∃k:Nat,k≤l.length∧i=.int .i64 k∧∀x∈l.take k,x=0
theorem cmpOr_any(l:List Int)(a:Option Addr)(c:Nat)(w:World)(hl:l.length≤1000000)(h:IsRec 1 cI 0 w a l.length l):Calls Tryz.prog 69 #[.slice a l.length c] w fun e w'=>e=.returned (.int .i64 (orL l))∧w=w':=by
 have H:=Lib.hid h;clear h
 go_enter Tryz.func69,Tryz.ntmps69
 go_wp2_with fail
 go_loop [8] (fun i=>RelOr l i) (fun i=>l.length-(RowKit.intOf i).toNat)
 case atStart=>exact⟨0,Nat.zero_le _,rfl,by simp⟩
 case round=>
  obtain⟨k,hk,rfl,hall⟩:=hrel;have HA:=Lib.hid hall;clear hall;by_cases hkr:k<l.length
  ·obtain⟨b1,o1,ha1,hb1,hm1,e1⟩:=int_at H.out k hkr;have HS:Hid (l.getD k 0=0→RelOr l (.int .i64 ((k+1:Nat):Int))):=fun hx=>⟨k+1,by omega,rfl,mem_take_snoc (d:=0) (P:=fun x=>x=0) hkr HA.out hx⟩;have HY:Hid (l.getD k 0≠0→orL l=l.getD k 0):=fun hx=>by
    rw[orL_zero HA.out,List.drop_eq_getElem_cons hkr];have e:l.getD k 0=l[k]:=by simp[List.getD,hkr]
    rw[e]at hx⊢;unfold orL;rw[if_pos hx]
   subst ha1;generalize l.getD k 0=x at *;clear hm1;cases hq:x !=0 with
   |false=>
    have R:=Lib.hid (HS.out (by simpa using hq));clear HS HY
    go_wp2_with fail
    exact⟨by simpa using R.out,by simp[RowKit.intOf];omega⟩
   |true=>
    have F:=Lib.hid (HY.out (by simpa using hq));clear HS HY
    go_wp2_with fail
    go_ret
    exact⟨by rw[F.out];rfl,rfl⟩
  ·obtain rfl:k=l.length:=by omega
   have F:Hid (orL l=0):=by rw[Hid,orL_zero HA.out];simp[orL]
   go_wp2_with fail
   go_ret
   exact⟨by rw[F.out];rfl,rfl⟩
def hasB(lv:List Int)(n:Int):Bool:=decide (0≤n)&&decide (n<lv.length)&&decide (0≤lvAt lv n)
def aboveB(lv:List Int)(a b:Int):Bool:=hasB lv a&&hasB lv b&&decide (orL [cmpZ (lvAt lv a) (lvAt lv b),cmpZ a b]<0)
theorem has_any(lv:List Int)(Al:Option Addr)(cl g:Nat)(n:Int)(w:World)(hl:lv.length≤1000000)(hc:w.cell? ⟨g,0,none⟩=some (.slice Al lv.length cl))(h:IsRec 1 cI 0 w Al lv.length lv):Calls Tryz.prog 149 #[.int .i64 n,.pointer (some ⟨g,0,none⟩)] w fun e w'=>e=.returned (.bool (hasB lv n))∧w=w':=by
 have HD:Hid (hasB lv n=(decide (0≤n)&&decide (n<lv.length)&&decide (0≤lvAt lv n))):=rfl;by_cases h1:0≤n
 ·by_cases h2:n<lv.length
  ·obtain⟨k,rfl⟩:∃k:Nat,n=k:=⟨n.toNat,by omega⟩;have hk:k<lv.length:=by omega
   obtain⟨b1,o1,ha1,hb1,hm1,e1⟩:=int_at h k hk;have HE:Hid (lvAt lv k=lv.getD k 0):=(by rw[Hid];unfold lvAt;rw[Int.toNat_natCast]);generalize lv.getD k 0=x at *;subst ha1;clear hm1 h;cases h3:decide (0≤x)with
   |true=>
    have F:Hid (hasB lv k=true):=(by rw[Hid,HD.out,HE.out,decide_eq_true h1,decide_eq_true h2,h3];rfl);clear HD
    go_enter Tryz.func149,Tryz.ntmps149
    go_wp2_with fail
    go_ret
    exact⟨by rw[F.out];rfl,rfl⟩
   |false=>
    have F:Hid (hasB lv k=false):=(by rw[Hid,HD.out,HE.out,decide_eq_true h1,decide_eq_true h2,h3];rfl);clear HD
    go_enter Tryz.func149,Tryz.ntmps149
    go_wp2_with fail
    go_ret
    exact⟨by rw[F.out];rfl,rfl⟩
  ·have F:Hid (hasB lv n=false):=by rw[Hid,HD.out,decide_eq_false h2];simp
   clear HD h
   go_enter Tryz.func149,Tryz.ntmps149
   go_wp2_with fail
   go_ret
   exact⟨by rw[F.out];rfl,rfl⟩
 ·have F:Hid (hasB lv n=false):=by rw[Hid,HD.out,decide_eq_false h1];simp
  clear HD h
  go_enter Tryz.func149,Tryz.ntmps149
  go_wp2_with fail
  go_ret
  exact⟨by rw[F.out];rfl,rfl⟩
theorem above_any(lv:List Int)(Al:Option Addr)(cl:Nat)(a b:Int)(w:World)(hl:lv.length≤1000000)(h:IsRec 1 cI 0 w Al lv.length lv):Calls Tryz.prog 118 #[.agg #[.slice Al lv.length cl],.int .i64 a,.int .i64 b] w fun e w'=>e=.returned (.bool (aboveB lv a b))∧Below w.heap.size w w':=by
 obtain⟨w1,hw1⟩:∃w1:World,w.alloc (.cells #[.slice Al lv.length cl] 169)=w1:=⟨_,rfl⟩;have s0:w1.cell? ⟨w.heap.size,0,none⟩=some (.slice Al lv.length cl):=by rw[←hw1];simp[go_sem]
 have sz1:w.heap.size<w1.heap.size:=by rw[←hw1];simp
 have BW0:Below w.heap.size w w1:=by rw[←hw1];exact(Below.refl _ _).alloc (Nat.le_refl _) _
 have L1:=Lib.hid (h.below (Nat.le_refl _) BW0);have BW:=Lib.hid BW0;have HW1:=Lib.hid hw1;have HD:Hid (aboveB lv a b=(hasB lv a&&hasB lv b&&decide (orL [cmpZ (lvAt lv a) (lvAt lv b),cmpZ a b]<0))):=rfl;have ca:=Lib.hid (has_any lv Al cl w.heap.size a w1 hl s0 L1.out);have cb:=Lib.hid (has_any lv Al cl w.heap.size b w1 hl s0 L1.out);clear h hw1 BW0;cases h1:hasB lv a with
 |false=>
  have F:Hid (aboveB lv a b=false):=by rw[Hid,HD.out,h1];rfl
  rw[h1]at ca;clear HD h1
  go_enter Tryz.func118,Tryz.ntmps118
  go_wp2_with fail
  rw[HW1.out];refine ca.out.mono ?_;rintro e w' ⟨rfl,rfl⟩
  go_wp2_with fail
  go_ret
  exact⟨by rw[F.out];rfl,BW.out⟩
 |true=>
  cases h2:hasB lv b with
  |false=>
   have F:Hid (aboveB lv a b=false):=(by rw[Hid,HD.out,h2];simp);rw[h1]at ca;rw[h2]at cb;clear HD h1 h2
   go_enter Tryz.func118,Tryz.ntmps118
   go_wp2_with fail
   rw[HW1.out];refine ca.out.mono ?_;rintro e w' ⟨rfl,rfl⟩
   go_wp2_with fail
   refine cb.out.mono ?_;rintro e w' ⟨rfl,rfl⟩
   go_wp2_with fail
   go_ret
   exact⟨by rw[F.out];rfl,BW.out⟩
  |true=>
   have ha:=h1;have hb:=h2;unfold hasB at ha hb;simp only[Bool.and_eq_true,decide_eq_true_eq]at ha hb;obtain⟨i,rfl⟩:∃i:Nat,a=i:=⟨a.toNat,by omega⟩;obtain⟨j,rfl⟩:∃j:Nat,b=j:=⟨b.toNat,by omega⟩;have hi:i<lv.length:=(by omega);have hj:j<lv.length:=(by omega);have i1:(i:Int)<(lv.length:Int):=(by omega);have j1:(j:Int)<(lv.length:Int):=(by omega);have i0:(0:Int)≤(i:Int):=(by omega);have j0:(0:Int)≤(j:Int):=(by omega);obtain⟨bl,ol,hal,hbl,hma,ea⟩:=int_at L1.out i hi;obtain⟨bl',ol',hal',_,hmb,eb⟩:=int_at L1.out j hj;rw[hal]at hal';injection hal' with hal';injection hal' with hal1 hal2;subst hal1;subst hal2;have F:Hid (aboveB lv i j=decide (orL [cmpZ (lv.getD i 0) (lv.getD j 0),cmpZ i j]<0)):=(by rw[Hid,HD.out,h1,h2];unfold lvAt;simp only[Int.toNat_natCast,Bool.true_and]);rw[h1]at ca;rw[h2]at cb;generalize lv.getD i 0=va at *;generalize lv.getD j 0=vb at *;subst hal;clear HD h1 h2 ha hb hma hmb;have KP:Hid (∀w',Below w1.heap.size w1 w'→w'.cell? ⟨w.heap.size,0,none⟩=some (.slice (some ⟨bl,ol,none⟩) lv.length cl)∧w'.cell? ⟨bl,ol+i,none⟩=some (.int .i64 va)∧w'.cell? ⟨bl,ol+j,none⟩=some (.int .i64 vb)):=
    fun w' hb=>⟨(hb.cell (by exact sz1)).trans s0,(hb.cell (by exact hbl)).trans ea,(hb.cell (by exact hbl)).trans eb⟩
   have BA:Hid (∀o,Below w1.heap.size w1 (w1.alloc o).drew):=fun o=>((Below.refl _ _).alloc (Nat.le_refl _) _).drew;have RC:Hid (IsRec 1 cI 0 (w1.alloc (.cells #[.int .i64 (cmpZ va vb),.int .i64 (cmpZ i j)] 3)).drew (some ⟨w1.heap.size,0,none⟩) 2 [cmpZ va vb,cmpZ i j]):=by
    refine⟨rfl,fun _=>⟨_,0,rfl,by simp,fun q r hq hr=>?_⟩⟩;rw[((Blk.new w1 3 _).drew).cell];obtain rfl:r=0:=by omega
    match q,hq with
    |0,_=>rfl
    |1,_=>rfl
   go_enter Tryz.func118,Tryz.ntmps118
   go_wp2_with fail
   rw[HW1.out];refine ca.out.mono ?_;rintro e w' ⟨rfl,rfl⟩
   go_wp2_with fail
   refine cb.out.mono ?_;rintro e w' ⟨rfl,rfl⟩
   go_wp2_with fail
   go_region_held3 (fun w'=>w'.cell? ⟨w.heap.size,0,none⟩=some (.slice (some ⟨bl,ol,none⟩) lv.length cl)∧w'.cell? ⟨bl,ol+i,none⟩=some (.int .i64 va)∧w'.cell? ⟨bl,ol+j,none⟩=some (.int .i64 vb))
    (first|exact KP.out _ ((Below.refl _ _).drew)|exact KP.out _ (BA.out _))
    (first
     |(go_at_call 70;refine(cmpI_any _ _ _).mono ?_;rintro e w' ⟨rfl,rfl⟩)
     |(go_at_call 69;refine(cmpOr_any [cmpZ va vb,cmpZ i j] _ _ _ (by simp) RC.out).mono ?_;rintro e w' ⟨rfl,rfl⟩))
   all_goals
    generalize orL [cmpZ va vb,cmpZ i j]=z at *
    go_wp2_with fail
    go_ret
    exact⟨by rw[F.out];rfl,BW.out.trans ((BA.out _).mono (by omega))⟩
structure Slot where
 v:Value
 e:TypeId
 size:Nat
 n:Nat
 xs:List Value
def apart(s t:Slot):Prop:=∀g,s.v.ownBlock=some g→t.v.ownBlock≠some g
def Slots(w:World)(base:Nat)(S:List Slot):Prop:=
 (∀s∈S,w.ownsRow base s.e s.size s.v s.n s.xs)∧S.Pairwise apart
theorem apart_symm{s t:Slot}(h:apart s t):apart t s:=fun g hg hs=>h g hs hg
section
variable{w w':World}{base:Nat}{S T:List Slot}{s:Slot}
theorem Slots.perm(h:Slots w base S)(p:S.Perm T):Slots w base T:=
 ⟨fun s hs=>h.1 s (p.mem_iff.2 hs),p.pairwise h.2 (fun{_ _}=>apart_symm)⟩
theorem Slots.head(h:Slots w base (s::S)):w.ownsRow base s.e s.size s.v s.n s.xs:=h.1 s (List.mem_cons_self ..)
theorem Slots.alloc(h:Slots w base S)(o:Obj):Slots (w.alloc o) base S:=⟨fun s hs=>(h.1 s hs).alloc o,h.2⟩
theorem Slots.push(h:Slots w base (s::S)){v':Value}{n':Nat}{xs':List Value}(o:w'.ownsRow base s.e s.size v' n' xs')(hg:w.grownBy w' s.v.ownBlock)(hv:v'.ownBlock=s.v.ownBlock∨v'.ownBlock=some w.heap.size):Slots w' base (⟨v',s.e,s.size,n',xs'⟩::S):=by
 obtain⟨h1,h2⟩:=h;rw[List.pairwise_cons]at h2;refine⟨fun t ht=>?_,?_⟩
 ·rcases List.mem_cons.1 ht with rfl|ht
  ·exact o
  ·have ho:=h1 t (List.mem_cons_of_mem _ ht);refine ho.kept hg ?_;cases hb:t.v.ownBlock with
   |none=>exact .inl rfl
   |some q=>exact .inr (fun e=>h2.1 t ht q e.symm hb)
 ·rw[List.pairwise_cons];refine⟨fun t ht g hgv htv=>?_,h2.2⟩;have hvg:v'.ownBlock=some g:=hgv;rcases hv with hv|hv
  ·exact h2.1 t ht g (hv.symm.trans hvg) htv
  ·have:=((h1 t (List.mem_cons_of_mem _ ht)).lt g htv).2;rw[hv]at hvg;injection hvg with hvg;omega
theorem Slots.empty(h:Slots w base S)(e:TypeId)(size:Nat):Slots w base (⟨.slice none 0 0,e,size,0,[]⟩::S):=by
 refine⟨fun t ht=>?_,?_⟩
 ·rcases List.mem_cons.1 ht with rfl|ht
  ·exact World.ownsRow_nil _ _ _ _
  ·exact h.1 t ht
 ·rw[List.pairwise_cons];exact⟨fun t ht g hg=>by simp[Value.ownBlock]at hg,h.2⟩
theorem Slots.nil(w:World)(base:Nat):Slots w base []:=⟨by simp,List.Pairwise.nil⟩
end
abbrev Fin2:=Value×Value×List Int
def cF(q:Fin2):List Value:=[q.1,q.2.1]
end Go.Proofs.YtnjjkgjdhljfnaaGreat
