/- Part 14 of the proof of fabricErrors.proved: FbSo FbSp. Several texts in one, blanks struck, what is not used left out. -/
import Derived.IntWalk
import Derived.Test.YtnjjkgjdhljfnaaGreatPk1
import Derived.Test.YtnjjkgjdhljfnaaGreatPk5
import Derived.Test.YtnjjkgjdhljfnaaGreatPk12
set_option maxRecDepth 100000
set_option maxHeartbeats 16000000
set_option linter.unusedVariables false
set_option linter.unusedSimpArgs false
namespace Go.Proofs.YtnjjkgjdhljfnaaGreat
open Go.RowKit Go.Maps
attribute [local go_sem ↓] Go.wp_at_zero Go.wp_at_succ
abbrev Fw:=(Nat×Fm)×Value
def fw0:Fw:=((0,default),.slice none 0 0)
structure OF(w0:World)(g cap n:Nat)(D:List Fw)(w:World):Prop where
 own:w.ownsRow 0 122 7 (.slice (some ⟨g,0,none⟩) n cap) n (D.flatMap cFl)
 ch:Ch (· =g) w0 w
section
variable{w0 w w':World}{g cap n:Nat}{D:List Fw}
theorem OF.len(h:OF w0 g cap n D w):D.length=n:=by
 have h1:=h.own.1;have e:∀l:List Fw,(l.flatMap cFl).length=l.length*7:=fun l=>by
  induction l with
  |nil=>rfl
  |cons x l ih=>rw[List.flatMap_cons,List.length_append,ih,List.length_cons];show 7+_=_;omega
 rw[e]at h1;omega
theorem OF.blk(h:OF w0 g cap n D w):∃cur,Blk w g 122 cur∧cur.toList.take (n*7)=D.flatMap cFl:=by
 obtain⟨h1,⟨h2,_⟩|⟨g',cap',cur,h2,hb,hg,hn,hc,hs,ht⟩⟩:=h.own
 ·injection h2 with h2;cases h2
 ·injection h2 with h2 _ h3;injection h2 with h2;injection h2 with h2;subst h2;exact⟨cur,hg,ht⟩
theorem OF.cellJ(h:OF w0 g cap n D w){i j:Nat}(hi:i<n)(hj:j<7):w.cell? ⟨g,i*7+j,none⟩=(cFl (D.getD i fw0))[j]?∧w.frozen? ⟨g,i*7+j,none⟩=false:=by obtain⟨cur,hb,ht⟩:=h.blk;have hl:=h.len;refine⟨?_,hb.frozen _⟩;rw[hb.cell,←Array.getElem?_toList,←flatG_at (d:=fw0) (m:=7) (c:=cFl) (fun x=>cFl_length x) D i j (by omega) hj,←ht,List.getElem?_take,if_pos (by omega)]
theorem own_setF{xs:List Value}(h:w.ownsRow 0 122 7 (.slice (some ⟨g,0,none⟩) n cap) n xs)(i:Nat)(u:Value):(w.setCell ⟨g,i,none⟩ u).ownsRow 0 122 7 (.slice (some ⟨g,0,none⟩) n cap) n (xs.set i u):=by
 obtain⟨h1,⟨h2,_⟩|⟨g',cap',cur,h2,hb,hg,hn,hc,hs,ht⟩⟩:=h
 ·injection h2 with h2;cases h2
 ·injection h2 with h2 _ h3;injection h2 with h2;injection h2 with h2;subst h2;subst h3;refine⟨by rw[List.length_set];exact h1,.inr ⟨g,cap,cur.setIfInBounds i u,rfl,hb,(show Blk w g 122 cur from hg).set_ i u,hn,hc,by simpa using hs,?_⟩⟩;rw[Array.toList_setIfInBounds,List.take_set,ht]
theorem flatF_set(l:List Fw)(i:Nat)(x:Fw)(hi:i<l.length)(v0 v1 v2 v3 v4 v5 v6:Value)(e:cFl x=[v0,v1,v2,v3,v4,v5,v6]):(((((((l.flatMap cFl).set (i*7) v0).set (i*7+1) v1).set (i*7+2) v2).set (i*7+3) v3).set (i*7+4) v4).set (i*7+5) v5).set (i*7+6) v6=(l.set i x).flatMap cFl:=by
 induction l generalizing i with
 |nil=>cases hi
 |cons y l ih=>
  cases i with
  |zero=>rw[List.set_cons_zero,List.flatMap_cons,List.flatMap_cons,e];rfl
  |succ i=>have:=ih i (by simpa using hi);rw[List.set_cons_succ,List.flatMap_cons,List.flatMap_cons,←this];rw[show(i+1)*7=(cFl y).length+i*7 by rw[cFl_length];omega];simp only[Nat.add_assoc];rw[List.set_append_right _ _ (by omega),List.set_append_right _ _ (by omega),List.set_append_right _ _ (by omega),List.set_append_right _ _ (by omega),List.set_append_right _ _ (by omega),List.set_append_right _ _ (by omega),List.set_append_right _ _ (by omega)];simp
theorem OF.set7(h:OF w0 g cap n D w){i:Nat}(hi:i<n)(x:Fw)(v0 v1 v2 v3 v4 v5 v6:Value)(e:cFl x=[v0,v1,v2,v3,v4,v5,v6]):OF w0 g cap n (D.set i x) (((((((w.setCell ⟨g,i*7,none⟩ v0).setCell ⟨g,i*7+1,none⟩ v1).setCell ⟨g,i*7+2,none⟩ v2).setCell ⟨g,i*7+3,none⟩ v3).setCell ⟨g,i*7+4,none⟩ v4).setCell ⟨g,i*7+5,none⟩ v5).setCell ⟨g,i*7+6,none⟩ v6):=by refine⟨?_,((((((h.ch.setCell (.inl rfl) _).setCell (.inl rfl) _).setCell (.inl rfl) _).setCell (.inl rfl) _).setCell (.inl rfl) _).setCell (.inl rfl) _).setCell (.inl rfl) _⟩;have h1:=own_setF (own_setF (own_setF (own_setF (own_setF (own_setF (own_setF h.own (i*7) v0) (i*7+1) v1) (i*7+2) v2) (i*7+3) v3) (i*7+4) v4) (i*7+5) v5) (i*7+6) v6;rw[flatF_set D i x (by rw[h.len];exact hi) v0 v1 v2 v3 v4 v5 v6 e]at h1;exact h1
theorem OF.below(h:OF w0 g cap n D w)(hb:Below w.heap.size w w'):OF w0 g cap n D w':=
 ⟨own_ch h.own (Ch.of_below (S:=fun _=>False) hb) (fun _ _ q=>q),h.ch.thenBelow hb⟩
theorem OF.drew(h:OF w0 g cap n D w):OF w0 g cap n D w.drew:=⟨h.own,h.ch.drew⟩
theorem OF.drewN(h:OF w0 g cap n D w)(q:Nat):OF w0 g cap n D (w.drewN q):=⟨h.own,h.ch.drewN q⟩
end
def kC(x:Fw):Int:=x.1.1
def cmpV:Value:=.func (.func 96) #[] #[]
theorem arr1_any(c0 i0 a0 b0 l0 e0 c1 i1 a1 b1 l1 e1:Int)(u v:Value)(w:World)(hu:∃a n c,u=.slice a n c)(hv:∃a n c,v=.slice a n c):Calls Tryz.prog 96 #[.agg #[.int .i64 c0,.int .i64 i0,.int .i64 a0,.int .i64 b0,.int .i64 l0,.int .i64 e0,u],.agg #[.int .i64 c1,.int .i64 i1,.int .i64 a1,.int .i64 b1,.int .i64 l1,.int .i64 e1,v]] w fun e w'=>e=.returned (.int .i64 (cmpZ c0 c1))∧Below w.heap.size w w':=by
 obtain⟨ua,un,uc,rfl⟩:=hu;obtain⟨va,vn,vc,rfl⟩:=hv;have B:Hid (Below w.heap.size w ((w.alloc (.cells #[.int .i64 c0,.int .i64 i0,.int .i64 a0,.int .i64 b0,.int .i64 l0,.int .i64 e0,.slice ua un uc] 122)).alloc (.cells #[.int .i64 c1,.int .i64 i1,.int .i64 a1,.int .i64 b1,.int .i64 l1,.int .i64 e1,.slice va vn vc] 122))):=((Below.refl _ _).alloc (Nat.le_refl _) _).alloc (by simp) _;have CZ:=fun w'=>cmpI_any c0 c1 w';have CH:=Lib.hid CZ;clear CZ
 go_enter Tryz.func96,Tryz.ntmps96
 go_wp2_with (first|(go_at_call 70;refine(CH.out _).mono ?_;rintro e w5 ⟨rfl,rfl⟩))
 go_ret
 exact⟨rfl,B.out⟩
theorem cmpZ_neg{x y:Int}:cmpZ x y<0↔x<y:=by
 unfold cmpZ;split
 ·simp;omega
 ·split<;>simp<;>omega
theorem sw_adjF(L1 L2:List Fw)(z x:Fw):((L1++z::x::L2).set (L1.length+1) z).set L1.length x=L1++x::z::L2:=by simp
theorem snoc_of{α:Type}{l:List α}(h:l≠[]):∃m z,l=m++[z]:=⟨l.dropLast,l.getLast h,(List.dropLast_concat_getLast h).symm⟩
theorem drop_consF{α:Type}(d:α){l:List α}{k:Nat}(h:k<l.length):l.drop k=l.getD k d::l.drop (k+1):=by rw[List.drop_eq_getElem_cons h];simp[List.getD,h]
def SlF(D:List Fw):Prop:=∀x∈D,∃a n c,x.2=.slice a n c
def RelI0(w0:World)(g cap n a:Nat)(P A R:List Fw)(i:Value)(wr:World):Prop:=
 ∃(k:Nat) (S:List Fw),1≤k∧(k=1∨k≤A.length)∧i=.int .i64 ((a+k:Nat):Int)∧SrtK kC S∧Stb kC (A.take k) S∧OF w0 g cap n (P++S++A.drop k++R) wr
def RelI1(w0:World)(g cap n a:Nat)(P S:List Fw)(x:Fw)(R:List Fw)(j:Value)(wr:World):Prop:=
 ∃S1 S2:List Fw,S=S1++S2∧j=.int .i64 ((a+S1.length:Nat):Int)∧(∀y∈S2,kC x<kC y)∧OF w0 g cap n (P++S1++x::S2++R) wr
theorem insF_any(w0:World)(g cap n a b:Nat)(P A R:List Fw)(w:World)(hn:n≤1000)(ha:a=P.length)(hb:b=P.length+A.length)(hs:SlF (P++A++R))(h:OF w0 g cap n (P++A++R) w):Calls Tryz.prog 150 #[.slice (some ⟨g,0,none⟩) n cap,.int .i64 (a:Int),.int .i64 (b:Int),cmpV] w fun e w'=>e=.returned (.tuple #[])∧∃S,SrtK kC S∧Stb kC A S∧OF w0 g cap n (P++S++R) w':=by
 have ST:Hid (RelI0 w0 g cap n a P A R (.int .i64 ((a:Int)+1)) w):=⟨1,A.take 1,Nat.le_refl _,.inl rfl,rfl,by
  cases A with
  |nil=>exact List.Pairwise.nil
  |cons x l=>exact List.pairwise_singleton _ _,Stb.refl _,by rw[List.append_assoc P,List.take_append_drop];exact h⟩
 have hl:=h.len;simp only[List.length_append]at hl;have HL:=Lib.hid hl;have HA:=Lib.hid ha;have HBb:=Lib.hid hb;have SMA:Hid (∀x∈A,∃a n c,x.2=.slice a n c):=fun x hx=>hs x (by simp[hx]);have an:a+1≤2000:=by omega
 have e0:IntKind.i64.wrap ((a:Int)+1)=(a:Int)+1:=IntWalk.i64_in _ (by omega);clear h hl ha hb hs
 go_enter Tryz.func150,Tryz.ntmps150
 unfold cmpV
 go_wp2_with fail
 clear e0
 go_loopw [8] (fun i wr=>RelI0 w0 g cap n a P A R i wr) (fun i _=>b+1-(RowKit.intOf i).toNat)
 case atStart=>exact ST.out
 case round=>
  clear ST;obtain⟨k,S,hk1,hk2,rfl,hsr,hst,hod⟩:=hrel;have OW:=Lib.hid hod;have SR:=Lib.hid hsr;have SB:=Lib.hid hst;clear hod hsr hst;by_cases hkr:k<A.length
  ·have slen:S.length=k:=by have:=SB.out.length;rw[List.length_take]at this;omega
   have SLN:=Lib.hid slen;have hdr:A.drop k=A.getD k fw0::A.drop (k+1):=drop_consF fw0 hkr;have hxm:A.getD k fw0∈A:=(by simp[List.getD,hkr]);have SMX:=Lib.hid (SMA.out _ hxm);have TK:Hid (A.take (k+1)=A.take k++[A.getD k fw0]):=take_snocG fw0 A k hkr;have SMS:Hid (∀y∈S,∃a n c,y.2=.slice a n c):=fun y hy=>SMA.out y (List.mem_of_mem_take (SB.out.mem.1 hy));have NX0:Hid (∀(S':List Fw) wq,SrtK kC S'→Stb kC (S++[A.getD k fw0]) S'→OF w0 g cap n (P++S'++(A.drop (k+1)++R)) wq→RelI0 w0 g cap n a P A R (.int .i64 ((a+k:Nat)+1:Int)) wq):=fun S' wq h1 h2 h3=>
    ⟨k+1,S',by omega,.inr (by omega),by congr 1,h1,by rw[TK.out];exact(SB.out.app (Stb.refl _)).trans h2,by simpa using h3⟩
   have hod2:OF w0 g cap n (P++S++A.getD k fw0::[]++(A.drop (k+1)++R)) wr:=(by have:=OW.out;rw[hdr]at this;simpa using this);have kb:((a+k:Nat):Int)<(b:Int):=(by have:=HBb.out;have:=HA.out;omega);have akn:a+k<n:=(by have:=HL.out;have:=HA.out;omega);generalize A.getD k fw0=x at *;have ST1:Hid (RelI1 w0 g cap n a P S x (A.drop (k+1)++R) (.int .i64 ((a+k:Nat):Int)) wr):=⟨S,[],by simp,by rw[SLN.out],by simp,hod2⟩;generalize A.drop (k+1)++R=R2 at *;obtain⟨i,hi⟩:∃i,a+k=i:=⟨_,rfl⟩;rw[hi]at ST1 NX0 kb akn⊢;clear hdr hxm hod2 slen OW
   go_wp2_with fail
   go_loopw [9] (fun j wr=>RelI1 w0 g cap n a P S x R2 j wr) (fun j _=>(RowKit.intOf j).toNat)
   case atStart=>exact ST1.out
   case round=>
    clear ST1;obtain⟨S1,S2,hS,rfl,hgt,hod⟩:=hrel;have OW:=Lib.hid hod;have HS:=Lib.hid hS;have HG:=Lib.hid hgt;clear hod hS hgt;have hs1k:S1.length≤k:=by have:=SLN.out;rw[HS.out,List.length_append]at this;omega
    by_cases hne:S1=[]
    ·have F:Hid (∀q,RelI0 w0 g cap n a P A R (.int .i64 ((i:Int)+1)) (wr.drewN q)):=fun q=>by
      have h1:=ins_ok (key:=kC) (S1:=[]) (S2:=S2) (x:=x) (by have:=SR.out;rw[HS.out,hne]at this;exact this) (by simp) HG.out;refine NX0.out (x::S2) _ h1.1 ?_ ?_
      ·rw[HS.out,hne];exact h1.2
      ·have:=OW.out.drewN q;rw[hne]at this;simpa using this
     subst hne;have ng:¬(a:Int)<((a+([]:List Fw).length:Nat):Int):=by simp
     simp only[List.length_nil,Nat.add_zero]at ng⊢;clear OW NX0 HS HG
     go_wp2_with fail
     go_quiet (fail)
     go_wp2_with fail
     exact⟨by simpa using F.out _,by simp[RowKit.intOf];omega⟩
    ·obtain⟨T,z,hT⟩:=snoc_of hne;subst hT;obtain⟨q,hq⟩:∃q,a+T.length=q:=⟨_,rfl⟩;have hj:a+(T++[z]).length=q+1:=(by rw[List.length_append,List.length_singleton];omega);rw[hj];have eD:P++(T++[z])++x::S2++R2=(P++T)++z::x::(S2++R2):=(by simp);have eL:(P++T).length=q:=(by rw[List.length_append,←HA.out];exact hq);have OW1:Hid (OF w0 g cap n ((P++T)++z::x::(S2++R2)) wr):=(by rw[Hid,←eD];exact OW.out);have hqn:q+1<n:=by
      have:=OW1.out.len;rw[List.length_append,eL]at this;simp at this;omega
     have GQ:((P++T)++z::x::(S2++R2)).getD q fw0=z:=(by rw[←eL];simp[List.getD]);have GP:((P++T)++z::x::(S2++R2)).getD (q+1) fw0=x:=(by rw[show q+1=(P++T++[z]).length by rw[List.length_append,eL,List.length_singleton],show(P++T)++z::x::(S2++R2)=(P++T++[z])++x::(S2++R2) by simp];simp[List.getD]);have SW1:Hid ((((P++T)++z::x::(S2++R2)).set (q+1) z).set q x=(P++T)++x::z::(S2++R2)):=(by rw[Hid,←eL];exact sw_adjF _ _ _ _);have SMZ:=SMS.out z (by rw[HS.out];simp);have FIN:Hid (¬kC x<kC z→∀wq,OF w0 g cap n ((P++T)++z::x::(S2++R2)) wq→RelI0 w0 g cap n a P A R (.int .i64 ((i:Int)+1)) wq):=fun hle wq ho=>by
      have hsrt:=SR.out;rw[HS.out]at hsrt;have hTz:=(SrtK.app.1 hsrt).1;have h1:=ins_ok (key:=kC) (S1:=T++[z]) (S2:=S2) (x:=x) hsrt (fun y hy=>by
       have h3:kC y≤kC z:=by
        rcases List.mem_append.1 hy with r|r
        ·exact(SrtK.app.1 hTz).2.2 y r z (by simp)
        ·rw[List.mem_singleton]at r;subst r;exact Int.le_refl _
       omega) HG.out
      refine NX0.out ((T++[z])++x::S2) _ h1.1 ?_ ?_
      ·rw[HS.out];exact h1.2
      ·simpa using ho
     have NXT:Hid (kC x<kC z→∀wq,OF w0 g cap n ((P++T)++x::z::(S2++R2)) wq→RelI1 w0 g cap n a P S x R2 (.int .i64 (q:Int)) wq):=fun hlt wq ho=>
      ⟨T,z::S2,by rw[HS.out];simp,by rw[hq],fun y hy=>by
       rcases List.mem_cons.1 hy with rfl|hy
       ·exact hlt
       ·exact HG.out y hy,by simpa using ho⟩
     obtain⟨⟨xc,xi,xf,xt,xl,xe,xd⟩,xv⟩:=x;obtain⟨⟨zc,zi,zf,zt,zl,ze,zd⟩,zv⟩:=z;obtain⟨xa,xn,xk,rfl⟩:∃a n c,xv=Value.slice a n c:=SMX.out;obtain⟨za,zn,zk,rfl⟩:∃a n c,zv=Value.slice a n c:=SMZ;have BC:Hid (∀w',Below wr.heap.size wr w'→Calls Tryz.prog 96 #[.agg #[.int .i64 xc,.int .i64 xi,.int .i64 xf,.int .i64 xt,.int .i64 xl,.int .i64 xe,.slice xa xn xk],.agg #[.int .i64 zc,.int .i64 zi,.int .i64 zf,.int .i64 zt,.int .i64 zl,.int .i64 ze,.slice za zn zk]] w' fun e w''=>e=.returned (.int .i64 (cmpZ xc zc))∧Below wr.heap.size wr w''):=fun w' hb=>(arr1_any xc xi xf xt xl xe zc zi zf zt zl ze _ _ w' ⟨xa,xn,xk,rfl⟩ ⟨za,zn,zk,rfl⟩).mono fun e w'' h=>⟨h.1,hb.trans (h.2.mono hb.size)⟩;have CG:Hid (∀wq,OF w0 g cap n ((P++T)++((zc,⟨zi,zf,zt,zl,ze,zd⟩),Value.slice za zn zk)::((xc,⟨xi,xf,xt,xl,xe,xd⟩),Value.slice xa xn xk)::(S2++R2)) wq→((wq.cell? ⟨g,q*7,none⟩=some (.int .i64 zc)∧wq.cell? ⟨g,q*7+1,none⟩=some (.int .i64 zi)∧wq.cell? ⟨g,q*7+2,none⟩=some (.int .i64 zf)∧wq.cell? ⟨g,q*7+3,none⟩=some (.int .i64 zt)∧wq.cell? ⟨g,q*7+4,none⟩=some (.int .i64 zl)∧wq.cell? ⟨g,q*7+5,none⟩=some (.int .i64 ze)∧wq.cell? ⟨g,q*7+6,none⟩=some (.slice za zn zk))∧wq.cell? ⟨g,(q+1)*7,none⟩=some (.int .i64 xc)∧wq.cell? ⟨g,(q+1)*7+1,none⟩=some (.int .i64 xi)∧wq.cell? ⟨g,(q+1)*7+2,none⟩=some (.int .i64 xf)∧wq.cell? ⟨g,(q+1)*7+3,none⟩=some (.int .i64 xt)∧wq.cell? ⟨g,(q+1)*7+4,none⟩=some (.int .i64 xl)∧wq.cell? ⟨g,(q+1)*7+5,none⟩=some (.int .i64 xe)∧wq.cell? ⟨g,(q+1)*7+6,none⟩=some (.slice xa xn xk))∧(wq.frozen? ⟨g,q*7,none⟩=false∧wq.frozen? ⟨g,q*7+1,none⟩=false∧wq.frozen? ⟨g,q*7+2,none⟩=false∧wq.frozen? ⟨g,q*7+3,none⟩=false∧wq.frozen? ⟨g,q*7+4,none⟩=false∧wq.frozen? ⟨g,q*7+5,none⟩=false∧wq.frozen? ⟨g,q*7+6,none⟩=false)∧wq.frozen? ⟨g,(q+1)*7,none⟩=false∧wq.frozen? ⟨g,(q+1)*7+1,none⟩=false∧wq.frozen? ⟨g,(q+1)*7+2,none⟩=false∧wq.frozen? ⟨g,(q+1)*7+3,none⟩=false∧wq.frozen? ⟨g,(q+1)*7+4,none⟩=false∧wq.frozen? ⟨g,(q+1)*7+5,none⟩=false∧wq.frozen? ⟨g,(q+1)*7+6,none⟩=false):=fun wq ho=>(by have c1:∀j,j<7→_:=fun j hj=>ho.cellJ (i:=q) (j:=j) (by omega) hj;have c2:∀j,j<7→_:=fun j hj=>ho.cellJ (i:=q+1) (j:=j) hqn hj;rw[GQ]at c1;rw[GP]at c2;refine⟨⟨⟨(c1 0 (by omega)).1,(c1 1 (by omega)).1,(c1 2 (by omega)).1,(c1 3 (by omega)).1,(c1 4 (by omega)).1,(c1 5 (by omega)).1,(c1 6 (by omega)).1⟩,(c2 0 (by omega)).1,(c2 1 (by omega)).1,(c2 2 (by omega)).1,(c2 3 (by omega)).1,(c2 4 (by omega)).1,(c2 5 (by omega)).1,(c2 6 (by omega)).1⟩,⟨(c1 0 (by omega)).2,(c1 1 (by omega)).2,(c1 2 (by omega)).2,(c1 3 (by omega)).2,(c1 4 (by omega)).2,(c1 5 (by omega)).2,(c1 6 (by omega)).2⟩,(c2 0 (by omega)).2,(c2 1 (by omega)).2,(c2 2 (by omega)).2,(c2 3 (by omega)).2,(c2 4 (by omega)).2,(c2 5 (by omega)).2,(c2 6 (by omega)).2⟩);obtain⟨p,hp⟩:∃p,q+1=p:=⟨_,rfl⟩;rw[hp]at CG SW1 hqn;have ga:(a:Int)<((q+1:Nat):Int):=(by omega);have ew:IntKind.i64.wrap (((q+1:Nat):Int)-1)=(q:Int):=(by rw[show((q+1:Nat):Int)-1=(q:Int) by omega];exact IntWalk.i64_in _ (by omega));rw[hp]at ga ew⊢;have pi:(p:Int)<(n:Int):=(by omega);have qi:(q:Int)<(n:Int):=(by omega);have npq:¬p=q:=(by omega);have nqp:¬q=p:=(by omega);have qp:q<p:=(by omega);have KX:Hid (kC ((xc,⟨xi,xf,xt,xl,xe,xd⟩),Value.slice xa xn xk)=xc∧kC ((zc,⟨zi,zf,zt,zl,ze,zd⟩),Value.slice za zn zk)=zc):=⟨rfl,rfl⟩;rw[KX.out.1,KX.out.2]at FIN NXT;obtain⟨⟨⟨z0,z1,z2,z3,z4,z5,z6⟩,x0,x1,x2,x3,x4,x5,x6⟩,_⟩:=CG.out wr OW1.out;have KS:Hid (∀w',Below wr.heap.size wr w'→(w'.cell? ⟨g,q*7,none⟩=some (.int .i64 zc)∧w'.cell? ⟨g,q*7+1,none⟩=some (.int .i64 zi)∧w'.cell? ⟨g,q*7+2,none⟩=some (.int .i64 zf)∧w'.cell? ⟨g,q*7+3,none⟩=some (.int .i64 zt)∧w'.cell? ⟨g,q*7+4,none⟩=some (.int .i64 zl)∧w'.cell? ⟨g,q*7+5,none⟩=some (.int .i64 ze)∧w'.cell? ⟨g,q*7+6,none⟩=some (.slice za zn zk))∧w'.cell? ⟨g,p*7,none⟩=some (.int .i64 xc)∧w'.cell? ⟨g,p*7+1,none⟩=some (.int .i64 xi)∧w'.cell? ⟨g,p*7+2,none⟩=some (.int .i64 xf)∧w'.cell? ⟨g,p*7+3,none⟩=some (.int .i64 xt)∧w'.cell? ⟨g,p*7+4,none⟩=some (.int .i64 xl)∧w'.cell? ⟨g,p*7+5,none⟩=some (.int .i64 xe)∧w'.cell? ⟨g,p*7+6,none⟩=some (.slice xa xn xk)):=fun w' hb=>(CG.out w' (OW1.out.below hb)).1;have SX:Hid (∀D wq,OF w0 g cap n D wq→OF w0 g cap n (D.set q ((xc,⟨xi,xf,xt,xl,xe,xd⟩),Value.slice xa xn xk)) (((((((wq.setCell ⟨g,q*7,none⟩ (.int .i64 xc)).setCell ⟨g,q*7+1,none⟩ (.int .i64 xi)).setCell ⟨g,q*7+2,none⟩ (.int .i64 xf)).setCell ⟨g,q*7+3,none⟩ (.int .i64 xt)).setCell ⟨g,q*7+4,none⟩ (.int .i64 xl)).setCell ⟨g,q*7+5,none⟩ (.int .i64 xe)).setCell ⟨g,q*7+6,none⟩ (.slice xa xn xk))):=fun D wq ho=>ho.set7 (i:=q) (by omega) ((xc,⟨xi,xf,xt,xl,xe,xd⟩),Value.slice xa xn xk) (.int .i64 xc) (.int .i64 xi) (.int .i64 xf) (.int .i64 xt) (.int .i64 xl) (.int .i64 xe) (.slice xa xn xk) rfl;have SZ:Hid (∀D wq,OF w0 g cap n D wq→OF w0 g cap n (D.set p ((zc,⟨zi,zf,zt,zl,ze,zd⟩),Value.slice za zn zk)) (((((((wq.setCell ⟨g,p*7,none⟩ (.int .i64 zc)).setCell ⟨g,p*7+1,none⟩ (.int .i64 zi)).setCell ⟨g,p*7+2,none⟩ (.int .i64 zf)).setCell ⟨g,p*7+3,none⟩ (.int .i64 zt)).setCell ⟨g,p*7+4,none⟩ (.int .i64 zl)).setCell ⟨g,p*7+5,none⟩ (.int .i64 ze)).setCell ⟨g,p*7+6,none⟩ (.slice za zn zk))):=fun D wq ho=>ho.set7 (i:=p) hqn ((zc,⟨zi,zf,zt,zl,ze,zd⟩),Value.slice za zn zk) (.int .i64 zc) (.int .i64 zi) (.int .i64 zf) (.int .i64 zt) (.int .i64 zl) (.int .i64 ze) (.slice za zn zk) rfl;generalize((xc,(⟨xi,xf,xt,xl,xe,xd⟩:Fm)),Value.slice xa xn xk)=x at *;generalize((zc,(⟨zi,zf,zt,zl,ze,zd⟩:Fm)),Value.slice za zn zk)=z at *;generalize(P++T)++x::z::(S2++R2)=D2 at *;generalize(P++T)++z::x::(S2++R2)=D1 at *;generalize(xc:Int)=yc at *;generalize(zc:Int)=uc at *;clear OW eD eL GQ GP KX hj hp hne NX0 HS HG hq SMX;by_cases hlt:yc<uc
     ·have hc:cmpZ yc uc<0:=cmpZ_neg.2 hlt;have NX:=Lib.hid (NXT.out hlt);generalize cmpZ yc uc=cz at *;clear NXT FIN hlt
      go_wp2_with fail
      go_region_held3 (fun w'=>(w'.cell? ⟨g,q*7,none⟩=some (.int .i64 uc)∧w'.cell? ⟨g,q*7+1,none⟩=some (.int .i64 zi)∧w'.cell? ⟨g,q*7+2,none⟩=some (.int .i64 zf)∧w'.cell? ⟨g,q*7+3,none⟩=some (.int .i64 zt)∧w'.cell? ⟨g,q*7+4,none⟩=some (.int .i64 zl)∧w'.cell? ⟨g,q*7+5,none⟩=some (.int .i64 ze)∧w'.cell? ⟨g,q*7+6,none⟩=some (.slice za zn zk))∧w'.cell? ⟨g,p*7,none⟩=some (.int .i64 yc)∧w'.cell? ⟨g,p*7+1,none⟩=some (.int .i64 xi)∧w'.cell? ⟨g,p*7+2,none⟩=some (.int .i64 xf)∧w'.cell? ⟨g,p*7+3,none⟩=some (.int .i64 xt)∧w'.cell? ⟨g,p*7+4,none⟩=some (.int .i64 xl)∧w'.cell? ⟨g,p*7+5,none⟩=some (.int .i64 xe)∧w'.cell? ⟨g,p*7+6,none⟩=some (.slice xa xn xk))
       (first|exact⟨⟨z0,z1,z2,z3,z4,z5,z6⟩,x0,x1,x2,x3,x4,x5,x6⟩|exact KS.out _ BX.out)
       (first|(go_at_call 96;refine(BC.out _ (by repeat(first|exact Below.refl _ _|refine Below.drew ?_))).mono ?_;rintro e w5 ⟨rfl,bel5⟩;have BX:=Lib.hid bel5;clear bel5))
      all_goals
       have OW5:=Lib.hid (OW1.out.below BX.out);obtain⟨⟨⟨a0,a1,a2,a3,a4,a5,a6⟩,b0,b1,b2,b3,b4,b5,b6⟩,⟨d0,d1,d2,d3,d4,d5,d6⟩,f0,f1,f2,f3,f4,f5,f6⟩:=CG.out w5 OW5.out;clear z0 z1 z2 z3 z4 z5 z6 x0 x1 x2 x3 x4 x5 x6 KS BC CG
       go_wp2_with fail
       go_region_law (fail)
       all_goals
        go_wp2_with fail
        refine⟨?_,by simp[RowKit.intOf];omega⟩
        first
         |(refine NX.out _ ?_;rw[←SW1.out];with_reducible exact(SX.out _ _ (SZ.out _ _ OW5.out)).drew)
         |(refine NX.out _ ?_;rw[←SW1.out,List.set_comm _ _ npq];with_reducible exact(SZ.out _ _ (SX.out _ _ OW5.out)).drew)
     ·have hc:¬cmpZ yc uc<0:=fun h=>hlt (cmpZ_neg.1 h);have FN:Hid (∀wq,Below wr.heap.size wr wq→RelI0 w0 g cap n a P A R (.int .i64 ((i:Int)+1)) wq):=fun wq hb=>FIN.out hlt wq (OW1.out.below hb);generalize cmpZ yc uc=cz at *;clear NXT FIN hlt
      go_wp2_with fail
      go_region_held3 (fun w'=>(w'.cell? ⟨g,q*7,none⟩=some (.int .i64 uc)∧w'.cell? ⟨g,q*7+1,none⟩=some (.int .i64 zi)∧w'.cell? ⟨g,q*7+2,none⟩=some (.int .i64 zf)∧w'.cell? ⟨g,q*7+3,none⟩=some (.int .i64 zt)∧w'.cell? ⟨g,q*7+4,none⟩=some (.int .i64 zl)∧w'.cell? ⟨g,q*7+5,none⟩=some (.int .i64 ze)∧w'.cell? ⟨g,q*7+6,none⟩=some (.slice za zn zk))∧w'.cell? ⟨g,p*7,none⟩=some (.int .i64 yc)∧w'.cell? ⟨g,p*7+1,none⟩=some (.int .i64 xi)∧w'.cell? ⟨g,p*7+2,none⟩=some (.int .i64 xf)∧w'.cell? ⟨g,p*7+3,none⟩=some (.int .i64 xt)∧w'.cell? ⟨g,p*7+4,none⟩=some (.int .i64 xl)∧w'.cell? ⟨g,p*7+5,none⟩=some (.int .i64 xe)∧w'.cell? ⟨g,p*7+6,none⟩=some (.slice xa xn xk))
       (first|exact⟨⟨z0,z1,z2,z3,z4,z5,z6⟩,x0,x1,x2,x3,x4,x5,x6⟩|exact KS.out _ BX.out)
       (first|(go_at_call 96;refine(BC.out _ (by repeat(first|exact Below.refl _ _|refine Below.drew ?_))).mono ?_;rintro e w5 ⟨rfl,bel5⟩;have BX:=Lib.hid bel5;clear bel5))
      all_goals
       have G:=Lib.hid (FN.out w5 BX.out);clear z0 z1 z2 z3 z4 z5 z6 x0 x1 x2 x3 x4 x5 x6 KS BC CG
       go_wp2_with fail
       exact⟨by simpa using G.out,by simp[RowKit.intOf];omega⟩
  ·have F:Hid (∃S,SrtK kC S∧Stb kC A S∧OF w0 g cap n (P++S++R) wr):=by
    have e1:A.take k=A:=List.take_of_length_le (by omega);have e2:A.drop k=[]:=List.drop_eq_nil_of_le (by omega);have h1:=SB.out;have h2:=OW.out;rw[e1]at h1;rw[e2,List.append_nil]at h2;exact⟨S,SR.out,h1,h2⟩
   have kb:¬((a+k:Nat):Int)<(b:Int):=(by have:=HBb.out;have:=HA.out;omega);obtain⟨i,hi⟩:∃i,a+k=i:=⟨_,rfl⟩;rw[hi]at kb⊢;clear OW
   go_wp2_with fail
   go_end0
   exact⟨rfl,by simpa using F.out⟩
def RelSf1(w0:World)(g cap n:Nat)(D0:List Fw)(a b:Value)(wr:World):Prop:=
 (a=.int .i64 0∧b=.int .i64 20∧OF w0 g cap n D0 wr)∨(n=20∧a=.int .i64 20∧b=.int .i64 40∧∃S,SrtK kC S∧Stb kC D0 S∧OF w0 g cap n S wr)
theorem slF_of{D0 L:List Fw}(hs:SlF D0)(h:Stb kC D0 L):SlF L:=fun x hx=>hs x (h.mem.1 hx)
theorem stabF_any(w0:World)(g cap n:Nat)(D0:List Fw)(w:World)(hn:n≤20)(hs:SlF D0)(h:OF w0 g cap n D0 w):Calls Tryz.prog 124 #[.slice (some ⟨g,0,none⟩) n cap,.int .i64 (n:Int),cmpV] w fun e w'=>e=.returned (.tuple #[])∧∃S,SrtK kC S∧Stb kC D0 S∧OF w0 g cap n S w':=by
 have ST:Hid (RelSf1 w0 g cap n D0 (.int .i64 0) (.int .i64 20) w):=.inl ⟨rfl,rfl,h⟩;have SM:=Lib.hid hs;clear h hs
 go_enter Tryz.func124,Tryz.ntmps124
 unfold cmpV
 go_wp2_with fail
 go_loopw [7,8] (fun a b wr=>RelSf1 w0 g cap n D0 a b wr) (fun _ b _=>60-(RowKit.intOf b).toNat)
 case atStart=>exact ST.out
 case round=>
  clear ST;have KEY:Hid (∀(S:List Fw) w2,SrtK kC S→Stb kC D0 S→OF w0 g cap n S w2→∃S,SrtK kC S∧Stb kC D0 S∧OF w0 g cap n S w2):=fun S w2 h1 h2 h3=>⟨S,h1,h2,h3⟩;rcases hrel with⟨rfl,rfl,hod⟩|⟨hn20,rfl,rfl,S,hsr,hst,hod⟩
  ·have hl:=hod.len;by_cases h20:n=20
   ·have IC:=insF_any w0 g cap n 0 20 [] D0 [] wr (by omega) rfl (by simp;omega) (by simpa using SM.out) (by simpa using hod);unfold cmpV at IC;have ICH:=Lib.hid IC;have bn:(20:Int)≤(n:Int):=(by omega);have NXT:Hid (∀S wq,SrtK kC S→Stb kC D0 S→OF w0 g cap n ([]++S++[]) wq→RelSf1 w0 g cap n D0 (.int .i64 20) (.int .i64 40) wq):=fun S wq h1 h2 h3=>.inr ⟨h20,rfl,rfl,S,h1,h2,by simpa using h3⟩;clear IC hod hl h20 KEY
    go_wp2_with fail
    refine ICH.out.mono ?_;rintro e w2 ⟨rfl,S,h1,h2,h3⟩;have R:=Lib.hid (NXT.out S w2 h1 h2 h3);clear h1 h2 h3 NXT ICH
    go_wp2_with fail
    exact⟨by simpa using R.out,by simp[RowKit.intOf]⟩
   ·have IC:=insF_any w0 g cap n 0 n [] D0 [] wr (by omega) rfl (by simp;omega) (by simpa using SM.out) (by simpa using hod);unfold cmpV at IC;have ICH:=Lib.hid IC;have bn:¬(20:Int)≤(n:Int):=(by omega);have bn2:¬(20:Int)<(n:Int):=(by omega);clear IC hod hl
    go_wp2_with fail
    refine ICH.out.mono ?_;rintro e w2 ⟨rfl,S,h1,h2,h3⟩;have F:=Lib.hid (KEY.out S w2 h1 h2 (by simpa using h3));clear h1 h2 h3 ICH KEY
    go_wp2_with fail
    go_loopw [6] (fun s wr=>s=.int .i64 20∧w2=wr) (fun _ _=>0)
    case atStart=>exact⟨rfl,rfl⟩
    case round=>
     obtain⟨rfl,rfl⟩:=hrel
     go_wp2_with fail
     go_end0
     exact⟨rfl,F.out⟩
  ·have hl:=hod.len;have IC:=insF_any w0 g cap n 20 n S [] [] wr (by omega) (by omega) (by simp;omega) (by simpa using slF_of SM.out hst) (by simpa using hod);unfold cmpV at IC;have ICH:=Lib.hid IC;have bn:¬(40:Int)≤(n:Int):=by omega
   have bn2:¬(20:Int)<(n:Int):=(by omega);have FF:Hid (∀S' w2,Stb kC [] S'→OF w0 g cap n (S++S'++[]) w2→∃S,SrtK kC S∧Stb kC D0 S∧OF w0 g cap n S w2):=fun S' w2 h1 h2=>(by have e:S'=[]:=(by have:=h1.length;simpa using this);subst e;exact KEY.out S w2 hsr hst (by simpa using h2));clear IC hod hl hsr hst KEY hn20
   go_wp2_with fail
   refine ICH.out.mono ?_;rintro e w2 ⟨rfl,S',h1,h2,h3⟩;have F:=Lib.hid (FF.out S' w2 h2 h3);clear h1 h2 h3 ICH FF
   go_wp2_with fail
   go_loopw [6] (fun s wr=>s=.int .i64 20∧w2=wr) (fun _ _=>0)
   case atStart=>exact⟨rfl,rfl⟩
   case round=>
    obtain⟨rfl,rfl⟩:=hrel
    go_wp2_with fail
    go_end0
    exact⟨rfl,F.out⟩
theorem sortF_any(w0:World)(g cap n:Nat)(D0:List Fw)(w:World)(hn:n≤20)(hs:SlF D0)(h:OF w0 g cap n D0 w):Calls Tryz.prog 95 #[.slice (some ⟨g,0,none⟩) n cap,cmpV] w fun e w'=>e=.returned (.tuple #[])∧∃S,SrtK kC S∧Stb kC D0 S∧OF w0 g cap n S w':=by
 have SC:=stabF_any w0 g cap n D0 w hn hs h;unfold cmpV at SC;have SCH:=Lib.hid SC;clear SC h hs
 go_enter Tryz.func95,Tryz.ntmps95
 unfold cmpV
 go_wp2_with fail
 refine SCH.out.mono ?_;rintro e w2 ⟨rfl,ho⟩;have F:=Lib.hid ho;clear ho SCH
 go_wp2_with fail
 go_end0
 exact⟨rfl,F.out⟩
def RelSf0(a b:Value)(w0 wr:World):Prop:=a=.int .i64 0∧b=.int .i64 20∧w0=wr
theorem insF0(ad:Option Addr)(c:Nat)(w:World):Calls Tryz.prog 150 #[.slice ad 0 c,.int .i64 0,.int .i64 0,cmpV] w fun e w'=>e=.returned (.tuple #[])∧w=w':=by
 go_enter Tryz.func150,Tryz.ntmps150
 unfold cmpV
 go_wp2_with fail
 go_loopw [8] (fun i wr=>i=.int .i64 1∧w=wr) (fun _ _=>0)
 case atStart=>exact⟨rfl,rfl⟩
 case round=>
  obtain⟨rfl,rfl⟩:=hrel
  go_wp2_with fail
  go_end0
  exact⟨rfl,rfl⟩
theorem stabF0(ad:Option Addr)(c:Nat)(w:World):Calls Tryz.prog 124 #[.slice ad 0 c,.int .i64 0,cmpV] w fun e w'=>e=.returned (.tuple #[])∧w=w':=by
 have IC:=insF0 ad c w;unfold cmpV at IC;have ICH:=Lib.hid IC;clear IC
 go_enter Tryz.func124,Tryz.ntmps124
 unfold cmpV
 go_wp2_with fail
 go_loopw [7,8] (fun a b wr=>RelSf0 a b w wr) (fun _ _ _=>0)
 case atStart=>exact⟨rfl,rfl,rfl⟩
 case round=>
  obtain⟨rfl,rfl,rfl⟩:=hrel
  go_wp2_with fail
  refine ICH.out.mono ?_;rintro e w2 ⟨rfl,rfl⟩
  go_wp2_with fail
  go_loopw [6] (fun s wr=>s=.int .i64 20∧w=wr) (fun _ _=>0)
  case atStart=>exact⟨rfl,rfl⟩
  case round=>
   obtain⟨rfl,rfl⟩:=hrel
   go_wp2_with fail
   go_end0
   exact⟨rfl,rfl⟩
theorem sortF0(ad:Option Addr)(c:Nat)(w:World):Calls Tryz.prog 95 #[.slice ad 0 c,cmpV] w fun e w'=>e=.returned (.tuple #[])∧w=w':=by
 have SC:=stabF0 ad c w;unfold cmpV at SC;have SCH:=Lib.hid SC;clear SC
 go_enter Tryz.func95,Tryz.ntmps95
 unfold cmpV
 go_wp2_with fail
 refine SCH.out.mono ?_;rintro e w2 ⟨rfl,rfl⟩
 go_wp2_with fail
 go_end0
 exact⟨rfl,rfl⟩
theorem sortFlights(w:World)(v:Value)(D0:List Fw)(hn:D0.length≤20)(hs:SlF D0)(h:w.ownsRow 0 122 7 v D0.length (D0.flatMap cFl)):Calls Tryz.prog 95 #[v,cmpV] w fun e w'=>e=.returned (.tuple #[])∧∃S,SrtK kC S∧Stb kC D0 S∧w'.ownsRow 0 122 7 v D0.length (S.flatMap cFl)∧Ch (fun k=>v.ownBlock=some k) w w':=by
 rcases h.2 with⟨e1,e2⟩|⟨g,cap,cur,e1,_⟩
 ·have e3:D0=[]:=List.eq_nil_of_length_eq_zero e2;subst e3;subst e1;refine(sortF0 none 0 w).mono ?_;rintro e w' ⟨rfl,rfl⟩;exact⟨rfl,[],List.Pairwise.nil,Stb.refl _,h,Ch.refl _ _⟩
 ·subst e1;refine(sortF_any w g cap D0.length D0 w hn hs ⟨h,Ch.refl _ _⟩).mono ?_;rintro e w' ⟨rfl,S,h1,h2,h3⟩;exact⟨rfl,S,h1,h2,h3.own,h3.ch.mono fun k _ q=>by simp[Value.ownBlock,q]⟩
end Go.Proofs.YtnjjkgjdhljfnaaGreat
