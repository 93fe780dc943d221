/- Part 14. -/
import Derived.Test.YtnjjkgjdhljfnaaGreatPk5
import Derived.Test.YtnjjkgjdhljfnaaGreatPk12
open Go.Proofs.Tryz
open Go renaming Calls->bZ,Value->aI,World->aG
open Go.Ending renaming returned->ax
open Go.IntKind renaming i64->ag
open Go.IntWalk renaming i64_in->fE
open Go.Lib renaming hid->aA
open Go.Obj renaming cells->af
open Go.Proofs.Tryz renaming prog->aH
open Go.RowKit renaming Below->aN,Hid->aY,intOf->aJ
open Go.RowKit.Below renaming refl->aQ
open Go.Value renaming int->ah,slice->ay
open List renaming flatMap_cons->eO,getD->bJ,length_append->bV,length_singleton->iJ,set_append_right->ic
open List.Pairwise renaming nil->sJ
open Nat renaming le_refl->aC
open Option renaming none->aj,some->az
set_option maxRecDepth 100000
set_option maxHeartbeats 16000000
set_option linter.unusedVariables false
set_option linter.unusedSimpArgs false
namespace Go.Proofs.YtnjjkgjdhljfnaaGreat
open Go.RowKit Go.Maps
attribute [local go_sem ↓] Go.wp_at_zero Go.wp_at_succ
abbrev Fw:=(Nat×Fm)×aI
def Pn:Fw:=((0,default),ay aj 0 0)
structure OF(w0:aG)(g cap n:Nat)(D:List Fw)(w:aG):Prop where
 own:w.ownsRow 0 122 7 (ay (az ⟨g,0,aj⟩) n cap) n (D.flatMap Hy)
 ch:Ch (· =g) w0 w
section
variable{w0 w w':aG}{g cap n:Nat}{D:List Fw}
theorem OF.len(h:OF w0 g cap n D w):D.length=n:=by
 have h1:=h.own.1;have e:∀l:List Fw,(l.flatMap Hy).length=l.length*7:=fun l=>by
  induction l with
  |nil=>rfl
  |cons x l ih=>rw[eO,bV,ih,List.length_cons];show 7+_=_;omega
 rw[e]at h1;omega
theorem OF.JA(h:OF w0 g cap n D w):∃cur,dh w g 122 cur/\cur.toList.take (n*7)=D.flatMap Hy:=by
 obtain⟨h1,⟨h2,_⟩|⟨g',pG,cur,h2,hb,hg,hn,hc,hs,ht⟩⟩:=h.own
 ·injection h2 with h2;cases h2
 ·injection h2 with h2 _ h3;injection h2 with h2;injection h2 with h2;subst h2;exact⟨cur,hg,ht⟩
theorem OF.JW(h:OF w0 g cap n D w){i j:Nat}(hi:i<n)(hj:j<7):w.cell? ⟨g,i*7+j,aj⟩=(Hy (D.getD i Pn))[j]?/\w.frozen? ⟨g,i*7+j,aj⟩=false:=by obtain⟨cur,hb,ht⟩:=h.JA;have hl:=h.len;refine⟨?_,hb.frozen _⟩;rw[hb.cell,<-Array.getElem?_toList,<-yf (d:=Pn) (m:=7) (c:=Hy) (fun x=>CX x) D i j (by omega) hj,<-ht,List.getElem?_take,if_pos (by omega)]
theorem zU{xs:List aI}(h:w.ownsRow 0 122 7 (ay (az ⟨g,0,aj⟩) n cap) n xs)(i:Nat)(u:aI):(w.setCell ⟨g,i,aj⟩ u).ownsRow 0 122 7 (ay (az ⟨g,0,aj⟩) n cap) n (xs.set i u):=by
 obtain⟨h1,⟨h2,_⟩|⟨g',pG,cur,h2,hb,hg,hn,hc,hs,ht⟩⟩:=h
 ·injection h2 with h2;cases h2
 ·injection h2 with h2 _ h3;injection h2 with h2;injection h2 with h2;subst h2;subst h3;refine⟨by rw[List.length_set];exact h1,.inr ⟨g,cap,cur.setIfInBounds i u,rfl,hb,(show dh w g 122 cur from hg).jd i u,hn,hc,by simpa using hs,?_⟩⟩;rw[Array.toList_setIfInBounds,List.take_set,ht]
theorem abv(l:List Fw)(i:Nat)(x:Fw)(hi:i<l.length)(v0 v1 v2 v3 v4 v5 v6:aI)(e:Hy x=[v0,v1,v2,v3,v4,v5,v6]):(((((((l.flatMap Hy).set (i*7) v0).set (i*7+1) v1).set (i*7+2) v2).set (i*7+3) v3).set (i*7+4) v4).set (i*7+5) v5).set (i*7+6) v6=(l.set i x).flatMap Hy:=by
 induction l generalizing i with
 |nil=>cases hi
 |cons y l ih=>
  cases i with
  |zero=>rw[List.set_cons_zero,eO,eO,e];rfl
  |succ i=>have:=ih i (by simpa using hi);rw[List.set_cons_succ,eO,eO,<-this];rw[show(i+1)*7=(Hy y).length+i*7 by rw[CX];omega];simp only[Nat.add_assoc];rw[ic _ _ (by omega),ic _ _ (by omega),ic _ _ (by omega),ic _ _ (by omega),ic _ _ (by omega),ic _ _ (by omega),ic _ _ (by omega)];simp
theorem OF.asy(h:OF w0 g cap n D w){i:Nat}(hi:i<n)(x:Fw)(v0 v1 v2 v3 v4 v5 v6:aI)(e:Hy x=[v0,v1,v2,v3,v4,v5,v6]):OF w0 g cap n (D.set i x) (((((((w.setCell ⟨g,i*7,aj⟩ v0).setCell ⟨g,i*7+1,aj⟩ v1).setCell ⟨g,i*7+2,aj⟩ v2).setCell ⟨g,i*7+3,aj⟩ v3).setCell ⟨g,i*7+4,aj⟩ v4).setCell ⟨g,i*7+5,aj⟩ v5).setCell ⟨g,i*7+6,aj⟩ v6):=by refine⟨?_,((((((h.ch.setCell (.inl rfl) _).setCell (.inl rfl) _).setCell (.inl rfl) _).setCell (.inl rfl) _).setCell (.inl rfl) _).setCell (.inl rfl) _).setCell (.inl rfl) _⟩;have h1:=zU (zU (zU (zU (zU (zU (zU h.own (i*7) v0) (i*7+1) v1) (i*7+2) v2) (i*7+3) v3) (i*7+4) v4) (i*7+5) v5) (i*7+6) v6;rw[abv D i x (by rw[h.len];exact hi) v0 v1 v2 v3 v4 v5 v6 e]at h1;exact h1
theorem OF.below(h:OF w0 g cap n D w)(hb:aN w.heap.size w w'):OF w0 g cap n D w':=
 ⟨fO h.own (Ch.bY (S:=fun _=>False) hb) (fun _ _ q=>q),h.ch.rW hb⟩
theorem OF.drew(h:OF w0 g cap n D w):OF w0 g cap n D w.drew:=⟨h.own,h.ch.drew⟩
theorem OF.drewN(h:OF w0 g cap n D w)(q:Nat):OF w0 g cap n D (w.drewN q):=⟨h.own,h.ch.drewN q⟩
end
def kC(x:Fw):Int:=x.1.1
def Ce:aI:=.func (.func 96) #[] #[]
theorem aej(c0 i0 a0 b0 l0 e0 c1 i1 a1 b1 l1 e1:Int)(u v:aI)(w:aG)(hu:∃a n c,u=ay a n c)(hv:∃a n c,v=ay a n c):bZ aH 96 #[.agg #[ah ag c0,ah ag i0,ah ag a0,ah ag b0,ah ag l0,ah ag e0,u],.agg #[ah ag c1,ah ag i1,ah ag a1,ah ag b1,ah ag l1,ah ag e1,v]] w fun e w'=>e=ax (ah ag (uE c0 c1))/\aN w.heap.size w w':=by obtain⟨ua,un,uc,rfl⟩:=hu;obtain⟨va,vn,vc,rfl⟩:=hv;have B:aY (aN w.heap.size w ((w.alloc (af #[ah ag c0,ah ag i0,ah ag a0,ah ag b0,ah ag l0,ah ag e0,ay ua un uc] 122)).alloc (af #[ah ag c1,ah ag i1,ah ag a1,ah ag b1,ah ag l1,ah ag e1,ay va vn vc] 122))):=((aQ _ _).alloc (aC _) _).alloc (by simp) _;have CZ:=fun w'=>Vj c0 c1 w';have CH:=aA CZ;clear CZ;go_enter func96,ntmps96;go_wp2_with (first|(go_at_call 70;refine(CH.o _).mono ?_;rintro e w5 ⟨rfl,rfl⟩));go_ret;exact⟨rfl,B.o⟩
theorem Vk{x y:Int}:uE x y<0↔x<y:=by
 unfold uE;split
 ·simp;omega
 ·split<;>simp<;>omega
theorem aix(L1 L2:List Fw)(z x:Fw):((L1++z::x::L2).set (L1.length+1) z).set L1.length x=L1++x::z::L2:=by simp
theorem aiv{α:Type}{l:List α}(h:l≠[]):∃m z,l=m++[z]:=⟨l.dropLast,l.getLast h,(List.dropLast_concat_getLast h).symm⟩
theorem Yd{α:Type}(d:α){l:List α}{k:Nat}(h:k<l.length):l.drop k=l.getD k d::l.drop (k+1):=by rw[List.drop_eq_getElem_cons h];simp[bJ,h]
def SlF(D:List Fw):Prop:=∀x∈D,∃a n c,x.2=ay a n c
def Ri(w0:aG)(g cap n a:Nat)(P A R:List Fw)(i:aI)(wr:aG):Prop:=
 ∃(k:Nat) (S:List Fw),1<=k/\(k=1\/k<=A.length)/\i=ah ag ((a+k:Nat):Int)/\rA kC S/\vS kC (A.take k) S/\OF w0 g cap n (P++S++A.drop k++R) wr
def adI(w0:aG)(g cap n a:Nat)(P S:List Fw)(x:Fw)(R:List Fw)(j:aI)(wr:aG):Prop:=
 ∃S1 S2:List Fw,S=S1++S2/\j=ah ag ((a+S1.length:Nat):Int)/\(∀y∈S2,kC x<kC y)/\OF w0 g cap n (P++S1++x::S2++R) wr
theorem PG(w0:aG)(g cap n a b:Nat)(P A R:List Fw)(w:aG)(hn:n<=1000)(ha:a=P.length)(hb:b=P.length+A.length)(hs:SlF (P++A++R))(h:OF w0 g cap n (P++A++R) w):bZ aH 150 #[ay (az ⟨g,0,aj⟩) n cap,ah ag (a:Int),ah ag (b:Int),Ce] w fun e w'=>e=ax (.tuple #[])/\∃S,rA kC S/\vS kC A S/\OF w0 g cap n (P++S++R) w':=by
 have ST:aY (Ri w0 g cap n a P A R (ah ag ((a:Int)+1)) w):=⟨1,A.take 1,aC _,.inl rfl,rfl,by
  cases A with
  |nil=>exact sJ
  |cons x l=>exact List.pairwise_singleton _ _,vS.refl _,by rw[List.append_assoc P,List.take_append_drop];exact h⟩
 have hl:=h.len;simp only[bV]at hl;have HL:=aA hl;have HA:=aA ha;have HBb:=aA hb;have SMA:aY (∀x∈A,∃a n c,x.2=ay a n c):=fun x hx=>hs x (by simp[hx]);have an:a+1<=2000:=by omega
 have e0:IntKind.i64.wrap ((a:Int)+1)=(a:Int)+1:=fE _ (by omega);clear h hl ha hb hs;go_enter func150,ntmps150;unfold Ce;go_wp2_with fail;clear e0;go_loopw [8] (fun i wr=>Ri w0 g cap n a P A R i wr) (fun i _=>b+1-(aJ i).toNat);case atStart=>exact ST.o
 case round=>
  clear ST;obtain⟨k,S,hk1,hk2,rfl,hsr,Ic,hod⟩:=hrel;have OW:=aA hod;have SR:=aA hsr;have SB:=aA Ic;clear hod hsr Ic;by_cases nI:k<A.length
  ·have asC:S.length=k:=by have:=SB.o.length;rw[List.length_take]at this;omega
   have SLN:=aA asC;have hdr:A.drop k=A.getD k Pn::A.drop (k+1):=Yd Pn nI;have hxm:A.getD k Pn∈A:=(by simp[bJ,nI]);have SMX:=aA (SMA.o _ hxm);have TK:aY (A.take (k+1)=A.take k++[A.getD k Pn]):=ji Pn A k nI;have SMS:aY (∀y∈S,∃a n c,y.2=ay a n c):=fun y hy=>SMA.o y (List.mem_of_mem_take (SB.o.mem.1 hy));have NX0:aY (∀(S':List Fw) wq,rA kC S'->vS kC (S++[A.getD k Pn]) S'->OF w0 g cap n (P++S'++(A.drop (k+1)++R)) wq->Ri w0 g cap n a P A R (ah ag ((a+k:Nat)+1:Int)) wq):=fun S' wq h1 h2 h3=>
    ⟨k+1,S',by omega,.inr (by omega),by congr 1,h1,by rw[TK.o];exact(SB.o.app (vS.refl _)).trans h2,by simpa using h3⟩
   have ark:OF w0 g cap n (P++S++A.getD k Pn::[]++(A.drop (k+1)++R)) wr:=(by have:=OW.o;rw[hdr]at this;simpa using this);have kb:((a+k:Nat):Int)<(b:Int):=(by have:=HBb.o;have:=HA.o;omega);have akn:a+k<n:=(by have:=HL.o;have:=HA.o;omega);generalize A.getD k Pn=x at *;have ST1:aY (adI w0 g cap n a P S x (A.drop (k+1)++R) (ah ag ((a+k:Nat):Int)) wr):=⟨S,[],by simp,by rw[SLN.o],by simp,ark⟩;generalize A.drop (k+1)++R=R2 at *;obtain⟨i,hi⟩:∃i,a+k=i:=⟨_,rfl⟩;rw[hi]at ST1 NX0 kb akn|-;clear hdr hxm ark asC OW;go_wp2_with fail;go_loopw [9] (fun j wr=>adI w0 g cap n a P S x R2 j wr) (fun j _=>(aJ j).toNat);case atStart=>exact ST1.o
   case round=>
    clear ST1;obtain⟨S1,S2,hS,rfl,hgt,hod⟩:=hrel;have OW:=aA hod;have HS:=aA hS;have HG:=aA hgt;clear hod hS hgt;have aIK:S1.length<=k:=by have:=SLN.o;rw[HS.o,bV]at this;omega
    by_cases nQ:S1=[]
    ·have F:aY (∀q,Ri w0 g cap n a P A R (ah ag ((i:Int)+1)) (wr.drewN q)):=fun q=>by
      have h1:=aff (key:=kC) (S1:=[]) (S2:=S2) (x:=x) (by have:=SR.o;rw[HS.o,nQ]at this;exact this) (by simp) HG.o;refine NX0.o (x::S2) _ h1.1 ?_ ?_
      ·rw[HS.o,nQ];exact h1.2
      ·have:=OW.o.drewN q;rw[nQ]at this;simpa using this
     subst nQ;have ng:¬(a:Int)<((a+([]:List Fw).length:Nat):Int):=by simp
     simp only[List.length_nil,Nat.add_zero]at ng|-;clear OW NX0 HS HG;go_wp2_with fail;go_quiet (fail);go_wp2_with fail;exact⟨by simpa using F.o _,by simp[aJ];omega⟩
    ·obtain⟨T,z,hT⟩:=aiv nQ;subst hT;obtain⟨q,hq⟩:∃q,a+T.length=q:=⟨_,rfl⟩;have hj:a+(T++[z]).length=q+1:=(by rw[bV,iJ];omega);rw[hj];have eD:P++(T++[z])++x::S2++R2=(P++T)++z::x::(S2++R2):=(by simp);have eL:(P++T).length=q:=(by rw[bV,<-HA.o];exact hq);have OW1:aY (OF w0 g cap n ((P++T)++z::x::(S2++R2)) wr):=(by rw[aY,<-eD];exact OW.o);have hqn:q+1<n:=by
      have:=OW1.o.len;rw[bV,eL]at this;simp at this;omega
     have GQ:((P++T)++z::x::(S2++R2)).getD q Pn=z:=(by rw[<-eL];simp[bJ]);have GP:((P++T)++z::x::(S2++R2)).getD (q+1) Pn=x:=(by rw[show q+1=(P++T++[z]).length by rw[bV,eL,iJ],show(P++T)++z::x::(S2++R2)=(P++T++[z])++x::(S2++R2) by simp];simp[bJ]);have SW1:aY ((((P++T)++z::x::(S2++R2)).set (q+1) z).set q x=(P++T)++x::z::(S2++R2)):=(by rw[aY,<-eL];exact aix _ _ _ _);have SMZ:=SMS.o z (by rw[HS.o];simp);have iZ:aY (¬kC x<kC z->∀wq,OF w0 g cap n ((P++T)++z::x::(S2++R2)) wq->Ri w0 g cap n a P A R (ah ag ((i:Int)+1)) wq):=fun hle wq ho=>by
      have hsrt:=SR.o;rw[HS.o]at hsrt;have hTz:=(rA.app.1 hsrt).1;have h1:=aff (key:=kC) (S1:=T++[z]) (S2:=S2) (x:=x) hsrt (fun y hy=>by
       have h3:kC y<=kC z:=by
        rcases List.mem_append.1 hy with r|r
        ·exact(rA.app.1 hTz).2.2 y r z (by simp)
        ·rw[List.mem_singleton]at r;subst r;exact Int.le_refl _
       omega) HG.o
      refine NX0.o ((T++[z])++x::S2) _ h1.1 ?_ ?_
      ·rw[HS.o];exact h1.2
      ·simpa using ho
     have FT:aY (kC x<kC z->∀wq,OF w0 g cap n ((P++T)++x::z::(S2++R2)) wq->adI w0 g cap n a P S x R2 (ah ag (q:Int)) wq):=fun tK wq ho=>
      ⟨T,z::S2,by rw[HS.o];simp,by rw[hq],fun y hy=>by
       rcases List.mem_cons.1 hy with rfl|hy
       ·exact tK
       ·exact HG.o y hy,by simpa using ho⟩
     obtain⟨⟨xc,xi,xf,xt,xl,xe,xd⟩,xv⟩:=x;obtain⟨⟨zc,zi,zf,zt,zl,ze,zd⟩,zv⟩:=z;obtain⟨xa,xn,xk,rfl⟩:∃a n c,xv=ay a n c:=SMX.o;obtain⟨za,zn,zk,rfl⟩:∃a n c,zv=ay a n c:=SMZ;have BC:aY (∀w',aN wr.heap.size wr w'->bZ aH 96 #[.agg #[ah ag xc,ah ag xi,ah ag xf,ah ag xt,ah ag xl,ah ag xe,ay xa xn xk],.agg #[ah ag zc,ah ag zi,ah ag zf,ah ag zt,ah ag zl,ah ag ze,ay za zn zk]] w' fun e w''=>e=ax (ah ag (uE xc zc))/\aN wr.heap.size wr w''):=fun w' hb=>(aej xc xi xf xt xl xe zc zi zf zt zl ze _ _ w' ⟨xa,xn,xk,rfl⟩ ⟨za,zn,zk,rfl⟩).mono fun e w'' h=>⟨h.1,hb.trans (h.2.mono hb.size)⟩;have CG:aY (∀wq,OF w0 g cap n ((P++T)++((zc,⟨zi,zf,zt,zl,ze,zd⟩),ay za zn zk)::((xc,⟨xi,xf,xt,xl,xe,xd⟩),ay xa xn xk)::(S2++R2)) wq->((wq.cell? ⟨g,q*7,aj⟩=az (ah ag zc)/\wq.cell? ⟨g,q*7+1,aj⟩=az (ah ag zi)/\wq.cell? ⟨g,q*7+2,aj⟩=az (ah ag zf)/\wq.cell? ⟨g,q*7+3,aj⟩=az (ah ag zt)/\wq.cell? ⟨g,q*7+4,aj⟩=az (ah ag zl)/\wq.cell? ⟨g,q*7+5,aj⟩=az (ah ag ze)/\wq.cell? ⟨g,q*7+6,aj⟩=az (ay za zn zk))/\wq.cell? ⟨g,(q+1)*7,aj⟩=az (ah ag xc)/\wq.cell? ⟨g,(q+1)*7+1,aj⟩=az (ah ag xi)/\wq.cell? ⟨g,(q+1)*7+2,aj⟩=az (ah ag xf)/\wq.cell? ⟨g,(q+1)*7+3,aj⟩=az (ah ag xt)/\wq.cell? ⟨g,(q+1)*7+4,aj⟩=az (ah ag xl)/\wq.cell? ⟨g,(q+1)*7+5,aj⟩=az (ah ag xe)/\wq.cell? ⟨g,(q+1)*7+6,aj⟩=az (ay xa xn xk))/\(wq.frozen? ⟨g,q*7,aj⟩=false/\wq.frozen? ⟨g,q*7+1,aj⟩=false/\wq.frozen? ⟨g,q*7+2,aj⟩=false/\wq.frozen? ⟨g,q*7+3,aj⟩=false/\wq.frozen? ⟨g,q*7+4,aj⟩=false/\wq.frozen? ⟨g,q*7+5,aj⟩=false/\wq.frozen? ⟨g,q*7+6,aj⟩=false)/\wq.frozen? ⟨g,(q+1)*7,aj⟩=false/\wq.frozen? ⟨g,(q+1)*7+1,aj⟩=false/\wq.frozen? ⟨g,(q+1)*7+2,aj⟩=false/\wq.frozen? ⟨g,(q+1)*7+3,aj⟩=false/\wq.frozen? ⟨g,(q+1)*7+4,aj⟩=false/\wq.frozen? ⟨g,(q+1)*7+5,aj⟩=false/\wq.frozen? ⟨g,(q+1)*7+6,aj⟩=false):=fun wq ho=>(by have c1:∀j,j<7->_:=fun j hj=>ho.JW (i:=q) (j:=j) (by omega) hj;have c2:∀j,j<7->_:=fun j hj=>ho.JW (i:=q+1) (j:=j) hqn hj;rw[GQ]at c1;rw[GP]at c2;refine⟨⟨⟨(c1 0 (by omega)).1,(c1 1 (by omega)).1,(c1 2 (by omega)).1,(c1 3 (by omega)).1,(c1 4 (by omega)).1,(c1 5 (by omega)).1,(c1 6 (by omega)).1⟩,(c2 0 (by omega)).1,(c2 1 (by omega)).1,(c2 2 (by omega)).1,(c2 3 (by omega)).1,(c2 4 (by omega)).1,(c2 5 (by omega)).1,(c2 6 (by omega)).1⟩,⟨(c1 0 (by omega)).2,(c1 1 (by omega)).2,(c1 2 (by omega)).2,(c1 3 (by omega)).2,(c1 4 (by omega)).2,(c1 5 (by omega)).2,(c1 6 (by omega)).2⟩,(c2 0 (by omega)).2,(c2 1 (by omega)).2,(c2 2 (by omega)).2,(c2 3 (by omega)).2,(c2 4 (by omega)).2,(c2 5 (by omega)).2,(c2 6 (by omega)).2⟩);obtain⟨p,hp⟩:∃p,q+1=p:=⟨_,rfl⟩;rw[hp]at CG SW1 hqn;have ga:(a:Int)<((q+1:Nat):Int):=(by omega);have ew:IntKind.i64.wrap (((q+1:Nat):Int)-1)=(q:Int):=(by rw[show((q+1:Nat):Int)-1=(q:Int) by omega];exact fE _ (by omega));rw[hp]at ga ew|-;have pi:(p:Int)<(n:Int):=(by omega);have qi:(q:Int)<(n:Int):=(by omega);have npq:¬p=q:=(by omega);have nqp:¬q=p:=(by omega);have qp:q<p:=(by omega);have KX:aY (kC ((xc,⟨xi,xf,xt,xl,xe,xd⟩),ay xa xn xk)=xc/\kC ((zc,⟨zi,zf,zt,zl,ze,zd⟩),ay za zn zk)=zc):=⟨rfl,rfl⟩;rw[KX.o.1,KX.o.2]at iZ FT;obtain⟨⟨⟨z0,z1,z2,z3,z4,z5,z6⟩,x0,x1,x2,x3,x4,x5,x6⟩,_⟩:=CG.o wr OW1.o;have KS:aY (∀w',aN wr.heap.size wr w'->(w'.cell? ⟨g,q*7,aj⟩=az (ah ag zc)/\w'.cell? ⟨g,q*7+1,aj⟩=az (ah ag zi)/\w'.cell? ⟨g,q*7+2,aj⟩=az (ah ag zf)/\w'.cell? ⟨g,q*7+3,aj⟩=az (ah ag zt)/\w'.cell? ⟨g,q*7+4,aj⟩=az (ah ag zl)/\w'.cell? ⟨g,q*7+5,aj⟩=az (ah ag ze)/\w'.cell? ⟨g,q*7+6,aj⟩=az (ay za zn zk))/\w'.cell? ⟨g,p*7,aj⟩=az (ah ag xc)/\w'.cell? ⟨g,p*7+1,aj⟩=az (ah ag xi)/\w'.cell? ⟨g,p*7+2,aj⟩=az (ah ag xf)/\w'.cell? ⟨g,p*7+3,aj⟩=az (ah ag xt)/\w'.cell? ⟨g,p*7+4,aj⟩=az (ah ag xl)/\w'.cell? ⟨g,p*7+5,aj⟩=az (ah ag xe)/\w'.cell? ⟨g,p*7+6,aj⟩=az (ay xa xn xk)):=fun w' hb=>(CG.o w' (OW1.o.below hb)).1;have SX:aY (∀D wq,OF w0 g cap n D wq->OF w0 g cap n (D.set q ((xc,⟨xi,xf,xt,xl,xe,xd⟩),ay xa xn xk)) (((((((wq.setCell ⟨g,q*7,aj⟩ (ah ag xc)).setCell ⟨g,q*7+1,aj⟩ (ah ag xi)).setCell ⟨g,q*7+2,aj⟩ (ah ag xf)).setCell ⟨g,q*7+3,aj⟩ (ah ag xt)).setCell ⟨g,q*7+4,aj⟩ (ah ag xl)).setCell ⟨g,q*7+5,aj⟩ (ah ag xe)).setCell ⟨g,q*7+6,aj⟩ (ay xa xn xk))):=fun D wq ho=>ho.asy (i:=q) (by omega) ((xc,⟨xi,xf,xt,xl,xe,xd⟩),ay xa xn xk) (ah ag xc) (ah ag xi) (ah ag xf) (ah ag xt) (ah ag xl) (ah ag xe) (ay xa xn xk) rfl;have SZ:aY (∀D wq,OF w0 g cap n D wq->OF w0 g cap n (D.set p ((zc,⟨zi,zf,zt,zl,ze,zd⟩),ay za zn zk)) (((((((wq.setCell ⟨g,p*7,aj⟩ (ah ag zc)).setCell ⟨g,p*7+1,aj⟩ (ah ag zi)).setCell ⟨g,p*7+2,aj⟩ (ah ag zf)).setCell ⟨g,p*7+3,aj⟩ (ah ag zt)).setCell ⟨g,p*7+4,aj⟩ (ah ag zl)).setCell ⟨g,p*7+5,aj⟩ (ah ag ze)).setCell ⟨g,p*7+6,aj⟩ (ay za zn zk))):=fun D wq ho=>ho.asy (i:=p) hqn ((zc,⟨zi,zf,zt,zl,ze,zd⟩),ay za zn zk) (ah ag zc) (ah ag zi) (ah ag zf) (ah ag zt) (ah ag zl) (ah ag ze) (ay za zn zk) rfl;generalize((xc,(⟨xi,xf,xt,xl,xe,xd⟩:Fm)),ay xa xn xk)=x at *;generalize((zc,(⟨zi,zf,zt,zl,ze,zd⟩:Fm)),ay za zn zk)=z at *;generalize(P++T)++x::z::(S2++R2)=D2 at *;generalize(P++T)++z::x::(S2++R2)=D1 at *;generalize(xc:Int)=yc at *;generalize(zc:Int)=uc at *;clear OW eD eL GQ GP KX hj hp nQ NX0 HS HG hq SMX;by_cases tK:yc<uc
     ·have hc:uE yc uc<0:=Vk.2 tK;have NX:=aA (FT.o tK);generalize uE yc uc=cz at *;clear FT iZ tK;go_wp2_with fail;go_region_held3 (fun w'=>(w'.cell? ⟨g,q*7,aj⟩=az (ah ag uc)/\w'.cell? ⟨g,q*7+1,aj⟩=az (ah ag zi)/\w'.cell? ⟨g,q*7+2,aj⟩=az (ah ag zf)/\w'.cell? ⟨g,q*7+3,aj⟩=az (ah ag zt)/\w'.cell? ⟨g,q*7+4,aj⟩=az (ah ag zl)/\w'.cell? ⟨g,q*7+5,aj⟩=az (ah ag ze)/\w'.cell? ⟨g,q*7+6,aj⟩=az (ay za zn zk))/\w'.cell? ⟨g,p*7,aj⟩=az (ah ag yc)/\w'.cell? ⟨g,p*7+1,aj⟩=az (ah ag xi)/\w'.cell? ⟨g,p*7+2,aj⟩=az (ah ag xf)/\w'.cell? ⟨g,p*7+3,aj⟩=az (ah ag xt)/\w'.cell? ⟨g,p*7+4,aj⟩=az (ah ag xl)/\w'.cell? ⟨g,p*7+5,aj⟩=az (ah ag xe)/\w'.cell? ⟨g,p*7+6,aj⟩=az (ay xa xn xk))
       (first|exact⟨⟨z0,z1,z2,z3,z4,z5,z6⟩,x0,x1,x2,x3,x4,x5,x6⟩|exact KS.o _ BX.o)
       (first|(go_at_call 96;refine(BC.o _ (by repeat(first|exact aQ _ _|refine Below.drew ?_))).mono ?_;rintro e w5 ⟨rfl,OU⟩;have BX:=aA OU;clear OU))
      all_goals
       have OW5:=aA (OW1.o.below BX.o);obtain⟨⟨⟨a0,a1,a2,a3,a4,a5,a6⟩,b0,b1,b2,b3,b4,b5,b6⟩,⟨d0,d1,d2,d3,d4,d5,d6⟩,f0,f1,f2,f3,f4,f5,f6⟩:=CG.o w5 OW5.o;clear z0 z1 z2 z3 z4 z5 z6 x0 x1 x2 x3 x4 x5 x6 KS BC CG;go_wp2_with fail
       go_region_law (fail)
       all_goals
        go_wp2_with fail;refine⟨?_,by simp[aJ];omega⟩
        first
         |(refine NX.o _ ?_;rw[<-SW1.o];with_reducible exact(SX.o _ _ (SZ.o _ _ OW5.o)).drew)
         |(refine NX.o _ ?_;rw[<-SW1.o,List.set_comm _ _ npq];with_reducible exact(SZ.o _ _ (SX.o _ _ OW5.o)).drew)
     ·have hc:¬uE yc uc<0:=fun h=>tK (Vk.1 h);have FN:aY (∀wq,aN wr.heap.size wr wq->Ri w0 g cap n a P A R (ah ag ((i:Int)+1)) wq):=fun wq hb=>iZ.out tK wq (OW1.o.below hb);generalize uE yc uc=cz at *;clear FT iZ tK;go_wp2_with fail;go_region_held3 (fun w'=>(w'.cell? ⟨g,q*7,aj⟩=az (ah ag uc)/\w'.cell? ⟨g,q*7+1,aj⟩=az (ah ag zi)/\w'.cell? ⟨g,q*7+2,aj⟩=az (ah ag zf)/\w'.cell? ⟨g,q*7+3,aj⟩=az (ah ag zt)/\w'.cell? ⟨g,q*7+4,aj⟩=az (ah ag zl)/\w'.cell? ⟨g,q*7+5,aj⟩=az (ah ag ze)/\w'.cell? ⟨g,q*7+6,aj⟩=az (ay za zn zk))/\w'.cell? ⟨g,p*7,aj⟩=az (ah ag yc)/\w'.cell? ⟨g,p*7+1,aj⟩=az (ah ag xi)/\w'.cell? ⟨g,p*7+2,aj⟩=az (ah ag xf)/\w'.cell? ⟨g,p*7+3,aj⟩=az (ah ag xt)/\w'.cell? ⟨g,p*7+4,aj⟩=az (ah ag xl)/\w'.cell? ⟨g,p*7+5,aj⟩=az (ah ag xe)/\w'.cell? ⟨g,p*7+6,aj⟩=az (ay xa xn xk))
       (first|exact⟨⟨z0,z1,z2,z3,z4,z5,z6⟩,x0,x1,x2,x3,x4,x5,x6⟩|exact KS.o _ BX.o)
       (first|(go_at_call 96;refine(BC.o _ (by repeat(first|exact aQ _ _|refine Below.drew ?_))).mono ?_;rintro e w5 ⟨rfl,OU⟩;have BX:=aA OU;clear OU))
      all_goals
       have G:=aA (FN.o w5 BX.o);clear z0 z1 z2 z3 z4 z5 z6 x0 x1 x2 x3 x4 x5 x6 KS BC CG;go_wp2_with fail;exact⟨by simpa using G.o,by simp[aJ];omega⟩
  ·have F:aY (∃S,rA kC S/\vS kC A S/\OF w0 g cap n (P++S++R) wr):=by
    have e1:A.take k=A:=List.take_of_length_le (by omega);have e2:A.drop k=[]:=List.drop_eq_nil_of_le (by omega);have h1:=SB.o;have h2:=OW.o;rw[e1]at h1;rw[e2,List.append_nil]at h2;exact⟨S,SR.o,h1,h2⟩
   have kb:¬((a+k:Nat):Int)<(b:Int):=(by have:=HBb.o;have:=HA.o;omega);obtain⟨i,hi⟩:∃i,a+k=i:=⟨_,rfl⟩;rw[hi]at kb|-;clear OW;go_wp2_with fail
   go_end0
   exact⟨rfl,by simpa using F.o⟩
def Xp(w0:aG)(g cap n:Nat)(D0:List Fw)(a b:aI)(wr:aG):Prop:=
 (a=ah ag 0/\b=ah ag 20/\OF w0 g cap n D0 wr)\/(n=20/\a=ah ag 20/\b=ah ag 40/\∃S,rA kC S/\vS kC D0 S/\OF w0 g cap n S wr)
theorem amZ{D0 L:List Fw}(hs:SlF D0)(h:vS kC D0 L):SlF L:=fun x hx=>hs x (h.mem.1 hx)
theorem acK(w0:aG)(g cap n:Nat)(D0:List Fw)(w:aG)(hn:n<=20)(hs:SlF D0)(h:OF w0 g cap n D0 w):bZ aH 124 #[ay (az ⟨g,0,aj⟩) n cap,ah ag (n:Int),Ce] w fun e w'=>e=ax (.tuple #[])/\∃S,rA kC S/\vS kC D0 S/\OF w0 g cap n S w':=by
 have ST:aY (Xp w0 g cap n D0 (ah ag 0) (ah ag 20) w):=.inl ⟨rfl,rfl,h⟩;have SM:=aA hs;clear h hs;go_enter func124,ntmps124;unfold Ce;go_wp2_with fail;go_loopw [7,8] (fun a b wr=>Xp w0 g cap n D0 a b wr) (fun _ b _=>60-(aJ b).toNat);case atStart=>exact ST.o
 case round=>
  clear ST;have KEY:aY (∀(S:List Fw) w2,rA kC S->vS kC D0 S->OF w0 g cap n S w2->∃S,rA kC S/\vS kC D0 S/\OF w0 g cap n S w2):=fun S w2 h1 h2 h3=>⟨S,h1,h2,h3⟩;rcases hrel with⟨rfl,rfl,hod⟩|⟨ays,rfl,rfl,S,hsr,Ic,hod⟩
  ·have hl:=hod.len;by_cases h20:n=20
   ·have IC:=PG w0 g cap n 0 20 [] D0 [] wr (by omega) rfl (by simp;omega) (by simpa using SM.o) (by simpa using hod);unfold Ce at IC;have ICH:=aA IC;have bn:(20:Int)<=(n:Int):=(by omega);have FT:aY (∀S wq,rA kC S->vS kC D0 S->OF w0 g cap n ([]++S++[]) wq->Xp w0 g cap n D0 (ah ag 20) (ah ag 40) wq):=fun S wq h1 h2 h3=>.inr ⟨h20,rfl,rfl,S,h1,h2,by simpa using h3⟩;clear IC hod hl h20 KEY;go_wp2_with fail;refine ICH.o.mono ?_;rintro e w2 ⟨rfl,S,h1,h2,h3⟩;have R:=aA (FT.o S w2 h1 h2 h3);clear h1 h2 h3 FT ICH;go_wp2_with fail;exact⟨by simpa using R.o,by simp[aJ]⟩
   ·have IC:=PG w0 g cap n 0 n [] D0 [] wr (by omega) rfl (by simp;omega) (by simpa using SM.o) (by simpa using hod);unfold Ce at IC;have ICH:=aA IC;have bn:¬(20:Int)<=(n:Int):=(by omega);have bn2:¬(20:Int)<(n:Int):=(by omega);clear IC hod hl;go_wp2_with fail;refine ICH.o.mono ?_;rintro e w2 ⟨rfl,S,h1,h2,h3⟩;have F:=aA (KEY.o S w2 h1 h2 (by simpa using h3));clear h1 h2 h3 ICH KEY;go_wp2_with fail;go_loopw [6] (fun s wr=>s=ah ag 20/\w2=wr) (fun _ _=>0);case atStart=>exact⟨rfl,rfl⟩
    case round=>
     obtain⟨rfl,rfl⟩:=hrel;go_wp2_with fail
     go_end0
     exact⟨rfl,F.o⟩
  ·have hl:=hod.len;have IC:=PG w0 g cap n 20 n S [] [] wr (by omega) (by omega) (by simp;omega) (by simpa using amZ SM.o Ic) (by simpa using hod);unfold Ce at IC;have ICH:=aA IC;have bn:¬(40:Int)<=(n:Int):=by omega
   have bn2:¬(20:Int)<(n:Int):=(by omega);have FF:aY (∀S' w2,vS kC [] S'->OF w0 g cap n (S++S'++[]) w2->∃S,rA kC S/\vS kC D0 S/\OF w0 g cap n S w2):=fun S' w2 h1 h2=>(by have e:S'=[]:=(by have:=h1.length;simpa using this);subst e;exact KEY.o S w2 hsr Ic (by simpa using h2));clear IC hod hl hsr Ic KEY ays;go_wp2_with fail;refine ICH.o.mono ?_;rintro e w2 ⟨rfl,S',h1,h2,h3⟩;have F:=aA (FF.o S' w2 h2 h3);clear h1 h2 h3 ICH FF;go_wp2_with fail;go_loopw [6] (fun s wr=>s=ah ag 20/\w2=wr) (fun _ _=>0);case atStart=>exact⟨rfl,rfl⟩
   case round=>
    obtain⟨rfl,rfl⟩:=hrel;go_wp2_with fail
    go_end0
    exact⟨rfl,F.o⟩
theorem acI(w0:aG)(g cap n:Nat)(D0:List Fw)(w:aG)(hn:n<=20)(hs:SlF D0)(h:OF w0 g cap n D0 w):bZ aH 95 #[ay (az ⟨g,0,aj⟩) n cap,Ce] w fun e w'=>e=ax (.tuple #[])/\∃S,rA kC S/\vS kC D0 S/\OF w0 g cap n S w':=by
 have SC:=acK w0 g cap n D0 w hn hs h;unfold Ce at SC;have SCH:=aA SC;clear SC h hs;go_enter func95,ntmps95;unfold Ce;go_wp2_with fail;refine SCH.o.mono ?_;rintro e w2 ⟨rfl,ho⟩;have F:=aA ho;clear ho SCH;go_wp2_with fail
 go_end0
 exact⟨rfl,F.o⟩
def akU(a b:aI)(w0 wr:aG):Prop:=a=ah ag 0/\b=ah ag 20/\w0=wr
theorem arC(ad:Option Addr)(c:Nat)(w:aG):bZ aH 150 #[ay ad 0 c,ah ag 0,ah ag 0,Ce] w fun e w'=>e=ax (.tuple #[])/\w=w':=by
 go_enter func150,ntmps150;unfold Ce
 go_wp2_with fail;go_loopw [8] (fun i wr=>i=ah ag 1/\w=wr) (fun _ _=>0)
 case atStart=>exact⟨rfl,rfl⟩
 case round=>
  obtain⟨rfl,rfl⟩:=hrel;go_wp2_with fail
  go_end0
  exact⟨rfl,rfl⟩
theorem anf(ad:Option Addr)(c:Nat)(w:aG):bZ aH 124 #[ay ad 0 c,ah ag 0,Ce] w fun e w'=>e=ax (.tuple #[])/\w=w':=by
 have IC:=arC ad c w;unfold Ce at IC;have ICH:=aA IC;clear IC;go_enter func124,ntmps124;unfold Ce;go_wp2_with fail;go_loopw [7,8] (fun a b wr=>akU a b w wr) (fun _ _ _=>0);case atStart=>exact⟨rfl,rfl,rfl⟩
 case round=>
  obtain⟨rfl,rfl,rfl⟩:=hrel;go_wp2_with fail;refine ICH.o.mono ?_;rintro e w2 ⟨rfl,rfl⟩;go_wp2_with fail;go_loopw [6] (fun s wr=>s=ah ag 20/\w=wr) (fun _ _=>0);case atStart=>exact⟨rfl,rfl⟩
  case round=>
   obtain⟨rfl,rfl⟩:=hrel;go_wp2_with fail
   go_end0
   exact⟨rfl,rfl⟩
theorem ane(ad:Option Addr)(c:Nat)(w:aG):bZ aH 95 #[ay ad 0 c,Ce] w fun e w'=>e=ax (.tuple #[])/\w=w':=by
 have SC:=anf ad c w;unfold Ce at SC;have SCH:=aA SC;clear SC;go_enter func95,ntmps95;unfold Ce;go_wp2_with fail;refine SCH.o.mono ?_;rintro e w2 ⟨rfl,rfl⟩;go_wp2_with fail
 go_end0
 exact⟨rfl,rfl⟩
theorem WA(w:aG)(v:aI)(D0:List Fw)(hn:D0.length<=20)(hs:SlF D0)(h:w.ownsRow 0 122 7 v D0.length (D0.flatMap Hy)):bZ aH 95 #[v,Ce] w fun e w'=>e=ax (.tuple #[])/\∃S,rA kC S/\vS kC D0 S/\w'.ownsRow 0 122 7 v D0.length (S.flatMap Hy)/\Ch (fun k=>v.ownBlock=az k) w w':=by
 rcases h.2 with⟨e1,e2⟩|⟨g,cap,cur,e1,_⟩
 ·have e3:D0=[]:=List.eq_nil_of_length_eq_zero e2;subst e3;subst e1;refine(ane aj 0 w).mono ?_;rintro e w' ⟨rfl,rfl⟩;exact⟨rfl,[],sJ,vS.refl _,h,Ch.refl _ _⟩
 ·subst e1;refine(acI w g cap D0.length D0 w hn hs ⟨h,Ch.refl _ _⟩).mono ?_;rintro e w' ⟨rfl,S,h1,h2,h3⟩;exact⟨rfl,S,h1,h2,h3.own,h3.ch.mono fun k _ q=>by simp[Value.ownBlock,q]⟩
end Go.Proofs.YtnjjkgjdhljfnaaGreat
