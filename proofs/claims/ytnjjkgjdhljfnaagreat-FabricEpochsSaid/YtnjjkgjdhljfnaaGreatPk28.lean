/- Part 28. -/
import Derived.Test.YtnjjkgjdhljfnaaGreatPk25
import Derived.Test.YtnjjkgjdhljfnaaGreatPk27
open Go.Proofs.Tryz
open Go renaming Value->aI,World->aG
open Go.Ending renaming returned->ax
open Go.IntKind renaming i64->ag
open Go.Lib renaming hid->aA
open Go.Lit renaming int->iT
open Go.Obj renaming cells->af
open Go.Proofs.Tryz renaming prog->aH
open Go.RowKit renaming Below->aN
open Go.RowKit.Below renaming refl->aQ
open Go.Value renaming int->ah,ownBlock->dV,pointer->au,slice->ay
open Go.WideAt renaming sameKey_iff->lY
open Go.World renaming ownsRow_nil->dM
open List renaming mem_append_right->sj,replicate_succ->oG
open Nat renaming le_refl->aC
open Option renaming none->aj,some->az
open Option.some renaming inj->je
set_option maxRecDepth 100000
set_option maxHeartbeats 16000000
set_option linter.unusedVariables false
set_option linter.unusedSimpArgs false
namespace Go.Proofs.YtnjjkgjdhljfnaaGreat
open Go.RowKit Go.Maps
section
attribute [local go_sem ↓] Go.wp_at_zero Go.wp_at_succ
def Lp(w:aG)(ns:List Nd)(cs:List Cb)(aK:List Int)(e:Ending)(w':aG):Prop:=
 ∃g0 b r Z L,e=ax (pt g0)/\Bz ns cs (cs.map fun _=>true) r/\pg w.heap.size Z w' g0 b ns cs L (ay aj 0 0) (ay aj 0 0) 0 ⟨jM ns cs aK r,[],[]⟩/\(∀k,k<w.heap.size->Z k=(1,0,0,0))/\aN w.heap.size w w'
theorem WE(ns:List Nd)(cs:List Cb)(aK:List Int)(An Ac Ar:Option Addr)(cn cc cr:Nat)(w:aG)(hl:ns.length<=1000000)(DN:cs.length<=1000000)(hl3:aK.length<=1000000)(tu:QI ⟨ns,cs⟩)(hwr:WfI aK)(h:jw w An Ac ⟨ns,cs⟩)(h3:gI 1 cI 0 w Ar aK.length aK)(h0:zS ⟨ns,cs⟩ aK=0):Calls aH 25 #[.agg #[ay An ns.length cn,ay Ac cs.length cc],ay Ar aK.length cr] w (Lp w ns cs aK):=by
 obtain⟨w1,gK⟩:∃w1:aG,w.alloc (af #[ay An ns.length cn,ay Ac cs.length cc] 25)=w1:=⟨_,rfl⟩;have b1:aN w.heap.size w w1:=by rw[<-gK];exact(aQ _ _).alloc (aC _) _
 have B1:=aA b1;have P1:Hid (dh w1 w.heap.size 25 #[ay An ns.length cn,ay Ac cs.length cc]):=by rw[<-gK];exact dh.new w _ _
 have k0:=P1.o.cell 0;have k1:=P1.o.cell 1;have NEW:=aA (Vz ns cs aK An Ac Ar cn cc cr w1 hl DN hl3 tu hwr (h.below (aC _) b1) (h3.below (aC _) b1));clear h h3 b1 tu hwr;go_enter func25,ntmps25;go_wp2_with (first|(go_at_call 11;(with_reducible refine NEW.o.mono ?_);rintro e w2 (⟨q,_⟩|⟨_,b,r,Z,L,rfl,hr,hm,ht,uu⟩);(exact absurd h0 q);have HR:=aA hr;have HM:=aA hm;have HT:=aA ht;have HB:=aA uu;clear hr hm ht uu));go_ret;have hA:aN w2.heap.size w2 (w2.alloc (af #[au (az ⟨b,0,aj⟩),ay aj 0 0,ay aj 0 0,ah ag 0,.bool true] 56)):=(aQ _ _).alloc (aC _) _;have he:∀k,k<w2.heap.size->qm Z w2.heap.size (0,1,0,0) k=Z k:=fun k hk=>if_pos hk;have s1:=B1.o.size;have s2:=HB.o.size;refine⟨w2.heap.size,b,r,qm Z w2.heap.size (0,1,0,0),L,rfl,HR.o,?_,fun k hk=>?_,(B1.o.trans (HB.o.mono s1)).trans (hA.mono (by omega))⟩
 ·exact{
   Us:=HM.o.jD (S:=fun _=>False) (Ch.bY hA) he fun _ q=>q.elim
   root:=dh.new w2 _ _
   iP:=if_neg (by omega)
   Fz:=by omega
   ins:=⟨[],rfl,dM _ _ _ _,(fun x hx=>by cases hx),fun g hg=>by simp[dV]at hg⟩
   outs:=⟨⟨[],rfl,dM _ _ _ _,(fun x hx=>by cases hx),fun g hg=>by simp[dV]at hg⟩,fun g hg=>by simp[dV]at hg⟩}
 ·rw[he k (by omega)];exact HT.o k (by omega)
theorem Ac.dead{B:Nat}{f:dx}{ins outs:List Fm}(h:Ac B f [] ins outs)(i:Nat):(Cf B f.fl i).length<=ins.length:=by have h1:=h.len;have h2:=TF (fun _=>1) B f.fl i;rw[Dm,List.length_map]at h2;unfold Gd at h1;omega
theorem aaK(B0:Nat)(Z:Own)(w:aG)(g0 b:Nat)(ns:List Nd)(cs:List Cb)(L:rY)(vi vo:aI)(s:Iz)(a:nY)(aD:Option Addr)(cD:Nat)(h:pg B0 Z w g0 b ns cs L vi vo s.f.now s)(hb0:B0<=w.heap.size)(hp:sS ns cs)(h8:ns.length<=8)(LY:cs.length<=10)(hv:fT ⟨ns,cs⟩=0)(tu:QI ⟨ns,cs⟩){B n:Nat}(hk:NY ns cs B n s)(hB:n+102<=B)(hn:n<=14000)(hdl:a.data.length<=1000000)(IV:a.data.length<=64->iQ Z w a.data (ay aD a.data.length cD)):Calls aH 27 #[pt g0,.agg (vP a aD cD)] w (tL B0 Z w g0 b ns cs s a):=by
 by_cases h0:a.k=0
 ·exact aeh B0 Z w g0 b ns cs L vi vo s a aD cD h hb0 hp h8 LY hv tu hk hB hn h0
 by_cases h1:a.k=1
 ·exact Xx B0 Z w g0 b ns cs L vi vo s a aD cD h hb0 hp hk hn hdl IV h1
 by_cases h2:a.k=2
 ·exact aha B0 Z w g0 b ns cs L vi vo s a aD cD h hp _ hk.ok hk.fl (by omega) B (by have:=hk.nw;omega) (by have h1:=hk.ac.dead a.i.toNat;have h2:=hk.il;have h3:=hk.la;omega) h2
 by_cases h3:a.k=3
 ·exact aef B0 Z w g0 b ns cs L vi vo s a aD cD h (by rw[hk.ok.up];omega) h3
 ·exact aeg B0 Z w g0 b ns cs L vi vo s a aD cD h h0 h1 h2 h3
end
section
def zD(w:aG)(g n:Nat)(p:Int->Bool):Prop:=∃M:Lit->Option aI,jo w aH 3 g n M/\(∀l v,M l=az v->v=.bool true)/\∀i:Int,(M (.int .i64 i)).isSome=p i
theorem zD.made(w:aG):zD (w.alloc (.map #[] 0)) w.heap.size 0 (fun _=>false):=⟨_,jo.made w _ _,(fun l v h=>by cases h),fun i=>rfl⟩
theorem zD.below{w w':aG}{g n B:Nat}{p:Int->Bool}(h:zD w g n p)(hb:aN B w w')(hg:g<B):zD w' g n p:=by obtain⟨M,h1,h2,h3⟩:=h;exact⟨M,h1.below hb hg,h2,h3⟩
theorem zD.lt{w:aG}{g n:Nat}{p:Int->Bool}(h:zD w g n p):g<w.heap.size:=by obtain⟨M,h1,_⟩:=h;exact h1.lt
theorem acS(w:aG):(zeroValue 4).run aH w=.ok (.bool false) w:=by kernel_rfl
theorem zD.look{w:aG}{g n:Nat}{p:Int->Bool}(h:zD w g n p)(i:Int)(hw:(iT .i64 i).wf=true):(Instr.lookup 57 (.map (az g)) (ah ag i) false).run aH w=.ok (.bool (p i)) w:=by
 obtain⟨M,h1,h2,h3⟩:=h;have k:=h1.look (t:=57) (int_keyed underlying3) underlying57 (acS w) (keyOf_int_mk underlying3 hw);rw[k,<-h3 i];cases hm:M (.int .i64 i)with
 |none=>rfl
 |some v=>rw[h2 _ _ hm];rfl
theorem zD.put{w:aG}{g n:Nat}{p:Int->Bool}(h:zD w g n p)(hn:n<maxLen)(i:Int)(hw:(iT .i64 i).wf=true):∃w',(Instr.mapUpdate 57 (.map (az g)) (ah ag i) (.bool true)).run aH w=.ok () w'/\zD w' g (n+1) (fun j=>p j||j==i)/\w.grownBy w' (az g):=by
 obtain⟨M,h1,h2,h3⟩:=h;obtain⟨w',r,o,gr⟩:=h1.store (t:=57) (int_keyed underlying3) underlying57 hn (keyOf_int_mk underlying3 hw) (.bool true);refine⟨w',r,⟨_,o,fun l v hv=>?_,fun j=>?_⟩,gr⟩
 ·unfold tJ at hv;by_cases q:l.sameKey (.int .i64 i)=true
  ·rw[if_pos q]at hv;exact(je hv).symm
  ·rw[if_neg q]at hv;exact h2 _ _ hv
 ·unfold tJ;have kl:WideAt.IsKeyLit (.int .i64 i):=trivial;by_cases q:(iT .i64 j).sameKey (.int .i64 i)=true
  ·rw[if_pos q];rw[lY kl]at q;have q:=(Lit.int.inj q).2;subst q;show true=(p j||j==j);rw[beq_self_eq_true,Bool.or_true]
  ·rw[if_neg q,h3 j];rw[lY kl]at q;have:(j==i)=false:=(by rw[beq_eq_false_iff_ne];exact fun e=>q (by rw[e]));show p j=(p j||j==i);rw[this,Bool.or_false]
theorem YL(s:Iz)(k:Nat)(hk:k<s.ins.length):((s.ins.take (k+1)).filter (yS s)).length=((s.ins.take k).filter (yS s)).length+(if yS s (s.ins.getD k default)then 1 else 0):=by
 rw[ji default s.ins k hk,List.filter_append,List.length_append];congr 1;by_cases h:yS s (s.ins.getD k default)=true
 ·rw[List.filter_cons_of_pos h,if_pos h];rfl
 ·rw[List.filter_cons_of_neg h,if_neg h];rfl
theorem amT(μ:Fm->Nat)(n:Nat)(aK:List Int):qW μ (qM n aK).q=0:=by
 have h1:∀m,sm (fun l=>sm μ l) (List.replicate m [])=0:=fun m=>by
  induction m with
  |zero=>rfl
  |succ m ih=>rw[oG,lV,ih];rfl
 unfold qW qM;simp only
 induction n with
 |zero=>rfl
 |succ n ih=>rw[oG,lV,ih,h1]
theorem NY.new{ns:List Nd}{cs:List Cb}{aK:List Int}{r:Rt}(hp:sS ns cs)(hv:fT ⟨ns,cs⟩=0)(hr:pU aK=true)(hrt:Bz ns cs (cs.map fun _=>true) r)(B:Nat):NY ns cs B 0 ⟨jM ns cs aK r,[],[]⟩:=by
 have ro:Ef ns cs r:=by obtain⟨PS,LL,G,hn⟩:=hrt;exact hn.ok hv
 unfold pU at hr;simp only[Bool.and_eq_true,decide_eq_true_eq,List.all_eq_true]at hr;have e0:∀μ,Gd μ B (jM ns cs aK r) []=0:=fun μ=>by
  have h1:sm (fun b:Bx=>qW μ b.q) (jM ns cs aK r).boxes=0:=by
   have h3:∀l:List Nd,sm (fun b:Bx=>qW μ b.q) (l.map fun n=>qM (if n.sw then n.bE.toNat else 2) (aK++aK))=0:=fun l=>by
    induction l with
    |nil=>rfl
    |cons x l ih=>rw[List.map_cons,lV,amT,ih]
   exact h3 ns
  have h2:flW μ B (jM ns cs aK r).fl=0:=by
   unfold flW jM;simp only;have:∀l:List Nat,sm (fun t=>sm (fun x:Nat×Fm=>μ x.2) []) l=0:=fun l=>by
    induction l with
    |nil=>rfl
    |cons x l ih=>rw[lV,ih];rfl
   exact this _
  unfold Gd;rw[h1,h2];rfl
 exact{
  ok:=by rw[Nat.zero_mul];exact dK.new hp hr.1.1 hr.1.2 (fun x hx=>by have:=hr.2 x hx;unfold yK at this;simpa using this) ro
  fl:=Be.new ns cs aK r
  ac:=⟨fun μ=>by rw[e0];rfl,fun e=>by rw[e0];unfold dx.alive jM;simp,fun _=>rfl⟩
  il:=rfl
  id:=fun i hi=>by cases hi
  la:=aC _
  nw:=aC _}
theorem NY.idb{ns:List Nd}{cs:List Cb}{B n:Nat}{s:Iz}(h:NY ns cs B n s):(∀x∈s.ins,1<=x.id/\x.id<=n)/\(∀x∈s.f.lost,1<=x.id/\x.id<=n)/\∀d∈s.outs,1<=d.2.2.id/\d.2.2.id<=n:=by
 have h1:∀x∈s.ins,1<=x.id/\x.id<=n:=fun x hx=>by
  obtain⟨i,hi,e⟩:=List.getElem_of_mem hx;have k:=h.id i hi;have e2:s.ins.getD i default=x:=by simp[List.getD,hi,e]
  rw[e2]at k;have:=h.il;have:=h.la;rw[k];omega
 have p:=h.perm;exact⟨h1,fun x hx=>h1 x (p.mem_iff.1 (sj _ hx)),fun d hd=>h1 _ (p.mem_iff.1 (List.mem_append_left _ (sj _ (List.mem_map.2 ⟨d,hd,rfl⟩))))⟩
def UG(w7:aG)(gM:Nat)(ids:List Int)(i:aI)(wx:aG):Prop:=∃j:Nat,j<=ids.length/\i=ah ag j/\zD wx gM j (fun q=>(ids.take j).any fun x=>q==x)/\Ch (· =gM) w7 wx
def adH(wa:aG)(gM n1:Nat)(ids:List Int)(outs:List Dl)(i:aI)(wx:aG):Prop:=∃j:Nat,j<=outs.length/\i=ah ag j/\zD wx gM (n1+j) (fun q=>ids.any (fun x=>q==x)||(outs.take j).any fun d=>q==d.2.2.id)/\aN gM wa wx
def OC(wa:aG)(gM n2:Nat)(s:Iz)(c i:aI)(wx:aG):Prop:=∃j:Nat,j<=s.ins.length/\i=ah ag j/\c=ah ag ((((s.ins.take j).filter (yS s)).length:Nat):Int)/\zD wx gM n2 (zL s)/\aN gM wa wx
theorem zD.congr{w:aG}{g n:Nat}{p p':Int->Bool}(h:zD w g n p)(e:∀q,p q=p' q):zD w g n p':=by obtain⟨M,h1,h2,h3⟩:=h;exact⟨M,h1,h2,fun i=>(h3 i).trans (e i)⟩
theorem UW{α:Type}(d:α)(l:List α)(f:α->Bool){k:Nat}(hk:k<l.length):(l.take (k+1)).any f=((l.take k).any f||f (l.getD k d)):=by rw[ji d l k hk,List.any_append];simp
theorem UG.next{w7 wx w':aG}{gM j:Nat}{ids:List Int}(hj:j<ids.length)(hc:Ch (· =gM) w7 wx)(h:zD w' gM (j+1) (fun q=>((ids.take j).any fun x=>q==x)||q==ids.getD j 0))(g:wx.grownBy w' (az gM)):UG w7 gM ids (ah ag ((j:Int)+1)) w':=
 ⟨j+1,hj,by congr 1,h.congr fun q=>(UW 0 ids (fun x=>q==x) hj).symm,hc.grown g fun k e=>.inl (je e).symm⟩
theorem ahA(s:Iz){ids:List Int}(h:∀q:Int,q∈ids↔∃x∈s.f.lost,x.id=q)(q:Int):(ids.any (fun x=>q==x)||s.outs.any fun d=>q==d.2.2.id)=zL s q:=by
 unfold zL;rw[Bool.eq_iff_iff];simp only[Bool.or_eq_true,List.any_eq_true,beq_iff_eq];constructor
 ·rintro(⟨x,hx,e⟩|⟨d,hd,e⟩)
  ·subst e;exact .inl ((h q).1 hx)
  ·exact .inr ⟨d,hd,e.symm⟩
 ·rintro(⟨x,hx,e⟩|⟨d,hd,e⟩)
  ·exact .inl ⟨q,(h q).2 ⟨x,hx,e⟩,rfl⟩
  ·exact .inr ⟨d,hd,e.symm⟩
theorem OC.next{wa w':aG}{gM n2 j:Nat}{s:Iz}(hj:j<s.ins.length){x:Fm}(hx:s.ins.getD j default=x)(sm:zD w' gM n2 (zL s))(hb:aN gM wa w'){c:Int}(hc:c=((((s.ins.take j).filter (yS s)).length:Nat):Int)+(if yS s x then 1 else 0)):OC wa gM n2 s (ah ag c) (ah ag ((j:Int)+1)) w':=
 ⟨j+1,hj,by congr 1,by rw[YL s j hj,hx,hc];congr 1;split<;>simp,sm,hb⟩
end
end Go.Proofs.YtnjjkgjdhljfnaaGreat
