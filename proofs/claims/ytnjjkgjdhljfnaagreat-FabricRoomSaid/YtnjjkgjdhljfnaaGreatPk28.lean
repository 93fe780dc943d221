/- Part 28. -/
import Derived.Test.YtnjjkgjdhljfnaaGreatPk25
import Derived.Test.YtnjjkgjdhljfnaaGreatPk27
open Go.Proofs.Tryz
open Go renaming World->aG
open Go.Ending renaming returned->ax
open Go.IntKind renaming i64->ag
open Go.Lib renaming hid->aA
open Go.Obj renaming cells->af
open Go.Proofs.Tryz renaming prog->aH
open Go.RowKit.Below renaming refl->aS
open Go.Value renaming int->ah,ownBlock->eO,pointer->au,slice->ay
open Go.World renaming ownsRow_nil->dR
open List renaming foldl_cons->dS,getD->bS,getD_eq_getElem?_getD->dN,getElem?_eq_getElem->cZ,getElem?_map->cK,mem_cons_of_mem->dx,mem_cons_self->bZ,range->aN,replicate->aQ,replicate_succ->oI
open Nat renaming le_refl->aC
open Option renaming getD_some->iy,isSome_iff_exists->jT,map_some->je,none->aj,some->az
set_option maxRecDepth 100000
set_option maxHeartbeats 16000000
set_option linter.unusedVariables false
set_option linter.unusedSimpArgs false
namespace Go.Proofs.YtnjjkgjdhljfnaaGreat
section
open Go.RowKit Go.Maps
attribute [local go_sem ↓] Go.wp_at_zero Go.wp_at_succ
def Lv(w:aG)(ns:List Nd)(cs:List Cb)(aI:List Int)(e:Ending)(w':aG):Prop:=
 ∃g0 b r Z L,e=ax (pt g0)/\Az ns cs (cs.map fun _=>true) r/\pE w.heap.size Z w' g0 b ns cs L (ay aj 0 0) (ay aj 0 0) 0 ⟨iq ns cs aI r,[],[]⟩/\(∀k,k<w.heap.size->Z k=(1,0,0,0))/\Below w.heap.size w w'
theorem WA(ns:List Nd)(cs:List Cb)(aI:List Int)(An Ac Ar:Option Addr)(cn cc cr:Nat)(w:aG)(hl:ns.length<=1000000)(Ef:cs.length<=1000000)(hl3:aI.length<=1000000)(sN:QJ ⟨ns,cs⟩)(hwr:WfI aI)(h:jB w An Ac ⟨ns,cs⟩)(h3:gH 1 cI 0 w Ar aI.length aI)(h0:Ae ⟨ns,cs⟩ aI=0):Calls aH 25 #[.agg #[ay An ns.length cn,ay Ac cs.length cc],ay Ar aI.length cr] w (Lv w ns cs aI):=by
 obtain⟨w1,gK⟩:∃w1:aG,w.alloc (af #[ay An ns.length cn,ay Ac cs.length cc] 25)=w1:=⟨_,rfl⟩;have b1:Below w.heap.size w w1:=by rw[<-gK];exact(aS _ _).alloc (aC _) _
 have B1:=aA b1;have P1:Hid (dG w1 w.heap.size 25 #[ay An ns.length cn,ay Ac cs.length cc]):=by rw[<-gK];exact dG.new w _ _
 have k0:=P1.o.cell 0;have k1:=P1.o.cell 1;have NEW:=aA (Vz ns cs aI An Ac Ar cn cc cr w1 hl Ef hl3 sN hwr (h.below (aC _) b1) (h3.below (aC _) b1));clear h h3 b1 sN hwr;go_enter func25,ntmps25;go_wp2_with (first|(go_at_call 11;(with_reducible refine NEW.o.mono ?_);rintro e w2 (⟨q,_⟩|⟨_,b,r,Z,L,rfl,hr,hm,ht,uy⟩);(exact absurd h0 q);have HR:=aA hr;have HM:=aA hm;have HT:=aA ht;have HB:=aA uy;clear hr hm ht uy));go_ret;have hA:Below w2.heap.size w2 (w2.alloc (af #[au (az ⟨b,0,aj⟩),ay aj 0 0,ay aj 0 0,ah ag 0,.bool true] 56)):=(aS _ _).alloc (aC _) _;have he:∀k,k<w2.heap.size->qz Z w2.heap.size (0,1,0,0) k=Z k:=fun k hk=>if_pos hk;have s1:=B1.o.size;have s2:=HB.o.size;refine⟨w2.heap.size,b,r,qz Z w2.heap.size (0,1,0,0),L,rfl,HR.o,?_,fun k hk=>?_,(B1.o.trans (HB.o.mono s1)).trans (hA.mono (by omega))⟩
 ·exact{
   TU:=HM.o.jM (S:=fun _=>False) (Ch.dw hA) he fun _ q=>q.elim
   root:=dG.new w2 _ _
   iO:=if_neg (by omega)
   FZ:=by omega
   ins:=⟨[],rfl,dR _ _ _ _,(fun x hx=>by cases hx),fun g hg=>by simp[eO]at hg⟩
   outs:=⟨⟨[],rfl,dR _ _ _ _,(fun x hx=>by cases hx),fun g hg=>by simp[eO]at hg⟩,fun g hg=>by simp[eO]at hg⟩}
 ·rw[he k (by omega)];exact HT.o k (by omega)
theorem Ac.dead{B:Nat}{f:dB}{ins outs:List Fm}(h:Ac B f [] ins outs)(i:Nat):(yw B f.fl i).length<=ins.length:=by have h1:=h.len;have h2:=TV (fun _=>1) B f.fl i;rw[DC,List.length_map]at h2;unfold Ey at h1;omega
theorem aaM(B0:Nat)(Z:Own)(w:aG)(g0 b:Nat)(ns:List Nd)(cs:List Cb)(L:rY)(vi vo:Value)(s:Oa)(a:qg)(aD:Option Addr)(cD:Nat)(h:pE B0 Z w g0 b ns cs L vi vo s.f.now s)(hb0:B0<=w.heap.size)(hp:nW ns cs)(h8:ns.length<=8)(Mf:cs.length<=10)(hv:fQ ⟨ns,cs⟩=0)(sN:QJ ⟨ns,cs⟩){B n:Nat}(hk:WOk ns cs B n s)(hB:n+102<=B)(hn:n<=14000)(hdl:a.data.length<=1000000)(Je:a.data.length<=64->iX Z w a.data (ay aD a.data.length cD)):Calls aH 27 #[pt g0,.agg (vQ a aD cD)] w (tN B0 Z w g0 b ns cs s a):=by
 by_cases h0:a.k=0
 ·exact aei B0 Z w g0 b ns cs L vi vo s a aD cD h hb0 hp h8 Mf hv sN hk hB hn h0
 by_cases h1:a.k=1
 ·exact Xu B0 Z w g0 b ns cs L vi vo s a aD cD h hb0 hp hk hn hdl Je h1
 by_cases h2:a.k=2
 ·exact ahf B0 Z w g0 b ns cs L vi vo s a aD cD h hp _ hk.ok hk.fl (by omega) B (by have:=hk.nw;omega) (by have h1:=hk.ac.dead a.i.toNat;have h2:=hk.il;have h3:=hk.la;omega) h2
 by_cases h3:a.k=3
 ·exact aeg B0 Z w g0 b ns cs L vi vo s a aD cD h (by rw[hk.ok.up];omega) h3
 ·exact aeh B0 Z w g0 b ns cs L vi vo s a aD cD h h0 h1 h2 h3
end
section
open Go.RowKit Go.Maps
theorem amU(μ:Fm->Nat)(n:Nat)(aI:List Int):qW μ (oL n aI).q=0:=by
 have h1:∀m,sm (fun l=>sm μ l) (aQ m [])=0:=fun m=>by
  induction m with
  |zero=>rfl
  |succ m ih=>rw[oI,jK,ih];rfl
 unfold qW oL;simp only
 induction n with
 |zero=>rfl
 |succ n ih=>rw[oI,jK,ih,h1]
theorem WOk.new{ns:List Nd}{cs:List Cb}{aI:List Int}{r:Rt}(hp:nW ns cs)(hv:fQ ⟨ns,cs⟩=0)(hr:pK aI=true)(hrt:Az ns cs (cs.map fun _=>true) r)(B:Nat):WOk ns cs B 0 ⟨iq ns cs aI r,[],[]⟩:=by
 have ro:AV ns cs r:=by obtain⟨PS,LL,G,hn⟩:=hrt;exact hn.ok hv
 unfold pK at hr;simp only[Bool.and_eq_true,decide_eq_true_eq,List.all_eq_true]at hr;have e0:∀μ,Ey μ B (iq ns cs aI r) []=0:=fun μ=>by
  have h1:sm (fun b:Bx=>qW μ b.q) (iq ns cs aI r).boxes=0:=by
   have h3:∀l:List Nd,sm (fun b:Bx=>qW μ b.q) (l.map fun n=>oL (if n.sw then n.bE.toNat else 2) (aI++aI))=0:=fun l=>by
    induction l with
    |nil=>rfl
    |cons x l ih=>rw[List.map_cons,jK,amU,ih]
   exact h3 ns
  have h2:flW μ B (iq ns cs aI r).fl=0:=by
   unfold flW iq;simp only;have:∀l:List Nat,sm (fun t=>sm (fun x:Nat×Fm=>μ x.2) []) l=0:=fun l=>by
    induction l with
    |nil=>rfl
    |cons x l ih=>rw[jK,ih];rfl
   exact this _
  unfold Ey;rw[h1,h2];rfl
 exact{
  ok:=by rw[Nat.zero_mul];exact dH.new hp hr.1.1 hr.1.2 (fun x hx=>by have:=hr.2 x hx;unfold zb at this;simpa using this) ro
  fl:=yJ.new ns cs aI r
  ac:=⟨fun μ=>by rw[e0];rfl,fun e=>by rw[e0];unfold dB.alive iq;simp,fun _=>rfl⟩
  il:=rfl
  id:=fun i hi=>by cases hi
  la:=aC _
  nw:=aC _}
end
section
structure Joi(ns:List Nd)(cs:List Cb)(f:dB)(D:Int->Nat->Nat->Nat->Option Nat):Prop where
 up:∀i,i<cs.length->f.up.getD i false=true
 bn:f.dE=0
 rt:RtD ns cs f.up f.CR (D 0)
 jn:∀u t,u<ns.length->t<ns.length->Jn cs f.up u t
section
variable{ns:List Nd}{cs:List Cb}{f g:dB}{N B n:Nat}{D:Int->Nat->Nat->Nat->Option Nat}{H:List (Nat×Fm)}
theorem Joi.sam(h:Joi ns cs f D)(e1:g.up=f.up)(e2:g.dE=f.dE)(e3:g.CR=f.CR):Joi ns cs g D:=
 ⟨by rw[e1];exact h.up,e2.trans h.bn,by rw[e1,e3];exact h.rt,by rw[e1];exact h.jn⟩
theorem Joi.bz(hp:nW ns cs)(ok:dH ns cs f N)(j:Joi ns cs f D)(h:Way ns cs f D H){u p c:Nat}{x:Fm}(hu:u<ns.length)(h2:p<gJ (ns.getD u iZ))(h3:c<f.aI.length)(hx:x∈dz (qV f u).q p c):∃k,lY ns cs f u p x=az k/\k<gJ (ns.getD u iZ):=by
 have st:=h.q u p c x hu h2 h3 hx;have fm:=ok.q u p c x hu h2 h3 hx;have tl:x.jl.toNat<ns.length:=by have:=fm.t0;have:=fm.t1;omega
 have e0:x.ep=0:=by have:=fm.e0;have:=fm.e1;have:=j.bn;omega
 have er:f.rt x.ep=f.CR:=by rw[e0];rfl
 have dd:∃d,D 0 x.jl.toNat u (YM ns f.CR u p)=az d:=by
  by_cases hs:qE ns u=true
  ·have:=st.2.2.2 hs;rw[er,e0]at this;exact jT.1 this
  ·have e:YM ns f.CR u p=0:=by unfold YM;rw[if_neg (by simp[hs])]
   rw[e];exact jT.1 (j.rt.src _ u tl hu (j.jn u _ hu tl))
 obtain⟨d,hd⟩:=dd;cases d with
 |zero=>exact absurd (j.rt.zero _ u _ tl hu hd) st.1
 |succ d=>
  obtain⟨i,hi,hn,Oe,ht,hv,hor,hf⟩:=j.rt.step _ u _ d tl hu (Uk ns f.CR u p) hd;have r:lY ns cs f u p x=az (bV cs (iT cs i u)).2.1:=by
   unfold lY dB.leave;have ph:(if(qE ns u&&(f.rt x.ep).rz u p)=true then 1 else 0)=YM ns f.CR u p:=by rw[er];rfl
   simp only;rw[ph,er,hn,if_neg (by omega)];simp only[Int.toNat_natCast];rw[if_pos Oe];rfl
  refine⟨_,r,?_⟩;obtain⟨_,_,_,_,k⟩:=Bp hp ok hu fm r;exact k
theorem Tr.drops{bz:Nat->Fm->Option Nat}{b b1:Bx}{ms:List Mv}(h:Tr bz b ms b1):∀m∈ms,m.2.2.1=aj->∀k,bz m.1 m.2.2.2=az k->¬k<b.bE:=by
 induction h with
 |nil b=>exact fun m hm=>by cases hm
 |cons mi _ ih=>
  intro m hm e k hk;have d:=mi.LY;rcases List.mem_cons.1 hm with q|q
  ·subst q;cases mi with
   |drop p c f l h1 h2 h3 h4=>exact h4 k hk
   |move i c k' f l pt h1 h2 h3 h4=>cases e
  ·rw[<-d.1];exact ih m q e k hk
 |iY x hx _ ih=>exact ih
theorem Qf{u:Nat}:∀(ms:List Mv) (f:dB),(∀m∈ms,m.2.2.1≠aj)->(ms.foldl (dB.lU cs u) f).lost=f.lost
 |[],_,_=>rfl
 |m::ms,f,h=>by
  rw[dS,Qf ms _ fun y hy=>h y (dx _ hy)];have hm:=h m (bZ ..);unfold dB.lU;cases e:m.2.2.1 with
  |none=>exact absurd e hm
  |some k=>dsimp only;cases jH cs u k<;>rfl
theorem Zc(hp:nW ns cs)(ok:dH ns cs f N)(j:Joi ns cs f D)(h:Way ns cs f D H){u:Nat}(hu:u<ns.length):(f.kE ns cs u).lost=f.lost:=by obtain⟨b1,b2,b3⟩:=ok.box u hu;have t:=(DD _ (lY ns cs f u) b1).1;have s:=t.sub b1;have d:=t.drops;have e:f.kE ns cs u=(((f.boxes.getD u default).step (lY ns cs f u)).2).foldl (dB.lU cs u) {f with boxes:=f.boxes.set u ((f.boxes.getD u default).step (lY ns cs f u)).1}:=rfl;rw[e,Qf];intro m hm q;obtain⟨q1,q2,q3⟩:=s.2 m hm;obtain⟨k,r,hk⟩:=j.bz hp ok h hu (by rw[<-b2];exact q1) (by rw[<-b3];exact q2) q3;exact d m hm q k r (by rw[b2];exact hk)
theorem QA(hp:nW ns cs):∀(l:List Nat) {f:dB} {N:Nat},dH ns cs f N->(∀u∈l,u<ns.length)->Joi ns cs f D->Way ns cs f D H->(l.foldl (dB.kE ns cs) f).lost=f.lost
 |[],_,_,_,_,_,_=>rfl
 |u::l,f,N,ok,hl,j,h=>by rw[dS];have hu:=hl u (bZ ..);have s:=sW.kE ns cs f u;rw[QA hp l (ok.kE hp hu).1 (fun y hy=>hl y (dx _ hy)) (j.sam s.up s.bn s.r0) (h.kE hp ok hu)];exact Zc hp ok j h hu
theorem Nl:∀(l:List (Nat×Nat×Int)) (f:dB),(l.foldl (dB.jh cs) f).lost=f.lost
 |[],_=>rfl
 |x::l,f=>by rw[dS];exact Nl l (dB.jh cs f x)
theorem acO{nr:Rt}(hp:nW ns cs)(ok:dH ns cs f N)(hf:yJ cs f)(hr:AV ns cs nr)(cr:oq ns cs B f [])(hB:f.now+102<=B)(j:Joi ns cs f D)(h:Way ns cs f D [])(hpd:f.mW=false):(f.tick ns cs nr).1.lost=f.lost/\Way ns cs (f.tick ns cs nr).1 D []/\Joi ns cs (f.tick ns cs nr).1 D/\(f.tick ns cs nr).1.mW=false:=by
 have eb:f.jk nr=f.xI:=by unfold dB.jk;have:f.xI.mW=false:=hpd;rw[this,Bool.false_and,if_neg (by decide)]
 have sm:=sW.tick ns cs f nr;rw[eb]at sm;have hb:Way ns cs (f.jk nr) D []:=by rw[eb];exact h.xI
 refine⟨?_,(Way.rest hp ok hf hr hb).1,j.sam sm.up sm.bn sm.r0,sm.pe.trans hpd⟩;rw[Bt];obtain⟨m1,m2,m3⟩:=ok.mid hp hr;have ob:=ok.beg hr;have l0:((f.jk nr).iM cs).uA.lost=f.lost:=by show((f.jk nr).iM cs).lost=_;rw[eb];exact Nl _ _
 have c1:oq ns cs B (f.jk nr) []:=by rw[eb];exact cr.same rfl rfl rfl rfl rfl fun t x hx=>⟨t,hx⟩
 have c2:oq ns cs B ((f.jk nr).iM cs) []:=oq.wJ hp _ ob (fun x hx=>⟨(ob.lim _ x hx).1,(ob.lim _ x hx).2.1,_,hx⟩) c1;have c3:oq ns cs B ((f.jk nr).iM cs).uA []:=c2.same rfl rfl rfl rfl rfl fun t x hx=>by
  have hx:x∈(if t=((f.jk nr).iM cs).now then[]else((f.jk nr).iM cs).lim t):=hx;split at hx
  ·cases hx
  ·exact⟨t,hx⟩
 have h2:Way ns cs ((f.jk nr).iM cs) D []:=Way.wJ hp _ ob (fun x hx=>⟨(ob.lim _ x hx).1,(ob.lim _ x hx).2.1⟩) hb;have h3:Way ns cs ((f.jk nr).iM cs).uA D []:=h2.same rfl rfl rfl rfl rfl fun t y hy=>⟨t,hy⟩;have sr:sW f.xI ((f.jk nr).iM cs):=by rw[eb];exact sW.fold (dB.jh cs) (fun f x=>⟨rfl,rfl,rfl,rfl,rfl,rfl,rfl,rfl,rfl⟩) _ _
 have j3:Joi ns cs ((f.jk nr).iM cs).uA D:=j.sam sr.up sr.bn sr.r0;generalize((f.jk nr).iM cs).uA=g at *;have a1:=m1.jf hp (by rw[m3];exact hf.nd _);have mem:∀x∈mG (2*cs.length) (g.fl g.now),x.1<2*cs.length/\qR ns ({g with fl:=fun t=>if t=g.now then[]else g.fl t}:dB) x.2:=fun x hx=>⟨(mU hx).2,(m1.fl _ x (mU hx).1).2.qY rfl (aC _)⟩;have l4:=(oq.Es (H:=[]) hp (mG (2*cs.length) (g.fl g.now)) (s:=({g with fl:=fun t=>if t=g.now then[]else g.fl t},[])) (m1.Pp g.now) mem ((c3.take (now:=g.now) (by omega)).perm ((OI m1).append_right _))).2;have h4:=Way.Es (D:=D) (H:=[]) hp (mG (2*cs.length) (g.fl g.now)) (s:=({g with fl:=fun t=>if t=g.now then[]else g.fl t},[])) (m1.Pp g.now) mem (h3.qY rfl rfl rfl rfl (fun _ _ _ _ _ _ _ hx=>.inl hx) (fun t y hy=>by
  have hy:y∈(if t=g.now then[]else g.fl t):=hy;split at hy
  ·cases hy
  ·exact .inl ⟨t,hy⟩) fun y hy=>by rw[List.append_nil]at hy;exact .inl ⟨_,(mU hy).1⟩)
 have sa:=sW.Es ns cs (mG (2*cs.length) (g.fl g.now)) ({g with fl:=fun t=>if t=g.now then[]else g.fl t},[]);have j4:Joi ns cs (g.jf ns cs).1 D:=j3.sam sa.up sa.bn sa.r0;have l5:=QA hp (aN ns.length) a1.1 (fun u hu=>List.mem_range.1 hu) j4 h4.1;show((nL ns cs (g.jf ns cs).1 ns.length).tell ns cs).lost=_;rw[zG];exact l5.trans (l4.trans l0)
structure NI(ns:List Nd)(cs:List Cb)(B n:Nat)(s:Oa)(cut:Bool):Prop where
 ok:WOk ns cs B n s
 cr:oq ns cs B s.f []
 wy:∃D,Way ns cs s.f D []
 nc:cut=false->s.f.lost=[]/\s.f.mW=false/\∃D,Joi ns cs s.f D/\Way ns cs s.f D []
theorem NI.step{s t:Oa}{cut:Bool}(hp:nW ns cs)(hv:fQ ⟨ns,cs⟩=0)(h8:ns.length<=8)(h:NI ns cs B n s cut){a:qg}(ha:Rp ns cs s a t)(hB:n+102<=B)(hn:n<=14000):NI ns cs B (n+1) t (cut||a.k==2):=by
 have nw:=h.ok.nw;have w1:=h.ok.step hp h8 ha hB hn;obtain⟨D,wy⟩:=h.wy;refine⟨w1,?_,?_,?_⟩
 ·rcases ha with⟨_,nr,hr,_,rfl⟩|⟨_,rfl⟩|⟨_,hc,e1,e2⟩|⟨_,rfl⟩|⟨_,rfl⟩
  ·exact h.cr.tick hp h.ok.ok h.ok.fl hr (by omega)
  ·exact h.cr.inj hp h.ok.ok a.a a.b a.c a.data
  ·rcases hc with⟨_,q⟩|⟨_,dead,hd,q⟩
   ·rw[q];exact h.cr
   ·rw[q];exact h.cr.cut h.ok.ok a.i.toNat (hd B (by omega))
  ·show oq ns cs B (s.f.tZ a.i).1 [];have k:=h.cr;unfold dB.tZ;split
   ·exact k
   ·split
    ·exact k
    ·exact k.same rfl rfl rfl rfl rfl fun t x hx=>⟨t,hx⟩
  ·exact h.cr
 ·rcases ha with⟨_,nr,hr,hi,rfl⟩|⟨_,rfl⟩|⟨_,hc,e1,e2⟩|⟨_,rfl⟩|⟨_,rfl⟩
  ·exact(Way.tick hp hv h.ok.ok h.ok.fl hr hi h.ok.ac (by omega) wy).1
  ·exact⟨D,wy.inj hp h.ok.ok a.a a.b a.c a.data⟩
  ·rcases hc with⟨_,q⟩|⟨_,dead,hd,q⟩
   ·rw[q];exact⟨D,wy⟩
   ·rw[q];exact⟨D,wy.cut a.i.toNat dead⟩
  ·refine⟨D,?_⟩;show Way ns cs (s.f.tZ a.i).1 D [];unfold dB.tZ;split
   ·exact wy
   ·split
    ·exact wy
    ·exact wy.same rfl rfl rfl rfl rfl fun t x hx=>⟨t,hx⟩
  ·exact⟨D,wy⟩
 ·intro hc;rw[Bool.or_eq_false_iff]at hc;obtain⟨lo,pe,E,j,we⟩:=h.nc hc.1;rcases ha with⟨_,nr,hr,hi,rfl⟩|⟨_,rfl⟩|⟨k2,_⟩|⟨_,rfl⟩|⟨_,rfl⟩
  ·obtain⟨t1,t2,t3,t4⟩:=acO hp h.ok.ok h.ok.fl hr h.cr (by omega) j we pe;exact⟨t1.trans lo,t4,E,t3,t2⟩
  ·have i:=PQ h.ok.ok a.a a.b a.c a.data;obtain⟨_,_,i3,i4,i5,_,i7,_,i9⟩:=i;exact⟨i9.trans lo,i5.trans pe,E,j.sam i3 i4 i7,we.inj hp h.ok.ok a.a a.b a.c a.data⟩
  ·rw[k2]at hc;exact absurd hc.2 (by decide)
  ·have e:(s.f.tZ a.i).1=s.f:=by
    unfold dB.tZ;split
    ·rfl
    ·split
     ·rfl
     ·rename_i q1 q2;exfalso;have ul:=h.ok.ok.up;have:=j.up a.i.toNat (by omega);rw[this]at q2;exact q2 rfl
   show(s.f.tZ a.i).1.lost=[]/\(s.f.tZ a.i).1.mW=false/\∃D,Joi ns cs (s.f.tZ a.i).1 D/\Way ns cs (s.f.tZ a.i).1 D [];rw[e];exact⟨lo,pe,E,j,we⟩
  ·exact⟨lo,pe,E,j,we⟩
theorem alg{aI:List Int}{r:Rt}{u:Nat}(hu:u<ns.length):qV (iq ns cs aI r) u=oL (gJ (ns.getD u iZ)) (aI++aI):=by unfold qV;show(ns.map fun n=>oL (if n.sw then n.bE.toNat else 2) (aI++aI)).getD u default=_;simp[bS,hu,gJ]
theorem NI.new{aI:List Int}{r:Rt}(hp:nW ns cs)(hv:fQ ⟨ns,cs⟩=0)(hr:pK aI=true)(hrt:Az ns cs (cs.map fun _=>true) r)(B:Nat){cut:Bool}(hj:cut=false->∀u t,u<ns.length->t<ns.length->Jn cs (cs.map fun _=>true) u t):NI ns cs B 0 ⟨iq ns cs aI r,[],[]⟩ cut:=by
 have ok:=WOk.new hp hv hr hrt B;have fo:=ok.ok;obtain⟨E,hE⟩:=hrt.alC hv;have bx:∀u,u<ns.length->qV (iq ns cs aI r) u=oL (gJ (ns.getD u iZ)) (aI++aI):=fun u hu=>alg hu;have rl:(iq ns cs aI r).aI=aI++aI:=rfl;have gv:∀p v k,p<k->v<(aI++aI).length->dz (oL k (aI++aI)).gv p v=⟨(aI++aI).getD v 0,0,0⟩:=fun p v k xh hv'=>by show dz (aQ k ((aI++aI).map fun r=>(⟨r,0,0⟩:Gv))) p v=_;rw[uJ xh];simp only[dN,cK,cZ hv',je,iy]
 have tk:∀p v k,p<k->v<(aI++aI).length->dz (oL k (aI++aI)).tk p v=⟨0,0⟩:=fun p v k xh hv'=>by show dz (aQ k ((aI++aI).map fun r=>(⟨0,0⟩:Tk))) p v=_;rw[uJ xh];simp only[dN,cK,cZ hv',je,iy]
 have qq:∀p v k,p<k->v<(aI++aI).length->dz (oL k (aI++aI)).q p v=[]:=fun p v k xh hv'=>by
  show dz (aQ k (aQ (aI++aI).length ([]:List Fm))) p v=_;rw[uJ xh,dN];cases h:(aQ (aI++aI).length ([]:List Fm))[v]? with
  |none=>rfl
  |some l=>exact List.eq_of_mem_replicate (List.mem_of_getElem? h)
 have cm:∀i v,i<ns.length->v<(aI++aI).length->dz (iq ns cs aI r).came i v=0:=fun i v hi hv=>by show dz (ns.map fun _=>(aI++aI).map fun _=>(0:Int)) i v=0;unfold dz;simp only[dN,cK,cZ hi,je,iy,cZ hv]
 have gn:∀i v,i<2*cs.length->v<(aI++aI).length->dz (iq ns cs aI r).gone i v=0:=fun i v hi hv=>by
  show dz ((aN (2*cs.length)).map fun _=>(aI++aI).map fun _=>(0:Int)) i v=0;unfold dz;have e:((aN (2*cs.length)).map fun _=>(aI++aI).map fun _=>(0:Int)).getD i []=(aI++aI).map fun _=>(0:Int):=by rw[dN,cK,List.getElem?_range hi];rfl
  rw[e,dN,cK,cZ hv];rfl
 have rv:∀v,v<(aI++aI).length->0<=(aI++aI).getD v 0:=fun v hv=>by
  have m:(aI++aI).getD v 0∈aI++aI:=by rw[dN,cZ hv];exact List.getElem_mem hv
  have:=fo.rv _ m;omega
 have wy:Way ns cs (iq ns cs aI r) (fun _=>E) []:=by
  refine⟨fun e h0 h1 h2=>?_,fun u p c x h1 h2 h3 hx=>?_,fun t y hy=>(by cases hy),fun y hy=>(by cases hy)⟩
  ·have e0:e=0:=by have:e<=((0:Nat):Int):=h2;omega
   rw[e0];exact⟨_,hE⟩
  ·rw[bx u h1,qq p c _ h2 h3]at hx;cases hx
 refine⟨ok,⟨fun c v hc hv=>?_,fun c v hc hv=>?_,fun t x hx=>(by cases hx),fun u p c x h1 h2 h3 hx=>?_,fun u p c h1 h2 h3=>?_,fun u h1=>?_⟩,⟨_,wy⟩,fun hc=>⟨rfl,rfl,fun _=>E,⟨fun i hi=>?_,rfl,hE,hj hc⟩,wy⟩⟩
 ·have EN:=hp.ends hc;have p1:(bV cs c).2.1<gJ (ns.getD (bV cs c).1 iZ):=hp.qP EN.1 EN.2.2.1;have p2:(bV cs c).2.2.2<gJ (ns.getD (bV cs c).2.2.1 iZ):=hp.qP EN.2.1 EN.2.2.2.1;have f0:ZN c v B (iq ns cs aI r).fl=0:=aaj fun _ _=>rfl;have t0:yF cs (iq ns cs aI r) c v=⟨0,0⟩:=by unfold yF;rw[bx _ EN.1];exact tk _ _ _ p1 hv
  have g0:Im ns cs (iq ns cs aI r) c v=0:=by unfold Im Ew;rw[bx _ EN.2.1,gv _ _ _ p2 hv,cm _ _ EN.2.1 hv];split<;>rfl
  show(yF cs (iq ns cs aI r) c v).wV=Im ns cs (iq ns cs aI r) c v+_+dz (iq ns cs aI r).gone c v;rw[t0,g0,f0,gn c v hc hv,wK];rfl
 ·have EN:=hp.ends hc;have p1:(bV cs c).2.1<gJ (ns.getD (bV cs c).1 iZ):=hp.qP EN.1 EN.2.2.1;have p2:(bV cs c).2.2.2<gJ (ns.getD (bV cs c).2.2.1 iZ):=hp.qP EN.2.1 EN.2.2.2.1;have t0:yF cs (iq ns cs aI r) c v=⟨0,0⟩:=by unfold yF;rw[bx _ EN.1];exact tk _ _ _ p1 hv
  have r0:=rv v hv;have g0:0<=Ki ns cs (iq ns cs aI r) c v:=by
   unfold Ki Ew;rw[bx _ EN.2.1,gv _ _ _ p2 hv,cm _ _ EN.2.1 hv,rl];unfold Gv.nP;split
   ·show 0<=(aI++aI).getD v 0+0;omega
   ·omega
  show(yF cs (iq ns cs aI r) c v).lim<=Ki ns cs (iq ns cs aI r) c v+dz (iq ns cs aI r).gone c v;rw[t0,gn c v hc hv];simp only;omega
 ·have hx:x∈dz (qV (iq ns cs aI r) u).q p c:=hx;rw[bx u h1,qq p c _ h2 h3]at hx;cases hx
 ·show(dz (qV (iq ns cs aI r) u).gv p c).room=_;rw[bx u h1,gv p c _ h2 h3];rfl
 ·show(qV (iq ns cs aI r) u).ov=0;rw[bx u h1];rfl
 ·show(cs.map fun _=>true).getD i false=true;simp[bS,hi]
theorem NI.over{s:Oa}{cut:Bool}(h:NI ns cs B n s cut):∀k,k<=ns.length->Qm s.f k=0
 |0,_=>rfl
 |k+1,hk=>by have a:=NI.over h k (by omega);have b:=h.cr.ov k (by omega);unfold qV at b;rw[Ms,a,b]
end
end
end Go.Proofs.YtnjjkgjdhljfnaaGreat
