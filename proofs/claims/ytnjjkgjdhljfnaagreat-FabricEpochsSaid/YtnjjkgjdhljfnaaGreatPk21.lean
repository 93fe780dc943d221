/- Part 21. -/
import Derived.Test.YtnjjkgjdhljfnaaGreatPk16
import Derived.Test.YtnjjkgjdhljfnaaGreatPk20
open Go.Proofs.Tryz
open Array renaming ext->Lh
open Bool renaming and_eq_true->cZ,false_or->iX,not_eq_true'->mI,not_true->xE
open Classical renaming choose->mg
open Go renaming Addr->fA,Calls->bZ,TypeId->dL,Value->aI,World->aG,info_parts->dX,madeCells->dS,wp_at_succ->fH,wp_at_zero->fJ
open Go.Ending renaming returned->ax
open Go.Instr renaming makeSlice->Dv
open Go.IntKind renaming i64->ag
open Go.Lib renaming hid->aA
open Go.Obj renaming cells->af
open Go.Proofs.Tryz renaming prog->aH
open Go.RowKit renaming Below->aN,Hid->aY,intOf->aJ
open Go.RowKit.Below renaming refl->aQ
open Go.Value renaming bool->iN,int->ah,pointer->au,slice->ay
open Go.World renaming block_lt_of_cell?->aZ
open Go.World.ownsRow renaming lt->xg
open Int renaming le_refl->gQ,lt_or_le->tN,tmod_eq_emod_of_nonneg->pz,toNat_natCast->cK
open List renaming ext_getElem?->nZ,flatMap_append->fP,getD->bJ,getD_eq_getElem?_getD->fF,getElem?_eq_getElem->dw,getElem?_eq_none->gD,getElem?_map->cO,getElem?_range->dW,getElem?_set->kY,getElem?_toArray->di,length_map->dE,map_append->eY,map_congr_left->fU,mem_append->eZ,mem_cons->dG,mem_of_mem_take->jm,mem_range->dJ,mem_singleton->dz,nodup_append->kZ,not_mem_nil->dP,pairwise_iff_getElem->uh,range->aO,range_succ->dB,replicate->aS,setIfInBounds_toArray->gG,take_length->dY
open Nat renaming le_of_not_lt->wY,le_refl->aC,le_trans->dZ,lt_of_lt_of_le->bW,zero_le->bS
open Option renaming getD_none->tX,getD_some->iW,isSome_iff_exists->nL,map_none->uN,map_some->lU,none->aj,some->az
set_option maxRecDepth 100000
set_option maxHeartbeats 16000000
set_option linter.unusedVariables false
set_option linter.unusedSimpArgs false
namespace Go.Proofs.YtnjjkgjdhljfnaaGreat
section
open Go.RowKit Go.Maps
def DI(c:Nat):Nat:=if c%2=0 then c+1 else c-1
theorem abx{c:Nat}(h:c<64):bits .xor .i64 (c:Int) 1=(DI c:Int):=by
 have key:∀c:Fin 64,bits .xor .i64 ((c.val:Nat):Int) 1=(DI c.val:Int):=by decide+kernel
 exact key ⟨c,h⟩
def Wn(cs:List Cb)(i u:Nat):Nat:=(fM cs (DI (iY cs i u))).1
def qL(cs:List Cb)(lv:List Int)(u p:Nat):Bool:=match mZ cs u p with
 |none=>false
 |some i=>decide (0<=lv.getD (Wn cs i u) 0)&&decide (0<=lv.getD u 0)&&!FH lv (Wn cs i u) u
theorem sS.flip{ns:List Nd}{cs:List Cb}(h:sS ns cs){i u:Nat}(hi:i<cs.length)(hu:(cs.getD i gX).a=(u:Int)\/(cs.getD i gX).b=(u:Int)):Wn cs i u<ns.length/\touch (cs.getD i gX) (Wn cs i u) u/\DI (iY cs i u)<2*cs.length/\Wn cs i u≠u:=by
 have A:=h.a0 _ hi;have B:=h.b0 _ hi;have ab:=h.ab _ hi;unfold Wn iY;by_cases e:(cs.getD i gX).a=(u:Int)
 ·rw[if_pos e];unfold DI;rw[if_pos (by omega)];unfold fM;rw[if_neg (by omega),show(2*i+1)/2=i by omega];simp only;refine⟨by omega,.inr ⟨by omega,by omega⟩,by omega,by omega⟩
 ·rw[if_neg e];have e2:(cs.getD i gX).b=(u:Int):=hu.resolve_left e;unfold DI;rw[if_neg (by omega)];unfold fM;rw[if_pos (by omega),show(2*i+1-1)/2=i by omega];simp only;refine⟨by omega,.inl ⟨by omega,by omega⟩,by omega,by omega⟩
def xz(PS:List (List Nat))(u:Nat):Nat:=PS.findIdx fun P=>P.contains u
theorem ZX{PS:List (List Nat)}(hd:PS.Pairwise fun P Q=>∀j,j∈P->j∉Q){m u:Nat}(hm:m<PS.length)(hu:u∈PS.getD m []):xz PS u=m:=by
 have e:PS.getD m []=PS[m]:=by simp[bJ,hm]
 rw[e]at hu;unfold xz;rw[List.findIdx_eq hm];refine⟨by simpa using hu,fun j hj=>?_⟩;have:=uh.1 hd j m (by omega) hm hj;simp only[List.contains_eq_mem,decide_eq_false_iff_not];exact fun q=>this u q hu
def rOf(cs:List Cb)(PS:List (List Nat))(L:Nat->List Int)(G:Nat->GT):Rt:=⟨fun u p t=>G (xz PS u) u p t,fun u p=>qL cs (L (xz PS u)) u p⟩
structure SY(ns:List Nd)(cs:List Cb)(us:List Bool)(P:List Nat)(l:List Int)(G:GT):Prop where
 lv:∃root,Iq ns.length cs us root l
 part:P=wO l ns.length
 net:Net ns cs us l G
structure uC(ns:List Nd)(cs:List Cb)(us:List Bool)(r:Rt)(PS:List (List Nat))(L:Nat->List Int)(G:Nat->GT):Prop where
 all:∀u,u<ns.length->∃m,m<PS.length/\u∈PS.getD m []
 net:∀m,m<PS.length->SY ns cs us (PS.getD m []) (L m) (G m)
 next:∀m,m<PS.length->∀u∈PS.getD m [],∀p t,p<2->t<ns.length->r.next u p t=G m u p t
 sQ:∀m,m<PS.length->∀u∈PS.getD m [],∀p,r.sQ u p=qL cs (L m) u p
def Bz(ns:List Nd)(cs:List Cb)(us:List Bool)(r:Rt):Prop:=∃PS L G,uC ns cs us r PS L G
theorem uC.of{ns:List Nd}{cs:List Cb}{us:List Bool}{PS:List (List Nat)}{L:Nat->List Int}{G:Nat->GT}{sn:Nat->Bool}(h:PaI ns.length cs us ns.length sn PS)(hn:∀m,m<PS.length->SY ns cs us (PS.getD m []) (L m) (G m)):uC ns cs us (rOf cs PS L G) PS L G where
 all:=fun u hu=>by obtain⟨P,h1,h2⟩:=(h.seen u hu).1 (h.all u hu);obtain⟨m,hm,rfl⟩:=List.getElem_of_mem h1;exact⟨m,hm,by simpa[bJ,hm]using h2⟩
 net:=hn
 next:=fun m hm u hu p t hp ht=>by show G (xz PS u) u p t=_;rw[ZX h.dis hm hu]
 sQ:=fun m hm u hu p=>by show qL cs (L (xz PS u)) u p=_;rw[ZX h.dis hm hu]
theorem SY.bound{ns:List Nd}{cs:List Cb}{us:List Bool}{P:List Nat}{l:List Int}{G:GT}(h:SY ns cs us P l G)(hv:fT ⟨ns,cs⟩=0){u p t:Nat}(hu:u<ns.length)(hp:p<2)(ht:t<ns.length):(G u p t<cs.length/\-2<=G u p t)/\(0<=G u p t->(cs.getD (G u p t).toNat gX).a=(u:Int)\/(cs.getD (G u p t).toNat gX).b=(u:Int)):=by
 obtain⟨f,h1,h2⟩:=h.net.col t ht;have h3:=h2 u p hu hp;refine⟨?_,fun h0=>?_⟩
 ·rcases h3 with⟨_,e⟩|⟨_,⟨e,_⟩|⟨i,hi,e,_⟩⟩<;>(rw[e];omega)
 ·rcases h3 with⟨_,e⟩|⟨_,⟨e,_⟩|⟨i,hi,e,hf⟩⟩
  ·omega
  ·omega
  ·obtain⟨v,_,hv'⟩:=abt hv hi hf;rw[e,cK];rcases hv' with q|q
   ·exact .inl q.1
   ·exact .inr q.1
theorem uC.ok{ns:List Nd}{cs:List Cb}{us:List Bool}{r:Rt}{PS:List (List Nat)}{L:Nat->List Int}{G:Nat->GT}(h:uC ns cs us r PS L G)(hv:fT ⟨ns,cs⟩=0):Ef ns cs r:=fun u p t hu hp ht=>by obtain⟨m,hm,hum⟩:=h.all u hu;rw[h.next m hm u hum p t hp ht];exact(h.net m hm).bound hv hu hp ht
structure Gx(Z:Own)(w:aG)(b:Nat)(ns:List Nd)(cs:List Cb)(f:dx)(L:rY):Prop where
 root:dh w b 100 (Bl f L)
 iP:Z b=(2,0,0,0)
 plan:EO Z w ns cs L.vn L.vc
 aK:ku Z w 3 never L.vr f.aK.length (f.aK.map fun x=>ah ag x)
 xH:ku Z w 26 never L.vt ns.length ((aO ns.length).map L.row)/\∀i,i<ns.length->ku Z w 3 never (L.row i) (fw (ns.getD i jk)) ((aO (fw (ns.getD i jk))).map fun p=>ah ag (Ei cs i p))
 La:ku Z w 101 never L.vb ns.length ((aO ns.length).map fun i=>pt (L.bx i))
 bx:∀i,i<ns.length->pO Z (3+i) w (L.bx i) (f.boxes.getD i default) (L.Hw i)
 up:ku Z w 4 (PK 1 0) L.vu f.up.length (f.up.map fun x=>.bool x)
 IE:Z L.bk=(2,2,0,0)
 bkL:L.bk<w.heap.size
 fl:vG w L.mf f.fl (fun t v l=>NC Z w v l/\∀g,v.ownBlock=az g->Z g=(2,4,t,0))/\Z L.mf=(2,3,0,0)
 lim:vG w L.ml f.lim (fun t v l=>JM w v l/\∀g,v.ownBlock=az g->Z g=(2,6,t,0))/\Z L.ml=(2,5,0,0)
 came:Ny Z w 7 L.Uv L.cm ns.length f.came
 gone:Ny Z w 8 L.vg L.gn (2*cs.length) f.gone
 lost:∃ids:List Int,w.ownsRow 0 3 1 L.vl ids.length (ids.flatMap cI)/\(∀g,L.vl.ownBlock=az g->Z g=(2,9,0,0))/\ids.Perm (f.lost.map (·.id))
section
variable{Z dN:Own}{w w':aG}{b:Nat}{ns:List Nd}{cs:List Cb}{f f':dx}{L L':rY}
theorem Gx.toM(h:Gx Z w b ns cs f L)(hb:Bk w L.bk f.dm f.wM f.vH)(r0:Uq Z w ns L.r0n L.r0f f.NL)(r1:0<f.dm->Uq Z w ns L.r1n L.r1f f.QB):gy Z w b ns cs f L:=
 ⟨⟨h.root,h.iP⟩,h.plan,h.aK,h.xH,h.La,h.bx,h.up,r0,r1,⟨hb,h.IE⟩,h.fl,h.lim,h.came,h.gone,h.lost⟩
theorem Gx.jD{S:Nat->Prop}(h:Gx Z w b ns cs f L)(hc:Ch S w w')(he:∀k,k<w.heap.size->dN k=Z k)(hS:∀k,S k->k=b)(hr:dh w' b 100 (Bl f' L'))(e1:f'={f with NL:=f'.NL,QB:=f'.QB})(e2:L'={L with r0n:=L'.r0n,r0f:=L'.r0f,r1n:=L'.r1n,r1f:=L'.r1f}):Gx dN w' b ns cs f' L':=by
 have hT:=h.iP;have s1:∀k,S k->(Z k).1≠1:=fun k s=>by rw[hS k s,hT];decide
 have s2:∀(kd:Nat) {g a d:Nat},kd≠0->Z g=(2,kd,a,d)->¬S g:=fun kd g a d hk e s=>by have:=hS g s;rw[this,hT]at e;injection e with _ e;injection e with e;exact hk e.symm
 have s3:∀k,S k->∀i,(Z k).1≠3+i:=fun k s i=>by rw[hS k s,hT];show 2≠3+i;omega
 have sn:∀k,S k->¬never (Z k):=fun k s q=>s1 k s q;have kind:∀k,S k->(Z k).2.1=0:=fun k s=>by rw[hS k s,hT]
 rw[e1,e2]at hr|-;exact{
  root:=hr
  iP:=by rw[he _ h.root.lt];exact hT
  plan:=h.plan.jD hc he s1
  aK:=h.aK.jD hc he sn
  xH:=⟨h.xH.1.jD hc he sn,fun i hi=>(h.xH.2 i hi).jD hc he sn⟩
  La:=h.La.jD hc he sn
  bx:=fun i hi=>(h.bx i hi).jD hc he fun k s=>⟨s1 k s,s3 k s i⟩
  up:=h.up.jD hc he fun k s q=>s2 1 (by decide) q s
  IE:=by show dN L.bk=_;rw[he _ h.bkL];exact h.IE
  bkL:=bW h.bkL hc.size
  fl:=by obtain⟨n,M,m1,m2,m3,m4,m5⟩:=h.fl.1;refine⟨⟨n,M,ni m1 hc (s2 3 (by decide) h.fl.2),m2,m3,m4,fun t v hv=>?_⟩,by show dN L.mf=_;rw[he _ m1.Uu];exact h.fl.2⟩;obtain⟨a1,a2⟩:=m5 t v hv;exact⟨a1.jD hc he s1 fun g hg=>s2 4 (by decide) (a2 g hg),fun g hg=>by rw[he _ (a1.lt g hg)];exact a2 g hg⟩
  lim:=by obtain⟨n,M,m1,m2,m3,m4,m5⟩:=h.lim.1;refine⟨⟨n,M,ni m1 hc (s2 5 (by decide) h.lim.2),m2,m3,m4,fun t v hv=>?_⟩,by show dN L.ml=_;rw[he _ m1.Uu];exact h.lim.2⟩;obtain⟨a1,a2⟩:=m5 t v hv;exact⟨fO a1 hc fun g hg=>s2 6 (by decide) (a2 g hg),fun g hg=>by rw[he _ (xg a1 g hg).2];exact a2 g hg⟩
  came:=h.came.jD hc he fun g s=>⟨s1 g s,fun _ q=>by rw[kind g s]at q;omega⟩
  gone:=h.gone.jD hc he fun g s=>⟨s1 g s,fun _ q=>by rw[kind g s]at q;omega⟩
  lost:=by obtain⟨ids,i1,i2,i3⟩:=h.lost;exact⟨ids,fO i1 hc fun g hg=>s2 9 (by decide) (i2 g hg),fun g hg=>by rw[he _ (i1.lt g hg).2];exact i2 g hg,i3⟩}
theorem Gx.below(h:Gx Z w b ns cs f L)(k:aN w.heap.size w w')(he:∀k,k<w.heap.size->dN k=Z k):Gx dN w' b ns cs f L:=
 h.jD (S:=fun _=>False) (Ch.bY k) he (fun _ s=>s.elim) (h.root.below k h.root.lt) rfl rfl
theorem Gx.xA(h:Gx Z w b ns cs f L){i:Nat}:w.cell? ⟨b,i,aj⟩=(Bl f L)[i]?:=h.root.cell i
def dx.Jq(f:dx)(q:Nat)(r:Rt):dx:=if q=0 then{f with NL:=r}else{f with QB:=r}
def rY.Jq(L:rY)(q:Nat)(vn vf:aI):rY:=if q=0 then{L with r0n:=vn,r0f:=vf}else{L with r1n:=vn,r1f:=vf}
end
structure RS(base:Nat)(w:aG)(n bR bN bF:Nat)(V:Nat->Nat->aI)(U:Nat->aI):Prop where
 r:dh w bR 97 #[ay (az ⟨bN,0,aj⟩) n n,ay (az ⟨bF,0,aj⟩) n n]
 nx:dh w bN 176 ((aO n).flatMap fun i=>[V i 0,V i 1]).toArray
 fl:dh w bF 52 ((aO n).map U).toArray
 gR:base<=bR
 gN:base<=bN
 gF:base<=bF
structure xU(ns:List Nd)(cs:List Cb)(base:Nat)(w:aG)(V:Nat->Nat->aI)(U:Nat->aI)(l:List Int)(G:GT)(u:Nat):Prop where
 a:∀p,p<2->w.ownsRow base 3 1 (V u p) ns.length ((aO ns.length).map fun t=>ah ag (G u p t))
 b:w.ownsRow base 4 1 (U u) (fw (ns.getD u jk)) ((aO (fw (ns.getD u jk))).map fun p=>.bool (qL cs l u p))
section
variable{base n bR bN bF:Nat}{w w':aG}{V:Nat->Nat->aI}{U:Nat->aI}{S:Nat->Prop}{ns:List Nd}{cs:List Cb}{l:List Int}{G:GT}{u:Nat}
theorem Dj{wU m k:Nat}{e:dL}{v:aI}{xs:List aI}(h:w.ownsRow wU e m v k xs)(hc:Ch S w w')(hS:∀g,S g->∃t C,dh w g t C/\t≠e):w'.ownsRow wU e m v k xs:=
 fO h hc fun g hg s=>by obtain⟨t,C,hb,n1⟩:=hS g s;obtain⟨C',sV⟩:=kH h g hg;exact n1 (dh.same hb sV).1
theorem xU.ch(h:xU ns cs base w V U l G u)(hc:Ch S w w')(hS:∀g,S g->∃t C,dh w g t C/\t≠3/\t≠4):xU ns cs base w' V U l G u:=
 ⟨fun p hp=>Dj (h.a p hp) hc fun g s=>(by obtain⟨t,C,a,b,c⟩:=hS g s;exact⟨t,C,a,b⟩),Dj h.b hc fun g s=>(by obtain⟨t,C,a,b,c⟩:=hS g s;exact⟨t,C,a,c⟩)⟩
theorem xU.congr{V':Nat->Nat->aI}{U':Nat->aI}(h:xU ns cs base w V U l G u)(hV:∀p,p<2->V' u p=V u p)(hU:U' u=U u):xU ns cs base w V' U' l G u:=
 ⟨fun p hp=>by rw[hV p hp];exact h.a p hp,by rw[hU];exact h.b⟩
theorem RS.ch(h:RS base w n bR bN bF V U)(hc:Ch S w w')(hR:¬S bR)(hN:¬S bN)(hF:¬S bF):RS base w' n bR bN bF V U:=⟨h.r.ch hc hR,h.nx.ch hc hN,h.fl.ch hc hF,h.gR,h.gN,h.gF⟩
theorem RS.below(h:RS base w n bR bN bF V U)(hb:aN w.heap.size w w'):RS base w' n bR bN bF V U:=⟨h.r.below hb h.r.lt,h.nx.below hb h.nx.lt,h.fl.below hb h.fl.lt,h.gR,h.gN,h.gF⟩
theorem LJ(n:Nat)(f:Nat->List aI)(hf:∀i,(f i).length=2):((aO n).flatMap f).length=n*2:=by
 induction n with
 |zero=>rfl
 |succ n ih=>rw[dB,fP,List.length_append,ih];simp[hf];omega
theorem Ff(n:Nat)(V:Nat->Nat->aI){i p:Nat}(hi:i<n)(hp:p<2):((aO n).flatMap fun i=>[V i 0,V i 1])[i*2+p]?=az (V i p):=by
 rw[yf (d:=0) (m:=2) (c:=fun i=>[V i 0,V i 1]) (fun _=>rfl) _ i p (by simpa using hi) hp];have e2:(aO n).getD i 0=i:=by simp[bJ,hi]
 rw[e2];rcases(show p=0\/p=1 by omega)with rfl|rfl<;>rfl
theorem abu(n:Nat)(V:Nat->Nat->aI){i p:Nat}(hi:i<n)(hp:p<2)(v:aI):((aO n).flatMap fun i=>[V i 0,V i 1]).set (i*2+p) v=(aO n).flatMap fun j=>[Eo V i p v j 0,Eo V i p v j 1]:=by
 have l1:=LJ n (fun i=>[V i 0,V i 1]) fun _=>rfl;have l2:=LJ n (fun j=>[Eo V i p v j 0,Eo V i p v j 1]) fun _=>rfl;apply nZ;intro k;rw[kY];by_cases hk:k<n*2
 ·obtain⟨j,q,hj,hq,rfl⟩:∃j q,j<n/\q<2/\k=j*2+q:=⟨k/2,k%2,by omega,by omega,by omega⟩;rw[Ff n V hj hq,Ff n (Eo V i p v) hj hq];by_cases e:i*2+p=j*2+q
  ·have e1:j=i:=by omega
   have e2:q=p:=(by omega);subst e1;subst e2;rw[if_pos rfl,if_pos (by rw[l1];omega),rX]
  ·rw[if_neg e,mU V v (fun q'=>e (by rw[q'.1,q'.2]))]
 ·rw[if_neg (by omega),gD (by rw[l1];omega),gD (by rw[l2];omega)]
theorem RS.acF(h:RS base w n bR bN bF V U){u p:Nat}(hu:u<n)(hp:p<2)(v:aI):RS base (w.setCell ⟨bN,u*2+p,aj⟩ v) n bR bN bF (Eo V u p v) U:=by have n1:bR≠bN:=dh.sU h.r h.nx (by decide);have n2:bF≠bN:=dh.sU h.fl h.nx (by decide);refine⟨h.r.AU (p:=⟨bN,u*2+p,aj⟩) n1 _,?_,h.fl.AU (p:=⟨bN,u*2+p,aj⟩) n2 _,h.gR,h.gN,h.gF⟩;have:=h.nx.jd (u*2+p) v;rw[gG,abu n V hu hp v]at this;exact this
theorem Qa{α:Type}(n:Nat)(f:Nat->α)(u:Nat)(x:α):((aO n).map f).set u x=(aO n).map fun i=>if i=u then x else f i:=by
 apply nZ;intro k;rw[kY,cO,cO];by_cases hk:k<n
 ·rw[dW hk];by_cases e:u=k
  ·subst e;simp[hk]
  ·rw[if_neg e];simp[Ne.symm e]
 ·have e1:(aO n)[k]?=aj:=gD (by simp;omega);rw[e1];by_cases e:u=k
  ·subst e;simp[hk]
  ·rw[if_neg e];rfl
theorem ku.Jf{Z:Own}{wU k:Nat}{e:dL}{v:aI}{xs:List aI}{T:Tg->Prop}(h:w.ownsRow wU e 1 v k xs)(hT:∀g,wU<=g->g<w.heap.size->T (Z g)):ku Z w e T v k xs:=by
 have hl:xs.length=k:=by rw[h.1];omega
 obtain⟨a,c,ev⟩:=dO h;refine⟨a,c,ev,fun h0=>?_⟩;obtain⟨g,cap,C,e1,hb,oV,hC⟩:=uJ h (by omega);rw[ev]at e1;injection e1 with e1;exact⟨g,C,e1,hb,hT g oV hb.lt,fun i hi=>hC i (by omega)⟩
theorem RS.rtM{Z:Own}{r:Rt}(h:RS base w ns.length bR bN bF V U)(hT:∀g,base<=g->g<w.heap.size->(Z g).1=1)(hr:∀u,u<ns.length->∃l G,xU ns cs base w V U l G u/\(∀p t,p<2->t<ns.length->r.next u p t=G u p t)/\∀p,r.sQ u p=qL cs l u p):Uq Z w ns (ay (az ⟨bN,0,aj⟩) ns.length ns.length) (ay (az ⟨bF,0,aj⟩) ns.length ns.length) r where
 nx:=by
  refine⟨V,⟨_,_,rfl,fun h0=>⟨bN,_,rfl,h.nx,hT _ h.gN h.nx.lt,fun i hi=>by rw[di]⟩⟩,fun u hu p hp=>?_⟩;obtain⟨l,G,h1,h2,h3⟩:=hr u hu;have:=ku.Jf (Z:=Z) (T:=never) (h1.a p hp) fun g a c=>hT g a c;have e:((aO ns.length).map fun t=>ah .i64 (r.next u p t))=(aO ns.length).map fun t=>ah .i64 (G u p t):=fU fun t ht=>by rw[h2 p t hp (dJ.1 ht)]
  rw[e];exact this
 fl:=by
  refine⟨U,⟨_,_,rfl,fun h0=>⟨bF,_,rfl,h.fl,hT _ h.gF h.fl.lt,fun i hi=>by rw[di]⟩⟩,fun u hu=>?_⟩;obtain⟨l,G,h1,h2,h3⟩:=hr u hu;have:=ku.Jf (Z:=Z) (T:=never) h1.b fun g a c=>hT g a c;have e:((aO (fw (ns.getD u jk))).map fun p=>iN (r.sQ u p))=(aO (fw (ns.getD u jk))).map fun p=>iN (qL cs l u p):=fU fun p _=>by rw[h3 p]
  rw[e];exact this
end
end
section
open Go.RowKit Go.Maps
attribute [local go_sem ↓] fJ fH
theorem Yx:(Tryz.prog.info? 52).map (fun i=>(i.zero,i.size,i.bytes))=az (az (ay aj 0 0),1,24):=by kernel_rfl
def agV(Z:Own)(w:aG)(b:Nat)(ns:List Nd)(cs:List Cb)(f:dx)(e:Ending)(w':aG):Prop:=
 e=ax (.tuple #[])/\∃r,Bz ns cs f.up r/\∃dN L',gy dN w' b ns cs (f.Jq (f.dm%2) r) L'/\qo Z w dN w'
theorem Rm(w:aG)(t1 t2 t3:dL)(C1 C2 C3:Array aI):dh (((w.alloc (.cells C1 t1)).alloc (.cells C2 t2)).alloc (.cells C3 t3)).drew w.heap.size t1 C1:=((dh.new w _ _).alloc _).alloc _
theorem Rn(w:aG)(t1 t2 t3:dL)(C1 C2 C3:Array aI):dh (((w.alloc (.cells C1 t1)).alloc (.cells C2 t2)).alloc (.cells C3 t3)).drew (w.heap.size+1) t2 C2:=by have:=dh.new (w.alloc (.cells C1 t1)) t2 C2;exact(by simpa using this:dh _ (w.heap.size+1) _ _).alloc _
theorem Ro(w:aG)(t1 t2 t3:dL)(C1 C2 C3:Array aI):dh (((w.alloc (.cells C1 t1)).alloc (.cells C2 t2)).alloc (.cells C3 t3)).drew (w.heap.size+1+1) t3 C3:=by have:=dh.new ((w.alloc (.cells C1 t1)).alloc (.cells C2 t2)) t3 C3;exact(by simpa using this:dh _ (w.heap.size+1+1) _ _)
theorem Rp(w:aG)(t1 t2 t3:dL)(C1 C2 C3:Array aI):aN w.heap.size w (((w.alloc (.cells C1 t1)).alloc (.cells C2 t2)).alloc (.cells C3 t3)).drew:=((((aQ _ _).alloc (aC _) _).alloc (by simp) _).alloc (by simp;omega) _).drew
theorem ams(n:Nat):dS #[ay aj 0 0,ay aj 0 0] (n*2)=((aO n).flatMap fun _=>[ay aj 0 0,ay aj 0 0]).toArray:=by
 have l1:=LJ n (fun _=>[ay aj 0 0,ay aj 0 0]) fun _=>rfl;apply Lh
 ·simp[size_madeCells,l1]
 ·intro i h1 h2;simp only[size_madeCells]at h1;have e:=Ff n (fun _ _=>ay aj 0 0) (i:=i/2) (p:=i%2) (by omega) (by omega);rw[show i/2*2+i%2=i by omega]at e;rw[dw (by rw[l1];omega)]at e;injection e with e
  conv=>rhs;rw[List.getElem_toArray,e]
  simp only[dS,Array.getElem_ofFn];rcases(show i%2=0\/i%2=1 by omega)with q|q<;>simp[q]
theorem amr(n:Nat):dS #[ay aj 0 0] n=((aO n).map fun _=>ay aj 0 0).toArray:=by
 apply Lh
 ·simp[size_madeCells]
 ·intro i h1 h2;simp[dS,Nat.mod_one]
def aoB(n:Nat)(w:aG)(s3:aI)(wx:aG):Prop:=
 ∃bR bN bF,s3=au (az ⟨bR,0,aj⟩)/\RS w.heap.size wx n bR bN bF (fun _ _=>ay aj 0 0) (fun _=>ay aj 0 0)/\aN w.heap.size w wx
theorem FW{n bR bN bF:Nat}{w wx:aG}(h1:dh wx bR 97 #[ay (az ⟨bN,0,aj⟩) n n,ay (az ⟨bF,0,aj⟩) n n])(h2:dh wx bN 176 (dS #[ay aj 0 0,ay aj 0 0] (n*2)))(h3:dh wx bF 52 (dS #[ay aj 0 0] n))(g1:w.heap.size<=bR)(g2:w.heap.size<=bN)(g3:w.heap.size<=bF)(hb:aN w.heap.size w wx):aoB n w (au (az ⟨bR,0,aj⟩)) wx:=⟨bR,bN,bF,rfl,⟨h1,by rw[<-ams];exact h2,by rw[<-amr];exact h3,g1,g2,g3⟩,hb⟩
def aks(ns:List Nd)(cs:List Cb)(us:List Bool)(root:Nat)(wr:aG)(s6:aI)(wx:aG):Prop:=
 ∃bO l v,s6=au (az ⟨bO,0,aj⟩)/\dh wx bO 169 #[v]/\wr.heap.size<=bO/\wx.ownsRow wr.heap.size 3 1 v l.length (l.flatMap cI)/\Iq ns.length cs us root l/\aN wr.heap.size wr wx
def akt(n:Nat)(cs:List Cb)(us:List Bool)(lv:List Int)(wr:aG)(s8:aI)(wx:aG):Prop:=
 ∃bQ bT base V G,s8=au (az ⟨bQ,0,aj⟩)/\dh wx bQ 173 #[ay (az ⟨bT,0,aj⟩) n n]/\wr.heap.size<=bQ/\wr.heap.size<=base/\wr.heap.size<=bT/\TM wx bT base n 0 0 V (fun _ _=>n) G/\(∀t,t<n->Col n cs us lv G t)/\aN wr.heap.size wr wx
def Tj(ns:List Nd)(cs:List Cb)(us:List Bool)(base:Nat)(w2:aG)(bR bN bF:Nat)(PS:List (List Nat))(i:aI)(wr:aG):Prop:=
 ∃(m:Nat) (V:Nat->Nat->aI) (U:Nat->aI) (L:Nat->List Int) (G:Nat->GT),m<=PS.length/\i=ah ag (m:Nat)/\RS base wr ns.length bR bN bF V U/\(∀k,k<m->SY ns cs us (PS.getD k []) (L k) (G k))/\
  (∀k,k<m->∀u∈PS.getD k [],xU ns cs base wr V U (L k) (G k) u)/\(∀u,u<ns.length->(∀k,k<m->u∉PS.getD k [])->U u=ay aj 0 0)/\Ch (fun k=>k=bN\/k=bF) w2 wr
theorem TM.axs{S:Nat->Prop}{w w':aG}{bT base n hA hB:Nat}{V:Nat->Nat->aI}{len:Nat->Nat->Nat}{G:GT}(h:TM w bT base n hA hB V len G)(hc:Ch S w w')(hS:∀g,S g->∃t C,dh w g t C/\t≠176/\t≠3):TM w' bT base n hA hB V len G:=by refine⟨?_,fun i p hi hp=>Dj (h.own i p hi hp) hc fun g s=>(by obtain⟨t,C,a,b,c⟩:=hS g s;exact⟨t,C,a,c⟩),h.apart,h.gap,h.lt⟩;obtain⟨arr,hb,hr⟩:=h.row;exact⟨arr,hb.ch hc fun s=>by obtain⟨t,C,a,b,c⟩:=hS _ s;exact b (dh.same hb a).1.symm,hr⟩
theorem CR{S:Nat->Prop}{w a c:aG}(hB:aN w.heap.size w a)(hc:Ch S a c)(hS:∀g,S g->w.heap.size<=g):aN w.heap.size w c:=
 ⟨hc.os.trans hB.os,hc.tape.trans hB.tape,hc.output.trans hB.output,dZ hB.size hc.size,fun i hi=>(hc.block i (bW hi hB.size) fun s=>by have:=hS i s;omega).trans (hB.block i hi)⟩
def Tm(ns:List Nd)(cs:List Cb)(base:Nat)(w6:aG)(bR bN bF m:Nat)(PS:List (List Nat))(P:List Nat)(LV:Nat->List Int)(GG:Nat->GT)(l:List Int)(G1:GT)(i:aI)(wr:aG):Prop:=
 ∃(q:Nat) (V:Nat->Nat->aI) (U:Nat->aI),q<=P.length/\i=ah ag (q:Nat)/\RS base wr ns.length bR bN bF V U/\(∀k,k<m->∀u∈PS.getD k [],xU ns cs base wr V U (LV k) (GG k) u)/\(∀u∈P.take q,xU ns cs base wr V U l G1 u)/\
  (∀u,u<ns.length->(∀k,k<m->u∉PS.getD k [])->u∉P.take q->U u=ay aj 0 0)/\Ch (fun k=>k=bN\/k=bF) w6 wr
def Xo(ns:List Nd)(cs:List Cb)(w7:aG)(bF u np:Nat)(U:Nat->aI)(l:List Int)(i:aI)(wr:aG):Prop:=
 ∃(p:Nat) (vf:aI),p<=np/\i=ah ag (p:Nat)/\wr.ownsRow w7.heap.size 4 1 vf p ((aO p).map fun p=>.bool (qL cs l u p))/\dh wr bF 52 ((aO ns.length).map fun i=>if i=u then vf else U i).toArray/\Ch (fun k=>k=bF) w7 wr
theorem amV{ns:List Nd}{cs:List Cb}{base:Nat}{w6 w7 w8 w9:aG}{bR bN bF m q u np:Nat}{PS:List (List Nat)}{P:List Nat}{LV:Nat->List Int}{GG:Nat->GT}{l:List Int}{G1:GT}{V' V2:Nat->Nat->aI}{U':Nat->aI}{vf:aI}(RS7:RS base w7 ns.length bR bN bF V' U')(WZ:RS base w8 ns.length bR bN bF V2 U')(hV:∀x p,x≠u->V2 x p=V' x p)(C7:Ch (fun k=>k=bN\/k=bF) w6 w7)(C78:Ch (fun k=>k=bN) w7 w8)(C9:Ch (fun k=>k=bF) w8 w9)(FB9:dh w9 bF 52 ((aO ns.length).map fun i=>if i=u then vf else U' i).toArray)(F9:w9.ownsRow w8.heap.size 4 1 vf np ((aO np).map fun p=>.bool (qL cs l u p)))(ROWS:∀p,p<2->w7.ownsRow base 3 1 (V2 u p) ns.length ((aO ns.length).map fun t=>ah ag (G1 u p t)))(RO7:∀k,k<m->∀u∈PS.getD k [],xU ns cs base w7 V' U' (LV k) (GG k) u)(RQ7:∀u∈P.take q,xU ns cs base w7 V' U' l G1 u)(U7:∀u,u<ns.length->(∀k,k<m->u∉PS.getD k [])->u∉P.take q->U' u=ay aj 0 0)(HPU:P.take (q+1)=P.take q++[u])(DJ:∀k,k<m->u∉PS.getD k [])(UNW:u∉P.take q)(HNP:fw (ns.getD u jk)=np)(hq:q+1<=P.length)(hb:base<=w8.heap.size):Tm ns cs base w6 bR bN bF m PS P LV GG l G1 (ah ag ((q:Int)+1)) w9:=by
 have nBR:¬bR=bF:=dh.sU WZ.r WZ.fl (by decide);have nBN:¬bN=bF:=dh.sU WZ.nx WZ.fl (by decide);have cT:∀g,g=bN->∃t C,dh w7 g t C/\t≠3/\t≠4:=fun g e=>⟨176,((aO ns.length).flatMap fun i=>[V' i 0,V' i 1]).toArray,by subst e;exact RS7.nx,by decide,by decide⟩;have cF:∀g,g=bF->∃t C,dh w8 g t C/\t≠3/\t≠4:=fun g e=>⟨52,((aO ns.length).map U').toArray,by subst e;exact WZ.fl,by decide,by decide⟩;have uG:∀(lv:List Int) (G:GT) (x:Nat),x≠u->xU ns cs base w7 V' U' lv G x->xU ns cs base w9 V2 (fun i=>if i=u then vf else U' i) lv G x:=fun lv G x hx h=>
  ((h.ch C78 cT).ch C9 cF).congr (fun p' _=>hV x p' hx) (if_neg hx)
 refine⟨q+1,V2,fun i=>if i=u then vf else U' i,hq,by congr 1,⟨WZ.r.ch C9 nBR,WZ.nx.ch C9 nBN,FB9,WZ.gR,WZ.gN,WZ.gF⟩,fun k hk x hx=>uG _ _ x (fun e=>by rw[e]at hx;exact DJ k hk hx) (RO7 k hk x hx),fun x hx=>?_,fun x hx h1 h2=>?_,?_⟩
 ·rw[HPU]at hx;rcases eZ.1 hx with hx|hx
  ·exact uG _ _ x (fun e=>by rw[e]at hx;exact UNW hx) (RQ7 x hx)
  ·rw[dz]at hx;subst hx;refine⟨fun p' yI=>Dj (Dj (ROWS p' yI) C78 fun g s=>?_) C9 fun g s=>?_,?_⟩
   ·obtain⟨t,C,a,b,c⟩:=cT g s;exact⟨t,C,a,b⟩
   ·obtain⟨t,C,a,b,c⟩:=cF g s;exact⟨t,C,a,b⟩
   ·have e3:(if x=x then vf else U' x)=vf:=if_pos rfl;rw[e3,HNP];exact rQ F9 hb
 ·rw[HPU]at h2;simp only[eZ,dz,not_or]at h2;simp only;rw[if_neg h2.2];exact U7 x hx h1 h2.1
 ·exact(C7.trans C78 fun i _ s=>.inl s).trans C9 fun i _ s=>.inr s
theorem ais{ns:List Nd}{cs:List Cb}{us:List Bool}{base:Nat}{w2 w7:aG}{bR bN bF m:Nat}{PS:List (List Nat)}{P:List Nat}{LV:Nat->List Int}{GG:Nat->GT}{l:List Int}{G1:GT}{V':Nat->Nat->aI}{U':Nat->aI}(RS7:RS base w7 ns.length bR bN bF V' U')(NM:∀k,k<m->SY ns cs us (PS.getD k []) (LV k) (GG k))(NP:SY ns cs us P l G1)(PD:PS.getD m []=P)(RO7:∀k,k<m->∀u∈PS.getD k [],xU ns cs base w7 V' U' (LV k) (GG k) u)(RQ7:∀u∈P.take P.length,xU ns cs base w7 V' U' l G1 u)(U7:∀u,u<ns.length->(∀k,k<m->u∉PS.getD k [])->u∉P.take P.length->U' u=ay aj 0 0)(C27:Ch (fun k=>k=bN\/k=bF) w2 w7)(hm:m+1<=PS.length):Tj ns cs us base w2 bR bN bF PS (ah ag ((m:Int)+1)) w7:=by
 rw[dY]at RQ7 U7;refine⟨m+1,V',U',fun k=>if k=m then l else LV k,fun k=>if k=m then G1 else GG k,hm,by congr 1,RS7,fun k hk=>?_,fun k hk u hu=>?_,fun u hu h=>?_,C27⟩
 ·by_cases e:k=m
  ·subst e;rw[PD];simp only[if_pos];exact NP
  ·simp only[if_neg e];exact NM k (by omega)
 ·by_cases e:k=m
  ·subst e;rw[PD]at hu;simp only[if_pos];exact RQ7 u hu
  ·simp only[if_neg e];exact RO7 k (by omega) u hu
 ·exact U7 u hu (fun k hk=>h k (by omega)) (by rw[<-PD];exact h m (by omega))
theorem afO{f:dx}{b:Nat}{ns:List Nd}{cs:List Cb}{L:rY}{Z:Own}{w w7:aG}{bR bN bF q:Nat}{PS:List (List Nat)}{V:Nat->Nat->aI}{U:Nat->aI}{LV:Nat->List Int}{GG:Nat->GT}{sn:Nat->Bool}(H:Gx Z w b ns cs f L)(hb:Bk w L.bk f.dm f.wM f.vH)(hr0:f.dm%2=1->Uq Z w ns L.r0n L.r0f f.NL)(hr1:f.dm%2=0->0<f.dm->Uq Z w ns L.r1n L.r1f f.QB)(hq:f.dm%2=q)(B7:aN w.heap.size w w7)(RS7:RS w.heap.size w7 ns.length bR bN bF V U)(PI:PaI ns.length cs f.up ns.length sn PS)(NM:∀k,k<PS.length->SY ns cs f.up (PS.getD k []) (LV k) (GG k))(RO:∀k,k<PS.length->∀u∈PS.getD k [],xU ns cs w.heap.size w7 V U (LV k) (GG k) u):∃r,Bz ns cs f.up r/\∃dN L',gy dN ((w7.setCell ⟨b,7+q*2,aj⟩ (ay (az ⟨bN,0,aj⟩) ns.length ns.length)).setCell ⟨b,7+q*2+1,aj⟩ (ay (az ⟨bF,0,aj⟩) ns.length ns.length)) b ns cs (f.Jq (f.dm%2) r) L'/\qo Z w dN ((w7.setCell ⟨b,7+q*2,aj⟩ (ay (az ⟨bN,0,aj⟩) ns.length ns.length)).setCell ⟨b,7+q*2+1,aj⟩ (ay (az ⟨bF,0,aj⟩) ns.length ns.length)):=by
 rw[hq];have RN:=uC.of PI NM;refine⟨_,⟨PS,LV,GG,RN⟩,qm Z w.heap.size (1,0,0,0),L.Jq q (ay (az ⟨bN,0,aj⟩) ns.length ns.length) (ay (az ⟨bF,0,aj⟩) ns.length ns.length),?_,?_⟩
 ·have he:∀k,k<w.heap.size->qm Z w.heap.size (1,0,0,0) k=Z k:=fun k hk=>if_pos hk;have hn:∀k,w.heap.size<=k->(qm Z w.heap.size (1,0,0,0) k).1=1:=fun k hk=>by unfold qm;rw[if_neg (by omega)]
  have bl:=H.root.lt;have H7:=H.below (dN:=qm Z w.heap.size (1,0,0,0)) B7 he;obtain⟨wx,hwx⟩:∃wx:aG,(w7.setCell ⟨b,7+q*2,aj⟩ (ay (az ⟨bN,0,aj⟩) ns.length ns.length)).setCell ⟨b,7+q*2+1,aj⟩ (ay (az ⟨bF,0,aj⟩) ns.length ns.length)=wx:=⟨_,rfl⟩;have hc:Ch (fun k=>k=b) w7 wx:=by rw[<-hwx];exact((Ch.refl (fun k=>k=b) w7).setCell (p:=⟨b,7+q*2,aj⟩) (.inl rfl) _).setCell (p:=⟨b,7+q*2+1,aj⟩) (.inl rfl) _
  have Na:=(H7.root.jd (7+q*2) (ay (az ⟨bN,0,aj⟩) ns.length ns.length)).jd (7+q*2+1) (ay (az ⟨bF,0,aj⟩) ns.length ns.length);rw[hwx]at Na|-;have tyS:∀g,g=b->∃t C,dh w7 g t C/\t≠3/\t≠4:=fun g e=>⟨100,Bl f L,by subst e;exact H7.root,by decide,by decide⟩;have RSx:RS w.heap.size wx ns.length bR bN bF V U:=RS7.ch hc (fun e=>by have:=RS7.gR;omega) (fun e=>by have:=RS7.gN;omega) (fun e=>by have:=RS7.gF;omega);have RT:=RSx.rtM (Z:=qm Z w.heap.size (1,0,0,0)) (cs:=cs) (r:=rOf cs PS LV GG) (fun g h1 _=>hn g h1) fun u hu=>by obtain⟨m,hm,hum⟩:=RN.all u hu;exact⟨LV m,GG m,(RO m hm u hum).ch hc tyS,fun p t hp ht=>RN.next m hm u hum p t hp ht,fun p=>RN.sQ m hm u hum p⟩
  have hcw:Ch (fun k=>k=b) w wx:=(Ch.bY (S:=fun k=>k=b) B7).trans hc fun i _ s=>s;have nb1:∀k,k=b->(Z k).1≠1:=fun k e=>by rw[e,H.iP];decide
  have bkx:Bk wx L.bk f.dm f.wM f.vH:=dh.ch hb hcw fun e=>by have:=H.IE;rw[e,H.iP]at this;simp at this
  have q2:q=0\/q=1:=by omega
  rcases q2 with e|e
  ·subst e;have Hx:Gx (qm Z w.heap.size (1,0,0,0)) wx b ns cs (f.Jq 0 (rOf cs PS LV GG)) (L.Jq 0 (ay (az ⟨bN,0,aj⟩) ns.length ns.length) (ay (az ⟨bF,0,aj⟩) ns.length ns.length)):=H7.jD hc (fun _ _=>rfl) (fun k s=>s) Na rfl rfl;exact Hx.toM bkx RT fun h0=>(hr1 hq h0).jD hcw he nb1
  ·subst e;have Hx:Gx (qm Z w.heap.size (1,0,0,0)) wx b ns cs (f.Jq 1 (rOf cs PS LV GG)) (L.Jq 1 (ay (az ⟨bN,0,aj⟩) ns.length ns.length) (ay (az ⟨bF,0,aj⟩) ns.length ns.length)):=H7.jD hc (fun _ _=>rfl) (fun k s=>s) Na rfl rfl;exact Hx.toM bkx ((hr0 hq).jD hcw he nb1) fun _=>RT
 ·refine⟨((Ch.bY (S:=fun k=>2<=(Z k).1) B7).setCell (p:=⟨b,7+q*2,aj⟩) (.inl ?_) _).setCell (p:=⟨b,7+q*2+1,aj⟩) (.inl ?_) _,fun k hk=>if_pos hk⟩
  ·show 2<=(Z b).1;rw[H.iP];exact aC 2
  ·show 2<=(Z b).1;rw[H.iP];exact aC 2
theorem Kc(f:dx)(b:Nat)(ns:List Nd)(cs:List Cb)(L:rY)(Z:Own)(w:aG)(H:Gx Z w b ns cs f L)(hb:Bk w L.bk f.dm f.wM f.vH)(hr0:f.dm%2=1->Uq Z w ns L.r0n L.r0f f.NL)(hr1:f.dm%2=0->0<f.dm->Uq Z w ns L.r1n L.r1f f.QB)(hp:sS ns cs)(hv:fT ⟨ns,cs⟩=0)(tu:QI ⟨ns,cs⟩)(yD:f.up.length=cs.length)(hn:f.dm<=1000000000):bZ aH 42 #[pt b] w (agV Z w b ns cs f):=by
 obtain⟨An,Ac,cn,cc,eN,eC,hIP,_,_⟩:=H.plan;obtain⟨Au,cu,eU,hUR,_⟩:=H.up.isRec (d:=false);have hUR:gI 1 cB false w Au f.up.length f.up:=hUR;have c0:w.cell? ⟨b,0,aj⟩=az (ay An ns.length cn):=by rw[<-eN];exact H.xA
 have c1:w.cell? ⟨b,1,aj⟩=az (ay Ac cs.length cc):=by rw[<-eC];exact H.xA
 have c6:w.cell? ⟨b,6,aj⟩=az (ay Au f.up.length cu):=by rw[H.xA];show az L.vu=_;rw[eU]
 have n16:=hp.n16;obtain⟨j0,xI,zb,Ad,Ae⟩:=dX RL;obtain⟨k0,NJ,wC,uX,wK⟩:=dX Yx;have ayr:∀W:aG,Sem.run aH (Dv 94 (ah ag (ns.length:Int)) (ah ag (ns.length:Int))) W=.ok (ay (az ⟨W.heap.size,0,aj⟩) ns.length ns.length) (W.alloc (af (dS #[ay aj 0 0,ay aj 0 0] (ns.length*2)) 176)):=fun W=>by have:=run_make (P:=aH) W 94 176 j0 (.agg #[ay aj 0 0,ay aj 0 0]) (by kernel_rfl) xI zb .i64 .i64 (ns.length:Int) (ns.length:Int) (by omega) (gQ _) (by rw[Ae];omega) (by omega);rw[Ad]at this;simp only[cK]at this;exact this
 have ahJ:∀W:aG,Sem.run aH (Dv 95 (ah ag (ns.length:Int)) (ah ag (ns.length:Int))) W=.ok (ay (az ⟨W.heap.size,0,aj⟩) ns.length ns.length) (W.alloc (af (dS #[ay aj 0 0] ns.length) 52)):=fun W=>by have:=run_make (P:=aH) W 95 52 k0 (ay aj 0 0) (by kernel_rfl) NJ wC .i64 .i64 (ns.length:Int) (ns.length:Int) (by omega) (gQ _) (by rw[wK];omega) (by omega);rw[uX]at this;simp only[cK,Nat.mul_one]at this;exact this
 have HH:=aA H;have HB:=aA hb;have HR0:=aA hr0;have HR1:=aA hr1;have PL:=aA hp;have HV:=aA hv;have HWF:=aA tu;have HUP:=aA yD;have HIP:=aA hIP;have HUR:=aA hUR;have HC:=aA (show _/\_/\_ from⟨c0,c1,c6⟩);clear H hb hr0 hr1 hp hv tu yD hIP hUR eN eC eU;unfold pt;go_enter func42,ntmps42;go_upto_region 1 with fail;go_cut [3]from 27 (fun s3 wx=>aoB ns.length w s3 wx);case first=>
  as_aux_lemma=>
   go_region
   all_goals
    go_wp2_with fail;go_meet
    case rel=>
     first
      |with_reducible exact FW (Rm ..) (Rn ..) (Ro ..) (by omega) (by omega) (by omega) (Rp ..)
      |with_reducible exact FW (Rm ..) (Ro ..) (Rn ..) (by omega) (by omega) (by omega) (Rp ..)
      |with_reducible exact FW (Rn ..) (Rm ..) (Ro ..) (by omega) (by omega) (by omega) (Rp ..)
      |with_reducible exact FW (Rn ..) (Ro ..) (Rm ..) (by omega) (by omega) (by omega) (Rp ..)
      |with_reducible exact FW (Ro ..) (Rm ..) (Rn ..) (by omega) (by omega) (by omega) (Rp ..)
      |with_reducible exact FW (Ro ..) (Rn ..) (Rm ..) (by omega) (by omega) (by omega) (Rp ..)
 case rest=>
  obtain⟨bR,bN,bF,rfl,Yr,hBel⟩:=hcut;have RS0:=aA Yr;have B1:=aA hBel;have KC:aY (∀wq,aN w.heap.size w wq->wq.cell? ⟨b,0,aj⟩=az (ay An ns.length cn)/\wq.cell? ⟨b,1,aj⟩=az (ay Ac cs.length cc)/\wq.cell? ⟨b,6,aj⟩=az (ay Au f.up.length cu)):=fun wq hb=>by have t:∀{p:fA} {z:aI},w.cell? p=az z->wq.cell? p=az z:=fun{p z} hz=>(hb.cell (aZ _ _ hz)).trans hz;obtain⟨a,b',c⟩:=HC.o;exact⟨t a,t b',t c⟩
  have PA:=aA (aco ns cs f.up An Ac Au cn cc cu wc.drew HV.o HUP.o HWF.o (HIP.o.below (aC _) B1.o.drew) (HUR.o.below (aC _) B1.o.drew));obtain⟨d0,d1,d6⟩:=KC.o wc B1.o;have D0:=aA (show _/\_/\_ from⟨d0,d1,d6⟩);clear Yr hBel c0 c1 c6 d0 d1 d6 ayr ahJ xI zb Ad Ae NJ wC uX wK;go_wp2_with fail;go_region_held3 (fun wq=>wq.cell? ⟨b,0,aj⟩=az (ay An ns.length cn)/\wq.cell? ⟨b,1,aj⟩=az (ay Ac cs.length cc)/\wq.cell? ⟨b,6,aj⟩=az (ay Au f.up.length cu))
   (first|exact D0.o|exact KC.o _ (B1.o.trans (BE2.o.mono B1.o.size)))
   (first|(go_at_call 77;(with_reducible refine PA.o.mono ?_);rintro e w2 ⟨v,sn,PS,rfl,hPI,hPM,hB2⟩;obtain⟨V0,hv1,hv2⟩:=hPM;obtain⟨aP,cP,eP⟩:=dO hv1;subst eP;have PI:=aA hPI;have HV1:=aA hv1;have HV2:=aA hv2;have BE2:aY (aN wc.heap.size wc w2):=(show aN wc.heap.size wc w2 from⟨hB2.os,hB2.tape,hB2.output,hB2.size,hB2.block⟩);clear hPI hv1 hv2 hB2))
  have PIO:=PI.o;have PLN:=aA PIO.len;have B2:aY (aN w.heap.size w w2):=B1.o.trans (BE2.o.mono B1.o.size);have RS2:=aA (RS0.o.below BE2.o);have ST:aY (Tj ns cs f.up w.heap.size w2 bR bN bF PS (ah ag 0) w2):=⟨0,fun _ _=>ay aj 0 0,fun _=>ay aj 0 0,fun _=>[],fun _ _ _ _=>0,bS _,rfl,RS2.o,fun k hk=>by omega,fun k hk=>by omega,fun u _ _=>rfl,Ch.refl _ _⟩;have KL:aY (∀wq,Ch (fun k=>k=bN\/k=bF) w2 wq->aN w.heap.size w wq/\∀{t:dL} {wU k:Nat} {v:aI} {xs:List aI},w2.ownsRow wU t 1 v k xs->t≠176->t≠52->wq.ownsRow wU t 1 v k xs):=fun wq hc=>by
   refine⟨⟨hc.os.trans B2.o.os,hc.tape.trans B2.o.tape,hc.output.trans B2.o.output,dZ B2.o.size hc.size,fun i hi=>(hc.block i (bW hi B2.o.size) fun e=>by have:=RS2.o.gN;have:=RS2.o.gF;omega).trans (B2.o.block i hi)⟩,fun{t wU k v xs} ho n1 n2=>Dj ho hc fun g s=>?_⟩;rcases s with s|s
   ·subst s;exact⟨_,_,RS2.o.nx,fun e=>n1 e.symm⟩
   ·subst s;exact⟨_,_,RS2.o.fl,fun e=>n2 e.symm⟩
  clear PA D0 PIO RS0;go_wp2_with fail;go_loopw [5,6,7,8,9,11,13,14,15,16,17,18,19,20,42,76,97] (fun _ _ _ _ _ _ _ _ _ _ _ _ _ _ i _ _ wr=>Tj ns cs f.up w.heap.size w2 bR bN bF PS i wr) (fun _ _ _ _ _ _ _ _ _ _ _ _ _ _ i _ _ _=>PS.length-(aJ i).toNat);case atStart=>exact ST.o
  case round=>
   clear ST;obtain⟨m,V,U,LV,GG,hm,rfl,Yr,hN,hRo,hU,hC⟩:=hrel;have RSM:=aA Yr;have NM:=aA hN;have ROM:=aA hRo;have UM:=aA hU;have CM:=aA hC;clear Yr hN hRo hU hC;by_cases hmn:m<PS.length
   ·obtain⟨P,hPd⟩:∃P,PS.getD m []=P:=⟨_,rfl⟩;have hPm:P∈PS:=by rw[<-hPd];simp[bJ,hmn]
    obtain⟨NL,l0,hl0,hPf⟩:=PI.o.ok P hPm;have asw:NL∈P:=(by rw[hPf];exact tq.2 ⟨hl0.lv.rlt,by rw[hl0.lv.zero];exact gQ _⟩);have agS:0<P.length:=List.length_pos_of_mem asw;have Plt:aY (∀q,q<P.length->P.getD q 0<ns.length):=fun q hq=>(by have hm:P.getD q 0∈P:=(by simp[bJ,hq]);have Ib:P.getD q 0∈wO l0 ns.length:=(by rw[<-hPf];exact hm);exact(tq.1 Ib).1);obtain⟨root,Na⟩:∃root,P.getD 0 0=root:=⟨_,rfl⟩;have akb:root∈P:=(by rw[<-Na];simp[bJ,agS]);have rlt:=Plt.o 0 agS;rw[Na]at rlt;have PF:=aA hPf;have L0:=aA hl0;have PD:=aA hPd;have RP:=aA akb;obtain⟨BW,KOW⟩:=KL.o wr CM.o;have BWR:=aA BW;obtain⟨gP,aHz,CP,eP,hbP,_,hcP⟩:=uJ (KOW HV1.o (by decide) (by decide)) (by omega);injection eP with eP _ eC;clear eC;subst eP;have hv2:=KOW (HV2.o m hmn) (by decide) (by decide);rw[hPd]at hv2;obtain⟨gp,axo,Cp,ep,hbp,_,hcp⟩:=uJ hv2 agS;have cm:wr.cell? ⟨gP,m,aj⟩=az (ay (az ⟨gp,0,aj⟩) P.length axo):=(by rw[hbP.cell,hcP m hmn,cO,dW hmn,<-ep];rfl);have cq:∀q,q<P.length->wr.cell? ⟨gp,q,aj⟩=az (ah ag (P.getD q 0:Nat)):=fun q hq=>(by rw[hbp.cell,hcp q hq,cO];simp[bJ,hq,cN1]);have CQ:=aA cq;have EP:=aA ep;have CQA:aY (∀wq,Ch (fun k=>k=bN\/k=bF) w2 wq->∀q,q<P.length->wq.cell? ⟨gp,q,aj⟩=az (ah ag (P.getD q 0:Nat))):=fun wq hc q hq=>(by obtain⟨_,KO⟩:=KL.o wq hc;have h:=KO (HV2.o m hmn) (by decide) (by decide);rw[PD.o]at h;obtain⟨g',c',C',e',sV,_,qg⟩:=uJ h (by omega);rw[EP.o]at e';injection e' with e';injection e' with e';injection e' with e';subst e';rw[sV.cell,qg q hq,cO];simp[bJ,hq,cN1]);have cp0:wr.cell? ⟨gp,0,aj⟩=az (ah ag (root:Nat)):=(by rw[<-Na];exact cq 0 agS);have m0:(0:Int)<=(m:Int):=(by omega);have m1:(m:Int)<(PS.length:Int):=(by omega);have psl:PS.length<=16:=dZ PLN.o n16;have pll:P.length<=16:=(by rw[hPf];exact dZ (Vy _ _) n16);have P0:(0:Int)<(P.length:Int):=(by omega);obtain⟨a0,a1,a6⟩:=KC.o wr BW;have OF:aY (∀wq,aN wr.heap.size wr wq->bZ aH 88 #[.agg #[ay An ns.length cn,ay Ac cs.length cc],ay Au f.up.length cu,ah ag (root:Nat)] wq fun e w'=>∃l v c,e=ax (.tuple #[.agg #[ay v l.length c],ah ag 0])/\Iq ns.length cs f.up root l/\w'.ownsRow wr.heap.size 3 1 (ay v l.length c) l.length (l.flatMap cI)/\aN wr.heap.size wr w'/\aN wq.heap.size wq w'):=fun wq hb=>by
     have B:=BWR.o.trans (hb.mono BWR.o.size);refine(afy ⟨ns,cs⟩ f.up (root:Int) An Ac Au cn cc cu wq (by show ns.length<=_;omega) (by have:=PL.o.Lb;show cs.length<=_;omega) HWF.o (HIP.o.below (aC _) B) (HUR.o.below (aC _) B)).mono ?_;rintro e w' ⟨sV,hh⟩;rcases hh with⟨Pt,_⟩|⟨_,l,v,hl,rfl,ho⟩
     ·exact absurd ⟨HV.o,HUP.o,by omega,by show(root:Int)<(ns.length:Int);omega⟩ Pt
     ·obtain⟨a,c,e⟩:=dO ho;subst e;exact⟨l,a,c,rfl,hl,rQ ho hb.size,hb.trans (sV.mono hb.size),sV⟩
    have KC5:aY (∀wq,aN wr.heap.size wr wq->wq.cell? ⟨b,0,aj⟩=az (ay An ns.length cn)/\wq.cell? ⟨b,1,aj⟩=az (ay Ac cs.length cc)/\wq.cell? ⟨b,6,aj⟩=az (ay Au f.up.length cu)/\wq.cell? ⟨gp,0,aj⟩=az (ah ag (root:Nat))):=fun wq hb=>(by have t:∀{p:fA} {z:aI},wr.cell? p=az z->wq.cell? p=az z:=fun{p z} hz=>(hb.cell (aZ _ _ hz)).trans hz;exact⟨t a0,t a1,t a6,t cp0⟩);clear hPd hPf hl0 asw Na akb hv2 hbP hcP ep hbp hcp KOW BW cq;go_upto_region 5 with fail;go_cut [6,7]from 46 to 60 (fun s6 _ wx=>aks ns cs f.up root wr s6 wx);case first=>
     as_aux_lemma=>
      have ENT:=enters_of (P:=aH) func88 (by kernel_rfl) rfl;go_wp2_with fail;refine fQ 17 (fun wq=>wq.cell? ⟨b,0,aj⟩=az (ay An ns.length cn)/\wq.cell? ⟨b,1,aj⟩=az (ay Ac cs.length cc)/\wq.cell? ⟨b,6,aj⟩=az (ay Au f.up.length cu)/\wq.cell? ⟨gp,0,aj⟩=az (ah ag (root:Nat))) (by kernel_rfl) (KC5.o _ ((aQ _ _).drew)) (fun aW=>?_);refine bH.tk 0 aW ?_;try simp only[bI]
      refine bH.tk 1 aW ?_;try simp only[bI]
      refine bH.tk 2 aW ?_;try simp only[bI]
      refine bH.tk 3 aW ?_;try simp only[bI]
      refine bH.tk 4 aW ?_;try simp only[bI]
      refine bH.tk 5 aW ?_;try simp only[bI]
      refine bH.tk 6 aW ?_;try simp only[bI]
      refine bH.tk 7 aW ?_;try simp only[bI]
      refine bH.tk 8 aW ?_;try simp only[bI]
      refine bH.tk 9 aW ?_;try simp only[bI]
      refine bH.tk 10 aW ?_;try simp only[bI]
      refine bH.two (i:=11) (j:=15) (by kernel_rfl) rfl rfl (fun K hK=>?_) (fun K hK=>?_)
      ·refine zZ (by rfl) ENT (by rfl) (by rfl) (by rfl) (by rfl) (OF.o _ ((aQ _ _).drew)) ?_;rintro e w5 ⟨l,v,c,rfl,hl,ho,IQ,hb5⟩;refine⟨_,rfl,?_⟩;have BX5:aY (aN wr.heap.size wr w5):=IQ;have iZ:aY (aks ns cs f.up root wr (au (az ⟨w5.heap.size,0,aj⟩)) (w5.alloc (af #[ay v l.length c] 169))):=
        ⟨w5.heap.size,l,_,rfl,dh.new w5 _ _,IQ.size,fO ho (Ch.bY (S:=fun _=>False) ((aQ _ _).alloc (aC _) _)) (fun _ _ q=>q),hl,IQ.alloc IQ.size _⟩
       clear hl ho hb5 IQ;refine hK.out _ _ (fun _=>KC5.o _ BX5.o) (fun bU=>?_);have aW:=bU (by decide);clear hK bU;try simp only[bI]
       refine bH.tk 12 aW ?_;try simp only[bI]
       refine bH.tk 13 aW ?_;try simp only[bI]
       refine bH.tk 14 aW ?_;try simp only[bI]
       refine bH.one (i:=15) (by kernel_rfl) rfl (fun K hK=>?_);go_simp;refine hK.out _ _ (fun _=>KC5.o _ (BX5.o.alloc BX5.o.size _)) (fun bU=>?_);have aW:=bU (by decide);clear hK bU;try simp only[bI]
       refine bH.one (i:=16) (by kernel_rfl) rfl (fun K hK=>?_);go_simp;refine hK.out _ _ (fun _=>KC5.o _ (BX5.o.alloc BX5.o.size _)) (fun bU=>?_);have aW:=bU (by decide);clear hK bU;try simp only[bI]
       refine bH.one (i:=17) (by kernel_rfl) rfl (fun K hK=>?_);go_simp;refine hK.out _ _ (fun h=>absurd rfl h) (fun _=>?_);clear hK;refine bH.done (by kernel_rfl) ?_ _;try simp only[bI]
       go_wp2_with fail;go_meet
       case rel=>exact iZ.out
      ·have VB0:aY (dh (wr.alloc (af #[ay aj 0 0] 169)).drew wr.heap.size 169 #[ay aj 0 0]):=dh.new wr _ _;have BB0:aY (aN wr.heap.size wr (wr.alloc (af #[ay aj 0 0] 169)).drew):=((aQ _ _).alloc (aC _) _).drew;go_simp;refine hK.out _ _ (fun _=>KC5.o _ BB0.o) (fun bU=>?_);have aW:=bU (by decide);clear hK bU;try simp only[bI]
       refine bH.one (i:=11) (by kernel_rfl) rfl (fun K hK=>?_);refine zZ (by rfl) ENT (by rfl) (by rfl) (by rfl) (by rfl) (OF.o _ BB0.o) ?_;rintro e w5 ⟨l,v,c,rfl,hl,ho,IQ,hb5⟩;refine⟨_,rfl,?_⟩;have BX5:aY (aN wr.heap.size wr w5):=IQ;have vb5:=VB0.o.below hb5 VB0.o.lt;have vc5:w5.cell? ⟨wr.heap.size,0,aj⟩=az (ay aj 0 0):=vb5.cell 0;have vf5:w5.frozen? ⟨wr.heap.size,0,aj⟩=false:=vb5.frozen 0;have iZ:aY (aks ns cs f.up root wr (au (az ⟨wr.heap.size,0,aj⟩)) (w5.setCell ⟨wr.heap.size,0,aj⟩ (ay v l.length c))):=(by refine⟨wr.heap.size,l,_,rfl,vb5.jd 0 _,aC _,nO ho (p:=⟨wr.heap.size,0,aj⟩) _ fun g hg e=>?_,hl,IQ.setCell (aC _) _⟩;obtain⟨C',sV⟩:=kH ho g hg;subst e;exact dh.sU vb5 sV (by decide) rfl);clear hl ho hb5 IQ vb5;refine hK.out _ _ (fun _=>KC5.o _ BX5.o) (fun bU=>?_);have aW:=bU (by decide);clear hK bU;try simp only[bI]
       refine bH.tk 12 aW ?_;try simp only[bI]
       refine bH.tk 13 aW ?_;try simp only[bI]
       refine bH.tk 14 aW ?_;try simp only[bI]
       refine bH.one (i:=16) (by kernel_rfl) rfl (fun K hK=>?_);go_simp;refine hK.out _ _ (fun _=>KC5.o _ (BX5.o.setCell (aC _) _)) (fun bU=>?_);have aW:=bU (by decide);clear hK bU;try simp only[bI]
       refine bH.one (i:=17) (by kernel_rfl) rfl (fun K hK=>?_);go_simp;refine hK.out _ _ (fun h=>absurd rfl h) (fun _=>?_);clear hK;refine bH.done (by kernel_rfl) ?_ _;try simp only[bI]
       go_wp2_with fail;go_meet
       case rel=>exact iZ.out
    case rest=>
     obtain⟨bO,l,vL,rfl,hbO,hgO,hoL,hlv,hB5⟩:=hcut;obtain⟨aL,cL,eL⟩:=dO hoL;subst eL;obtain⟨w5,rfl⟩:∃w5:aG,w5=wc:=⟨_,rfl⟩;have BO:=aA hbO;have OL:=aA hoL;have LU:=aA hlv;have B5:=aA hB5;have yZ:=hlv.lv.len;have ORD:=hlv.lv.order HV.o;have WFL:=hlv.lv.wf (by omega);have agQ:=aA ORD;have B5W:aY (aN w.heap.size w w5):=BWR.o.trans (hB5.mono BWR.o.size);have IRL:aY (gI 1 cI 0 w5 aL l.length l):=(by obtain⟨a',c',e',_,hr',_⟩:=gZ (d:=(0:Int)) qK (by decide) hoL;injection e' with e';subst e';exact hr');have MK:aY (∀wq,aN w5.heap.size w5 wq->bZ aH 89 #[.agg #[ay An ns.length cn,ay Ac cs.length cc],.agg #[ay aL l.length cL],ay Au f.up.length cu] wq (fun e w'=>∃bT base V G,e=ax (.tuple #[.agg #[ay (az ⟨bT,0,aj⟩) ns.length ns.length],ah ag 0])/\w5.heap.size<=base/\w5.heap.size<=bT/\TM w' bT base ns.length 0 0 V (fun _ _=>ns.length) G/\(∀t,t<ns.length->Col ns.length cs f.up l G t)/\aN w5.heap.size w5 w'/\aN wq.heap.size wq w')):=fun wq hb=>(by have B:=B5W.o.trans (hb.mono B5W.o.size);refine(aft ns cs f.up l An Ac Au aL cn cc cu cL wq HV.o agQ.out HUP.o yZ HWF.o WFL (HIP.o.below (aC _) B) (HUR.o.below (aC _) B) (IRL.o.below (aC _) hb)).mono ?_;rintro e w' ⟨bT,base,V,G,rfl,h1,h2,h3,h4⟩;exact⟨bT,base,V,G,rfl,by have:=h2.lt;have:=hb.size;omega,by have:=hb.size;omega,h2,h3,hb.trans (h4.mono hb.size),h4⟩);obtain⟨a0,a1,a6,_⟩:=KC5.o w5 hB5;have bo0:w5.cell? ⟨bO,0,aj⟩=az (ay aL l.length cL):=hbO.cell 0;have KC6:aY (∀wq,aN w5.heap.size w5 wq->(fun wq=>wq.cell? ⟨b,0,aj⟩=az (ay An ns.length cn)/\wq.cell? ⟨b,1,aj⟩=az (ay Ac cs.length cc)/\wq.cell? ⟨b,6,aj⟩=az (ay Au f.up.length cu)/\wq.cell? ⟨bO,0,aj⟩=az (ay aL l.length cL)) wq):=fun wq hb=>(by have t:∀{p:fA} {z:aI},w5.cell? p=az z->wq.cell? p=az z:=fun{p z} hz=>(hb.cell (aZ _ _ hz)).trans hz;exact⟨t a0,t a1,t a6,t bo0⟩);clear hbO hgO hoL hlv hB5 yZ ORD WFL a0 a1 a6 bo0 OF;go_upto_region 6 with fail;go_cut [8,9]from 61 to 73 (fun s8 _ wx=>akt ns.length cs f.up l w5 s8 wx);case first=>
      as_aux_lemma=>
       have ENT:=enters_of (P:=aH) func89 (by kernel_rfl) rfl;go_wp2_with fail;refine fQ 15 (fun wq=>wq.cell? ⟨b,0,aj⟩=az (ay An ns.length cn)/\wq.cell? ⟨b,1,aj⟩=az (ay Ac cs.length cc)/\wq.cell? ⟨b,6,aj⟩=az (ay Au f.up.length cu)/\wq.cell? ⟨bO,0,aj⟩=az (ay aL l.length cL)) (by kernel_rfl) (KC6.o _ ((aQ _ _).drew)) (fun aW=>?_);refine bH.tk 0 aW ?_;try simp only[bI]
       refine bH.tk 1 aW ?_;try simp only[bI]
       refine bH.tk 2 aW ?_;try simp only[bI]
       refine bH.tk 3 aW ?_;try simp only[bI]
       refine bH.tk 4 aW ?_;try simp only[bI]
       refine bH.tk 5 aW ?_;try simp only[bI]
       refine bH.tk 6 aW ?_;try simp only[bI]
       refine bH.tk 7 aW ?_;try simp only[bI]
       refine bH.tk 8 aW ?_;try simp only[bI]
       refine bH.two (i:=9) (j:=13) (by kernel_rfl) rfl rfl (fun K hK=>?_) (fun K hK=>?_)
       ·refine zZ (by rfl) ENT (by rfl) (by rfl) (by rfl) (by rfl) (MK.o _ ((aQ _ _).drew)) ?_;rintro e w6 ⟨bT,base,V1,G1,rfl,hg,hgT,hT,Db,IQ,hb6⟩;refine⟨_,rfl,?_⟩;have BX6:aY (aN w5.heap.size w5 w6):=IQ;have iZ:aY (akt ns.length cs f.up l w5 (au (az ⟨w6.heap.size,0,aj⟩)) (w6.alloc (af #[ay (az ⟨bT,0,aj⟩) ns.length ns.length] 173))):=
         ⟨w6.heap.size,bT,base,V1,G1,rfl,dh.new w6 _ _,IQ.size,hg,hgT,hT.below ((aQ _ _).alloc (aC _) _),Db,IQ.alloc IQ.size _⟩
        clear hg hgT hT Db hb6 IQ;refine hK.out _ _ (fun _=>KC6.o _ BX6.o) (fun bU=>?_);have aW:=bU (by decide);clear hK bU;try simp only[bI]
        refine bH.tk 10 aW ?_;try simp only[bI]
        refine bH.tk 11 aW ?_;try simp only[bI]
        refine bH.tk 12 aW ?_;try simp only[bI]
        refine bH.one (i:=13) (by kernel_rfl) rfl (fun K hK=>?_);go_simp;refine hK.out _ _ (fun _=>KC6.o _ (BX6.o.alloc BX6.o.size _)) (fun bU=>?_);have aW:=bU (by decide);clear hK bU;try simp only[bI]
        refine bH.one (i:=14) (by kernel_rfl) rfl (fun K hK=>?_);go_simp;refine hK.out _ _ (fun _=>KC6.o _ (BX6.o.alloc BX6.o.size _)) (fun bU=>?_);have aW:=bU (by decide);clear hK bU;try simp only[bI]
        refine bH.one (i:=15) (by kernel_rfl) rfl (fun K hK=>?_);go_simp;refine hK.out _ _ (fun h=>absurd rfl h) (fun _=>?_);clear hK;refine bH.done (by kernel_rfl) ?_ _;try simp only[bI]
        go_wp2_with fail;go_meet
        case rel=>exact iZ.out
       ·have VB0:aY (dh (w5.alloc (af #[ay aj 0 0] 173)).drew w5.heap.size 173 #[ay aj 0 0]):=dh.new w5 _ _;have BB0:aY (aN w5.heap.size w5 (w5.alloc (af #[ay aj 0 0] 173)).drew):=((aQ _ _).alloc (aC _) _).drew;go_simp;refine hK.out _ _ (fun _=>KC6.o _ BB0.o) (fun bU=>?_);have aW:=bU (by decide);clear hK bU;try simp only[bI]
        refine bH.one (i:=9) (by kernel_rfl) rfl (fun K hK=>?_);refine zZ (by rfl) ENT (by rfl) (by rfl) (by rfl) (by rfl) (MK.o _ BB0.o) ?_;rintro e w6 ⟨bT,base,V1,G1,rfl,hg,hgT,hT,Db,IQ,hb6⟩;refine⟨_,rfl,?_⟩;have BX6:aY (aN w5.heap.size w5 w6):=IQ;have vb5:=VB0.o.below hb6 VB0.o.lt;have vc5:w6.cell? ⟨w5.heap.size,0,aj⟩=az (ay aj 0 0):=vb5.cell 0;have vf5:w6.frozen? ⟨w5.heap.size,0,aj⟩=false:=vb5.frozen 0;have iZ:aY (akt ns.length cs f.up l w5 (au (az ⟨w5.heap.size,0,aj⟩)) (w6.setCell ⟨w5.heap.size,0,aj⟩ (ay (az ⟨bT,0,aj⟩) ns.length ns.length))):=(by refine⟨w5.heap.size,bT,base,V1,G1,rfl,vb5.jd 0 _,aC _,hg,hgT,?_,Db,IQ.setCell (aC _) _⟩;have hc:=(Ch.refl (fun i=>i=w5.heap.size) w6).setCell (p:=⟨w5.heap.size,0,aj⟩) (.inl rfl) (ay (az ⟨bT,0,aj⟩) ns.length ns.length);exact hT.axs hc fun g s=>⟨173,_,by have s:g=w5.heap.size:=s;subst s;exact vb5,by decide,by decide⟩);clear hg hgT hT Db hb6 IQ vb5;refine hK.out _ _ (fun _=>KC6.o _ BX6.o) (fun bU=>?_);have aW:=bU (by decide);clear hK bU;try simp only[bI]
        refine bH.tk 10 aW ?_;try simp only[bI]
        refine bH.tk 11 aW ?_;try simp only[bI]
        refine bH.tk 12 aW ?_;try simp only[bI]
        refine bH.one (i:=14) (by kernel_rfl) rfl (fun K hK=>?_);go_simp;refine hK.out _ _ (fun _=>KC6.o _ (BX6.o.setCell (aC _) _)) (fun bU=>?_);have aW:=bU (by decide);clear hK bU;try simp only[bI]
        refine bH.one (i:=15) (by kernel_rfl) rfl (fun K hK=>?_);go_simp;refine hK.out _ _ (fun h=>absurd rfl h) (fun _=>?_);clear hK;refine bH.done (by kernel_rfl) ?_ _;try simp only[bI]
        go_wp2_with fail;go_meet
        case rel=>exact iZ.out
     case rest=>
      obtain⟨bQ,bT,ajm,V1,G1,rfl,hbQ,hgQ,hgb,hgT,hTM,Db,hB6⟩:=hcut;obtain⟨w6,rfl⟩:∃w6:aG,w6=wc:=⟨_,rfl⟩;have B6R:aY (aN wr.heap.size wr w6):=B5.o.trans (hB6.mono B5.o.size);have B6W:aY (aN w.heap.size w w6):=BWR.o.trans (B6R.o.mono BWR.o.size);have BQH:=aA hbQ;have TMH:=aA hTM;have LB1:aY (w.heap.size<=ajm):=dZ B5W.o.size hgb;have apg:aY (SY ns cs f.up P l G1):=(by refine⟨⟨root,LU.o⟩,?_,⟨HV.o,agQ.out,Db⟩⟩;rw[PF.o];unfold wO;refine List.filter_congr fun j hj=>?_;have hr:=RP.o;rw[PF.o]at hr;have:=L0.o.same LU.o (tq.1 hr).1 (tq.1 hr).2 (by rw[LU.o.lv.zero];exact gQ _) (dJ.1 hj);rw[Bool.eq_iff_iff,decide_eq_true_eq,decide_eq_true_eq];exact this);have RS6:=aA (RSM.o.below B6R.o);have C26:aY (Ch (fun k=>k=bN\/k=bF) w2 w6):=CM.o.rW B6R.o;have BO6:aY (dh w6 bO 169 #[ay aL l.length cL]):=BO.o.below hB6 BO.o.lt;have BTN:aY (¬bT=bN/\¬bT=bF):=(by have h1:=RSM.o.nx.lt;have h2:=RSM.o.fl.lt;have h3:=B5.o.size;exact⟨fun e=>by omega,fun e=>by omega⟩);have CQ6:aY (∀q,q<P.length->w6.cell? ⟨gp,q,aj⟩=az (ah ag (P.getD q 0:Nat))):=fun q hq=>(by have:=CQ.o q hq;exact(B6R.o.cell (aZ _ _ this)).trans this);have PND:aY (P.Nodup):=(by rw[aY,PF.o];exact List.filter_sublist.nodup List.nodup_range);have LPL:aY (∀q,q<P.length->0<=l.getD (P.getD q 0) 0):=fun q hq=>(by have hm:P.getD q 0∈P:=(by simp[bJ,hq]);have h2:=apg.out.part;have Ib:P.getD q 0∈wO l ns.length:=(by rw[<-h2];exact hm);exact(tq.1 Ib).2);have avk:aY (∀q,q<P.length->∀k,k<m->P.getD q 0∉PS.getD k []):=fun q hq k hk hh=>(by have hm:P.getD q 0∈P:=(by simp[bJ,hq]);have hkl:k<PS.length:=(by omega);have:=uh.1 PI.o.dis k m hkl hmn hk (P.getD q 0) (by simpa[bJ,hkl]using hh);have e3:PS[m]=P:=(by rw[<-PD.o];simp[bJ,hmn]);exact this (by rw[e3];exact hm));have ST2:aY (Tm ns cs w.heap.size w6 bR bN bF m PS P LV GG l G1 (ah ag 0) w6):=⟨0,V,U,bS _,rfl,RS6.o,fun k hk u hu=>(ROM.o k hk u hu).ch (Ch.bY (S:=fun _=>False) B6R.o) (fun _ s=>s.elim),fun u hu=>by simp at hu,fun u hu h1 _=>UM.o u hu h1,Ch.refl _ _⟩;have OL6:aY (w6.ownsRow wr.heap.size 3 1 (ay aL l.length cL) l.length (l.flatMap cI)):=fO OL.o (Ch.bY (S:=fun _=>False) hB6) fun _ _ s=>s;have CBO:aY (w6.cell? ⟨bO,0,aj⟩=az (ay aL l.length cL)/\gI 1 cI 0 w6 aL l.length l):=⟨(hB6.cell (p:=⟨bO,0,aj⟩) BO.o.lt).trans (BO.o.cell 0),IRL.o.below (aC _) hB6⟩;clear hbQ hgQ hgb hTM Db hB6 cm cp0 MK KC6 KC5;go_wp2_with fail;go_loopw [11,13,14,15,16,17,18,19,20,76,97] (fun _ _ _ _ _ _ _ _ _ i _ wq=>Tm ns cs w.heap.size w6 bR bN bF m PS P LV GG l G1 i wq) (fun _ _ _ _ _ _ _ _ _ i _ _=>P.length-(aJ i).toNat);case atStart=>exact ST2.o
      case round=>
       clear ST2;obtain⟨q,V',U',hq,rfl,Yr,hRo,hRq,hU,hC⟩:=hrel;obtain⟨w7,rfl⟩:∃w7:aG,w7=wr:=⟨_,rfl⟩;have RS7:=aA Yr;have RO7:=aA hRo;have RQ7:=aA hRq;have U7:=aA hU;have C7:=aA hC;have B7W:aY (aN w.heap.size w w7):=CR B6W.o hC fun g s=>by have:=RS6.o.gN;have:=RS6.o.gF;rcases s with s|s<;>omega
       by_cases hqn:q<P.length
       ·obtain⟨u,hu⟩:∃u,P.getD q 0=u:=⟨_,rfl⟩;have ult:=Plt.o q hqn;have lpu:=LPL.o q hqn;have dj:=avk.out q hqn;have cqq:=CQA.o w7 (C26.o.trans hC fun i _ s=>s) q hqn;have hPu:P.take (q+1)=P.take q++[u]:=(by rw[<-hu];exact ji 0 P q hqn);have anh:u∉P.take q:=fun hh=>by
         have h1:=PND.o;rw[<-List.take_append_drop (q+1) P,hPu]at h1;have h2:=(kZ.1 h1).1;have h3:=(kZ.1 h2).2.2 u hh u (by simp);exact h3 rfl
        rw[hu]at ult lpu dj cqq;have apW:=hU u ult dj anh;have HPU:=aA hPu;have DJ:=aA dj;have UNW:=aA anh;have LPU:=aA lpu;have nBO:¬(bO=bN\/bO=bF):=fun e=>by
         rcases e with e|e
         ·exact dh.sU BO6.o RS6.o.nx (by decide) e
         ·exact dh.sU BO6.o RS6.o.fl (by decide) e
        have nBQ:¬(bQ=bN\/bQ=bF):=fun e=>by
         rcases e with e|e
         ·exact dh.sU BQH.o RS6.o.nx (by decide) e
         ·exact dh.sU BQH.o RS6.o.fl (by decide) e
        have BO7:aY (dh w7 bO 169 #[ay aL l.length cL]):=BO6.o.ch hC nBO;have BQ7:aY (dh w7 bQ 173 #[ay (az ⟨bT,0,aj⟩) ns.length ns.length]):=BQH.o.ch hC nBQ;have aiq:∀p,p<2->w7.ownsRow ajm 3 1 (V1 u p) ns.length ((Jp G1 u p ns.length).flatMap cI):=fun p hp=>Dj (TMH.o.own u p ult hp) hC fun g s=>by
         rcases s with s|s
         ·subst s;exact⟨_,_,RS6.o.nx,by decide⟩
         ·subst s;exact⟨_,_,RS6.o.fl,by decide⟩
        have tc7:∀p,p<2->w7.cell? ⟨bT,u*2+p,aj⟩=az (V1 u p):=fun p hp=>by
         have h1:=TMH.o.cell ult hp;exact(hC.cell (p:=⟨bT,u*2+p,aj⟩) (aZ _ _ h1) fun e=>by
          rcases e with e|e
          ·exact BTN.o.1 e
          ·exact BTN.o.2 e).trans h1
        obtain⟨a0,k0,e0⟩:=dO (aiq 0 (by omega));obtain⟨a1,k1,e1⟩:=dO (aiq 1 (by omega));have t0:=tc7 0 (by omega);have t1:=tc7 1 (by omega);rw[e0]at t0;rw[e1]at t1;have r0:w7.cell? ⟨bR,0,aj⟩=az (ay (az ⟨bN,0,aj⟩) ns.length ns.length):=Yr.r.cell 0;have q0':w7.cell? ⟨bQ,0,aj⟩=az (ay (az ⟨bT,0,aj⟩) ns.length ns.length):=BQ7.o.cell 0;have f0:w7.frozen? ⟨bN,u*2,aj⟩=false:=Yr.nx.frozen _;have f1:w7.frozen? ⟨bN,u*2+1,aj⟩=false:=Yr.nx.frozen _;have n0:w7.cell? ⟨bN,u*2,aj⟩=az (V' u 0):=(by rw[Yr.nx.cell,di];exact Ff _ V' (p:=0) ult (by omega));have n1:w7.cell? ⟨bN,u*2+1,aj⟩=az (V' u 1):=(by rw[Yr.nx.cell,di];exact Ff _ V' (p:=1) ult (by omega));have ROWS:aY (∀p,p<2->w7.ownsRow w.heap.size 3 1 (Eo (Eo V' u 0 (ay a0 ns.length k0)) u 1 (ay a1 ns.length k1) u p) ns.length ((aO ns.length).map fun t=>ah ag (G1 u p t))):=fun p hp=>by
         have h1:=rQ (aiq p hp) LB1.o;have e3:(Jp G1 u p ns.length).flatMap cI=(aO ns.length).map fun t=>ah .i64 (G1 u p t):=by
          unfold Jp;rw[List.flatMap_map]
          induction ns.length with
          |zero=>rfl
          |succ n ih=>rw[dB,fP,eY,ih];rfl
         rw[e3]at h1;rcases(show p=0\/p=1 by omega)with rfl|rfl
         ·rw[mU _ _ (by omega),rX,<-e0];exact h1
         ·rw[rX,<-e1];exact h1
        obtain⟨w8,hw8⟩:∃w8:aG,((w7.setCell ⟨bN,u*2,aj⟩ (ay a0 ns.length k0)).setCell ⟨bN,u*2+1,aj⟩ (ay a1 ns.length k1)).drew=w8:=⟨_,rfl⟩;have WZ:aY (RS w.heap.size w8 ns.length bR bN bF (Eo (Eo V' u 0 (ay a0 ns.length k0)) u 1 (ay a1 ns.length k1)) U'):=(by rw[<-hw8];have h:=(Yr.acF (p:=0) ult (by omega) (ay a0 ns.length k0)).acF (p:=1) ult (by omega) (ay a1 ns.length k1);exact⟨h.r,h.nx,h.fl,h.gR,h.gN,h.gF⟩);have C78:aY (Ch (fun k=>k=bN) w7 w8):=(by rw[<-hw8];exact(((Ch.refl (fun k=>k=bN) w7).setCell (p:=⟨bN,u*2,aj⟩) (.inl rfl) _).setCell (p:=⟨bN,u*2+1,aj⟩) (.inl rfl) _).drew);have u0:(0:Int)<=(u:Int):=(by omega);have u1:(u:Int)<(ns.length:Int):=(by omega);have qq0:(0:Int)<=(q:Int):=(by omega);have qq1:(q:Int)<(P.length:Int):=(by omega);have kk:(fun wq=>wq.cell? ⟨bR,0,aj⟩=az (ay (az ⟨bN,0,aj⟩) ns.length ns.length)/\wq.cell? ⟨bQ,0,aj⟩=az (ay (az ⟨bT,0,aj⟩) ns.length ns.length)/\wq.cell? ⟨bT,u*2,aj⟩=az (ay a0 ns.length k0)/\wq.cell? ⟨bT,u*2+1,aj⟩=az (ay a1 ns.length k1)) w7.drew:=⟨r0,q0',t0,t1⟩;clear Yr hRo hRq hU hC aiq tc7 e0 e1 anh dj lpu hPu;go_wp2_with fail;refine fQ 9 (fun wq=>wq.cell? ⟨bR,0,aj⟩=az (ay (az ⟨bN,0,aj⟩) ns.length ns.length)/\wq.cell? ⟨bQ,0,aj⟩=az (ay (az ⟨bT,0,aj⟩) ns.length ns.length)/\wq.cell? ⟨bT,u*2,aj⟩=az (ay a0 ns.length k0)/\wq.cell? ⟨bT,u*2+1,aj⟩=az (ay a1 ns.length k1)) (by kernel_rfl) kk (fun aW=>?_);refine bH.tk 0 aW ?_;try simp only[bI]
        refine bH.tk 1 aW ?_;try simp only[bI]
        refine bH.tk 2 aW ?_;try simp only[bI]
        refine bH.tk 3 aW ?_;try simp only[bI]
        refine bH.tk 4 aW ?_;try simp only[bI]
        refine bH.tk 5 aW ?_;try simp only[bI]
        refine bH.tk 6 aW ?_;try simp only[bI]
        refine bH.tk 7 aW ?_;try simp only[bI]
        refine bH.tk 8 aW ?_;try simp only[bI]
        refine bH.one (i:=9) (by kernel_rfl) rfl (fun K hK=>?_);go_simp;refine hK.out _ _ (fun h=>absurd rfl h) (fun _=>?_);clear hK;refine bH.done (by kernel_rfl) ?_ _;try simp only[bI]
        clear kk r0 q0' t0 t1 f0 f1 n0 n1 hw8;have B8W:aY (aN w.heap.size w w8):=CR B7W.o C78.o fun g s=>by have:=RS6.o.gN;have s:g=bN:=s;omega
        obtain⟨gt,ct,eT,ct1,_,lT,tT⟩:=HH.o.xH.1.at_ (i:=u) (by simpa using ult);have np8:=PL.o.Qk ult;have aho:=HH.o.xH.2 u ult;obtain⟨np,hnp⟩:∃np,fw (ns.getD u jk)=np:=⟨_,rfl⟩;have np1:1<=np/\np<=8:=(by rw[<-hnp];exact np8);rw[hnp]at aho;obtain⟨gr,cr,eRw⟩:=aho.OJ (by simp;omega);have KT:aY (∀wq,aN w.heap.size w wq->wq.cell? ⟨b,4,aj⟩=az (ay (az ⟨gt,0,aj⟩) ns.length ct)/\wq.cell? ⟨gt,u,aj⟩=az (ay (az ⟨gr,0,aj⟩) np cr)/\∀p,p<np->wq.cell? ⟨gr,p,aj⟩=az (ah ag (Ei cs u p))):=fun wq hb=>(by have t:∀{p:fA} {z:aI},w.cell? p=az z->wq.cell? p=az z:=fun{p z} hz=>(hb.cell (aZ _ _ hz)).trans hz;refine⟨t (by rw[<-eT];exact HH.o.xA),t (by rw[ct1,cO,dW ult,<-eRw];rfl),fun p hp=>t (by rw[aho.cellOf eRw (by simpa using hp),cO,dW hp];rfl)⟩);obtain⟨k4,kt,_⟩:=KT.o w8 B8W.o;have HNP:=aA hnp;have BO8:aY (dh w8 bO 169 #[ay aL l.length cL]):=BO7.o.ch C78.o fun e=>nBO (.inl e);have ST3:aY (Xo ns cs w8 bF u np U' l (ah ag 0) w8):=⟨0,ay aj 0 0,bS _,rfl,World.ownsRow_nil w8 _ _ _,by
         have e:((aO ns.length).map fun i=>if i=u then ay aj 0 0 else U' i)=(aO ns.length).map U':=fU fun i _=>by
          by_cases e:i=u
          ·rw[if_pos e,e,apW]
          ·rw[if_neg e]
         rw[e];exact WZ.o.fl,Ch.refl _ _⟩
        clear eT ct1 lT tT np8 aho eRw hnp apW cqq nBQ;go_wp2_with fail;go_loopw [13,14,15,16,17,18,19,20,97] (fun _ _ _ _ _ _ _ _ i wq=>Xo ns cs w8 bF u np U' l i wq) (fun _ _ _ _ _ _ _ _ i _=>np-(aJ i).toNat);case atStart=>exact ST3.o
        case round=>
         clear ST3 k4 kt;obtain⟨p,vf,hp,rfl,hF,hB,hC3⟩:=hrel;obtain⟨w9,rfl⟩:∃w9:aG,w9=wr:=⟨_,rfl⟩;have F9:=aA hF;have FB9:=aA hB;have C9:=aA hC3;have B9W:aY (aN w.heap.size w w9):=CR B8W.o hC3 fun g s=>by have:=RS6.o.gF;have s:g=bF:=s;omega
         clear hF hB hC3;by_cases hpn:p<np
         ·obtain⟨k4,kt,kr⟩:=KT.o w9 B9W.o;have krp:=kr p hpn;have p0:(0:Int)<=(p:Int):=(by omega);have p1:(p:Int)<(np:Int):=(by omega);obtain⟨a0,a1,_⟩:=KC.o w9 B9W.o;have bo9:w9.cell? ⟨bO,0,aj⟩=az (ay aL l.length cL):=(BO8.o.ch C9.o fun e=>nBO (.inr e)).cell 0;have KC9:aY (∀wq,aN w9.heap.size w9 wq->wq.cell? ⟨b,0,aj⟩=az (ay An ns.length cn)/\wq.cell? ⟨b,1,aj⟩=az (ay Ac cs.length cc)/\wq.cell? ⟨bO,0,aj⟩=az (ay aL l.length cL)):=fun wq hb=>by
           have t:∀{p:fA} {z:aI},w9.cell? p=az z->wq.cell? p=az z:=fun{p z} hz=>(hb.cell (aZ _ _ hz)).trans hz;exact⟨t a0,t a1,t bo9⟩
          clear k4 kt kr;go_upto_if 102 with fail;go_cut [13,14,15,16,17,18,19,20]from 99 to 131 (fun _ s14 _ _ _ _ _ _ wx=>s14=.bool (qL cs l u p)/\aN w9.heap.size w9 wx);case first=>
           as_aux_lemma=>
            cases rG:mZ cs u p with
            |none=>have e1:Ei cs u p=-1:=(by unfold Ei;rw[rG];rfl);have FALL:aY (iN false=.bool (qL cs l u p)):=(by rw[aY];unfold qL;rw[rG]);rw[e1]at krp|-;clear rG e1;go_wp2_with fail;go_meet;case rel=>exact⟨FALL.o,aQ _ _⟩
            |some i=>
             have e1:Ei cs u p=(i:Int):=Rs rG;obtain⟨hi,htu⟩:=yO rG;have FLP:=PL.o.flip hi htu;obtain⟨v,hv⟩:∃v,Wn cs i u=v:=⟨_,rfl⟩;have EVF:qL cs l u p=(decide (0<=l.getD v 0)&&decide (0<=l.getD u 0)&&!FH l v u):=(by unfold qL;rw[rG,<-hv]);rw[hv]at FLP;have S9:QF w9 b ns cs An Ac cn cc:=⟨a0,a1,HIP.o.below (aC _) B9W.o⟩;have CH:aY (∀wq,aN w9.heap.size w9 wq->bZ aH 65 #[au (az ⟨b,0,aj⟩),ah ag i,ah ag u] wq fun e w'=>e=ax (ah ag (iY cs i u:Nat))/\wq=w'):=fun wq hb=>LF i u b ns cs An Ac cn cc wq (S9.below hb) PL.o hi ult;have ENX:=Ci (DI (iY cs i u)) b ns cs An Ac cn cc w9 S9 PL.o FLP.2.2.1;have Lb:=PL.o.Lb;have cch:=(PL.o.chan hi htu).1;have hfb:bits .xor .i64 ((iY cs i u:Nat):Int) 1=(DI (iY cs i u):Int):=abx (by omega);unfold uB pt at ENX;have e1v:(fM cs (DI (iY cs i u))).1=v:=hv;obtain⟨⟨ex,ex1,ex2,ex3⟩,hex⟩:∃x,fM cs (DI (iY cs i u))=x:=⟨_,rfl⟩;rw[hex]at ENX e1v;simp only at ENX e1v;subst e1v;have ENX:=aA ENX;have C69:Ch (fun k=>k=bN\/k=bF) w6 w9:=(C7.o.trans C78.o fun j _ s=>.inl s).trans C9.o fun j _ s=>.inr s;have IR9:aY (∀wq,aN w9.heap.size w9 wq->gI 1 cI 0 wq aL l.length l):=fun wq hb=>by
              have h6:=Dj OL6.o C69 fun g s=>by
               rcases s with s|s
               ·subst s;exact⟨_,_,RS6.o.nx,by decide⟩
               ·subst s;exact⟨_,_,RS6.o.fl,by decide⟩
              obtain⟨a',c',e',_,hr',_⟩:=gZ (d:=(0:Int)) qK (by decide) (fO h6 (Ch.bY (S:=fun _=>False) hb) fun _ _ s=>s);injection e' with e';subst e';exact hr'
             have i0:(0:Int)<=(i:Int):=(by omega);have hge:decide ((i:Int)≥0)=true:=decide_eq_true (by omega);rw[e1]at krp|-;have agK:=aA FLP;have LVL:=LPU.o;by_cases hlv:0<=l.getD ex 0
             ·have FALL:aY (iN (!FH l ex u)=.bool (qL cs l u p)):=by rw[aY,EVF,decide_eq_true hlv,decide_eq_true LVL];simp
              have UPW:aY (∀wq,aN w9.heap.size w9 wq->bZ aH 90 #[.agg #[ay An ns.length cn,ay Ac cs.length cc],.agg #[ay aL l.length cL],ah ag (i:Int),ah ag (ex:Int)] wq.drew fun e w'=>e=ax (.tuple #[.bool (FH l ex u),ah ag 0])/\aN w9.heap.size w9 w'):=fun wq hb=>(by have B:=B9W.o.trans (hb.mono B9W.o.size);exact(Zk ns cs l An Ac aL cn cc cL i ex u wq.drew agQ.out hi agK.out.2.1 agK.out.1 ult hlv LVL HWF.o (LU.o.lv.wf (by omega)) (HIP.o.below (aC _) B.drew) (IR9.o _ hb.drew)).mono fun e w' k=>⟨k.1,hb.drew.trans (k.2.mono hb.drew.size)⟩);generalize iY cs i u=ch at *;generalize DI ch=fc at *;generalize FH l ex u=ub at *;clear rG hex hv EVF htu hi FLP S9;go_wp2_with (first
               |(go_at_call 65;(with_reducible refine(CH.o _ (aQ _ _)).mono ?_);rintro e wq ⟨rfl,rfl⟩)
               |(go_at_call 53;(with_reducible refine ENX.o.mono ?_);rintro e ve ⟨rfl,hb⟩;have B10:aY (aN w9.heap.size w9 ve):=(show aN w9.heap.size w9 ve from⟨hb.os,hb.tape,hb.output,hb.size,hb.block⟩);clear hb))
              have U10:=UPW.o ve B10.o;have ala:=aA U10;have K10:=aA (KC9.o ve B10.o);clear U10;go_region_held3 (fun wq=>wq.cell? ⟨b,0,aj⟩=az (ay An ns.length cn)/\wq.cell? ⟨b,1,aj⟩=az (ay Ac cs.length cc)/\wq.cell? ⟨bO,0,aj⟩=az (ay aL l.length cL))
               (first|exact K10.o|exact KC9.o _ B11.o)
               (first|(go_at_call 90;(with_reducible refine ala.out.mono ?_);rintro e Zm ⟨rfl,hb⟩;have B11:aY (aN w9.heap.size w9 Zm):=(show aN w9.heap.size w9 Zm from⟨hb.os,hb.tape,hb.output,hb.size,hb.block⟩);clear hb))
              go_wp2_with fail;go_meet
              case rel=>exact⟨FALL.o,B11.o⟩
             ·have FALL:aY (iN false=.bool (qL cs l u p)):=by rw[aY,EVF,decide_eq_false hlv];simp
              have UPW:aY (∀wq,aN w9.heap.size w9 wq->bZ aH 90 #[.agg #[ay An ns.length cn,ay Ac cs.length cc],.agg #[ay aL l.length cL],ah ag (i:Int),ah ag (ex:Int)] wq.drew fun e w'=>(∃c:Int,c≠0/\e=ax (.tuple #[.bool false,ah ag c]))/\aN w9.heap.size w9 w'):=fun wq hb=>(by have B:=B9W.o.trans (hb.mono B9W.o.size);exact(Zl ns cs l An Ac aL cn cc cL i ex u wq.drew agQ.out hi agK.out.2.1 agK.out.1 ult (.inl (by omega)) HWF.o (LU.o.lv.wf (by omega)) (HIP.o.below (aC _) B.drew) (IR9.o _ hb.drew)).mono fun e w' k=>⟨k.1,hb.drew.trans (k.2.mono hb.drew.size)⟩);generalize iY cs i u=ch at *;generalize DI ch=fc at *;clear rG hex hv EVF htu hi FLP S9;go_wp2_with (first
               |(go_at_call 65;(with_reducible refine(CH.o _ (aQ _ _)).mono ?_);rintro e wq ⟨rfl,rfl⟩)
               |(go_at_call 53;(with_reducible refine ENX.o.mono ?_);rintro e ve ⟨rfl,hb⟩;have B10:aY (aN w9.heap.size w9 ve):=(show aN w9.heap.size w9 ve from⟨hb.os,hb.tape,hb.output,hb.size,hb.block⟩);clear hb))
              have U10:=UPW.o ve B10.o;have ala:=aA U10;have K10:=aA (KC9.o ve B10.o);clear U10;go_region_held3 (fun wq=>wq.cell? ⟨b,0,aj⟩=az (ay An ns.length cn)/\wq.cell? ⟨b,1,aj⟩=az (ay Ac cs.length cc)/\wq.cell? ⟨bO,0,aj⟩=az (ay aL l.length cL))
               (first|exact K10.o|exact KC9.o _ B11.o)
               (first|(go_at_call 90;(with_reducible refine ala.out.mono ?_);rintro e Zm ⟨⟨ec,hec,rfl⟩,hb⟩;have aIu:(ec==0)=false:=beq_eq_false_iff_ne.2 hec;have B11:aY (aN w9.heap.size w9 Zm):=(show aN w9.heap.size w9 Zm from⟨hb.os,hb.tape,hb.output,hb.size,hb.block⟩);clear hb))
              go_wp2_with fail;go_meet
              case rel=>exact⟨FALL.o,B11.o⟩
          case rest=>
           as_aux_lemma=>
            obtain⟨rfl,hBx⟩:=hcut;obtain⟨ve,rfl⟩:∃ve:aG,ve=wc:=⟨_,rfl⟩;have B10:=aA hBx;obtain⟨aV,kV,eV⟩:=dO F9.o;subst eV;obtain⟨fl,hfl⟩:∃fl,qL cs l u p=fl:=⟨_,rfl⟩;have ado:aY (dh ve bF 52 ((aO ns.length).map fun i=>if i=u then ay aV p kV else U' i).toArray):=FB9.o.below hBx FB9.o.lt;have nBR:¬bR=bF:=dh.sU WZ.o.r WZ.o.fl (by decide);have BR9:aY (dh w9 bR 97 #[ay (az ⟨bN,0,aj⟩) ns.length ns.length,ay (az ⟨bF,0,aj⟩) ns.length ns.length]):=dh.ch (S:=fun k=>k=bF) WZ.o.r C9.o nBR;have ako:aY (dh ve bR 97 #[ay (az ⟨bN,0,aj⟩) ns.length ns.length,ay (az ⟨bF,0,aj⟩) ns.length ns.length]):=BR9.o.below hBx BR9.o.lt;have F10:aY (ve.ownsRow w8.heap.size 4 1 (ay aV p kV) p ((aO p).map fun p=>.bool (qL cs l u p))):=fO F9.o (Ch.bY (S:=fun _=>False) hBx) fun _ _ s=>s;have C10:aY (Ch (fun k=>k=bF) w8 ve):=C9.o.rW hBx;have r1:ve.cell? ⟨bR,1,aj⟩=az (ay (az ⟨bF,0,aj⟩) ns.length ns.length):=ako.out.cell 1;have fu:ve.cell? ⟨bF,u,aj⟩=az (ay aV p kV):=(by rw[ado.out.cell,di,cO,dW ult];simp);have KS:aY (∀wq,Ch (fun k=>(ay aV p kV).ownBlock=az k) ve wq->(fun wq=>wq.cell? ⟨bR,1,aj⟩=az (ay (az ⟨bF,0,aj⟩) ns.length ns.length)/\wq.cell? ⟨bF,u,aj⟩=az (ay aV p kV)) wq/\wq.frozen? ⟨bF,u,aj⟩=false):=fun wq hq=>(by have nb:∀{g:Nat} {t:dL} {C:Array aI},dh ve g t C->t≠4->¬(ay aV p kV).ownBlock=az g:=fun{g t C} hb ht e=>(by obtain⟨C',sV⟩:=kH F10.o _ e;exact ht (dh.same hb sV).1);have h1:=ako.out.ch hq (nb ako.out (by decide));have h2:=ado.out.ch hq (nb ado.out (by decide));exact⟨⟨h1.cell 1,by rw[h2.cell,di,cO,dW ult];simp⟩,h2.frozen u⟩);have iZ:aY (∀v' w',w'.ownsRow w8.heap.size 4 1 v' (p+1) (((aO p).map fun p=>.bool (qL cs l u p))++[.bool fl])->(ve.alloc (af #[.bool fl] 4)).grownBy w' (ay aV p kV).ownBlock->Xo ns cs w8 bF u np U' l (ah ag ((p:Int)+1)) (w'.setCell ⟨bF,u,aj⟩ v')):=fun v' w' ho hg=>by
             have hc:Ch (fun k=>(ay aV p kV).ownBlock=az k) ve w':=((Ch.refl _ ve).alloc _).grown hg fun g e=>.inl e;have nbF:¬(ay aV p kV).ownBlock=az bF:=fun e=>(by obtain⟨C',sV⟩:=kH F10.o _ e;exact dh.sU ado.out sV (by decide) rfl);have h2:=ado.out.ch hc nbF;refine⟨p+1,v',by omega,by congr 1,?_,?_,?_⟩
             ·rw[dB,eY];have ho':=ho;rw[<-hfl]at ho';refine nO ho' (p:=⟨bF,u,aj⟩) _ fun g uy e=>?_;obtain⟨C',sV⟩:=kH ho g uy;subst e;exact dh.sU h2 sV (by decide) rfl
             ·have h3:=h2.jd u v';rw[gG,Qa]at h3;have e:((aO ns.length).map fun i=>if i=u then v' else if i=u then ay aV p kV else U' i)=(aO ns.length).map fun i=>if i=u then v' else U' i:=fU fun i _=>by
               by_cases e:i=u
               ·rw[if_pos e,if_pos e]
               ·rw[if_neg e,if_neg e,if_neg e]
              rw[e]at h3;exact h3
             ·exact(C10.o.trans hc fun i hi s=>by have:=(F10.o.lt i s).1;omega).setCell (p:=⟨bF,u,aj⟩) (.inl rfl) _
            obtain⟨i0,hi0,hx0,hx1,hx2⟩:=dX Fp;have RN:aY (Reads (ve.alloc (af #[.bool fl] 4)).drew (ve.heap.size+1) 1 (az ⟨ve.heap.size,0,aj⟩) 1 [.bool fl]):=(iB ve 4 [.bool fl] (n:=1) (size:=1) rfl).drew;have OW:aY ((ve.alloc (af #[.bool fl] 4)).drew.ownsRow w8.heap.size 4 1 (ay aV p kV) p ((aO p).map fun p=>.bool (qL cs l u p))):=F10.o.alloc (af #[.bool fl] 4);have SZ:aY (w8.heap.size<=ve.heap.size):=C10.o.size;have KK:aY ((fun wq=>wq.cell? ⟨bR,1,aj⟩=az (ay (az ⟨bF,0,aj⟩) ns.length ns.length)/\wq.cell? ⟨bF,u,aj⟩=az (ay aV p kV)) ve.drew):=⟨r1,fu⟩;rw[hfl];clear hfl hBx r1 fu krp bo9 a0 a1;go_wp2_with fail;refine fQ 12 (fun wq=>wq.cell? ⟨bR,1,aj⟩=az (ay (az ⟨bF,0,aj⟩) ns.length ns.length)/\wq.cell? ⟨bF,u,aj⟩=az (ay aV p kV)) (by kernel_rfl) KK.o (fun aW=>?_);refine bH.tk 0 aW ?_;try simp only[bI]
            refine bH.tk 1 aW ?_;try simp only[bI]
            refine bH.tk 2 aW ?_;try simp only[bI]
            refine bH.tk 3 aW ?_;try simp only[bI]
            refine bH.tk 4 aW ?_;try simp only[bI]
            refine bH.tk 5 aW ?_;try simp only[bI]
            refine bH.tk 6 aW ?_;try simp only[bI]
            refine bH.tk 7 aW ?_;try simp only[bI]
            refine bH.tk 8 aW ?_;try simp only[bI]
            refine bH.one (i:=9) (by kernel_rfl) rfl (fun K hK=>?_);go_simp;refine hK.out _ _ (fun _=>(KS.o _ ((Ch.refl _ _).alloc _).drew).1) (fun bU=>?_);have aW:=bU (by decide);clear hK bU;try simp only[bI]
            refine bH.one (i:=10) (by kernel_rfl) rfl (fun K hK=>?_);refine fV _ (by rfl) (.tmp 139) (.tmp 141) 52 (by rfl) w8.heap.size 4 i0 _ 1 1 underlying52 hi0 hx0 hx1 hx2 rfl (by decide) _ _ _ (by rfl) OW.o _ (az ⟨ve.heap.size,0,aj⟩) 1 1 [.bool fl] (by rfl) RN.o ?_ ?_ ?_ ?_ ?_
            ·intro u hu;simp only[dG,dP,or_false]at hu;subst hu;rfl
            ·unfold maxLen;omega
            ·omega
            ·have:=SZ.o;exact dZ this ((Ch.refl (fun _=>False) ve).alloc _).drew.size
            intro v5 w12 uI zM Df;have Cj:(ve.alloc (af #[.bool fl] 4)).grownBy w12 (ay aV p kV).ownBlock:=⟨zM.os,zM.tape,zM.output,zM.size,zM.block⟩;have R0:=iZ.out v5 w12 uI Cj;obtain⟨a5,c5,e5⟩:=dO uI;subst e5;have R:=aA R0;clear R0;obtain⟨k16,aJc⟩:=KS.o w12 ((((Ch.refl _ ve).alloc _).grown Cj fun g hg=>.inl hg));have aJb:=k16.2;clear uI zM Cj Df;refine hK.out _ _ (fun _=>k16) (fun bU=>?_);have aW:=bU (by decide);clear hK bU;try simp only[bI]
            clear k16;refine bH.tk 11 aW ?_;try simp only[bI]
            refine bH.one (i:=12) (by kernel_rfl) rfl (fun K hK=>?_);go_simp;refine hK.out _ _ (fun h=>absurd rfl h) (fun _=>?_);clear hK;refine bH.done (by kernel_rfl) ?_ _;try simp only[bI]
            go_wp2_with fail;exact⟨R.o,by simp[aJ];omega⟩
         ·obtain rfl:np=p:=by omega
          have R:aY (Tm ns cs w.heap.size w6 bR bN bF m PS P LV GG l G1 (ah ag ((q:Int)+1)) w9):=
           amV RS7.o WZ.o (fun x p' hx=>by rw[mU _ _ (by omega),mU _ _ (by omega)]) C7.o C78.o C9.o FB9.o F9.o ROWS.o RO7.o RQ7.o U7.o HPU.o DJ.o UNW.o HNP.o (by omega) B8W.o.size
          clear RO7 RQ7 U7;go_wp2_with fail;exact⟨R.o,by simp[aJ];omega⟩
       ·obtain rfl:P.length=q:=by omega
        have R:aY (Tj ns cs f.up w.heap.size w2 bR bN bF PS (ah ag ((m:Int)+1)) w7):=ais RS7.o NM.o apg.out PD.o RO7.o RQ7.o U7.o (C26.o.trans C7.o fun i _ s=>s) hmn;clear Yr hRo hRq hU hC RO7 RQ7 U7;go_wp2_with fail;exact⟨R.o,by simp[aJ];omega⟩
   ·obtain rfl:PS.length=m:=by omega
    obtain⟨w7,rfl⟩:∃w7:aG,w7=wr:=⟨_,rfl⟩;obtain⟨B7,_⟩:=KL.o w7 CM.o;have B7W:=aA B7;have RT7:aY (dh w7 b 100 (Bl f L)):=HH.o.root.below B7 HH.o.root.lt;have l11:w7.cell? ⟨b,11,aj⟩=az (au (az ⟨L.bk,0,aj⟩)):=RT7.o.cell 11;have KK:aY ((fun wq=>wq.cell? ⟨b,11,aj⟩=az (au (az ⟨L.bk,0,aj⟩))/\wq.cell? ⟨bR,0,aj⟩=az (ay (az ⟨bN,0,aj⟩) ns.length ns.length)/\wq.cell? ⟨bR,1,aj⟩=az (ay (az ⟨bF,0,aj⟩) ns.length ns.length)) w7.drew):=⟨l11,RSM.o.r.cell 0,RSM.o.r.cell 1⟩;have BK7:Bk w7.drew L.bk f.dm f.wM f.vH:=dh.below HB.o B7.drew HH.o.bkL;have NOW:=aA (Og L.bk f.dm f.wM f.vH w7.drew BK7);have ENT:=enters_of (P:=aH) func47 (by kernel_rfl) rfl;clear B7 BK7 l11;rcases(show f.dm%2=0\/f.dm%2=1 by omega)with hq|hq
    ·have hm:(f.dm:Int)%2=0:=by omega
     have htm:(f.dm:Int).tmod 2=0:=(by rw[pz (by omega)];exact hm);have iZ:=aA (afO HH.o HB.o HR0.o HR1.o hq B7W.o RSM.o PI.o NM.o ROM.o);have fz0:w7.frozen? ⟨b,7,aj⟩=false:=RT7.o.frozen _;have fz1:w7.frozen? ⟨b,8,aj⟩=false:=RT7.o.frozen _;have cc0:w7.cell? ⟨b,7,aj⟩=az L.r0n:=RT7.o.cell _;have cc1:w7.cell? ⟨b,8,aj⟩=az L.r0f:=RT7.o.cell _;clear hq;go_wp2_with fail;refine fQ 11 (fun wq=>wq.cell? ⟨b,11,aj⟩=az (au (az ⟨L.bk,0,aj⟩))/\wq.cell? ⟨bR,0,aj⟩=az (ay (az ⟨bN,0,aj⟩) ns.length ns.length)/\wq.cell? ⟨bR,1,aj⟩=az (ay (az ⟨bF,0,aj⟩) ns.length ns.length)) (by kernel_rfl) KK.o (fun aW=>?_);refine bH.tk 0 aW ?_;try simp only[bI]
     refine bH.tk 1 aW ?_;try simp only[bI]
     refine bH.tk 2 aW ?_;try simp only[bI]
     refine bH.tk 3 aW ?_;try simp only[bI]
     refine bH.tk 4 aW ?_;try simp only[bI]
     refine bH.tk 7 aW ?_;try simp only[bI]
     refine bH.tk 8 aW ?_;try simp only[bI]
     refine bH.tk 9 aW ?_;try simp only[bI]
     refine bH.one (i:=5) (by kernel_rfl) rfl (fun K hK=>?_);refine xC (by rfl) ENT (by rfl) (by rfl) NOW.o ?_;rintro e wq ⟨rfl,rfl⟩;refine⟨_,rfl,?_⟩;refine hK.out _ _ (fun _=>KK.o) (fun bU=>?_);have aW:=bU (by decide);clear hK bU;try simp only[bI]
     refine bH.tk 6 aW ?_;try simp only[bI]
     refine bH.tk 10 aW ?_;try simp only[bI]
     refine bH.one (i:=11) (by kernel_rfl) rfl (fun K hK=>?_);go_simp;refine hK.out _ _ (fun h=>absurd rfl h) (fun _=>?_);clear hK;refine bH.done (by kernel_rfl) ?_ _;try simp only[bI]
     go_wp2_with fail;refine bodyPost_end (results_none rfl _ _ _) rfl ⟨rfl,?_⟩
     obtain⟨r,h1,dN,L',h2,h3⟩:=iZ.out;exact⟨r,h1,dN,L',h2.drew,h3.drew⟩
    ·have hm:(f.dm:Int)%2=1:=by omega
     have htm:(f.dm:Int).tmod 2=1:=(by rw[pz (by omega)];exact hm);have iZ:=aA (afO HH.o HB.o HR0.o HR1.o hq B7W.o RSM.o PI.o NM.o ROM.o);have fz0:w7.frozen? ⟨b,9,aj⟩=false:=RT7.o.frozen _;have fz1:w7.frozen? ⟨b,10,aj⟩=false:=RT7.o.frozen _;have cc0:w7.cell? ⟨b,9,aj⟩=az L.r1n:=RT7.o.cell _;have cc1:w7.cell? ⟨b,10,aj⟩=az L.r1f:=RT7.o.cell _;clear hq;go_wp2_with fail;refine fQ 11 (fun wq=>wq.cell? ⟨b,11,aj⟩=az (au (az ⟨L.bk,0,aj⟩))/\wq.cell? ⟨bR,0,aj⟩=az (ay (az ⟨bN,0,aj⟩) ns.length ns.length)/\wq.cell? ⟨bR,1,aj⟩=az (ay (az ⟨bF,0,aj⟩) ns.length ns.length)) (by kernel_rfl) KK.o (fun aW=>?_);refine bH.tk 0 aW ?_;try simp only[bI]
     refine bH.tk 1 aW ?_;try simp only[bI]
     refine bH.tk 2 aW ?_;try simp only[bI]
     refine bH.tk 3 aW ?_;try simp only[bI]
     refine bH.tk 4 aW ?_;try simp only[bI]
     refine bH.tk 7 aW ?_;try simp only[bI]
     refine bH.tk 8 aW ?_;try simp only[bI]
     refine bH.tk 9 aW ?_;try simp only[bI]
     refine bH.one (i:=5) (by kernel_rfl) rfl (fun K hK=>?_);refine xC (by rfl) ENT (by rfl) (by rfl) NOW.o ?_;rintro e wq ⟨rfl,rfl⟩;refine⟨_,rfl,?_⟩;refine hK.out _ _ (fun _=>KK.o) (fun bU=>?_);have aW:=bU (by decide);clear hK bU;try simp only[bI]
     refine bH.tk 6 aW ?_;try simp only[bI]
     refine bH.tk 10 aW ?_;try simp only[bI]
     refine bH.one (i:=11) (by kernel_rfl) rfl (fun K hK=>?_);go_simp;refine hK.out _ _ (fun h=>absurd rfl h) (fun _=>?_);clear hK;refine bH.done (by kernel_rfl) ?_ _;try simp only[bI]
     go_wp2_with fail;refine bodyPost_end (results_none rfl _ _ _) rfl ⟨rfl,?_⟩
     obtain⟨r,h1,dN,L',h2,h3⟩:=iZ.out;exact⟨r,h1,dN,L',h2.drew,h3.drew⟩
end
section
open Go.RowKit Go.Maps
def Zn(w:aG)(g:Nat)(f:dx)(e:Ending)(w':aG):Prop:=
 (f.lZ=true/\e=ax (ah ag 0)/\w'=w.setCell ⟨g,0,aj⟩ (ah ag ((f.dm:Int)+1)))\/(f.lZ=false/\e=ax (ah ag 6)/\w'=w)
theorem aen(g:Nat)(f:dx)(w:aG)(h:Bk w g f.dm f.wM f.vH)(h0:0<=f.wM)(h1:0<=f.vH)(hb:f.dm<=1000000000):bZ aH 52 #[pt g] w (Zn w g f):=by
 have e1:=Cc f ((f.dm:Int)-1);have n0:0<=f.alive ((f.dm:Int)-1):=by
  unfold dx.alive;split
  ·omega
  ·split<;>assumption
 by_cases q:f.alive ((f.dm:Int)-1)=0
 ·refine(Xz g f.dm f.wM f.vH w h (by omega) (by omega) (by rw[<-e1];exact q)).mono ?_;rintro r w' ⟨rfl,rfl⟩;exact .inl ⟨by unfold dx.lZ;rw[q];rfl,rfl,rfl⟩
 ·refine(QJ g f.dm f.wM f.vH w h (by omega) (by omega) (by rw[<-e1];omega)).mono ?_;rintro r w' ⟨rfl,rfl⟩;exact .inr ⟨by unfold dx.lZ;exact decide_eq_false (by omega),rfl,rfl⟩
section
variable{Z dN:Own}{w w':aG}{b:Nat}{ns:List Nd}{cs:List Cb}{f f':dx}{L L':rY}
theorem gy.azo(h:gy Z w b ns cs f L):w.frozen? ⟨b,13,aj⟩=false/\w.cell? ⟨b,13,aj⟩=az (ah ag f.now)/\gy Z (w.setCell ⟨b,13,aj⟩ (ah ag ((f.now:Int)+1))) b ns cs f.Cn L/\qo Z w Z (w.setCell ⟨b,13,aj⟩ (ah ag ((f.now:Int)+1))):=by have c1:Ch (· =b) w (w.setCell ⟨b,13,aj⟩ (ah ag ((f.now:Int)+1))):=(Ch.refl (· =b) w).setCell (p:=⟨b,13,aj⟩) (.inl rfl) _;have b2:=h.root.1.jd 13 (ah ag ((f.now:Int)+1));have g:=h.Ra (fun k=>k=0) (dN:=Z) c1 (fun _ _=>rfl) fun k s=>.inr (by rw[s,h.root.2];exact⟨rfl,rfl⟩);refine⟨h.root.1.frozen 13,by have:=h.root.1.cell 13;rw[this];rfl,⟨⟨b2,g.iP.1⟩,g.plan,g.aK,g.xH,g.La,g.bx,g.up (by decide),g.r0,g.r1,⟨g.bk (by decide),g.IE⟩,⟨g.fl (by decide) (by decide),g.ZL⟩,⟨g.lim (by decide) (by decide),g.Kl⟩,g.came (by decide),g.gone (by decide),g.lost (by decide)⟩,⟨c1.mono fun k _ s=>?_,fun _ _=>rfl⟩⟩;rw[s,h.root.2];exact aC 2
theorem gy.axe(h:gy Z w b ns cs f L)(w1:aG)(hw:w1=w.setCell ⟨L.bk,0,aj⟩ (ah ag ((f.dm:Int)+1))):w1.frozen? ⟨b,12,aj⟩=false/\w1.cell? ⟨b,12,aj⟩=az (.bool f.kJ)/\Gx Z (w1.setCell ⟨b,12,aj⟩ (.bool false)) b ns cs {f with kJ:=false,dm:=f.dm+1} L/\Bk (w1.setCell ⟨b,12,aj⟩ (.bool false)) L.bk ((f.dm+1:Nat):Int) f.wM f.vH/\Uq Z (w1.setCell ⟨b,12,aj⟩ (.bool false)) ns L.r0n L.r0f f.NL/\(0<f.dm->Uq Z (w1.setCell ⟨b,12,aj⟩ (.bool false)) ns L.r1n L.r1f f.QB)/\qo Z w Z (w1.setCell ⟨b,12,aj⟩ (.bool false)):=by
 have c1:Ch (fun k=>k=L.bk) w w1:=by rw[hw];exact(Ch.refl (fun k=>k=L.bk) w).setCell (p:=⟨L.bk,0,aj⟩) (.inl rfl) _
 have nb:¬b=L.bk:=fun q=>by have:=h.root.2;rw[q,h.bk.2]at this;simp at this
 have b1:dh w1 b 100 (Bl f L):=h.root.1.ch c1 nb;have c2:Ch (fun k=>k=b\/k=L.bk) w (w1.setCell ⟨b,12,aj⟩ (.bool false)):=(c1.mono fun k _ q=>.inr q).setCell (p:=⟨b,12,aj⟩) (.inl (.inl rfl)) _;have b2:=b1.jd 12 (.bool false);have k1:Bk w1 L.bk ((f.dm:Int)+1) f.wM f.vH:=by rw[hw];exact h.bk.1.acF _
 have k2:Bk (w1.setCell ⟨b,12,aj⟩ (.bool false)) L.bk ((f.dm:Int)+1) f.wM f.vH:=dh.ch k1 ((Ch.refl (fun k=>k=b) w1).setCell (p:=⟨b,12,aj⟩) (.inl rfl) _) fun q=>nb q.symm;have g:=h.Ra (fun k=>k=0\/k=2) (dN:=Z) c2 (fun _ _=>rfl) fun k s=>.inr (by
  rcases s with s|s
  ·rw[s,h.root.2];exact⟨rfl,.inl rfl⟩
  ·rw[s,h.bk.2];exact⟨rfl,.inr rfl⟩)
 refine⟨b1.frozen 12,by have:=b1.cell 12;rw[this];rfl,⟨b2,g.iP.1,g.plan,g.aK,g.xH,g.La,g.bx,g.up (by decide),g.IE,dh.lt k2,⟨g.fl (by decide) (by decide),g.ZL⟩,⟨g.lim (by decide) (by decide),g.Kl⟩,g.came (by decide),g.gone (by decide),g.lost (by decide)⟩,k2,g.r0,g.r1,⟨c2.mono fun k _ s=>?_,fun _ _=>rfl⟩⟩;rcases s with s|s
 ·rw[s,h.root.2];exact aC 2
 ·rw[s,h.bk.2];exact aC 2
end
theorem gy.ahS{Z:Own}{w:aG}{b:Nat}{ns:List Nd}{cs:List Cb}{f:dx}{L:rY}(h:gy Z w b ns cs f L)(now:Nat)(hn:now<=900000000):∃v:aI,(∀wq,Ch (fun _=>False) w wq->(Instr.lookup 91 (.map (az L.ml)) (ah ag now) false).run aH wq=.ok v wq)/\JM w v (f.lim now)/\∀g,v.ownBlock=az g->Z g=(2,6,now,0):=by obtain⟨n,M,om,_,nm,tg,_⟩:=h.ajJ now;exact⟨pJ M now,fun wq hq=>(ni om hq id).look (t:=91) (int_keyed underlying3) underlying91 (FI _) (keyOf_int_mk underlying3 (ny (now:Int) (by omega) (by omega))),nm,tg⟩
structure FNb(Z:Own)(w:aG)(dN:Own)(w':aG):Prop where
 ch:Ch (fun k=>3<=(Z k).1) w w'
 ext:∀k,k<w.heap.size->dN k=Z k
theorem FNb.x{Z dN:Own}{w w':aG}(h:FNb Z w dN w'):qo Z w dN w':=⟨h.ch.mono fun k _ s=>dZ (by decide) s,h.ext⟩
theorem FNb.trans{Z dN FJ:Own}{w w' w'':aG}(h:FNb Z w dN w')(k:FNb dN w' FJ w''):FNb Z w FJ w'':=
 ⟨h.ch.trans k.ch fun i hi s=>by rw[h.ext i hi]at s;exact s,fun i hi=>(k.ext i (bW hi h.ch.size)).trans (h.ext i hi)⟩
theorem FNb.Kq{Z dN:Own}{w w':aG}{i:Nat}(h:Nx Z (3+i) w dN w'):FNb Z w dN w':=⟨h.ch.mono fun k _ s=>by omega,h.ext⟩
theorem FNb.cell{Z dN:Own}{w w':aG}(h:FNb Z w dN w'){p:fA}(hp:p.block<w.heap.size)(ht:(Z p.block).1<=2):w'.cell? p=w.cell? p:=h.ch.cell hp fun s=>by omega
end
section
open Go.RowKit Go.Maps
attribute [local go_sem ↓] fJ fH
def aed(Z:Own)(w:aG)(b:Nat)(ns:List Nd)(cs:List Cb)(f:dx)(wx:aG):Prop:=
 ∃nr,Ef ns cs nr/\((f.kJ&&f.lZ)=true->Bz ns cs f.up nr)/\∃dN L',gy dN wx b ns cs (f.mh nr) L'/\qo Z w dN wx
theorem aep{f:dx}{nr:Rt}(h:(f.kJ&&f.lZ)=false):f.mh nr=f.Cn:=by unfold dx.mh;rw[if_neg];intro q;have e:(f.Cn.kJ&&f.Cn.lZ)=(f.kJ&&f.lZ):=rfl;rw[e,h]at q;cases q
theorem aeq{f:dx}{nr:Rt}(h:(f.kJ&&f.lZ)=true):f.mh nr=({f.Cn with kJ:=false,dm:=f.dm+1}:dx).Jq ((f.dm+1)%2) nr:=by unfold dx.mh;rw[if_pos (show(f.Cn.kJ&&f.Cn.lZ)=true from h)];rfl
def adU(Z:Own)(w:aG)(b:Nat)(ns:List Nd)(cs:List Cb)(L:rY)(g:dx)(l:List (Nat×Nat×Int))(i:aI)(wr:aG):Prop:=
 ∃k:Nat,k<=l.length/\i=ah ag k/\∃dN L',gy dN wr b ns cs ((l.take k).foldl (dx.ma cs) g) L'/\FNb Z w dN wr/\L'.ml=L.ml
def UN(Z:Own)(w:aG)(b:Nat)(ns:List Nd)(cs:List Cb)(f:dx)(e:Ending)(w':aG):Prop:=
 ∃nr,Ef ns cs nr/\((f.kJ&&f.lZ)=true->Bz ns cs f.up nr)/\∃v,e=ax v/\∃dN L',gy dN w' b ns cs (f.tick ns cs nr).1 L'/\qo Z w dN w'/\Af dN w.heap.size w' v (f.tick ns cs nr).2
theorem Rz(f:dx)(N:Nat)(b:Nat)(ns:List Nd)(cs:List Cb)(L:rY)(Z:Own)(w:aG)(h:gy Z w b ns cs f L)(hp:sS ns cs)(rR:dK ns cs f N)(hfl:Be cs f)(LY:cs.length<=10)(hv:fT ⟨ns,cs⟩=0)(tu:QI ⟨ns,cs⟩)(yD:f.up.length=cs.length)(hN:N<=600000000):bZ aH 15 #[pt b] w (UN Z w b ns cs f):=by
 have hbn:f.dm<=900000000:=by have:=rR.bn;have:=rR.now;omega
 have ayt:f.now<=800000000:=by have:=rR.now;omega
 have hwr:wrap64 ((f.now:Int)+1)=(f.now:Int)+1:=by unfold wrap64;omega
 obtain⟨f13,c13,mN,nN⟩:=h.azo;obtain⟨w1,gK⟩:∃w1:aG,w.setCell ⟨b,13,aj⟩ (ah ag ((f.now:Int)+1))=w1:=⟨_,rfl⟩;rw[gK]at mN nN;have c12:w1.cell? ⟨b,12,aj⟩=az (.bool f.kJ):=mN.xA;have c11:w1.cell? ⟨b,11,aj⟩=az (au (az ⟨L.bk,0,aj⟩)):=mN.xA;have MN:=aA mN;have NN:=aA nN;have OK:=aA rR;have PL:=aA hp;have HV:=aA hv;have HW:=aA tu;have FL:=aA hfl;have HCS:=aA LY;have HN:=aA hN;have HUP:=aA yD;clear h hp rR hfl LY hv tu yD hN mN nN;unfold pt;go_enter func15,ntmps15;have NOT:aY ((f.kJ&&f.lZ)=false->aed Z w b ns cs f w1):=fun q=>⟨f.NL,OK.o.r0,fun e=>(by rw[q]at e;cases e),Z,L,by rw[aep q];exact MN.o,NN.o⟩;have ADV:aY (bZ aH 52 #[pt L.bk] w1 (Zn w1 L.bk f.Cn)):=aen L.bk f.Cn w1 MN.o.bk.1 OK.o.a0.1 OK.o.a1.1 (by show f.dm<=_;omega);have YES:aY ((f.kJ&&f.lZ)=true->∀w2,w2=w1.setCell ⟨L.bk,0,aj⟩ (ah ag ((f.dm:Int)+1))->w2.frozen? ⟨b,12,aj⟩=false/\w2.cell? ⟨b,12,aj⟩=az (.bool f.kJ)/\bZ aH 42 #[pt b] (w2.setCell ⟨b,12,aj⟩ (.bool false)) fun e w'=>e=ax (.tuple #[])/\aed Z w b ns cs f w'):=fun q w2 Ld=>by
  obtain⟨a1,a2,a3,a4,a5,a6,a7⟩:=MN.o.axe w2 Ld;refine⟨a1,a2,?_⟩;refine(Kc _ b ns cs L Z _ a3 a4 (fun _=>a5) (fun e1 e2=>?_) PL.o HV.o HW.o HUP.o (by show f.dm+1<=_;omega)).mono ?_
  ·exact a6 (by have e1:(f.dm+1)%2=0:=e1;show 0<f.dm;omega)
  ·rintro e w' ⟨rfl,r,hr,dN,L',m,n⟩;have ro:Ef ns cs r:=by obtain⟨PS,LL,G,hn⟩:=hr;exact hn.ok HV.o
   exact⟨rfl,r,ro,fun _=>hr,dN,L',by rw[aeq q];exact m,(NN.o.trans a7).trans n⟩
 unfold pt at ADV YES;go_upto_region 4 with fail;go_cut [30]from 19 to 29 (fun s30 wx=>s30=.bool (f.kJ&&f.lZ)/\((f.kJ&&f.lZ)=false->w1=wx)/\((f.kJ&&f.lZ)=true->wx=w1.setCell ⟨L.bk,0,aj⟩ (ah ag ((f.dm:Int)+1))));case first=>
  as_aux_lemma=>
   clear NOT YES MN NN OK PL HV HW FL HCS HN HUP;cases hpd:f.kJ with
   |false=>rw[hpd]at c12;go_wp2_with fail;go_meet;case rel=>exact⟨by rw[hpd];rfl,fun _=>rfl,fun e=>(by rw[hpd]at e;cases e)⟩
   |true=>
    rw[hpd]at c12;cases hm:f.lZ with
    |false=>
     have AD:aY (bZ aH 52 #[au (az ⟨L.bk,0,aj⟩)] w1 fun e w'=>e=ax (ah ag 6)/\w1=w'):=ADV.o.mono fun e w' q=>by
      rcases q with⟨q,_,_⟩|⟨_,q1,q2⟩
      ·rw[show f.Cn.lZ=f.lZ from rfl,hm]at q;cases q
      ·exact⟨q1,q2.symm⟩
     clear ADV;go_wp2_with (first|(go_at_call 52;refine AD.o.mono ?_;rintro e w' ⟨rfl,rfl⟩));go_meet;case rel=>exact⟨by rw[hpd,hm];rfl,fun _=>rfl,fun e=>(by rw[hpd,hm]at e;cases e)⟩
    |true=>
     have AD:aY (bZ aH 52 #[au (az ⟨L.bk,0,aj⟩)] w1 fun e w'=>e=ax (ah ag 0)/\w'=w1.setCell ⟨L.bk,0,aj⟩ (ah ag ((f.dm:Int)+1))):=ADV.o.mono fun e w' q=>by
      rcases q with⟨_,q1,q2⟩|⟨q,_,_⟩
      ·exact⟨q1,q2⟩
      ·rw[show f.Cn.lZ=f.lZ from rfl,hm]at q;cases q
     clear ADV;go_wp2_with (first|(go_at_call 52;refine AD.o.mono ?_;rintro e w2 ⟨rfl,Ld⟩;have HW2:=aA Ld;clear Ld));go_meet;case rel=>exact⟨by rw[hpd,hm];rfl,fun e=>(by rw[hpd,hm]at e;cases e),fun _=>HW2.o⟩
 case rest=>
  obtain⟨rfl,hA0,hB0⟩:=hcut;clear ADV;have hA:=aA hA0;have hB:=aA hB0;clear hA0 hB0;obtain⟨w2,rfl⟩:∃w2:aG,w2=wc:=⟨_,rfl⟩;generalize hq:(f.kJ&&f.lZ)=q at *;go_upto_if 30 with fail;go_cut [31]from 32 to 35 (fun _ wx=>aed Z w b ns cs f wx);case first=>
   as_aux_lemma=>
    clear MN NN OK PL HV HW FL HCS HN HUP;cases q with
    |false=>have NB:=NOT.o rfl;rw[hA.out rfl]at NB;clear NOT YES;go_wp2_with fail;go_meet;case rel=>exact NB
    |true=>obtain⟨g1,g2,g3⟩:=YES.o rfl w2 (hB.out rfl);have RR:=aA g3;clear NOT YES g3;go_wp2_with (first|(go_at_call 42;refine RR.o.mono ?_;rintro e w4 ⟨rfl,hE⟩;have HE:=aA hE;clear hE));go_meet;case rel=>exact HE.o
  case rest=>
   clear NOT YES hA hB NN MN c12 c11 f13 c13;obtain⟨nr,ro,hnr,vB,L1,m1,n1⟩:=hcut;have E1:=OO f nr;have c16:wc.cell? ⟨b,16,aj⟩=az (.map (az L1.ml)):=m1.xA;obtain⟨T,hT⟩:∃T:Nat,(f.mh nr).now=T:=⟨_,rfl⟩;have c13:wc.cell? ⟨b,13,aj⟩=az (ah ag (T:Int)):=by rw[m1.xA,<-hT];rfl
   obtain⟨v,look,nm,tg⟩:=m1.ahS T (by rw[<-hT,E1.2.1];omega);obtain⟨l,hl⟩:∃l,(f.mh nr).lim T=l:=⟨_,rfl⟩;rw[hl]at nm;have aeS:=look wc.drew ⟨rfl,rfl,rfl,aC _,fun _ _ _=>rfl⟩;have amb:=look wc ⟨rfl,rfl,rfl,aC _,fun _ _ _=>rfl⟩;obtain⟨la,lc,eV⟩:=dO nm;subst eV;have M1:=aA m1;have N1:=aA n1;have NM:=aA nm;have TG:=aA tg;have RO:=aA ro;have HNR:=aA hnr;clear m1 n1 nm tg ro hnr look;go_wp2_with fail;go_region;go_wp2_with fail;have ST:aY (adU vB wc b ns cs L1 (f.mh nr) l (ah ag 0) wc.drew):=⟨0,bS _,rfl,vB,L1,M1.o.drew,⟨(Ch.refl _ wc).drew,fun _ _=>rfl⟩,rfl⟩;go_loopw [4,5,6,7,8,46] (fun _ _ _ _ _ i wr=>adU vB wc b ns cs L1 (f.mh nr) l i wr) (fun _ _ _ _ _ i _=>l.length-(aJ i).toNat);case atStart=>exact ST.o
   case round=>
    clear ST aeS amb c16 c13;obtain⟨k,hk,rfl,Ik,L4,m4,n4,e4⟩:=hrel;have M4:=aA m4;have N4:=aA n4;have BOK:=OK.o.beg RO.o;have LB:∀x∈l,x.1<2*cs.length/\x.2.1<(f.mh nr).aK.length/\0<=x.2.2/\x.2.2<=1000000000000000:=fun x hx=>BOK.lim T x (by rw[hl];exact hx);by_cases hkl:k<l.length
    ·as_aux_lemma=>
     have hwk:wrap64 ((k:Int)+1)=(k:Int)+1:=(by have h1:=OK.o.DV T;have h2:=HN.o;have h3:l.length<=N:=(by rw[<-hl,E1.2.2.1];exact h1);unfold wrap64;omega);have OG:=dK.Mo PL.o (l.take k) BOK fun x hx=>⟨(LB x (jm hx)).1,(LB x (jm hx)).2.1⟩;obtain⟨g,cap,eg,_,lg,og,cg⟩:=nH (d:=(0,0,0)) (m:=3) (c:=JB) (fun _=>rfl) NM.o rfl hkl;have tgg:=TG.o g og;have FT:(l.take (k+1)).foldl (dx.ma cs) (f.mh nr)=dx.ma cs ((l.take k).foldl (dx.ma cs) (f.mh nr)) (l.getD k (0,0,0)):=(by rw[List.take_add_one,List.foldl_append];simp[bJ,hkl]);have hx:=LB (l.getD k (0,0,0)) (by simp[bJ,hkl]);have kc:∀j,j<3->wr.cell? ⟨g,k*3+j,aj⟩=(JB (l.getD k (0,0,0)))[j]?:=fun j hj=>(n4.cell (p:=⟨g,k*3+j,aj⟩) lg (by show(vB g).1<=2;rw[tgg];exact aC 2)).trans (cg k hkl j hj);generalize l.getD k (0,0,0)=x at *;obtain⟨c,xc,xl⟩:=x;simp only at hx;obtain⟨hc,hxc,hl0,hl1⟩:=hx;have m0:=kc 0 (by omega);have m1:=kc 1 (by omega);have m2:=kc 2 (by omega);simp only[JB,Nat.add_zero,List.getElem?_cons_zero,List.getElem?_cons_succ]at m0 m1 m2;obtain⟨G,hG⟩:∃G,(l.take k).foldl (dx.ma cs) (f.mh nr)=G:=⟨_,rfl⟩;rw[hG]at OG FT M4;have OGH:=aA OG;have k0:(0:Int)<=(k:Int):=(by omega);have k1:(k:Int)<(l.length:Int):=(by omega);obtain⟨wb,Nb⟩:∃wb:aG,wr.alloc (af #[ah ag (c:Int),ah ag (xc:Int),ah ag xl] 116)=wb:=⟨_,rfl⟩;have WU:aY (aN wr.heap.size wr wb):=(by rw[<-Nb];exact(aQ _ _).alloc (aC _) _);have VB:aY (dh wb wr.heap.size 116 #[ah ag (c:Int),ah ag (xc:Int),ah ag xl]):=(by rw[<-Nb];exact dh.new wr _ _);obtain⟨An,Ac,cn,cc,S0⟩:=M4.o.toS;have EC:aY (∀w',aN wr.heap.size wr w'->bZ aH 53 #[au (az ⟨b,0,aj⟩),ah ag c] w' (uB cs c w')):=fun w' hb=>Ci c b ns cs An Ac cn cc w' (S0.below hb) PL.o hc;have EN:=PL.o.ends hc;have PT:=PL.o.Br EN.1 EN.2.2.1;have FZ:=EN.1;obtain⟨⟨u,p,ea,eb⟩,hE⟩:∃e,fM cs c=e:=⟨_,rfl⟩;unfold uB at EC;rw[hE]at PT EC FZ;simp only at PT EC FZ;obtain⟨bX,hbX⟩:∃bX,wr.heap.size=bX:=⟨_,rfl⟩;obtain⟨gb,cb,eB,c5,Tv,tgb,lgb⟩:=M4.o.aex FZ;unfold pt at Tv;have u0:(0:Int)<=(u:Int):=(by omega);have u1:(u:Int)<(ns.length:Int):=(by omega);rw[hbX]at VB;have vb0:wb.cell? ⟨bX,0,aj⟩=az (ah ag (c:Int)):=VB.o.cell 0;have K5:aY (∀w',aN wr.heap.size wr w'->w'.cell? ⟨b,4+1,aj⟩=az (ay (az ⟨gb,0,aj⟩) ns.length cb)/\w'.cell? ⟨b,5,aj⟩=az (ay (az ⟨gb,0,aj⟩) ns.length cb)/\w'.cell? ⟨gb,u,aj⟩=az (au (az ⟨L4.bx u,0,aj⟩))):=fun w' hb=>(by have t:∀{p:fA} {z:aI},wr.cell? p=az z->w'.cell? p=az z:=fun{p z} hz=>(hb.cell (aZ _ _ hz)).trans hz;exact⟨t c5,t c5,t Tv⟩);have VX:aY (∀w',aN wb.heap.size wb w'->w'.cell? ⟨bX,1,aj⟩=az (ah ag xc)/\w'.cell? ⟨bX,2,aj⟩=az (ah ag xl)):=fun w' hb=>(by have k:=VB.o.below hb VB.o.lt;exact⟨k.cell 1,k.cell 2⟩);obtain⟨yV,Kj⟩:∃yV,fr Ik wr.heap.size=yV:=⟨_,rfl⟩;have M5:aY (∀w',aN wr.heap.size wr w'->gy yV w'.drew b ns cs G L4):=fun w' hb=>(by rw[<-Kj];exact(M4.o.below hb).drew);injection eg with eg1 _ eg2;subst eg1;clear eg2;clear m4 n4 kc cg lg og tgg;go_wp2_with (first|(go_at_call 53;(with_reducible refine(EC.o _ WU.o).mono ?_);rintro e w5 ⟨rfl,hb⟩;have BE:=aA hb;have B5:aY (aN wr.heap.size wr w5):=WU.o.trans (hb.mono WU.o.size);obtain⟨_,k3,k4⟩:=K5.o w5 B5.o;obtain⟨x1,x2⟩:=VX.o w5 hb;clear hb));have mb:=M5.o w5 B5.o;have MB:=aA mb;have KU:=OGH.o.1.box u FZ;have ba:=XO p xc (N+1) xl yV (3+u) w5.drew (L4.bx u) (G.boxes.getD u default) (L4.Hw u) (mb.bx u FZ) (by omega) KU.1 (by have:=HN.o;omega) (by rw[KU.2.1];exact PT) (by rw[KU.2.2,OGH.o.2.1];exact hxc) (ny xl (by omega) (by omega));have bl:=OGH.o.1.bl;have EA:dx.ma cs G (c,xc,xl)={G with boxes:=G.boxes.set u ((G.boxes.getD u default).raise p xc xl)}:=(by unfold dx.ma;rw[show fM cs c=(u,p,ea,eb)from hE]);obtain⟨r1,hr⟩:∃r,(G.boxes.getD u default).raise p xc xl=r:=⟨_,rfl⟩;rw[hr]at ba EA;have RES:aY (∀w7,yt yV (3+u) w5.drew (L4.bx u) r1 (L4.Hw u) w7->adU vB wc b ns cs L1 (f.mh nr) l (ah ag ((k:Int)+1)) w7):=fun w7 hq=>(by obtain⟨Om,L8,h8,n8⟩:=hq;refine⟨k+1,by omega,by congr 1,Om,{L4 with Hw:=fun j=>if j=u then L8 else L4.Hw j},by rw[FT,EA];exact MB.o.box FZ bl n8 h8,?_,e4⟩;have nb:FNb Ik wr yV w5.drew:=⟨(Ch.bY B5.o).drew,fun i hi=>by rw[<-Kj];exact gL hi⟩;exact(N4.o.trans nb).trans (FNb.Kq n8));have K7:aY (∀w7,yt yV (3+u) w5.drew (L4.bx u) r1 (L4.Hw u) w7->(fun wq=>wq.cell? ⟨b,5,aj⟩=az (ay (az ⟨gb,0,aj⟩) ns.length cb)/\wq.cell? ⟨gb,u,aj⟩=az (au (az ⟨L4.bx u,0,aj⟩))/\wq.cell? ⟨bX,1,aj⟩=az (ah ag xc)/\wq.cell? ⟨bX,2,aj⟩=az (ah ag xl)) w7):=fun w7 hq=>(by obtain⟨Om,L8,h8,n⟩:=hq;have t:∀{q:fA} {z:aI},w5.cell? q=az z->(yV q.block).1≠3+u->w7.cell? q=az z:=fun{q z} hz ht=>(n.ch.cell (aZ w5 _ hz) ht).trans hz;have tb:(yV b).1≠3+u:=(by rw[<-Kj,gL M4.o.root.1.lt,M4.o.root.2];show 2≠3+u;omega);have tg:(yV gb).1≠3+u:=(by rw[<-Kj,gL lgb,tgb];omega);have tx:(yV bX).1≠3+u:=(by rw[<-Kj,<-hbX,lL (aC _)];omega);exact⟨t k3 tb,t k4 tg,t x1 tx,t x2 tx⟩);have BA:aY (bZ aH 54 #[au (az ⟨L4.bx u,0,aj⟩),ah ag p,ah ag xc,ah ag xl] w5.drew fun e w'=>(∃r:Int,e=ax (ah ag r))/\yt yV (3+u) w5.drew (L4.bx u) r1 (L4.Hw u) w'):=ba;clear ba mb KU hr EA bl OG FT EN hE;go_region_held3 (fun wq=>wq.cell? ⟨b,5,aj⟩=az (ay (az ⟨gb,0,aj⟩) ns.length cb)/\wq.cell? ⟨gb,u,aj⟩=az (au (az ⟨L4.bx u,0,aj⟩))/\wq.cell? ⟨bX,1,aj⟩=az (ah ag xc)/\wq.cell? ⟨bX,2,aj⟩=az (ah ag xl))
      (first|exact⟨k3,k4,x1,x2⟩|exact K7.o _ HB7.o)
      (first|(go_at_call 54;(with_reducible refine BA.o.mono ?_);rintro e w7 ⟨⟨r,rfl⟩,VJ⟩;have HB7:=aA VJ;clear VJ))
     have R:=aA (RES.o _ HB7.o);clear K7 RES BA HB7;go_wp2_with fail;rw[hwk];exact⟨R.o,by simp[aJ];omega⟩
    ·obtain rfl:l.length=k:=by omega
     have EG:(l.take l.length).foldl (dx.ma cs) (f.mh nr)=(f.mh nr).mF cs:=(by rw[dY,<-hl,<-hT];rfl);rw[EG]at M4;obtain⟨q1,q2,q3⟩:=OK.o.mid PL.o RO.o;obtain⟨G1,hG1⟩:∃G1,(f.mh nr).mF cs=G1:=⟨_,rfl⟩;have ED:(f.tick ns cs nr)=(((oO ns cs (G1.yR.jS ns cs).1 ns.length).tell ns cs),(G1.yR.jS ns cs).2):=(by rw[<-hG1];exact KH ns cs f nr);have EDH:=aA ED;rw[hG1]at M4 q1 q2 q3;have nT:G1.now=T:=(by have e1:G1.yR.now=G1.now:=rfl;omega);have c16:wr.cell? ⟨b,16,aj⟩=az (.map (az L4.ml)):=M4.o.xA;have c13:wr.cell? ⟨b,13,aj⟩=az (ah ag (T:Int)):=(by rw[M4.o.xA,<-nT];rfl);obtain⟨w5,hdel,yV,m5,n5⟩:=(M4.o.drew).YD T (by rw[<-hT,E1.2.1];omega) 0;have e5:({G1 with lim:=fun t=>if t=T then[]else G1.lim t}:dx)=G1.yR:=(by unfold dx.yR;rw[nT]);rw[e5]at m5;have nd5:((G1.yR.fl G1.yR.now).map (·.1)).Nodup:=(by rw[q3];exact FL.o.nd _);have AR:=aA (Vu G1.yR (N+1) b ns cs L4 yV w5 m5 PL.o q1 nd5 HCS.o (by have:=HN.o;omega));have N5:aY (qo Z w yV w5):=((N1.o.trans N4.o.x).drew).trans n5;have OK6:=q1.jS PL.o nd5;have O6:=aA OK6.1;have s1:=dK.steps PL.o (aO ns.length) OK6.1 fun x hx=>dJ.1 hx;rw[List.length_range]at s1;have O7:aY (dK ns cs (oO ns cs (G1.yR.jS ns cs).1 ns.length) (N+1+128+ns.length*5000)):=s1.1;obtain⟨R1,hR1⟩:∃R,G1.yR.jS ns cs=R:=⟨_,rfl⟩;rw[hR1]at AR O6 O7 EDH;obtain⟨R2,hR2⟩:∃R,oO ns cs R1.1 ns.length=R:=⟨_,rfl⟩;rw[hR2]at O7 EDH;have HR2:=aA hR2;have STP:aY (∀L6 xD w6,gy xD w6 b ns cs R1.1 L6->bZ aH 56 #[au (az ⟨b,0,aj⟩)] w6 fun e w'=>e=ax (.tuple #[])/\lK xD w6 b ns cs L6 R2 w'):=fun L6 xD w6 m=>(by rw[<-HR2.o];exact abC R1.1 _ b ns cs L6 xD w6 m PL.o O6.o (by have:=HN.o;omega));have n16:=PL.o.n16;have TEL:aY (∀L6 xD w6,gy xD w6 b ns cs R2 L6->bZ aH 57 #[au (az ⟨b,0,aj⟩)] w6 fun e w'=>e=ax (.tuple #[])/\jW xD w6 b ns cs L6 (R2.tell ns cs) w'):=fun L6 xD w6 m=>
      abD R2 _ b ns cs L6 xD w6 m PL.o O7.o (by have:=HN.o;omega)
     have iZ:aY (∀v xD w6 Qy L7 w7 Om w8,qo yV w5 xD w6->Af xD w5.heap.size w6 v R1.2->qo xD w6 Qy w7->qo Qy w7 Om w8->gy Om w8 b ns cs (R2.tell ns cs) L7->UN Z w b ns cs f (ax v) w8):=fun v xD w6 Qy L7 w7 Om w8 a1 a2 a3 a4 a5=>(by refine⟨nr,RO.o,HNR.o,v,rfl,Om,L7,by rw[EDH.o];exact a5,(N5.o.trans a1).trans (a3.trans a4),?_⟩;rw[EDH.o];exact((a2.base N5.o.ch.size).fnx a3).fnx a4);clear m5 n5 e5 nd5 q1 q2 q3 OK6 s1 ED EG nT hR1 hR2 hG1 M4 N4 n4 m4 e4 O6 O7 BOK LB;unfold pt at AR;go_wp2_with fail;go_region;go_wp2_with (first
      |(go_at_call 55;(with_reducible refine AR.o.mono ?_);rintro e w6 ⟨v6,rfl,xD,L6,hm6,hn6,hd6⟩;have N6:=aA hn6;have D6:=aA hd6;have ST6:=aA (STP.o L6 xD w6 hm6);clear hm6 hn6 hd6)
      |(go_at_call 56;(with_reducible refine ST6.o.mono ?_);rintro e w7 ⟨rfl,Qy,L7,hm7,hn7,_⟩;have N7:=aA hn7;have TE7:=aA (TEL.o L7 Qy w7 hm7);clear hm7 hn7)
      |(go_at_call 57;(with_reducible refine TE7.o.mono ?_);rintro e w8 ⟨rfl,Om,hm8,hn8⟩;have F:=aA (iZ.out _ _ _ _ _ _ _ _ N6.o D6.o N7.o hn8 hm8);clear hm8 hn8))
     go_ret;exact F.o
end
section
inductive Jn(cs:List Cb)(us:List Bool):Nat->Nat->Prop
 |refl (u:Nat):Jn cs us u u
 |step {u v w i:Nat} (h:Jn cs us u v) (hi:i<cs.length) (hu:us.getD i false=true) (ht:touch (cs.getD i gX) v w):Jn cs us u w
theorem Sn{x:Cb}{j k:Nat}(h:touch x j k):touch x k j:=by
 rcases h with⟨a,b⟩|⟨a,b⟩
 ·exact .inr ⟨b,a⟩
 ·exact .inl ⟨b,a⟩
section
variable{cs:List Cb}{us:List Bool}
theorem Jn.trans{u v w:Nat}(h:Jn cs us u v)(k:Jn cs us v w):Jn cs us u w:=by
 induction k with
 |refl=>exact h
 |step _ hi hu ht ih=>exact ih.step hi hu ht
theorem Jn.one{u v i:Nat}(hi:i<cs.length)(hu:us.getD i false=true)(ht:touch (cs.getD i gX) u v):Jn cs us u v:=(Jn.refl u).step hi hu ht
end
structure rz(ns:List Nd)(cs:List Cb)(us:List Bool)(root:Nat)(l:List Int)(t:Nat)(f:yX):Prop where
 hp:sS ns cs
 lu:Iq ns.length cs us root l
 len:l.length=ns.length
 t0:t<ns.length
 found:Found ns.length cs us l t f
section
variable{ns:List Nd}{cs:List Cb}{us:List Bool}{root:Nat}{l:List Int}{t:Nat}{f:yX}
theorem sS.Uk{ns:List Nd}{cs:List Cb}(h:sS ns cs){i u v:Nat}(hi:i<cs.length)(ht:touch (cs.getD i gX) u v):u<ns.length/\v<ns.length/\u≠v:=by have A:=h.a0 i hi;have B:=h.b0 i hi;have ab:=h.ab i hi;rcases ht with⟨a,b⟩|⟨a,b⟩<;>omega
theorem rz.si(h:rz ns cs us root l t f)(ht:0<=l.getD t 0):SI ns.length cs us l t f/\∀x∈xK cs us l cs.length,impr l f x.1 x.2=aj:=by
 rcases h.found with q|q
 ·omega
 ·exact q
theorem rz.Oe(h:rz ns cs us root l t f)(ht:l.getD t 0<0):f=fun _=>aj:=by
 rcases h.found with q|q
 ·exact q.2
 ·have:=q.1.tlv;omega
theorem rz.impr(h:rz ns cs us root l t f)(ht:0<=l.getD t 0){u v i d:Nat}{b:Bool}(hi:i<cs.length)(hu:us.getD i false=true)(Lc:touch (cs.getD i gX) u v)(lu0:0<=l.getD u 0)(lv0:0<=l.getD v 0)(hp:Fy l (u,b) v=true)(hf:f (Mh l (u,b) v)=az d):∃d',f (u,b)=az d'/\d'<=d+1:=by
 have hm:((u,b),v)∈xK cs us l cs.length:=by
  unfold xK;rw[List.mem_flatMap];refine⟨i,dJ.2 hi,?_⟩;unfold acP;have A:=h.hp.a0 i hi;have B:=h.hp.b0 i hi;rcases Lc with⟨a1,b1⟩|⟨a1,b1⟩
  ·have e1:(cs.getD i gX).a.toNat=u:=by omega
   have e2:(cs.getD i gX).b.toNat=v:=(by omega);rw[e1,e2,if_pos ⟨hu,lu0,lv0⟩];cases b<;>simp
  ·have e1:(cs.getD i gX).a.toNat=v:=by omega
   have e2:(cs.getD i gX).b.toNat=u:=(by omega);rw[e1,e2,if_pos ⟨hu,lv0,lu0⟩];cases b<;>simp
 have hn:=(h.si ht).2 _ hm;unfold Go.Proofs.YtnjjkgjdhljfnaaGreat.impr at hn;simp only[hp,if_true,hf]at hn;cases hs:f (u,b)with
 |none=>rw[hs]at hn;cases hn
 |some old=>
  rw[hs]at hn;simp only at hn;split at hn
  ·rename_i q;exact⟨old,rfl,q⟩
  ·cases hn
theorem rz.sup(h:rz ns cs us root l t f){u d:Nat}{b:Bool}(hf:f (u,b)=az (d+1)):u<ns.length/\0<=l.getD u 0/\0<=l.getD t 0/\∃i o,i<cs.length/\us.getD i false=true/\o<ns.length/\touch (cs.getD i gX) u o/\Fy l (u,b) o=true/\f (Mh l (u,b) o)=az d/\0<=l.getD o 0:=by
 have ht:0<=l.getD t 0:=by
  rcases tN (l.getD t 0) 0 with q|q
  ·rw[h.Oe q]at hf;cases hf
  ·exact q
 obtain⟨hu,lu0,q⟩:=(h.si ht).1.sup _ _ hf;simp only at hu lu0;rcases q with⟨_,q⟩|⟨i,hi,QT,o,ho,Lc,hp,d',Ab,hle⟩
 ·omega
 have lo:=h.lu.QM u hu lu0 i o hi QT Lc;obtain⟨d2,e2,le2⟩:=h.impr ht hi QT Lc lu0 lo hp Ab;rw[hf]at e2;injection e2 with e2;have:d'=d:=by omega
 subst this;exact⟨hu,lu0,ht,i,o,hi,QT,ho,Lc,hp,Ab,lo⟩
theorem rz.zero(h:rz ns cs us root l t f){u:Nat}{b:Bool}(hf:f (u,b)=az 0):u=t:=by
 have ht:0<=l.getD t 0:=by
  rcases tN (l.getD t 0) 0 with q|q
  ·rw[h.Oe q]at hf;cases hf
  ·exact q
 obtain⟨_,_,q⟩:=(h.si ht).1.sup _ _ hf;rcases q with⟨q,_⟩|⟨i,hi,QT,o,ho,Lc,hp,d',Ab,hle⟩
 ·exact q
 ·omega
theorem rz.aak(h:rz ns cs us root l t f){u v:Nat}(hu:u<ns.length)(hv:v<ns.length):FH l u v=true↔0<=l.getD v 0/\0<=l.getD u 0/\(l.getD v 0<l.getD u 0\/(l.getD v 0=l.getD u 0/\v<u)):=by
 unfold FH;rw[FV,h.len];constructor
 ·intro q;exact⟨q.2.2.1,q.2.2.2.1,by have:=q.2.2.2.2;omega⟩
 ·intro q;exact⟨hv,hu,q.1,q.2.1,by have:=q.2.2;omega⟩
theorem rz.akc(h:rz ns cs us root l t f){x:Nat}(hx:x<ns.length)(h0:l.getD x 0=0):x=root:=by
 rcases Classical.em (x=root)with q|q
 ·exact q
 ·rcases h.lu.lv.pos x hx q with q|q<;>omega
theorem rz.afY(h:rz ns cs us root l t f)(ht:0<=l.getD t 0):∀(d x:Nat),x<ns.length->l.getD x 0=(d:Int)->(∀b,(f (x,b)).isSome=true)->∀b,(f (root,b)).isSome=true
 |0,x,hx,e,hf=>by rw[<-h.akc hx e];exact hf
 |d+1,x,hx,e,hf=>by
  obtain⟨i,k,hi,QT,hk,Lc,lk⟩:=h.lu.led x hx (by omega);have lk':l.getD k 0=(d:Int):=by omega
  refine rz.afY h ht d k hk lk' fun b=>?_;have nu:FH l k x=false:=by
   cases q:FH l k x with
   |false=>rfl
   |true=>have:=(h.aak hk hx).1 q;omega
  obtain⟨y,hy⟩:=nL.1 (hf true);obtain⟨d',e',_⟩:=h.impr ht (b:=b) hi QT (Sn Lc) (by omega) (by omega) (by unfold Fy;simp only[nu];rfl) (d:=y) (by unfold Mh;simp only[nu];exact hy);rw[e'];rfl
theorem rz.afx(h:rz ns cs us root l t f)(ht:0<=l.getD t 0)(hr:(f (root,false)).isSome=true):∀(d x:Nat),x<ns.length->l.getD x 0=(d:Int)->(f (x,false)).isSome=true
 |0,x,hx,e=>by rw[h.akc hx e];exact hr
 |d+1,x,hx,e=>by
  obtain⟨i,k,hi,QT,hk,Lc,lk⟩:=h.lu.led x hx (by omega);have lk':l.getD k 0=(d:Int):=by omega
  have ih:=rz.afx h ht hr d k hk lk';have nu:FH l x k=true:=(h.aak hx hk).2 ⟨by omega,by omega,.inl (by omega)⟩;obtain⟨y,hy⟩:=nL.1 ih;obtain⟨d',e',_⟩:=h.impr ht (b:=false) hi QT Lc (by omega) (by omega) (by unfold Fy;simp) (d:=y) (by unfold Mh;simp only[nu];exact hy);rw[e'];rfl
theorem rz.src(h:rz ns cs us root l t f)(ht:0<=l.getD t 0){u:Nat}(hu:u<ns.length)(lu0:0<=l.getD u 0):(f (u,false)).isSome=true:=
 h.afx ht (h.afY ht (l.getD t 0).toNat t h.t0 (by omega) (fun b=>by rw[(h.si ht).1.t0 b];rfl) false) (l.getD u 0).toNat u hu (by omega)
theorem rz.sep(h:rz ns cs us root l t f):∀(d u:Nat) (b:Bool),f (u,b)=az d->Jn cs us u t
 |0,u,b,hf=>by rw[h.zero hf];exact Jn.refl _
 |d+1,u,b,hf=>by obtain⟨_,_,_,i,o,hi,QT,ho,Lc,_,hd,_⟩:=h.sup hf;exact(Jn.one hi QT Lc).trans (rz.sep h d o _ hd)
theorem rz.mono(h:rz ns cs us root l t f){u d:Nat}(hf:f (u,true)=az d):∃d',f (u,false)=az d'/\d'<=d:=by
 cases d with
 |zero=>
  have e:=h.zero hf;have ht:0<=l.getD t 0:=by
   rcases tN (l.getD t 0) 0 with q|q
   ·rw[h.Oe q]at hf;cases hf
   ·exact q
  exact⟨0,by rw[e];exact(h.si ht).1.t0 false,aC _⟩
 |succ d=>
  obtain⟨hu,lu0,ht,i,o,hi,QT,ho,Lc,hp,hd,lo⟩:=h.sup hf;have nu:FH l u o=false:=by unfold Fy at hp;simpa using hp
  obtain⟨d',e',le'⟩:=h.impr ht (b:=false) hi QT Lc lu0 lo (by unfold Fy;simp) (d:=d) (by unfold Mh at hd|-;exact hd);exact⟨d',e',le'⟩
theorem rz.ent(h:rz ns cs us root l t f){u d p:Nat}(Mc:p<2){c:Int}(hc:Nz ns.length cs us l f t u p c)(hf:f (u,p==1)=az (d+1)):∃i v,i<cs.length/\c=(i:Int)/\us.getD i false=true/\v<ns.length/\touch (cs.getD i gX) u v/\Fy l (u,p==1) v=true/\f (v,!FH l u v)=az d/\0<=l.getD v 0:=by
 obtain⟨hu,lu0,ht,i0,o,hi0,ayC,ho,ayz,hp0,hd0,lo0⟩:=h.sup hf;have hab:∀i,i<cs.length->(cs.getD i gX).a≠(cs.getD i gX).b:=h.hp.ab;have aqN:NH cs us l (xB ns.length f false) (xB ns.length f true) u (dI (f (u,p==1))) (p==0) i0=true:=by
  have ac:kE (cs.getD i0 gX) (u:Int)=((o:Int),true):=by
   unfold kE;rcases ayz with⟨a1,b1⟩|⟨a1,b1⟩
   ·rw[if_pos a1.symm,b1]
   ·rw[if_neg (by have:=hab i0 hi0;omega),if_pos a1.symm,b1]
  unfold NH;rw[ac,hf,ayC];simp only[dI,Bool.and_true,cK];simp only[Cq f false ho,Cq f true ho];rw[cZ];refine⟨decide_eq_true (by omega),?_⟩;unfold Fy at hp0;unfold Mh at hd0;simp only at hp0 hd0;have e3:qI l (o:Int) (u:Int)=FH l u o:=rfl;rw[e3];cases Er:FH l u o with
  |true=>
   rw[Er]at hp0 hd0;simp only[xE,iX,mI]at hp0 hd0;have p0:(p==0)=true:=by have:p≠1:=(by simpa using hp0);simp;omega
   rw[if_pos rfl,p0,hd0];simp[dI]
  |false=>rw[Er]at hd0;simp only[Bool.not_false]at hd0;rw[if_neg (by simp),hd0];simp[dI]
 have hut:u≠t:=fun e=>by have:=(h.si ht).1.t0 (p==1);rw[<-e,hf]at this;cases this
 rcases hc with⟨e,_⟩|⟨_,⟨_,Pt⟩|⟨i,hi,e,QS⟩⟩
 ·exact absurd e hut
 ·rw[Pt i0 hi0]at aqN;cases aqN
 have aDN:=QS;unfold NH at QS;simp only[cZ,decide_eq_true_eq]at QS;obtain⟨⟨⟨_,h2⟩,h3⟩,h4⟩:=QS;obtain⟨v,hv,htv⟩:∃v:Nat,v<ns.length/\touch (cs.getD i gX) u v:=by
  unfold kE at h2;have A:=h.hp.a0 i hi;have B:=h.hp.b0 i hi;split at h2
  ·rename_i e;exact⟨(cs.getD i gX).b.toNat,by omega,.inl ⟨e.symm,by omega⟩⟩
  ·split at h2
   ·rename_i e;exact⟨(cs.getD i gX).a.toNat,by omega,.inr ⟨e.symm,by omega⟩⟩
   ·cases h2
 have ac:kE (cs.getD i gX) (u:Int)=((v:Int),true):=by
  unfold kE;rcases htv with⟨a1,b1⟩|⟨a1,b1⟩
  ·rw[if_pos a1.symm,b1]
  ·rw[if_neg (by have:=hab i hi;omega),if_pos a1.symm,b1]
 rw[ac,hf]at h4;simp only[dI,cK]at h4;simp only[Cq f false hv,Cq f true hv]at h4;have e3:qI l (v:Int) (u:Int)=FH l u v:=rfl;rw[e3]at h4;have lv0:=h.lu.QM u hu lu0 i v hi h3 htv;refine⟨i,v,hi,e,h3,hv,htv,?_,?_,lv0⟩
 ·unfold Fy;cases Er:FH l u v with
  |true=>rw[Er]at h4;simp only[if_true,cZ,beq_iff_eq]at h4;simp[Er,h4.1]
  |false=>simp[Er]
 ·cases Er:FH l u v with
  |true=>
   rw[Er]at h4;simp only[if_true,cZ,decide_eq_true_eq]at h4;have h5:=h4.2;show f (v,false)=_;cases hq:f (v,false)with
   |none=>rw[hq]at h5;simp[dI]at h5
   |some y=>rw[hq]at h5;simp only[dI]at h5;congr 1;omega
  |false=>
   rw[Er]at h4;simp only[Bool.false_eq_true,if_false,decide_eq_true_eq]at h4;show f (v,true)=_;cases hq:f (v,true)with
   |none=>rw[hq]at h4;simp[dI]at h4
   |some y=>rw[hq]at h4;simp only[dI]at h4;congr 1;omega
theorem rz.ahv(h:rz ns cs us root l t f){u p:Nat}{c:Int}(hc:Nz ns.length cs us l f t u p c)(hut:u≠t)(hf:f (u,p==1)=aj):c<0:=by
 rcases hc with⟨e,_⟩|⟨_,⟨e,_⟩|⟨i,hi,e,QS⟩⟩
 ·exact absurd e hut
 ·omega
 ·unfold NH at QS;rw[hf]at QS;simp[dI]at QS
theorem rz.through(h:rz ns cs us root l t f){u v i d:Nat}{b:Bool}(hi:i<cs.length)(QT:us.getD i false=true)(Lc:touch (cs.getD i gX) u v)(hp:Fy l (u,b) v=true)(hf:f (u,b)=az (d+1))(hd:f (v,!FH l u v)=az d):v=t\/(ns.getD v jk).sw=true:=by
 cases d with
 |zero=>exact .inl (h.zero hd)
 |succ d=>
  refine .inr ?_;cases hsw:(ns.getD v jk).sw with
  |true=>rfl
  |false=>
   exfalso;obtain⟨IW,hvl,huv⟩:=h.hp.Uk hi Lc;have one:=(h.hp.sw v hvl).2.2 hsw;obtain⟨_,lv0,ht,i2,o,hi2,ayD,ho,amg,Mc,hd2,lo⟩:=h.sup hd;have same:i2=i/\o=u:=by
    have P1:=h.hp.ap i hi;have P2:=h.hp.bp i hi;have P3:=h.hp.ap i2 hi2;have P4:=h.hp.bp i2 hi2;have k1:=JY cs hi;have k2:=JY cs hi2;have e1:∃x,x/2=i/\x<2*cs.length/\(gY cs).getD x (0,0)=((v:Int),0):=by
     rcases Lc with⟨a1,b1⟩|⟨a1,b1⟩
     ·refine⟨2*i+1,by omega,by omega,?_⟩;rw[k1.2,b1];have:(cs.getD i gX).bp=0:=by
       have e:(cs.getD i gX).b.toNat=v:=(by omega);rw[e,one]at P2;omega
      rw[this]
     ·refine⟨2*i,by omega,by omega,?_⟩;rw[k1.1,b1];have:(cs.getD i gX).ap=0:=by
       have e:(cs.getD i gX).a.toNat=v:=(by omega);rw[e,one]at P1;omega
      rw[this]
    have e2:∃x,x/2=i2/\x<2*cs.length/\(gY cs).getD x (0,0)=((v:Int),0):=by
     rcases amg with⟨a1,b1⟩|⟨a1,b1⟩
     ·refine⟨2*i2,by omega,by omega,?_⟩;rw[k2.1,a1];have:(cs.getD i2 gX).ap=0:=by
       have e:(cs.getD i2 gX).a.toNat=v:=(by omega);rw[e,one]at P3;omega
      rw[this]
     ·refine⟨2*i2+1,by omega,by omega,?_⟩;rw[k2.2,a1];have:(cs.getD i2 gX).bp=0:=by
       have e:(cs.getD i2 gX).b.toNat=v:=(by omega);rw[e,one]at P4;omega
      rw[this]
    obtain⟨x,x1,x2,x3⟩:=e1;obtain⟨y,y1,y2,y3⟩:=e2;have:=h.hp.inj x y x2 y2 (x3.trans y3.symm);have ii:i2=i:=(by omega);subst ii;refine⟨rfl,?_⟩;rcases Lc with⟨a1,b1⟩|⟨a1,b1⟩<;>rcases amg with⟨a2,b2⟩|⟨a2,b2⟩<;>omega
   obtain⟨rfl,rfl⟩:=same;unfold Mh at hd2;unfold Fy at hp Mc;simp only at hd2 hp Mc;cases Er:FH l o v with
   |true=>have nb:FH l v o=false:=(by unfold FH at Er|-;exact Xt Er);rw[Er]at hp;simp only[xE,iX,mI]at hp;subst hp;rw[nb]at hd2;obtain⟨d',e',le'⟩:=h.mono hd2;rw[hf]at e';injection e' with e';omega
   |false=>rw[Er]at Mc;simp only[Bool.not_false,xE,Bool.or_false,mI]at Mc;have lo0:=h.lu.QM v hvl lv0 i2 o hi2 ayD amg;have:=UQ (lv:=l) (a:=v) (b:=o) (by rw[h.len];exact hvl) (by rw[h.len];exact IW) lv0 lo0 (Ne.symm huv) Er;unfold FH at Mc;rw[this]at Mc;cases Mc
theorem rz.chain(h:rz ns cs us root l t f):∀(d u:Nat) (b:Bool),f (u,b)=az d->∃L:List St,L.length=d+2/\L.Nodup/\∀s∈L,s.1<ns.length/\∃e,f s=az e/\e<=d
 |0,u,b,hf=>by
  have e:=h.zero hf;have ht:0<=l.getD t 0:=by
   rcases tN (l.getD t 0) 0 with q|q
   ·rw[h.Oe q]at hf;cases hf
   ·exact q
  refine⟨[(t,false),(t,true)],rfl,by simp,fun s hs=>?_⟩;simp only[dG,dP,or_false]at hs;rcases hs with rfl|rfl
  ·exact⟨h.t0,0,(h.si ht).1.t0 _,aC _⟩
  ·exact⟨h.t0,0,(h.si ht).1.t0 _,aC _⟩
 |d+1,u,b,hf=>by
  obtain⟨hu,_,_,i,o,_,_,_,_,_,hd,_⟩:=h.sup hf;obtain⟨L,l1,l2,l3⟩:=rz.chain h d _ _ hd;refine⟨(u,b)::L,by rw[List.length_cons,l1],List.nodup_cons.2 ⟨fun hm=>?_,l2⟩,fun s hs=>?_⟩
  ·obtain⟨_,e,he,hle⟩:=l3 _ hm;rw[hf]at he;injection he with he;omega
  ·rcases dG.1 hs with q|q
   ·rw[q];exact⟨hu,_,hf,aC _⟩
   ·obtain⟨a,e,he,hle⟩:=l3 s q;exact⟨a,e,he,by omega⟩
theorem rz.bnd(h:rz ns cs us root l t f){d u:Nat}{b:Bool}(hf:f (u,b)=az d):d+2<=2*ns.length:=by obtain⟨L,l1,l2,l3⟩:=h.chain d u b hf;have:=Di (S:=NG ns.length) l2 fun s hs=>Fs.2 (l3 s hs).1;rw[UR]at this;omega
end
def phB(ns:List Nd)(r:Rt)(v q:Nat):Nat:=if Am ns v&&r.sQ v q then 1 else 0
theorem amO(ns:List Nd)(r:Rt)(v q:Nat):phB ns r v q<2:=by unfold phB;split<;>omega
structure RtD(ns:List Nd)(cs:List Cb)(us:List Bool)(r:Rt)(f:Nat->Nat->Nat->Option Nat):Prop where
 self:∀t p,t<ns.length->f t t p=az 0
 zero:∀t u p,t<ns.length->u<ns.length->f t u p=az 0->u=t
 bnd:∀t u p d,t<ns.length->u<ns.length->f t u p=az d->d+2<=2*ns.length
 non:∀t u p,t<ns.length->u<ns.length->p<2->u≠t->f t u p=aj->r.next u p t<0
 step:∀t u p d,t<ns.length->u<ns.length->p<2->f t u p=az (d+1)->∃i,i<cs.length/\r.next u p t=(i:Int)/\us.getD i false=true/\touch (cs.getD i gX) u (fM cs (iY cs i u)).2.2.1/\(fM cs (iY cs i u)).2.2.1<ns.length/\
  ((fM cs (iY cs i u)).2.2.1=t\/Am ns (fM cs (iY cs i u)).2.2.1=true)/\f t (fM cs (iY cs i u)).2.2.1 (phB ns r (fM cs (iY cs i u)).2.2.1 (fM cs (iY cs i u)).2.2.2)=az d
 src:∀t u,t<ns.length->u<ns.length->Jn cs us u t->(f t u 0).isSome=true
 sep:∀t u p,t<ns.length->u<ns.length->(f t u p).isSome=true->Jn cs us u t
theorem sS.across{ns:List Nd}{cs:List Cb}(h:sS ns cs){i u v:Nat}(hi:i<cs.length)(ht:touch (cs.getD i gX) u v):(fM cs (iY cs i u)).2.2.1=v/\mZ cs v (fM cs (iY cs i u)).2.2.2=az i/\Wn cs i v=u:=by
 obtain⟨hu,hv,huv⟩:=h.Uk hi ht;have A:=h.a0 i hi;have B:=h.b0 i hi;have ab:=h.ab i hi;have hv':(cs.getD i gX).a=(v:Int)\/(cs.getD i gX).b=(v:Int):=by
  rcases ht with⟨a,b⟩|⟨a,b⟩
  ·exact .inr b
  ·exact .inl b
 obtain⟨c1,c2,c3⟩:=h.chan hi hv';obtain⟨d1,d2⟩:=h.AQ c1;rw[c2,c3]at d1;obtain⟨f1,f2,f3,f4⟩:=h.flip hi hv';have e0:(fM cs (iY cs i u)).2.2.1=v/\(fM cs (iY cs i u)).2.2.2=(fM cs (iY cs i v)).2.1:=by
  rcases ht with⟨a,b⟩|⟨a,b⟩
  ·unfold iY;rw[if_pos a,if_neg (by omega)];unfold fM;rw[if_pos (by omega),if_neg (by omega),show 2*i/2=i by omega,show(2*i+1)/2=i by omega];simp only;exact⟨by omega,trivial⟩
  ·unfold iY;rw[if_neg (by omega),if_pos b];unfold fM;rw[if_neg (by omega),if_pos (by omega),show 2*i/2=i by omega,show(2*i+1)/2=i by omega];simp only;exact⟨by omega,trivial⟩
 refine⟨e0.1,by rw[e0.2];exact d1,?_⟩;rcases ht with⟨a,b⟩|⟨a,b⟩<;>rcases f2 with⟨a',b'⟩|⟨a',b'⟩<;>omega
theorem afF{PS:List (List Nat)}{u:Nat}(h:∃m,m<PS.length/\u∈PS.getD m []):xz PS u<PS.length/\u∈PS.getD (xz PS u) []:=by
 obtain⟨m,hm,hu⟩:=h;have e:PS.getD m []=PS[m]:=by simp[bJ,hm]
 rw[e]at hu;have hl:xz PS u<PS.length:=List.findIdx_lt_length_of_exists ⟨PS[m],List.getElem_mem hm,by simpa using hu⟩;refine⟨hl,?_⟩;have:=List.findIdx_getElem (p:=fun P:List Nat=>P.contains u) (xs:=PS) (w:=hl);have e2:PS.getD (xz PS u) []=PS[PS.findIdx fun P=>P.contains u]'hl:=by show PS.getD (PS.findIdx fun P=>P.contains u) []=_;have hl':(PS.findIdx fun P=>P.contains u)<PS.length:=hl;simp only[fF,dw hl',iW];rfl
 rw[e2];exact List.contains_iff_mem.1 this
theorem aii{PS:List (List Nat)}{u m:Nat}(hm:m<PS.length)(hu:u∈PS.getD m []):xz PS u<=m:=by
 rcases Nat.lt_or_ge m (xz PS u)with q|q
 ·have:=List.not_of_lt_findIdx q;have e:PS.getD m []=PS[m]:=by simp[bJ,hm]
  rw[e]at hu;simp at this;exact absurd hu this
 ·exact q
section
variable{ns:List Nd}{cs:List Cb}{us:List Bool}{r:Rt}{PS:List (List Nat)}{L:Nat->List Int}{G:Nat->GT}
theorem uC.mem(h:uC ns cs us r PS L G){m u:Nat}(hm:m<PS.length):u∈PS.getD m []↔u<ns.length/\0<=(L m).getD u 0:=by rw[(h.net m hm).part];exact tq
theorem uC.yT(h:uC ns cs us r PS L G){u:Nat}(hu:u<ns.length):xz PS u<PS.length/\0<=(L (xz PS u)).getD u 0:=by have:=afF (h.all u hu);exact⟨this.1,((h.mem this.1).1 this.2).2⟩
theorem uC.adj(h:uC ns cs us r PS L G)(hp:sS ns cs){u v i:Nat}(hi:i<cs.length)(QT:us.getD i false=true)(ht:touch (cs.getD i gX) u v):xz PS u=xz PS v:=by
 obtain⟨hu,hv,_⟩:=hp.Uk hi ht;have key:∀{a b:Nat},a<ns.length->b<ns.length->touch (cs.getD i gX) a b->xz PS b<=xz PS a:=fun{a b} ha hb Lc=>by have:=h.yT ha;obtain⟨root,hl⟩:=(h.net _ this.1).lv;exact aii this.1 ((h.mem this.1).2 ⟨hb,hl.QM a ha this.2 i b hi QT Lc⟩)
 exact Nat.le_antisymm (key hv hu (Sn ht)) (key hu hv ht)
theorem uC.jn(h:uC ns cs us r PS L G)(hp:sS ns cs){u v:Nat}(hj:Jn cs us u v):xz PS u=xz PS v:=by
 induction hj with
 |refl=>rfl
 |step _ hi hu ht ih=>exact ih.trans (h.adj hp hi hu ht)
noncomputable def uC.F(h:uC ns cs us r PS L G)(m t:Nat):yX:=if q:m<PS.length/\t<ns.length then mg ((h.net m q.1).net.col t q.2)else fun _=>aj
theorem uC.Xf(h:uC ns cs us r PS L G){m t:Nat}(hm:m<PS.length)(ht:t<ns.length):Found ns.length cs us (L m) t (h.F m t)/\∀i p,i<ns.length->p<2->Nz ns.length cs us (L m) (h.F m t) t i p (G m i p t):=by
 have e:h.F m t=mg ((h.net m hm).net.col t ht):=by unfold uC.F;rw[dif_pos ⟨hm,ht⟩]
 rw[e];exact Classical.choose_spec ((h.net m hm).net.col t ht)
theorem uC.one(h:uC ns cs us r PS L G)(hp:sS ns cs){m t:Nat}(hm:m<PS.length)(ht:t<ns.length):∃root,rz ns cs us root (L m) t (h.F m t):=by obtain⟨root,hl⟩:=(h.net m hm).lv;exact⟨root,hp,hl,hl.lv.len,ht,(h.Xf hm ht).1⟩
theorem Bz.axI(hr:Bz ns cs us r)(hv:fT ⟨ns,cs⟩=0):∃f,RtD ns cs us r f:=by
 obtain⟨PS,L,G,h⟩:=hr;have hp:=Gq hv;refine⟨fun t u p=>h.F (xz PS u) t (u,p==1),?_⟩;exact{
  self:=fun t p ht=>by have:=h.yT ht;obtain⟨root,o⟩:=h.one hp this.1 ht;exact(o.si this.2).1.t0 _
  zero:=fun t u p ht hu hf=>by have:=h.yT hu;obtain⟨root,o⟩:=h.one hp this.1 ht;exact o.zero hf
  bnd:=fun t u p d ht hu hf=>by have:=h.yT hu;obtain⟨root,o⟩:=h.one hp this.1 ht;exact o.bnd hf
  non:=fun t u p ht hu Mc nQ hf=>by have:=h.yT hu;obtain⟨root,o⟩:=h.one hp this.1 ht;rw[h.next _ this.1 u ((h.mem this.1).2 ⟨hu,this.2⟩) p t Mc ht];exact o.ahv ((h.Xf this.1 ht).2 u p hu Mc) nQ hf
  step:=fun t u p d ht hu Mc hf=>by
   have:=h.yT hu;obtain⟨root,o⟩:=h.one hp this.1 ht;obtain⟨i,v,hi,e,QT,hvl,Lc,ayw,hd,lv0⟩:=o.ent Mc ((h.Xf this.1 ht).2 u p hu Mc) hf;obtain⟨a1,a2,a3⟩:=hp.across hi Lc;have thr:=o.through hi QT Lc ayw hf hd;refine⟨i,hi,by rw[h.next _ this.1 u ((h.mem this.1).2 ⟨hu,this.2⟩) p t Mc ht];exact e,QT,by rw[a1];exact Lc,by rw[a1];exact hvl,by rw[a1];exact thr,?_⟩;rw[a1];have same:=h.adj hp hi QT Lc;show h.F (xz PS v) t (v,phB ns r v (fM cs (iY cs i u)).2.2.2==1)=az d;rw[<-same];cases hsw:Am ns v with
   |true=>
    have hf2:r.sQ v (fM cs (iY cs i u)).2.2.2=!FH (L (xz PS u)) u v:=(by rw[h.sQ _ this.1 v ((h.mem this.1).2 ⟨hvl,lv0⟩)];unfold qL;rw[a2];simp only[a3];rw[decide_eq_true this.2,decide_eq_true lv0];rfl);unfold phB;rw[hsw,hf2,Bool.true_and];have e4:((if(!FH (L (xz PS u)) u v)=true then 1 else 0:Nat)==1)=!FH (L (xz PS u)) u v:=by cases FH (L (xz PS u)) u v<;>rfl
    rw[e4];exact hd
   |false=>
    have vt:v=t:=by
     rcases thr with q|q
     ·exact q
     ·unfold Am at hsw;rw[hsw]at q;cases q
    have t0:0<=(L (xz PS u)).getD t 0:=(by rw[<-vt];exact lv0);have z:=(o.si t0).1.t0;rw[vt]at hd|-;rw[z]at hd|-;exact hd
  src:=fun t u ht hu hj=>by have:=h.yT hu;obtain⟨root,o⟩:=h.one hp this.1 ht;have lt:=h.yT ht;rw[<-h.jn hp hj]at lt;exact o.src lt.2 hu this.2
  sep:=fun t u p ht hu hs=>by have:=h.yT hu;obtain⟨root,o⟩:=h.one hp this.1 ht;obtain⟨d,hd⟩:=nL.1 hs;exact o.sep d u _ hd}
end
theorem dK.new{ns:List Nd}{cs:List Cb}{aK:List Int}{r:Rt}(hp:sS ns cs)(l0:1<=aK.length)(l1:aK.length<=4)(hr:∀x∈aK,1<=x/\x<=64)(hrt:Ef ns cs r):dK ns cs (jM ns cs aK r) 0:=by
 have rl:(aK++aK).length=2*aK.length:=by simp;omega
 have hr2:∀x∈aK++aK,1<=x/\x<=64:=fun x hx=>hr x (by simpa using hx);have bx:∀i,i<ns.length->(jM ns cs aK r).boxes.getD i default=qM (kQ (ns.getD i jk)) (aK++aK):=fun i hi=>by show(ns.map fun n=>qM (if n.sw then n.bE.toNat else 2) (aK++aK)).getD i default=_;simp[bJ,hi,kQ]
 have cm:∀i v,dR (jM ns cs aK r).came i v=0:=fun i v=>by
  show dR (ns.map fun _=>(aK++aK).map fun _=>(0:Int)) i v=0;unfold dR;by_cases hi:i<ns.length
  ·by_cases hv:v<(aK++aK).length
   ·simp only[fF,cO,dw hi,lU,iW,dw hv]
   ·simp only[fF,cO,dw hi,lU,iW,gD (wY hv),uN,tX];rfl
  ·simp only[fF,cO,gD (wY hi),uN,tX];rfl
 have gn:∀i v,dR (jM ns cs aK r).gone i v=0:=fun i v=>by
  show dR ((aO (2*cs.length)).map fun _=>(aK++aK).map fun _=>(0:Int)) i v=0;unfold dR;by_cases hi:i<(aO (2*cs.length)).length
  ·by_cases hv:v<(aK++aK).length
   ·simp only[fF,cO,dw hi,lU,iW,dw hv]
   ·simp only[fF,cO,dw hi,lU,iW,gD (wY hv),uN,tX];rfl
  ·simp only[fF,cO,gD (wY hi),uN,tX];rfl
 exact{
  k0:=l0
  k1:=l1
  rl:=rl
  rv:=hr2
  bl:=by show(ns.map _).length=_;simp
  box:=fun i hi=>by rw[bx i hi];exact⟨lW.new (hp.Qk hi).1 (hp.Qk hi).2 (by omega) (by omega) hr2 0,rfl,rfl⟩
  q:=fun i p c x hi yI hc hx=>by
   rw[bx i hi]at hx;have e:dR (qM (kQ (ns.getD i jk)) (aK++aK)).q p c=[]:=by show dR (aS _ (aS _ [])) p c=[];have qg:c<(aK++aK).length:=hc;rw[zK yI];simp only[fF,List.getElem?_replicate,if_pos qg,iW]
   rw[e]at hx;cases hx
  up:=by show(cs.map _).length=_;simp
  r0:=hrt
  r1:=fun h=>absurd h (Nat.lt_irrefl 0)
  bn:=aC _
  a0:=⟨gQ _,gQ _⟩
  a1:=⟨gQ _,gQ _⟩
  now:=aC _
  last:=aC _
  ll:=aC _
  cm:=⟨by show(ns.map _).length=_;simp,fun i hi=>by show((ns.map fun _=>(aK++aK).map fun _=>(0:Int)).getD i []).length=_;simp only[fF,cO,dw hi,lU,iW,dE];rfl⟩
  cv:=fun i v _ _=>by rw[cm i v];exact⟨gQ _,gQ _⟩
  gn:=⟨by show((aO (2*cs.length)).map _).length=_;simp,fun i hi=>by show(((aO (2*cs.length)).map fun _=>(aK++aK).map fun _=>(0:Int)).getD i []).length=_;have hi':i<(aO (2*cs.length)).length:=(by simpa using hi);simp only[fF,cO,dw hi',lU,iW,dE];rfl⟩
  gv:=fun i v _ _=>by rw[gn i v];exact⟨gQ _,gQ _⟩
  fl:=fun t x hx=>by cases hx
  lim:=fun t x hx=>by cases hx
  DK:=fun t=>aC _
  DV:=fun t=>aC _}
theorem Be.new(ns:List Nd)(cs:List Cb)(aK:List Int)(r:Rt):Be cs (jM ns cs aK r):=⟨fun t=>List.nodup_nil,fun t x hx=>by cases hx⟩
def oK:List Nd:=[⟨⟨#[97]⟩,false,1⟩,⟨⟨#[115]⟩,true,2⟩,⟨⟨#[98]⟩,false,1⟩]
def oI:List Cb:=[⟨0,0,1,0,1,1⟩,⟨1,1,2,0,1,1⟩]
theorem Cm:fT ⟨oK,oI⟩=0:=by decide+kernel
def rtC(ph:Nat)(r:Rt):Rt:=⟨fun u p t=>if u=0/\p=0/\t=2 then 0 else if u=1/\p=ph/\t=2 then 1 else r.next u p t,fun u p=>if u=1/\p=0 then ph==1 else r.sQ u p⟩
theorem afo{r:Rt}(h:Bz oK oI [true,true] r):r=rtC 0 r\/r=rtC 1 r:=by
 obtain⟨f,D⟩:=h.axI Cm;have j:Jn oI [true,true] 0 2:=((Jn.refl 0).step (i:=0) (v:=0) (w:=1) (by decide) rfl (.inl ⟨rfl,rfl⟩)).step (i:=1) (w:=2) (by decide) rfl (.inl ⟨rfl,rfl⟩);have s:=D.src 2 0 (by decide) (by decide) j;obtain⟨d,hd⟩:=nL.1 s;obtain⟨e,rfl⟩:∃e,d=e+1:=by
  cases d with
  |zero=>have:=D.zero 2 0 0 (by decide) (by decide) hd;cases this
  |succ e=>exact⟨e,rfl⟩
 obtain⟨i,hi,hn,_,Lc,_,thr,hf⟩:=D.step 2 0 0 e (by decide) (by decide) (by decide) hd;have hi2:i<2:=hi;obtain rfl:i=0:=by
  rcases(show i=0\/i=1 by omega)with q|q
  ·exact q
  ·exfalso;subst q;have A:(oI.getD 1 gX).a=1:=rfl;have B:(oI.getD 1 gX).b=2:=rfl;rcases Lc with⟨a,_⟩|⟨a,_⟩
   ·rw[A]at a;cases a
   ·rw[B]at a;cases a
 have e1:(fM oI (iY oI 0 0)).2.2.1=1:=rfl;have e2:(fM oI (iY oI 0 0)).2.2.2=0:=rfl;rw[e1,e2]at hf;obtain⟨e',rfl⟩:∃e',e=e'+1:=by
  cases e with
  |zero=>have:=D.zero 2 1 _ (by decide) (by decide) hf;cases this
  |succ e=>exact⟨e,rfl⟩
 obtain⟨i,hi,hn1,_,Lc,_,thr,hf1⟩:=D.step 2 1 _ e' (by decide) (by decide) (amO _ _ _ _) hf;have hi2:i<2:=hi;obtain rfl:i=1:=by
  rcases(show i=0\/i=1 by omega)with q|q
  ·exfalso;subst q;have e3:(fM oI (iY oI 0 1)).2.2.1=0:=rfl;rw[e3]at thr;rcases thr with q|q
   ·cases q
   ·cases q
  ·exact q
 have hb:phB oK r 1 0=if r.sQ 1 0 then 1 else 0:=rfl
 have key:∀ph,(if r.sQ 1 0=true then 1 else 0:Nat)=ph->r.sQ 1 0=(ph==1)->r=rtC ph r:=fun ph h1 h2=>by
  rw[hb,h1]at hn1;obtain⟨nx,fa⟩:=r;unfold rtC;simp only at hn hn1 h2|-;congr 1
  ·funext u p t;by_cases q1:u=0/\p=0/\t=2
   ·rw[if_pos q1,q1.1,q1.2.1,q1.2.2];exact hn
   ·rw[if_neg q1];by_cases q2:u=1/\p=ph/\t=2
    ·rw[if_pos q2,q2.1,q2.2.1,q2.2.2];exact hn1
    ·rw[if_neg q2]
  ·funext u p;by_cases q1:u=1/\p=0
   ·rw[if_pos q1,q1.1,q1.2];exact h2
   ·rw[if_neg q1]
 cases uu:r.sQ 1 0 with
 |true=>exact .inr (key 1 (by rw[uu];rfl) (by rw[uu];rfl))
 |false=>exact .inl (key 0 (by rw[uu];rfl) (by rw[uu];rfl))
def ahg(r:Rt):dx:=((jM oK oI [1] r).iL oK 0 2 0 [120]).1
def ahh(r n1:Rt):dx:=((ahg r).tick oK oI n1).1
def ahi(r n1 n2:Rt):dx:=((ahh r n1).tick oK oI n2).1
def aaM(r n1 n2 n3:Rt):dx:=((ahi r n1 n2).tick oK oI n3).1
structure auQ(r n1 n2 n3 n4:Rt):Prop where
 a:((jM oK oI [1] r).iL oK 0 2 0 [120]).2=(1,0)
 t1:((ahg r).tick oK oI n1).2=[]
 t2:((ahh r n1).tick oK oI n2).2=[]
 t3:((ahi r n1 n2).tick oK oI n3).2=[]
 t4:((aaM r n1 n2 n3).tick oK oI n4).2=[(4,2,⟨1,0,2,0,0,[120]⟩)]
 b:((aaM r n1 n2 n3).tick oK oI n4).1.dm=0
 a0:((aaM r n1 n2 n3).tick oK oI n4).1.wM=0
theorem UY{r:Rt}(h:Bz oK oI [true,true] r)(n1 n2 n3 n4:Rt):auQ r n1 n2 n3 n4:=by
 rcases afo h with e|e
 ·rw[e];refine⟨?_,?_,?_,?_,?_,?_,?_⟩<;>kernel_rfl
 ·rw[e];refine⟨?_,?_,?_,?_,?_,?_,?_⟩<;>kernel_rfl
end
end Go.Proofs.YtnjjkgjdhljfnaaGreat
