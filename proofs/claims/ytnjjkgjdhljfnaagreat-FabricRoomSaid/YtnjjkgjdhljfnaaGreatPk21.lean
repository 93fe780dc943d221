/- Part 21. -/
import Derived.Test.YtnjjkgjdhljfnaaGreatPk16
import Derived.Test.YtnjjkgjdhljfnaaGreatPk20
open Go.Proofs.Tryz
open Array renaming ext->Lr
open Bool renaming and_eq_true->dD,false_or->iW,not_eq_true'->jW,not_true->xO
open Classical renaming choose->mD
open Go renaming Addr->fE,Calls->di,TypeId->dP,Value->aJ,World->aG,info_parts->eQ,madeCells->eH,wp_at_succ->fK,wp_at_zero->fM
open Go.Ending renaming returned->ax
open Go.Instr renaming makeSlice->DR
open Go.IntKind renaming i64->ag
open Go.Lib renaming hid->aA
open Go.Obj renaming cells->af
open Go.Proofs.Tryz renaming prog->aH
open Go.RowKit renaming Below->aO,Hid->aZ,intOf->aK
open Go.RowKit.Below renaming refl->aS
open Go.Value renaming bool->kv,int->ah,pointer->au,slice->ay
open Go.World renaming block_lt_of_cell?->aY
open Go.World.ownsRow renaming lt->xB
open Int renaming le_refl->fC,lt_or_le->tO,tmod_eq_emod_of_nonneg->pg,toNat_natCast->cO
open List renaming ext_getElem?->nY,flatMap_append->fU,getD->bS,getD_eq_getElem?_getD->dN,getElem?_eq_getElem->cZ,getElem?_eq_none->gG,getElem?_map->cK,getElem?_range->eu,getElem?_set->lK,getElem?_toArray->dJ,length_map->dW,map_append->fF,map_congr_left->gm,mem_append->dU,mem_cons->dM,mem_of_mem_take->jC,mem_range->dK,mem_singleton->dh,nodup_append->nZ,not_mem_nil->dZ,pairwise_iff_getElem->AQ,range->aN,range_succ->dL,replicate->aQ,setIfInBounds_toArray->gI,take_length->fB
open Nat renaming le_of_not_lt->xz,le_refl->aC,le_trans->eY,lt_of_lt_of_le->bY,zero_le->bJ
open Option renaming getD_none->tY,getD_some->iy,isSome_iff_exists->jT,map_none->uQ,map_some->je,none->aj,some->az
set_option maxRecDepth 100000
set_option maxHeartbeats 16000000
set_option linter.unusedVariables false
set_option linter.unusedSimpArgs false
namespace Go.Proofs.YtnjjkgjdhljfnaaGreat
section
open Go.RowKit Go.Maps
def Ed(c:Nat):Nat:=if c%2=0 then c+1 else c-1
theorem abA{c:Nat}(h:c<64):bits .xor .i64 (c:Int) 1=(Ed c:Int):=by
 have key:∀c:Fin 64,bits .xor .i64 ((c.val:Nat):Int) 1=(Ed c.val:Int):=by decide+kernel
 exact key ⟨c,h⟩
def Wl(cs:List Cb)(i u:Nat):Nat:=(bV cs (Ed (iT cs i u))).1
def qN(cs:List Cb)(lv:List Int)(u p:Nat):Bool:=match jH cs u p with
 |none=>false
 |some i=>decide (0<=lv.getD (Wl cs i u) 0)&&decide (0<=lv.getD u 0)&&!Gc lv (Wl cs i u) u
theorem nW.flip{ns:List Nd}{cs:List Cb}(h:nW ns cs){i u:Nat}(hi:i<cs.length)(hu:(cs.getD i gV).a=(u:Int)\/(cs.getD i gV).b=(u:Int)):Wl cs i u<ns.length/\touch (cs.getD i gV) (Wl cs i u) u/\Ed (iT cs i u)<2*cs.length/\Wl cs i u≠u:=by
 have A:=h.a0 _ hi;have B:=h.b0 _ hi;have ab:=h.ab _ hi;unfold Wl iT;by_cases e:(cs.getD i gV).a=(u:Int)
 ·rw[if_pos e];unfold Ed;rw[if_pos (by omega)];unfold bV;rw[if_neg (by omega),show(2*i+1)/2=i by omega];simp only;refine⟨by omega,.inr ⟨by omega,by omega⟩,by omega,by omega⟩
 ·rw[if_neg e];have e2:(cs.getD i gV).b=(u:Int):=hu.resolve_left e;unfold Ed;rw[if_neg (by omega)];unfold bV;rw[if_pos (by omega),show(2*i+1-1)/2=i by omega];simp only;refine⟨by omega,.inl ⟨by omega,by omega⟩,by omega,by omega⟩
def xK(PS:List (List Nat))(u:Nat):Nat:=PS.findIdx fun P=>P.contains u
theorem aaa{PS:List (List Nat)}(hd:PS.Pairwise fun P Q=>∀j,j∈P->j∉Q){m u:Nat}(hm:m<PS.length)(hu:u∈PS.getD m []):xK PS u=m:=by
 have e:PS.getD m []=PS[m]:=by simp[bS,hm]
 rw[e]at hu;unfold xK;rw[List.findIdx_eq hm];refine⟨by simpa using hu,fun j hj=>?_⟩;have:=AQ.1 hd j m (by omega) hm hj;simp only[List.contains_eq_mem,decide_eq_false_iff_not];exact fun q=>this u q hu
def rOf(cs:List Cb)(PS:List (List Nat))(L:Nat->List Int)(G:Nat->GT):Rt:=⟨fun u p t=>G (xK PS u) u p t,fun u p=>qN cs (L (xK PS u)) u p⟩
structure Tm(ns:List Nd)(cs:List Cb)(us:List Bool)(P:List Nat)(l:List Int)(G:GT):Prop where
 lv:∃root,Ib ns.length cs us root l
 part:P=wS l ns.length
 net:Net ns cs us l G
structure uE(ns:List Nd)(cs:List Cb)(us:List Bool)(r:Rt)(PS:List (List Nat))(L:Nat->List Int)(G:Nat->GT):Prop where
 all:∀u,u<ns.length->∃m,m<PS.length/\u∈PS.getD m []
 net:∀m,m<PS.length->Tm ns cs us (PS.getD m []) (L m) (G m)
 next:∀m,m<PS.length->∀u∈PS.getD m [],∀p t,p<2->t<ns.length->r.next u p t=G m u p t
 rz:∀m,m<PS.length->∀u∈PS.getD m [],∀p,r.rz u p=qN cs (L m) u p
def Az(ns:List Nd)(cs:List Cb)(us:List Bool)(r:Rt):Prop:=∃PS L G,uE ns cs us r PS L G
theorem uE.of{ns:List Nd}{cs:List Cb}{us:List Bool}{PS:List (List Nat)}{L:Nat->List Int}{G:Nat->GT}{sn:Nat->Bool}(h:Xi ns.length cs us ns.length sn PS)(hn:∀m,m<PS.length->Tm ns cs us (PS.getD m []) (L m) (G m)):uE ns cs us (rOf cs PS L G) PS L G where
 all:=fun u hu=>by obtain⟨P,h1,h2⟩:=(h.seen u hu).1 (h.all u hu);obtain⟨m,hm,rfl⟩:=List.getElem_of_mem h1;exact⟨m,hm,by simpa[bS,hm]using h2⟩
 net:=hn
 next:=fun m hm u hu p t hp ht=>by show G (xK PS u) u p t=_;rw[aaa h.dis hm hu]
 rz:=fun m hm u hu p=>by show qN cs (L (xK PS u)) u p=_;rw[aaa h.dis hm hu]
theorem Tm.bound{ns:List Nd}{cs:List Cb}{us:List Bool}{P:List Nat}{l:List Int}{G:GT}(h:Tm ns cs us P l G)(hv:fQ ⟨ns,cs⟩=0){u p t:Nat}(hu:u<ns.length)(hp:p<2)(ht:t<ns.length):(G u p t<cs.length/\-2<=G u p t)/\(0<=G u p t->(cs.getD (G u p t).toNat gV).a=(u:Int)\/(cs.getD (G u p t).toNat gV).b=(u:Int)):=by
 obtain⟨f,h1,h2⟩:=h.net.col t ht;have h3:=h2 u p hu hp;refine⟨?_,fun h0=>?_⟩
 ·rcases h3 with⟨_,e⟩|⟨_,⟨e,_⟩|⟨i,hi,e,_⟩⟩<;>(rw[e];omega)
 ·rcases h3 with⟨_,e⟩|⟨_,⟨e,_⟩|⟨i,hi,e,hf⟩⟩
  ·omega
  ·omega
  ·obtain⟨v,_,hv'⟩:=abw hv hi hf;rw[e,cO];rcases hv' with q|q
   ·exact .inl q.1
   ·exact .inr q.1
theorem uE.ok{ns:List Nd}{cs:List Cb}{us:List Bool}{r:Rt}{PS:List (List Nat)}{L:Nat->List Int}{G:Nat->GT}(h:uE ns cs us r PS L G)(hv:fQ ⟨ns,cs⟩=0):AV ns cs r:=fun u p t hu hp ht=>by obtain⟨m,hm,hum⟩:=h.all u hu;rw[h.next m hm u hum p t hp ht];exact(h.net m hm).bound hv hu hp ht
structure Hd(Z:Own)(w:aG)(b:Nat)(ns:List Nd)(cs:List Cb)(f:dB)(L:rY):Prop where
 root:dG w b 100 (BU f L)
 iO:Z b=(2,0,0,0)
 plan:Fq Z w ns cs L.vn L.vc
 aI:kQ Z w 3 never L.vr f.aI.length (f.aI.map fun x=>ah ag x)
 xP:kQ Z w 26 never L.vt ns.length ((aN ns.length).map L.row)/\∀i,i<ns.length->kQ Z w 3 never (L.row i) (fA (ns.getD i iZ)) ((aN (fA (ns.getD i iZ))).map fun p=>ah ag (Ev cs i p))
 Kc:kQ Z w 101 never L.vb ns.length ((aN ns.length).map fun i=>pt (L.bx i))
 bx:∀i,i<ns.length->pW Z (3+i) w (L.bx i) (f.boxes.getD i default) (L.Ik i)
 up:kQ Z w 4 (PW 1 0) L.vu f.up.length (f.up.map fun x=>.bool x)
 IZ:Z L.bk=(2,2,0,0)
 bkL:L.bk<w.heap.size
 fl:vH w L.mf f.fl (fun t v l=>NH Z w v l/\∀g,v.ownBlock=az g->Z g=(2,4,t,0))/\Z L.mf=(2,3,0,0)
 lim:vH w L.ml f.lim (fun t v l=>JU w v l/\∀g,v.ownBlock=az g->Z g=(2,6,t,0))/\Z L.ml=(2,5,0,0)
 came:NF Z w 7 L.UA L.cm ns.length f.came
 gone:NF Z w 8 L.vg L.gn (2*cs.length) f.gone
 lost:∃ids:List Int,w.ownsRow 0 3 1 L.vl ids.length (ids.flatMap cI)/\(∀g,L.vl.ownBlock=az g->Z g=(2,9,0,0))/\ids.Perm (f.lost.map (·.id))
section
variable{Z dV:Own}{w w':aG}{b:Nat}{ns:List Nd}{cs:List Cb}{f f':dB}{L L':rY}
theorem Hd.toM(h:Hd Z w b ns cs f L)(hb:Bk w L.bk f.dE f.wQ f.vJ)(r0:Uv Z w ns L.r0n L.r0f f.CR)(r1:0<f.dE->Uv Z w ns L.r1n L.r1f f.JH):gz Z w b ns cs f L:=
 ⟨⟨h.root,h.iO⟩,h.plan,h.aI,h.xP,h.Kc,h.bx,h.up,r0,r1,⟨hb,h.IZ⟩,h.fl,h.lim,h.came,h.gone,h.lost⟩
theorem Hd.jM{S:Nat->Prop}(h:Hd Z w b ns cs f L)(hc:Ch S w w')(he:∀k,k<w.heap.size->dV k=Z k)(hS:∀k,S k->k=b)(hr:dG w' b 100 (BU f' L'))(e1:f'={f with CR:=f'.CR,JH:=f'.JH})(e2:L'={L with r0n:=L'.r0n,r0f:=L'.r0f,r1n:=L'.r1n,r1f:=L'.r1f}):Hd dV w' b ns cs f' L':=by
 have hT:=h.iO;have s1:∀k,S k->(Z k).1≠1:=fun k s=>by rw[hS k s,hT];decide
 have s2:∀(kd:Nat) {g a d:Nat},kd≠0->Z g=(2,kd,a,d)->¬S g:=fun kd g a d hk e s=>by have:=hS g s;rw[this,hT]at e;injection e with _ e;injection e with e;exact hk e.symm
 have s3:∀k,S k->∀i,(Z k).1≠3+i:=fun k s i=>by rw[hS k s,hT];show 2≠3+i;omega
 have sn:∀k,S k->¬never (Z k):=fun k s q=>s1 k s q;have kind:∀k,S k->(Z k).2.1=0:=fun k s=>by rw[hS k s,hT]
 rw[e1,e2]at hr|-;exact{
  root:=hr
  iO:=by rw[he _ h.root.lt];exact hT
  plan:=h.plan.jM hc he s1
  aI:=h.aI.jM hc he sn
  xP:=⟨h.xP.1.jM hc he sn,fun i hi=>(h.xP.2 i hi).jM hc he sn⟩
  Kc:=h.Kc.jM hc he sn
  bx:=fun i hi=>(h.bx i hi).jM hc he fun k s=>⟨s1 k s,s3 k s i⟩
  up:=h.up.jM hc he fun k s q=>s2 1 (by decide) q s
  IZ:=by show dV L.bk=_;rw[he _ h.bkL];exact h.IZ
  bkL:=bY h.bkL hc.size
  fl:=by obtain⟨n,M,m1,m2,m3,m4,m5⟩:=h.fl.1;refine⟨⟨n,M,ny m1 hc (s2 3 (by decide) h.fl.2),m2,m3,m4,fun t v hv=>?_⟩,by show dV L.mf=_;rw[he _ m1.Uz];exact h.fl.2⟩;obtain⟨a1,a2⟩:=m5 t v hv;exact⟨a1.jM hc he s1 fun g hg=>s2 4 (by decide) (a2 g hg),fun g hg=>by rw[he _ (a1.lt g hg)];exact a2 g hg⟩
  lim:=by obtain⟨n,M,m1,m2,m3,m4,m5⟩:=h.lim.1;refine⟨⟨n,M,ny m1 hc (s2 5 (by decide) h.lim.2),m2,m3,m4,fun t v hv=>?_⟩,by show dV L.ml=_;rw[he _ m1.Uz];exact h.lim.2⟩;obtain⟨a1,a2⟩:=m5 t v hv;exact⟨fT a1 hc fun g hg=>s2 6 (by decide) (a2 g hg),fun g hg=>by rw[he _ (xB a1 g hg).2];exact a2 g hg⟩
  came:=h.came.jM hc he fun g s=>⟨s1 g s,fun _ q=>by rw[kind g s]at q;omega⟩
  gone:=h.gone.jM hc he fun g s=>⟨s1 g s,fun _ q=>by rw[kind g s]at q;omega⟩
  lost:=by obtain⟨ids,i1,i2,i3⟩:=h.lost;exact⟨ids,fT i1 hc fun g hg=>s2 9 (by decide) (i2 g hg),fun g hg=>by rw[he _ (i1.lt g hg).2];exact i2 g hg,i3⟩}
theorem Hd.below(h:Hd Z w b ns cs f L)(k:aO w.heap.size w w')(he:∀k,k<w.heap.size->dV k=Z k):Hd dV w' b ns cs f L:=
 h.jM (S:=fun _=>False) (Ch.dw k) he (fun _ s=>s.elim) (h.root.below k h.root.lt) rfl rfl
theorem Hd.xu(h:Hd Z w b ns cs f L){i:Nat}:w.cell? ⟨b,i,aj⟩=(BU f L)[i]?:=h.root.cell i
def dB.Jv(f:dB)(q:Nat)(r:Rt):dB:=if q=0 then{f with CR:=r}else{f with JH:=r}
def rY.Jv(L:rY)(q:Nat)(vn vf:aJ):rY:=if q=0 then{L with r0n:=vn,r0f:=vf}else{L with r1n:=vn,r1f:=vf}
end
structure RS(base:Nat)(w:aG)(n bR bN bF:Nat)(V:Nat->Nat->aJ)(U:Nat->aJ):Prop where
 r:dG w bR 97 #[ay (az ⟨bN,0,aj⟩) n n,ay (az ⟨bF,0,aj⟩) n n]
 nx:dG w bN 176 ((aN n).flatMap fun i=>[V i 0,V i 1]).toArray
 fl:dG w bF 52 ((aN n).map U).toArray
 gR:base<=bR
 gN:base<=bN
 gF:base<=bF
structure yj(ns:List Nd)(cs:List Cb)(base:Nat)(w:aG)(V:Nat->Nat->aJ)(U:Nat->aJ)(l:List Int)(G:GT)(u:Nat):Prop where
 a:∀p,p<2->w.ownsRow base 3 1 (V u p) ns.length ((aN ns.length).map fun t=>ah ag (G u p t))
 b:w.ownsRow base 4 1 (U u) (fA (ns.getD u iZ)) ((aN (fA (ns.getD u iZ))).map fun p=>.bool (qN cs l u p))
section
variable{base n bR bN bF:Nat}{w w':aG}{V:Nat->Nat->aJ}{U:Nat->aJ}{S:Nat->Prop}{ns:List Nd}{cs:List Cb}{l:List Int}{G:GT}{u:Nat}
theorem Dz{wY m k:Nat}{e:dP}{v:aJ}{xs:List aJ}(h:w.ownsRow wY e m v k xs)(hc:Ch S w w')(hS:∀g,S g->∃t C,dG w g t C/\t≠e):w'.ownsRow wY e m v k xs:=
 fT h hc fun g hg s=>by obtain⟨t,C,hb,n1⟩:=hS g s;obtain⟨C',tq⟩:=kY h g hg;exact n1 (dG.same hb tq).1
theorem yj.ch(h:yj ns cs base w V U l G u)(hc:Ch S w w')(hS:∀g,S g->∃t C,dG w g t C/\t≠3/\t≠4):yj ns cs base w' V U l G u:=
 ⟨fun p hp=>Dz (h.a p hp) hc fun g s=>(by obtain⟨t,C,a,b,c⟩:=hS g s;exact⟨t,C,a,b⟩),Dz h.b hc fun g s=>(by obtain⟨t,C,a,b,c⟩:=hS g s;exact⟨t,C,a,c⟩)⟩
theorem yj.congr{V':Nat->Nat->aJ}{U':Nat->aJ}(h:yj ns cs base w V U l G u)(hV:∀p,p<2->V' u p=V u p)(hU:U' u=U u):yj ns cs base w V' U' l G u:=
 ⟨fun p hp=>by rw[hV p hp];exact h.a p hp,by rw[hU];exact h.b⟩
theorem RS.ch(h:RS base w n bR bN bF V U)(hc:Ch S w w')(hR:¬S bR)(hN:¬S bN)(hF:¬S bF):RS base w' n bR bN bF V U:=⟨h.r.ch hc hR,h.nx.ch hc hN,h.fl.ch hc hF,h.gR,h.gN,h.gF⟩
theorem RS.below(h:RS base w n bR bN bF V U)(hb:aO w.heap.size w w'):RS base w' n bR bN bF V U:=⟨h.r.below hb h.r.lt,h.nx.below hb h.nx.lt,h.fl.below hb h.fl.lt,h.gR,h.gN,h.gF⟩
theorem Md(n:Nat)(f:Nat->List aJ)(hf:∀i,(f i).length=2):((aN n).flatMap f).length=n*2:=by
 induction n with
 |zero=>rfl
 |succ n ih=>rw[dL,fU,List.length_append,ih];simp[hf];omega
theorem FE(n:Nat)(V:Nat->Nat->aJ){i p:Nat}(hi:i<n)(hp:p<2):((aN n).flatMap fun i=>[V i 0,V i 1])[i*2+p]?=az (V i p):=by
 rw[yz (d:=0) (m:=2) (c:=fun i=>[V i 0,V i 1]) (fun _=>rfl) _ i p (by simpa using hi) hp];have e2:(aN n).getD i 0=i:=by simp[bS,hi]
 rw[e2];rcases(show p=0\/p=1 by omega)with rfl|rfl<;>rfl
theorem abx(n:Nat)(V:Nat->Nat->aJ){i p:Nat}(hi:i<n)(hp:p<2)(v:aJ):((aN n).flatMap fun i=>[V i 0,V i 1]).set (i*2+p) v=(aN n).flatMap fun j=>[EF V i p v j 0,EF V i p v j 1]:=by
 have l1:=Md n (fun i=>[V i 0,V i 1]) fun _=>rfl;have l2:=Md n (fun j=>[EF V i p v j 0,EF V i p v j 1]) fun _=>rfl;apply nY;intro k;rw[lK];by_cases hk:k<n*2
 ·obtain⟨j,q,hj,hq,rfl⟩:∃j q,j<n/\q<2/\k=j*2+q:=⟨k/2,k%2,by omega,by omega,by omega⟩;rw[FE n V hj hq,FE n (EF V i p v) hj hq];by_cases e:i*2+p=j*2+q
  ·have e1:j=i:=by omega
   have e2:q=p:=(by omega);subst e1;subst e2;rw[if_pos rfl,if_pos (by rw[l1];omega),sI]
  ·rw[if_neg e,mY V v (fun q'=>e (by rw[q'.1,q'.2]))]
 ·rw[if_neg (by omega),gG (by rw[l1];omega),gG (by rw[l2];omega)]
theorem RS.acG(h:RS base w n bR bN bF V U){u p:Nat}(hu:u<n)(hp:p<2)(v:aJ):RS base (w.setCell ⟨bN,u*2+p,aj⟩ v) n bR bN bF (EF V u p v) U:=by have n1:bR≠bN:=dG.sZ h.r h.nx (by decide);have n2:bF≠bN:=dG.sZ h.fl h.nx (by decide);refine⟨h.r.Bi (p:=⟨bN,u*2+p,aj⟩) n1 _,?_,h.fl.Bi (p:=⟨bN,u*2+p,aj⟩) n2 _,h.gR,h.gN,h.gF⟩;have:=h.nx.jy (u*2+p) v;rw[gI,abx n V hu hp v]at this;exact this
theorem Qc{α:Type}(n:Nat)(f:Nat->α)(u:Nat)(x:α):((aN n).map f).set u x=(aN n).map fun i=>if i=u then x else f i:=by
 apply nY;intro k;rw[lK,cK,cK];by_cases hk:k<n
 ·rw[eu hk];by_cases e:u=k
  ·subst e;simp[hk]
  ·rw[if_neg e];simp[Ne.symm e]
 ·have e1:(aN n)[k]?=aj:=gG (by simp;omega);rw[e1];by_cases e:u=k
  ·subst e;simp[hk]
  ·rw[if_neg e];rfl
theorem kQ.Jl{Z:Own}{wY k:Nat}{e:dP}{v:aJ}{xs:List aJ}{T:Tg->Prop}(h:w.ownsRow wY e 1 v k xs)(hT:∀g,wY<=g->g<w.heap.size->T (Z g)):kQ Z w e T v k xs:=by
 have hl:xs.length=k:=by rw[h.1];omega
 obtain⟨a,c,ev⟩:=dX h;refine⟨a,c,ev,fun h0=>?_⟩;obtain⟨g,cap,C,e1,hb,oW,hC⟩:=uM h (by omega);rw[ev]at e1;injection e1 with e1;exact⟨g,C,e1,hb,hT g oW hb.lt,fun i hi=>hC i (by omega)⟩
theorem RS.rtM{Z:Own}{r:Rt}(h:RS base w ns.length bR bN bF V U)(hT:∀g,base<=g->g<w.heap.size->(Z g).1=1)(hr:∀u,u<ns.length->∃l G,yj ns cs base w V U l G u/\(∀p t,p<2->t<ns.length->r.next u p t=G u p t)/\∀p,r.rz u p=qN cs l u p):Uv Z w ns (ay (az ⟨bN,0,aj⟩) ns.length ns.length) (ay (az ⟨bF,0,aj⟩) ns.length ns.length) r where
 nx:=by
  refine⟨V,⟨_,_,rfl,fun h0=>⟨bN,_,rfl,h.nx,hT _ h.gN h.nx.lt,fun i hi=>by rw[dJ]⟩⟩,fun u hu p hp=>?_⟩;obtain⟨l,G,h1,h2,h3⟩:=hr u hu;have:=kQ.Jl (Z:=Z) (T:=never) (h1.a p hp) fun g a c=>hT g a c;have e:((aN ns.length).map fun t=>ah .i64 (r.next u p t))=(aN ns.length).map fun t=>ah .i64 (G u p t):=gm fun t ht=>by rw[h2 p t hp (dK.1 ht)]
  rw[e];exact this
 fl:=by
  refine⟨U,⟨_,_,rfl,fun h0=>⟨bF,_,rfl,h.fl,hT _ h.gF h.fl.lt,fun i hi=>by rw[dJ]⟩⟩,fun u hu=>?_⟩;obtain⟨l,G,h1,h2,h3⟩:=hr u hu;have:=kQ.Jl (Z:=Z) (T:=never) h1.b fun g a c=>hT g a c;have e:((aN (fA (ns.getD u iZ))).map fun p=>kv (r.rz u p))=(aN (fA (ns.getD u iZ))).map fun p=>kv (qN cs l u p):=gm fun p _=>by rw[h3 p]
  rw[e];exact this
end
end
section
open Go.RowKit Go.Maps
attribute [local go_sem ↓] fM fK
theorem Yv:(Tryz.prog.info? 52).map (fun i=>(i.zero,i.size,i.bytes))=az (az (ay aj 0 0),1,24):=by kernel_rfl
def ahb(Z:Own)(w:aG)(b:Nat)(ns:List Nd)(cs:List Cb)(f:dB)(e:Ending)(w':aG):Prop:=
 e=ax (.tuple #[])/\∃r,Az ns cs f.up r/\∃dV L',gz dV w' b ns cs (f.Jv (f.dE%2) r) L'/\qA Z w dV w'
theorem Ru(w:aG)(t1 t2 t3:dP)(C1 C2 C3:Array aJ):dG (((w.alloc (.cells C1 t1)).alloc (.cells C2 t2)).alloc (.cells C3 t3)).drew w.heap.size t1 C1:=((dG.new w _ _).alloc _).alloc _
theorem Rv(w:aG)(t1 t2 t3:dP)(C1 C2 C3:Array aJ):dG (((w.alloc (.cells C1 t1)).alloc (.cells C2 t2)).alloc (.cells C3 t3)).drew (w.heap.size+1) t2 C2:=by have:=dG.new (w.alloc (.cells C1 t1)) t2 C2;exact(by simpa using this:dG _ (w.heap.size+1) _ _).alloc _
theorem Rw(w:aG)(t1 t2 t3:dP)(C1 C2 C3:Array aJ):dG (((w.alloc (.cells C1 t1)).alloc (.cells C2 t2)).alloc (.cells C3 t3)).drew (w.heap.size+1+1) t3 C3:=by have:=dG.new ((w.alloc (.cells C1 t1)).alloc (.cells C2 t2)) t3 C3;exact(by simpa using this:dG _ (w.heap.size+1+1) _ _)
theorem Rx(w:aG)(t1 t2 t3:dP)(C1 C2 C3:Array aJ):aO w.heap.size w (((w.alloc (.cells C1 t1)).alloc (.cells C2 t2)).alloc (.cells C3 t3)).drew:=((((aS _ _).alloc (aC _) _).alloc (by simp) _).alloc (by simp;omega) _).drew
theorem amu(n:Nat):eH #[ay aj 0 0,ay aj 0 0] (n*2)=((aN n).flatMap fun _=>[ay aj 0 0,ay aj 0 0]).toArray:=by
 have l1:=Md n (fun _=>[ay aj 0 0,ay aj 0 0]) fun _=>rfl;apply Lr
 ·simp[size_madeCells,l1]
 ·intro i h1 h2;simp only[size_madeCells]at h1;have e:=FE n (fun _ _=>ay aj 0 0) (i:=i/2) (p:=i%2) (by omega) (by omega);rw[show i/2*2+i%2=i by omega]at e;rw[cZ (by rw[l1];omega)]at e;injection e with e
  conv=>rhs;rw[List.getElem_toArray,e]
  simp only[eH,Array.getElem_ofFn];rcases(show i%2=0\/i%2=1 by omega)with q|q<;>simp[q]
theorem amt(n:Nat):eH #[ay aj 0 0] n=((aN n).map fun _=>ay aj 0 0).toArray:=by
 apply Lr
 ·simp[size_madeCells]
 ·intro i h1 h2;simp[eH,Nat.mod_one]
def aow(n:Nat)(w:aG)(s3:aJ)(wx:aG):Prop:=
 ∃bR bN bF,s3=au (az ⟨bR,0,aj⟩)/\RS w.heap.size wx n bR bN bF (fun _ _=>ay aj 0 0) (fun _=>ay aj 0 0)/\aO w.heap.size w wx
theorem Gm{n bR bN bF:Nat}{w wx:aG}(h1:dG wx bR 97 #[ay (az ⟨bN,0,aj⟩) n n,ay (az ⟨bF,0,aj⟩) n n])(h2:dG wx bN 176 (eH #[ay aj 0 0,ay aj 0 0] (n*2)))(h3:dG wx bF 52 (eH #[ay aj 0 0] n))(g1:w.heap.size<=bR)(g2:w.heap.size<=bN)(g3:w.heap.size<=bF)(hb:aO w.heap.size w wx):aow n w (au (az ⟨bR,0,aj⟩)) wx:=⟨bR,bN,bF,rfl,⟨h1,by rw[<-amu];exact h2,by rw[<-amt];exact h3,g1,g2,g3⟩,hb⟩
def aku(ns:List Nd)(cs:List Cb)(us:List Bool)(root:Nat)(wr:aG)(s6:aJ)(wx:aG):Prop:=
 ∃bO l v,s6=au (az ⟨bO,0,aj⟩)/\dG wx bO 169 #[v]/\wr.heap.size<=bO/\wx.ownsRow wr.heap.size 3 1 v l.length (l.flatMap cI)/\Ib ns.length cs us root l/\aO wr.heap.size wr wx
def akv(n:Nat)(cs:List Cb)(us:List Bool)(lv:List Int)(wr:aG)(s8:aJ)(wx:aG):Prop:=
 ∃bQ bT base V G,s8=au (az ⟨bQ,0,aj⟩)/\dG wx bQ 173 #[ay (az ⟨bT,0,aj⟩) n n]/\wr.heap.size<=bQ/\wr.heap.size<=base/\wr.heap.size<=bT/\TM wx bT base n 0 0 V (fun _ _=>n) G/\(∀t,t<n->Col n cs us lv G t)/\aO wr.heap.size wr wx
def Tw(ns:List Nd)(cs:List Cb)(us:List Bool)(base:Nat)(w2:aG)(bR bN bF:Nat)(PS:List (List Nat))(i:aJ)(wr:aG):Prop:=
 ∃(m:Nat) (V:Nat->Nat->aJ) (U:Nat->aJ) (L:Nat->List Int) (G:Nat->GT),m<=PS.length/\i=ah ag (m:Nat)/\RS base wr ns.length bR bN bF V U/\(∀k,k<m->Tm ns cs us (PS.getD k []) (L k) (G k))/\
  (∀k,k<m->∀u∈PS.getD k [],yj ns cs base wr V U (L k) (G k) u)/\(∀u,u<ns.length->(∀k,k<m->u∉PS.getD k [])->U u=ay aj 0 0)/\Ch (fun k=>k=bN\/k=bF) w2 wr
theorem TM.axe{S:Nat->Prop}{w w':aG}{bT base n hA hB:Nat}{V:Nat->Nat->aJ}{len:Nat->Nat->Nat}{G:GT}(h:TM w bT base n hA hB V len G)(hc:Ch S w w')(hS:∀g,S g->∃t C,dG w g t C/\t≠176/\t≠3):TM w' bT base n hA hB V len G:=by refine⟨?_,fun i p hi hp=>Dz (h.own i p hi hp) hc fun g s=>(by obtain⟨t,C,a,b,c⟩:=hS g s;exact⟨t,C,a,c⟩),h.apart,h.gap,h.lt⟩;obtain⟨arr,hb,hr⟩:=h.row;exact⟨arr,hb.ch hc fun s=>by obtain⟨t,C,a,b,c⟩:=hS _ s;exact b (dG.same hb a).1.symm,hr⟩
theorem Dj{S:Nat->Prop}{w a c:aG}(hB:aO w.heap.size w a)(hc:Ch S a c)(hS:∀g,S g->w.heap.size<=g):aO w.heap.size w c:=
 ⟨hc.os.trans hB.os,hc.tape.trans hB.tape,hc.output.trans hB.output,eY hB.size hc.size,fun i hi=>(hc.block i (bY hi hB.size) fun s=>by have:=hS i s;omega).trans (hB.block i hi)⟩
def Tx(ns:List Nd)(cs:List Cb)(base:Nat)(w6:aG)(bR bN bF m:Nat)(PS:List (List Nat))(P:List Nat)(LV:Nat->List Int)(GG:Nat->GT)(l:List Int)(G1:GT)(i:aJ)(wr:aG):Prop:=
 ∃(q:Nat) (V:Nat->Nat->aJ) (U:Nat->aJ),q<=P.length/\i=ah ag (q:Nat)/\RS base wr ns.length bR bN bF V U/\(∀k,k<m->∀u∈PS.getD k [],yj ns cs base wr V U (LV k) (GG k) u)/\(∀u∈P.take q,yj ns cs base wr V U l G1 u)/\
  (∀u,u<ns.length->(∀k,k<m->u∉PS.getD k [])->u∉P.take q->U u=ay aj 0 0)/\Ch (fun k=>k=bN\/k=bF) w6 wr
def Xl(ns:List Nd)(cs:List Cb)(w7:aG)(bF u np:Nat)(U:Nat->aJ)(l:List Int)(i:aJ)(wr:aG):Prop:=
 ∃(p:Nat) (vf:aJ),p<=np/\i=ah ag (p:Nat)/\wr.ownsRow w7.heap.size 4 1 vf p ((aN p).map fun p=>.bool (qN cs l u p))/\dG wr bF 52 ((aN ns.length).map fun i=>if i=u then vf else U i).toArray/\Ch (fun k=>k=bF) w7 wr
theorem amW{ns:List Nd}{cs:List Cb}{base:Nat}{w6 w7 w8 w9:aG}{bR bN bF m q u np:Nat}{PS:List (List Nat)}{P:List Nat}{LV:Nat->List Int}{GG:Nat->GT}{l:List Int}{G1:GT}{V' V2:Nat->Nat->aJ}{U':Nat->aJ}{vf:aJ}(RS7:RS base w7 ns.length bR bN bF V' U')(WW:RS base w8 ns.length bR bN bF V2 U')(hV:∀x p,x≠u->V2 x p=V' x p)(C7:Ch (fun k=>k=bN\/k=bF) w6 w7)(C78:Ch (fun k=>k=bN) w7 w8)(C9:Ch (fun k=>k=bF) w8 w9)(FB9:dG w9 bF 52 ((aN ns.length).map fun i=>if i=u then vf else U' i).toArray)(F9:w9.ownsRow w8.heap.size 4 1 vf np ((aN np).map fun p=>.bool (qN cs l u p)))(ROWS:∀p,p<2->w7.ownsRow base 3 1 (V2 u p) ns.length ((aN ns.length).map fun t=>ah ag (G1 u p t)))(RO7:∀k,k<m->∀u∈PS.getD k [],yj ns cs base w7 V' U' (LV k) (GG k) u)(RQ7:∀u∈P.take q,yj ns cs base w7 V' U' l G1 u)(U7:∀u,u<ns.length->(∀k,k<m->u∉PS.getD k [])->u∉P.take q->U' u=ay aj 0 0)(HPU:P.take (q+1)=P.take q++[u])(DJ:∀k,k<m->u∉PS.getD k [])(UNW:u∉P.take q)(HNP:fA (ns.getD u iZ)=np)(hq:q+1<=P.length)(hb:base<=w8.heap.size):Tx ns cs base w6 bR bN bF m PS P LV GG l G1 (ah ag ((q:Int)+1)) w9:=by
 have nBR:¬bR=bF:=dG.sZ WW.r WW.fl (by decide);have nBN:¬bN=bF:=dG.sZ WW.nx WW.fl (by decide);have cT:∀g,g=bN->∃t C,dG w7 g t C/\t≠3/\t≠4:=fun g e=>⟨176,((aN ns.length).flatMap fun i=>[V' i 0,V' i 1]).toArray,by subst e;exact RS7.nx,by decide,by decide⟩;have cF:∀g,g=bF->∃t C,dG w8 g t C/\t≠3/\t≠4:=fun g e=>⟨52,((aN ns.length).map U').toArray,by subst e;exact WW.fl,by decide,by decide⟩;have uK:∀(lv:List Int) (G:GT) (x:Nat),x≠u->yj ns cs base w7 V' U' lv G x->yj ns cs base w9 V2 (fun i=>if i=u then vf else U' i) lv G x:=fun lv G x hx h=>
  ((h.ch C78 cT).ch C9 cF).congr (fun p' _=>hV x p' hx) (if_neg hx)
 refine⟨q+1,V2,fun i=>if i=u then vf else U' i,hq,by congr 1,⟨WW.r.ch C9 nBR,WW.nx.ch C9 nBN,FB9,WW.gR,WW.gN,WW.gF⟩,fun k hk x hx=>uK _ _ x (fun e=>by rw[e]at hx;exact DJ k hk hx) (RO7 k hk x hx),fun x hx=>?_,fun x hx h1 h2=>?_,?_⟩
 ·rw[HPU]at hx;rcases dU.1 hx with hx|hx
  ·exact uK _ _ x (fun e=>by rw[e]at hx;exact UNW hx) (RQ7 x hx)
  ·rw[dh]at hx;subst hx;refine⟨fun p' xh=>Dz (Dz (ROWS p' xh) C78 fun g s=>?_) C9 fun g s=>?_,?_⟩
   ·obtain⟨t,C,a,b,c⟩:=cT g s;exact⟨t,C,a,b⟩
   ·obtain⟨t,C,a,b,c⟩:=cF g s;exact⟨t,C,a,b⟩
   ·have e3:(if x=x then vf else U' x)=vf:=if_pos rfl;rw[e3,HNP];exact rX F9 hb
 ·rw[HPU]at h2;simp only[dU,dh,not_or]at h2;simp only;rw[if_neg h2.2];exact U7 x hx h1 h2.1
 ·exact(C7.trans C78 fun i _ s=>.inl s).trans C9 fun i _ s=>.inr s
theorem aiw{ns:List Nd}{cs:List Cb}{us:List Bool}{base:Nat}{w2 w7:aG}{bR bN bF m:Nat}{PS:List (List Nat)}{P:List Nat}{LV:Nat->List Int}{GG:Nat->GT}{l:List Int}{G1:GT}{V':Nat->Nat->aJ}{U':Nat->aJ}(RS7:RS base w7 ns.length bR bN bF V' U')(NM:∀k,k<m->Tm ns cs us (PS.getD k []) (LV k) (GG k))(NP:Tm ns cs us P l G1)(PD:PS.getD m []=P)(RO7:∀k,k<m->∀u∈PS.getD k [],yj ns cs base w7 V' U' (LV k) (GG k) u)(RQ7:∀u∈P.take P.length,yj ns cs base w7 V' U' l G1 u)(U7:∀u,u<ns.length->(∀k,k<m->u∉PS.getD k [])->u∉P.take P.length->U' u=ay aj 0 0)(C27:Ch (fun k=>k=bN\/k=bF) w2 w7)(hm:m+1<=PS.length):Tw ns cs us base w2 bR bN bF PS (ah ag ((m:Int)+1)) w7:=by
 rw[fB]at RQ7 U7;refine⟨m+1,V',U',fun k=>if k=m then l else LV k,fun k=>if k=m then G1 else GG k,hm,by congr 1,RS7,fun k hk=>?_,fun k hk u hu=>?_,fun u hu h=>?_,C27⟩
 ·by_cases e:k=m
  ·subst e;rw[PD];simp only[if_pos];exact NP
  ·simp only[if_neg e];exact NM k (by omega)
 ·by_cases e:k=m
  ·subst e;rw[PD]at hu;simp only[if_pos];exact RQ7 u hu
  ·simp only[if_neg e];exact RO7 k (by omega) u hu
 ·exact U7 u hu (fun k hk=>h k (by omega)) (by rw[<-PD];exact h m (by omega))
theorem afP{f:dB}{b:Nat}{ns:List Nd}{cs:List Cb}{L:rY}{Z:Own}{w w7:aG}{bR bN bF q:Nat}{PS:List (List Nat)}{V:Nat->Nat->aJ}{U:Nat->aJ}{LV:Nat->List Int}{GG:Nat->GT}{sn:Nat->Bool}(H:Hd Z w b ns cs f L)(hb:Bk w L.bk f.dE f.wQ f.vJ)(hr0:f.dE%2=1->Uv Z w ns L.r0n L.r0f f.CR)(hr1:f.dE%2=0->0<f.dE->Uv Z w ns L.r1n L.r1f f.JH)(hq:f.dE%2=q)(B7:aO w.heap.size w w7)(RS7:RS w.heap.size w7 ns.length bR bN bF V U)(PI:Xi ns.length cs f.up ns.length sn PS)(NM:∀k,k<PS.length->Tm ns cs f.up (PS.getD k []) (LV k) (GG k))(RO:∀k,k<PS.length->∀u∈PS.getD k [],yj ns cs w.heap.size w7 V U (LV k) (GG k) u):∃r,Az ns cs f.up r/\∃dV L',gz dV ((w7.setCell ⟨b,7+q*2,aj⟩ (ay (az ⟨bN,0,aj⟩) ns.length ns.length)).setCell ⟨b,7+q*2+1,aj⟩ (ay (az ⟨bF,0,aj⟩) ns.length ns.length)) b ns cs (f.Jv (f.dE%2) r) L'/\qA Z w dV ((w7.setCell ⟨b,7+q*2,aj⟩ (ay (az ⟨bN,0,aj⟩) ns.length ns.length)).setCell ⟨b,7+q*2+1,aj⟩ (ay (az ⟨bF,0,aj⟩) ns.length ns.length)):=by
 rw[hq];have RN:=uE.of PI NM;refine⟨_,⟨PS,LV,GG,RN⟩,qz Z w.heap.size (1,0,0,0),L.Jv q (ay (az ⟨bN,0,aj⟩) ns.length ns.length) (ay (az ⟨bF,0,aj⟩) ns.length ns.length),?_,?_⟩
 ·have he:∀k,k<w.heap.size->qz Z w.heap.size (1,0,0,0) k=Z k:=fun k hk=>if_pos hk;have hn:∀k,w.heap.size<=k->(qz Z w.heap.size (1,0,0,0) k).1=1:=fun k hk=>by unfold qz;rw[if_neg (by omega)]
  have bl:=H.root.lt;have H7:=H.below (dV:=qz Z w.heap.size (1,0,0,0)) B7 he;obtain⟨wx,hwx⟩:∃wx:aG,(w7.setCell ⟨b,7+q*2,aj⟩ (ay (az ⟨bN,0,aj⟩) ns.length ns.length)).setCell ⟨b,7+q*2+1,aj⟩ (ay (az ⟨bF,0,aj⟩) ns.length ns.length)=wx:=⟨_,rfl⟩;have hc:Ch (fun k=>k=b) w7 wx:=by rw[<-hwx];exact((Ch.refl (fun k=>k=b) w7).setCell (p:=⟨b,7+q*2,aj⟩) (.inl rfl) _).setCell (p:=⟨b,7+q*2+1,aj⟩) (.inl rfl) _
  have Ng:=(H7.root.jy (7+q*2) (ay (az ⟨bN,0,aj⟩) ns.length ns.length)).jy (7+q*2+1) (ay (az ⟨bF,0,aj⟩) ns.length ns.length);rw[hwx]at Ng|-;have tyS:∀g,g=b->∃t C,dG w7 g t C/\t≠3/\t≠4:=fun g e=>⟨100,BU f L,by subst e;exact H7.root,by decide,by decide⟩;have RSx:RS w.heap.size wx ns.length bR bN bF V U:=RS7.ch hc (fun e=>by have:=RS7.gR;omega) (fun e=>by have:=RS7.gN;omega) (fun e=>by have:=RS7.gF;omega);have RT:=RSx.rtM (Z:=qz Z w.heap.size (1,0,0,0)) (cs:=cs) (r:=rOf cs PS LV GG) (fun g h1 _=>hn g h1) fun u hu=>by obtain⟨m,hm,hum⟩:=RN.all u hu;exact⟨LV m,GG m,(RO m hm u hum).ch hc tyS,fun p t hp ht=>RN.next m hm u hum p t hp ht,fun p=>RN.rz m hm u hum p⟩
  have hcw:Ch (fun k=>k=b) w wx:=(Ch.dw (S:=fun k=>k=b) B7).trans hc fun i _ s=>s;have nb1:∀k,k=b->(Z k).1≠1:=fun k e=>by rw[e,H.iO];decide
  have bkx:Bk wx L.bk f.dE f.wQ f.vJ:=dG.ch hb hcw fun e=>by have:=H.IZ;rw[e,H.iO]at this;simp at this
  have q2:q=0\/q=1:=by omega
  rcases q2 with e|e
  ·subst e;have Hx:Hd (qz Z w.heap.size (1,0,0,0)) wx b ns cs (f.Jv 0 (rOf cs PS LV GG)) (L.Jv 0 (ay (az ⟨bN,0,aj⟩) ns.length ns.length) (ay (az ⟨bF,0,aj⟩) ns.length ns.length)):=H7.jM hc (fun _ _=>rfl) (fun k s=>s) Ng rfl rfl;exact Hx.toM bkx RT fun h0=>(hr1 hq h0).jM hcw he nb1
  ·subst e;have Hx:Hd (qz Z w.heap.size (1,0,0,0)) wx b ns cs (f.Jv 1 (rOf cs PS LV GG)) (L.Jv 1 (ay (az ⟨bN,0,aj⟩) ns.length ns.length) (ay (az ⟨bF,0,aj⟩) ns.length ns.length)):=H7.jM hc (fun _ _=>rfl) (fun k s=>s) Ng rfl rfl;exact Hx.toM bkx ((hr0 hq).jM hcw he nb1) fun _=>RT
 ·refine⟨((Ch.dw (S:=fun k=>2<=(Z k).1) B7).setCell (p:=⟨b,7+q*2,aj⟩) (.inl ?_) _).setCell (p:=⟨b,7+q*2+1,aj⟩) (.inl ?_) _,fun k hk=>if_pos hk⟩
  ·show 2<=(Z b).1;rw[H.iO];exact aC 2
  ·show 2<=(Z b).1;rw[H.iO];exact aC 2
theorem Km(f:dB)(b:Nat)(ns:List Nd)(cs:List Cb)(L:rY)(Z:Own)(w:aG)(H:Hd Z w b ns cs f L)(hb:Bk w L.bk f.dE f.wQ f.vJ)(hr0:f.dE%2=1->Uv Z w ns L.r0n L.r0f f.CR)(hr1:f.dE%2=0->0<f.dE->Uv Z w ns L.r1n L.r1f f.JH)(hp:nW ns cs)(hv:fQ ⟨ns,cs⟩=0)(sN:QJ ⟨ns,cs⟩)(yS:f.up.length=cs.length)(hn:f.dE<=1000000000):di aH 42 #[pt b] w (ahb Z w b ns cs f):=by
 obtain⟨An,Ac,cn,cc,eN,eC,hIP,_,_⟩:=H.plan;obtain⟨Au,cu,eU,hUR,_⟩:=H.up.isRec (d:=false);have hUR:gH 1 cB false w Au f.up.length f.up:=hUR;have c0:w.cell? ⟨b,0,aj⟩=az (ay An ns.length cn):=by rw[<-eN];exact H.xu
 have c1:w.cell? ⟨b,1,aj⟩=az (ay Ac cs.length cc):=by rw[<-eC];exact H.xu
 have c6:w.cell? ⟨b,6,aj⟩=az (ay Au f.up.length cu):=by rw[H.xu];show az L.vu=_;rw[eU]
 have n16:=hp.n16;obtain⟨j0,xQ,zC,Aq,Av⟩:=eQ Sc;obtain⟨k0,NU,wE,uY,wN⟩:=eQ Yv;have aye:∀W:aG,Sem.run aH (DR 94 (ah ag (ns.length:Int)) (ah ag (ns.length:Int))) W=.ok (ay (az ⟨W.heap.size,0,aj⟩) ns.length ns.length) (W.alloc (af (eH #[ay aj 0 0,ay aj 0 0] (ns.length*2)) 176)):=fun W=>by have:=run_make (P:=aH) W 94 176 j0 (.agg #[ay aj 0 0,ay aj 0 0]) (by kernel_rfl) xQ zC .i64 .i64 (ns.length:Int) (ns.length:Int) (by omega) (fC _) (by rw[Av];omega) (by omega);rw[Aq]at this;simp only[cO]at this;exact this
 have ahM:∀W:aG,Sem.run aH (DR 95 (ah ag (ns.length:Int)) (ah ag (ns.length:Int))) W=.ok (ay (az ⟨W.heap.size,0,aj⟩) ns.length ns.length) (W.alloc (af (eH #[ay aj 0 0] ns.length) 52)):=fun W=>by have:=run_make (P:=aH) W 95 52 k0 (ay aj 0 0) (by kernel_rfl) NU wE .i64 .i64 (ns.length:Int) (ns.length:Int) (by omega) (fC _) (by rw[wN];omega) (by omega);rw[uY]at this;simp only[cO,Nat.mul_one]at this;exact this
 have HH:=aA H;have HB:=aA hb;have HR0:=aA hr0;have HR1:=aA hr1;have PL:=aA hp;have HV:=aA hv;have HWF:=aA sN;have HUP:=aA yS;have HIP:=aA hIP;have HUR:=aA hUR;have HC:=aA (show _/\_/\_ from⟨c0,c1,c6⟩);clear H hb hr0 hr1 hp hv sN yS hIP hUR eN eC eU;unfold pt;go_enter func42,ntmps42;go_upto_region 1 with fail;go_cut [3]from 27 (fun s3 wx=>aow ns.length w s3 wx);case first=>
  as_aux_lemma=>
   go_region
   all_goals
    go_wp2_with fail;go_meet
    case rel=>
     first
      |with_reducible exact Gm (Ru ..) (Rv ..) (Rw ..) (by omega) (by omega) (by omega) (Rx ..)
      |with_reducible exact Gm (Ru ..) (Rw ..) (Rv ..) (by omega) (by omega) (by omega) (Rx ..)
      |with_reducible exact Gm (Rv ..) (Ru ..) (Rw ..) (by omega) (by omega) (by omega) (Rx ..)
      |with_reducible exact Gm (Rv ..) (Rw ..) (Ru ..) (by omega) (by omega) (by omega) (Rx ..)
      |with_reducible exact Gm (Rw ..) (Ru ..) (Rv ..) (by omega) (by omega) (by omega) (Rx ..)
      |with_reducible exact Gm (Rw ..) (Rv ..) (Ru ..) (by omega) (by omega) (by omega) (Rx ..)
 case rest=>
  obtain⟨bR,bN,bF,rfl,Yp,hBel⟩:=hcut;have RS0:=aA Yp;have B1:=aA hBel;have KC:aZ (∀wq,aO w.heap.size w wq->wq.cell? ⟨b,0,aj⟩=az (ay An ns.length cn)/\wq.cell? ⟨b,1,aj⟩=az (ay Ac cs.length cc)/\wq.cell? ⟨b,6,aj⟩=az (ay Au f.up.length cu)):=fun wq hb=>by have t:∀{p:fE} {z:aJ},w.cell? p=az z->wq.cell? p=az z:=fun{p z} hz=>(hb.cell (aY _ _ hz)).trans hz;obtain⟨a,b',c⟩:=HC.o;exact⟨t a,t b',t c⟩
  have PA:=aA (Sn ns cs f.up An Ac Au cn cc cu wc.drew HV.o HUP.o HWF.o (HIP.o.below (aC _) B1.o.drew) (HUR.o.below (aC _) B1.o.drew));obtain⟨d0,d1,d6⟩:=KC.o wc B1.o;have D0:=aA (show _/\_/\_ from⟨d0,d1,d6⟩);clear Yp hBel c0 c1 c6 d0 d1 d6 aye ahM xQ zC Aq Av NU wE uY wN;go_wp2_with fail;go_region_held3 (fun wq=>wq.cell? ⟨b,0,aj⟩=az (ay An ns.length cn)/\wq.cell? ⟨b,1,aj⟩=az (ay Ac cs.length cc)/\wq.cell? ⟨b,6,aj⟩=az (ay Au f.up.length cu))
   (first|exact D0.o|exact KC.o _ (B1.o.trans (BE2.o.mono B1.o.size)))
   (first|(go_at_call 77;(with_reducible refine PA.o.mono ?_);rintro e w2 ⟨v,sn,PS,rfl,hPI,hPM,hB2⟩;obtain⟨V0,hv1,hv2⟩:=hPM;obtain⟨aP,cP,eP⟩:=dX hv1;subst eP;have PI:=aA hPI;have HV1:=aA hv1;have HV2:=aA hv2;have BE2:aZ (aO wc.heap.size wc w2):=(show aO wc.heap.size wc w2 from⟨hB2.os,hB2.tape,hB2.output,hB2.size,hB2.block⟩);clear hPI hv1 hv2 hB2))
  have PIO:=PI.o;have PLN:=aA PIO.len;have B2:aZ (aO w.heap.size w w2):=B1.o.trans (BE2.o.mono B1.o.size);have RS2:=aA (RS0.o.below BE2.o);have ST:aZ (Tw ns cs f.up w.heap.size w2 bR bN bF PS (ah ag 0) w2):=⟨0,fun _ _=>ay aj 0 0,fun _=>ay aj 0 0,fun _=>[],fun _ _ _ _=>0,bJ _,rfl,RS2.o,fun k hk=>by omega,fun k hk=>by omega,fun u _ _=>rfl,Ch.refl _ _⟩;have KL:aZ (∀wq,Ch (fun k=>k=bN\/k=bF) w2 wq->aO w.heap.size w wq/\∀{t:dP} {wY k:Nat} {v:aJ} {xs:List aJ},w2.ownsRow wY t 1 v k xs->t≠176->t≠52->wq.ownsRow wY t 1 v k xs):=fun wq hc=>by
   refine⟨⟨hc.os.trans B2.o.os,hc.tape.trans B2.o.tape,hc.output.trans B2.o.output,eY B2.o.size hc.size,fun i hi=>(hc.block i (bY hi B2.o.size) fun e=>by have:=RS2.o.gN;have:=RS2.o.gF;omega).trans (B2.o.block i hi)⟩,fun{t wY k v xs} ho n1 n2=>Dz ho hc fun g s=>?_⟩;rcases s with s|s
   ·subst s;exact⟨_,_,RS2.o.nx,fun e=>n1 e.symm⟩
   ·subst s;exact⟨_,_,RS2.o.fl,fun e=>n2 e.symm⟩
  clear PA D0 PIO RS0;go_wp2_with fail;go_loopw [5,6,7,8,9,11,13,14,15,16,17,18,19,20,42,76,97] (fun _ _ _ _ _ _ _ _ _ _ _ _ _ _ i _ _ wr=>Tw ns cs f.up w.heap.size w2 bR bN bF PS i wr) (fun _ _ _ _ _ _ _ _ _ _ _ _ _ _ i _ _ _=>PS.length-(aK i).toNat);case atStart=>exact ST.o
  case round=>
   clear ST;obtain⟨m,V,U,LV,GG,hm,rfl,Yp,hN,hRo,hU,hC⟩:=hrel;have RSM:=aA Yp;have NM:=aA hN;have ROM:=aA hRo;have UM:=aA hU;have CM:=aA hC;clear Yp hN hRo hU hC;by_cases hmn:m<PS.length
   ·obtain⟨P,hPd⟩:∃P,PS.getD m []=P:=⟨_,rfl⟩;have hPm:P∈PS:=by rw[<-hPd];simp[bS,hmn]
    obtain⟨CR,l0,hl0,hPf⟩:=PI.o.ok P hPm;have ass:CR∈P:=(by rw[hPf];exact rW.2 ⟨hl0.lv.rlt,by rw[hl0.lv.zero];exact fC _⟩);have agY:0<P.length:=List.length_pos_of_mem ass;have Plt:aZ (∀q,q<P.length->P.getD q 0<ns.length):=fun q hq=>(by have hm:P.getD q 0∈P:=(by simp[bS,hq]);have Iq:P.getD q 0∈wS l0 ns.length:=(by rw[<-hPf];exact hm);exact(rW.1 Iq).1);obtain⟨root,Ng⟩:∃root,P.getD 0 0=root:=⟨_,rfl⟩;have akf:root∈P:=(by rw[<-Ng];simp[bS,agY]);have rlt:=Plt.o 0 agY;rw[Ng]at rlt;have PF:=aA hPf;have L0:=aA hl0;have PD:=aA hPd;have RP:=aA akf;obtain⟨BW,KOW⟩:=KL.o wr CM.o;have BWR:=aA BW;obtain⟨gP,aGR,CP,eP,hbP,_,hcP⟩:=uM (KOW HV1.o (by decide) (by decide)) (by omega);injection eP with eP _ eC;clear eC;subst eP;have hv2:=KOW (HV2.o m hmn) (by decide) (by decide);rw[hPd]at hv2;obtain⟨gp,axa,Cp,ep,hbp,_,hcp⟩:=uM hv2 agY;have cm:wr.cell? ⟨gP,m,aj⟩=az (ay (az ⟨gp,0,aj⟩) P.length axa):=(by rw[hbP.cell,hcP m hmn,cK,eu hmn,<-ep];rfl);have cq:∀q,q<P.length->wr.cell? ⟨gp,q,aj⟩=az (ah ag (P.getD q 0:Nat)):=fun q hq=>(by rw[hbp.cell,hcp q hq,cK];simp[bS,hq,cN1]);have CQ:=aA cq;have EP:=aA ep;have CQA:aZ (∀wq,Ch (fun k=>k=bN\/k=bF) w2 wq->∀q,q<P.length->wq.cell? ⟨gp,q,aj⟩=az (ah ag (P.getD q 0:Nat))):=fun wq hc q hq=>(by obtain⟨_,KO⟩:=KL.o wq hc;have h:=KO (HV2.o m hmn) (by decide) (by decide);rw[PD.o]at h;obtain⟨g',c',C',e',tq,_,qx⟩:=uM h (by omega);rw[EP.o]at e';injection e' with e';injection e' with e';injection e' with e';subst e';rw[tq.cell,qx q hq,cK];simp[bS,hq,cN1]);have cp0:wr.cell? ⟨gp,0,aj⟩=az (ah ag (root:Nat)):=(by rw[<-Ng];exact cq 0 agY);have m0:(0:Int)<=(m:Int):=(by omega);have m1:(m:Int)<(PS.length:Int):=(by omega);have psl:PS.length<=16:=eY PLN.o n16;have pll:P.length<=16:=(by rw[hPf];exact eY (Vy _ _) n16);have P0:(0:Int)<(P.length:Int):=(by omega);obtain⟨a0,a1,a6⟩:=KC.o wr BW;have OF:aZ (∀wq,aO wr.heap.size wr wq->di aH 88 #[.agg #[ay An ns.length cn,ay Ac cs.length cc],ay Au f.up.length cu,ah ag (root:Nat)] wq fun e w'=>∃l v c,e=ax (.tuple #[.agg #[ay v l.length c],ah ag 0])/\Ib ns.length cs f.up root l/\w'.ownsRow wr.heap.size 3 1 (ay v l.length c) l.length (l.flatMap cI)/\aO wr.heap.size wr w'/\aO wq.heap.size wq w'):=fun wq hb=>by
     have B:=BWR.o.trans (hb.mono BWR.o.size);refine(afy ⟨ns,cs⟩ f.up (root:Int) An Ac Au cn cc cu wq (by show ns.length<=_;omega) (by have:=PL.o.Ll;show cs.length<=_;omega) HWF.o (HIP.o.below (aC _) B) (HUR.o.below (aC _) B)).mono ?_;rintro e w' ⟨tq,hh⟩;rcases hh with⟨Px,_⟩|⟨_,l,v,hl,rfl,ho⟩
     ·exact absurd ⟨HV.o,HUP.o,by omega,by show(root:Int)<(ns.length:Int);omega⟩ Px
     ·obtain⟨a,c,e⟩:=dX ho;subst e;exact⟨l,a,c,rfl,hl,rX ho hb.size,hb.trans (tq.mono hb.size),tq⟩
    have KC5:aZ (∀wq,aO wr.heap.size wr wq->wq.cell? ⟨b,0,aj⟩=az (ay An ns.length cn)/\wq.cell? ⟨b,1,aj⟩=az (ay Ac cs.length cc)/\wq.cell? ⟨b,6,aj⟩=az (ay Au f.up.length cu)/\wq.cell? ⟨gp,0,aj⟩=az (ah ag (root:Nat))):=fun wq hb=>(by have t:∀{p:fE} {z:aJ},wr.cell? p=az z->wq.cell? p=az z:=fun{p z} hz=>(hb.cell (aY _ _ hz)).trans hz;exact⟨t a0,t a1,t a6,t cp0⟩);clear hPd hPf hl0 ass Ng akf hv2 hbP hcP ep hbp hcp KOW BW cq;go_upto_region 5 with fail;go_cut [6,7]from 46 to 60 (fun s6 _ wx=>aku ns cs f.up root wr s6 wx);case first=>
     as_aux_lemma=>
      have ENT:=enters_of (P:=aH) func88 (by kernel_rfl) rfl;go_wp2_with fail;refine fZ 17 (fun wq=>wq.cell? ⟨b,0,aj⟩=az (ay An ns.length cn)/\wq.cell? ⟨b,1,aj⟩=az (ay Ac cs.length cc)/\wq.cell? ⟨b,6,aj⟩=az (ay Au f.up.length cu)/\wq.cell? ⟨gp,0,aj⟩=az (ah ag (root:Nat))) (by kernel_rfl) (KC5.o _ ((aS _ _).drew)) (fun aW=>?_);refine bH.tk 0 aW ?_;try simp only[bI]
      refine bH.tk 1 aW ?_;try simp only[bI]
      refine bH.tk 2 aW ?_;try simp only[bI]
      refine bH.tk 3 aW ?_;try simp only[bI]
      refine bH.tk 4 aW ?_;try simp only[bI]
      refine bH.tk 5 aW ?_;try simp only[bI]
      refine bH.tk 6 aW ?_;try simp only[bI]
      refine bH.tk 7 aW ?_;try simp only[bI]
      refine bH.tk 8 aW ?_;try simp only[bI]
      refine bH.tk 9 aW ?_;try simp only[bI]
      refine bH.tk 10 aW ?_;try simp only[bI]
      refine bH.two (i:=11) (j:=15) (by kernel_rfl) rfl rfl (fun K hK=>?_) (fun K hK=>?_)
      ·refine Am (by rfl) ENT (by rfl) (by rfl) (by rfl) (by rfl) (OF.o _ ((aS _ _).drew)) ?_;rintro e w5 ⟨l,v,c,rfl,hl,ho,Jc,hb5⟩;refine⟨_,rfl,?_⟩;have BX5:aZ (aO wr.heap.size wr w5):=Jc;have jm:aZ (aku ns cs f.up root wr (au (az ⟨w5.heap.size,0,aj⟩)) (w5.alloc (af #[ay v l.length c] 169))):=
        ⟨w5.heap.size,l,_,rfl,dG.new w5 _ _,Jc.size,fT ho (Ch.dw (S:=fun _=>False) ((aS _ _).alloc (aC _) _)) (fun _ _ q=>q),hl,Jc.alloc Jc.size _⟩
       clear hl ho hb5 Jc;refine hK.out _ _ (fun _=>KC5.o _ BX5.o) (fun bU=>?_);have aW:=bU (by decide);clear hK bU;try simp only[bI]
       refine bH.tk 12 aW ?_;try simp only[bI]
       refine bH.tk 13 aW ?_;try simp only[bI]
       refine bH.tk 14 aW ?_;try simp only[bI]
       refine bH.one (i:=15) (by kernel_rfl) rfl (fun K hK=>?_);go_simp;refine hK.out _ _ (fun _=>KC5.o _ (BX5.o.alloc BX5.o.size _)) (fun bU=>?_);have aW:=bU (by decide);clear hK bU;try simp only[bI]
       refine bH.one (i:=16) (by kernel_rfl) rfl (fun K hK=>?_);go_simp;refine hK.out _ _ (fun _=>KC5.o _ (BX5.o.alloc BX5.o.size _)) (fun bU=>?_);have aW:=bU (by decide);clear hK bU;try simp only[bI]
       refine bH.one (i:=17) (by kernel_rfl) rfl (fun K hK=>?_);go_simp;refine hK.out _ _ (fun h=>absurd rfl h) (fun _=>?_);clear hK;refine bH.done (by kernel_rfl) ?_ _;try simp only[bI]
       go_wp2_with fail;go_meet
       case rel=>exact jm.out
      ·have VB0:aZ (dG (wr.alloc (af #[ay aj 0 0] 169)).drew wr.heap.size 169 #[ay aj 0 0]):=dG.new wr _ _;have BB0:aZ (aO wr.heap.size wr (wr.alloc (af #[ay aj 0 0] 169)).drew):=((aS _ _).alloc (aC _) _).drew;go_simp;refine hK.out _ _ (fun _=>KC5.o _ BB0.o) (fun bU=>?_);have aW:=bU (by decide);clear hK bU;try simp only[bI]
       refine bH.one (i:=11) (by kernel_rfl) rfl (fun K hK=>?_);refine Am (by rfl) ENT (by rfl) (by rfl) (by rfl) (by rfl) (OF.o _ BB0.o) ?_;rintro e w5 ⟨l,v,c,rfl,hl,ho,Jc,hb5⟩;refine⟨_,rfl,?_⟩;have BX5:aZ (aO wr.heap.size wr w5):=Jc;have vb5:=VB0.o.below hb5 VB0.o.lt;have vc5:w5.cell? ⟨wr.heap.size,0,aj⟩=az (ay aj 0 0):=vb5.cell 0;have vf5:w5.frozen? ⟨wr.heap.size,0,aj⟩=false:=vb5.frozen 0;have jm:aZ (aku ns cs f.up root wr (au (az ⟨wr.heap.size,0,aj⟩)) (w5.setCell ⟨wr.heap.size,0,aj⟩ (ay v l.length c))):=(by refine⟨wr.heap.size,l,_,rfl,vb5.jy 0 _,aC _,nK ho (p:=⟨wr.heap.size,0,aj⟩) _ fun g hg e=>?_,hl,Jc.setCell (aC _) _⟩;obtain⟨C',tq⟩:=kY ho g hg;subst e;exact dG.sZ vb5 tq (by decide) rfl);clear hl ho hb5 Jc vb5;refine hK.out _ _ (fun _=>KC5.o _ BX5.o) (fun bU=>?_);have aW:=bU (by decide);clear hK bU;try simp only[bI]
       refine bH.tk 12 aW ?_;try simp only[bI]
       refine bH.tk 13 aW ?_;try simp only[bI]
       refine bH.tk 14 aW ?_;try simp only[bI]
       refine bH.one (i:=16) (by kernel_rfl) rfl (fun K hK=>?_);go_simp;refine hK.out _ _ (fun _=>KC5.o _ (BX5.o.setCell (aC _) _)) (fun bU=>?_);have aW:=bU (by decide);clear hK bU;try simp only[bI]
       refine bH.one (i:=17) (by kernel_rfl) rfl (fun K hK=>?_);go_simp;refine hK.out _ _ (fun h=>absurd rfl h) (fun _=>?_);clear hK;refine bH.done (by kernel_rfl) ?_ _;try simp only[bI]
       go_wp2_with fail;go_meet
       case rel=>exact jm.out
    case rest=>
     obtain⟨bO,l,vL,rfl,hbO,hgO,hoL,hlv,hB5⟩:=hcut;obtain⟨aL,cL,eL⟩:=dX hoL;subst eL;obtain⟨w5,rfl⟩:∃w5:aG,w5=wc:=⟨_,rfl⟩;have BO:=aA hbO;have OL:=aA hoL;have LU:=aA hlv;have B5:=aA hB5;have zB:=hlv.lv.len;have ORD:=hlv.lv.order HV.o;have WFL:=hlv.lv.wf (by omega);have agV:=aA ORD;have B5W:aZ (aO w.heap.size w w5):=BWR.o.trans (hB5.mono BWR.o.size);have IRL:aZ (gH 1 cI 0 w5 aL l.length l):=(by obtain⟨a',c',e',_,hr',_⟩:=ic (d:=(0:Int)) rZ (by decide) hoL;injection e' with e';subst e';exact hr');have MK:aZ (∀wq,aO w5.heap.size w5 wq->di aH 89 #[.agg #[ay An ns.length cn,ay Ac cs.length cc],.agg #[ay aL l.length cL],ay Au f.up.length cu] wq (fun e w'=>∃bT base V G,e=ax (.tuple #[.agg #[ay (az ⟨bT,0,aj⟩) ns.length ns.length],ah ag 0])/\w5.heap.size<=base/\w5.heap.size<=bT/\TM w' bT base ns.length 0 0 V (fun _ _=>ns.length) G/\(∀t,t<ns.length->Col ns.length cs f.up l G t)/\aO w5.heap.size w5 w'/\aO wq.heap.size wq w')):=fun wq hb=>(by have B:=B5W.o.trans (hb.mono B5W.o.size);refine(afu ns cs f.up l An Ac Au aL cn cc cu cL wq HV.o agV.out HUP.o zB HWF.o WFL (HIP.o.below (aC _) B) (HUR.o.below (aC _) B) (IRL.o.below (aC _) hb)).mono ?_;rintro e w' ⟨bT,base,V,G,rfl,h1,h2,h3,h4⟩;exact⟨bT,base,V,G,rfl,by have:=h2.lt;have:=hb.size;omega,by have:=hb.size;omega,h2,h3,hb.trans (h4.mono hb.size),h4⟩);obtain⟨a0,a1,a6,_⟩:=KC5.o w5 hB5;have bo0:w5.cell? ⟨bO,0,aj⟩=az (ay aL l.length cL):=hbO.cell 0;have KC6:aZ (∀wq,aO w5.heap.size w5 wq->(fun wq=>wq.cell? ⟨b,0,aj⟩=az (ay An ns.length cn)/\wq.cell? ⟨b,1,aj⟩=az (ay Ac cs.length cc)/\wq.cell? ⟨b,6,aj⟩=az (ay Au f.up.length cu)/\wq.cell? ⟨bO,0,aj⟩=az (ay aL l.length cL)) wq):=fun wq hb=>(by have t:∀{p:fE} {z:aJ},w5.cell? p=az z->wq.cell? p=az z:=fun{p z} hz=>(hb.cell (aY _ _ hz)).trans hz;exact⟨t a0,t a1,t a6,t bo0⟩);clear hbO hgO hoL hlv hB5 zB ORD WFL a0 a1 a6 bo0 OF;go_upto_region 6 with fail;go_cut [8,9]from 61 to 73 (fun s8 _ wx=>akv ns.length cs f.up l w5 s8 wx);case first=>
      as_aux_lemma=>
       have ENT:=enters_of (P:=aH) func89 (by kernel_rfl) rfl;go_wp2_with fail;refine fZ 15 (fun wq=>wq.cell? ⟨b,0,aj⟩=az (ay An ns.length cn)/\wq.cell? ⟨b,1,aj⟩=az (ay Ac cs.length cc)/\wq.cell? ⟨b,6,aj⟩=az (ay Au f.up.length cu)/\wq.cell? ⟨bO,0,aj⟩=az (ay aL l.length cL)) (by kernel_rfl) (KC6.o _ ((aS _ _).drew)) (fun aW=>?_);refine bH.tk 0 aW ?_;try simp only[bI]
       refine bH.tk 1 aW ?_;try simp only[bI]
       refine bH.tk 2 aW ?_;try simp only[bI]
       refine bH.tk 3 aW ?_;try simp only[bI]
       refine bH.tk 4 aW ?_;try simp only[bI]
       refine bH.tk 5 aW ?_;try simp only[bI]
       refine bH.tk 6 aW ?_;try simp only[bI]
       refine bH.tk 7 aW ?_;try simp only[bI]
       refine bH.tk 8 aW ?_;try simp only[bI]
       refine bH.two (i:=9) (j:=13) (by kernel_rfl) rfl rfl (fun K hK=>?_) (fun K hK=>?_)
       ·refine Am (by rfl) ENT (by rfl) (by rfl) (by rfl) (by rfl) (MK.o _ ((aS _ _).drew)) ?_;rintro e w6 ⟨bT,base,V1,G1,rfl,hg,hgT,hT,Dt,Jc,hb6⟩;refine⟨_,rfl,?_⟩;have BX6:aZ (aO w5.heap.size w5 w6):=Jc;have jm:aZ (akv ns.length cs f.up l w5 (au (az ⟨w6.heap.size,0,aj⟩)) (w6.alloc (af #[ay (az ⟨bT,0,aj⟩) ns.length ns.length] 173))):=
         ⟨w6.heap.size,bT,base,V1,G1,rfl,dG.new w6 _ _,Jc.size,hg,hgT,hT.below ((aS _ _).alloc (aC _) _),Dt,Jc.alloc Jc.size _⟩
        clear hg hgT hT Dt hb6 Jc;refine hK.out _ _ (fun _=>KC6.o _ BX6.o) (fun bU=>?_);have aW:=bU (by decide);clear hK bU;try simp only[bI]
        refine bH.tk 10 aW ?_;try simp only[bI]
        refine bH.tk 11 aW ?_;try simp only[bI]
        refine bH.tk 12 aW ?_;try simp only[bI]
        refine bH.one (i:=13) (by kernel_rfl) rfl (fun K hK=>?_);go_simp;refine hK.out _ _ (fun _=>KC6.o _ (BX6.o.alloc BX6.o.size _)) (fun bU=>?_);have aW:=bU (by decide);clear hK bU;try simp only[bI]
        refine bH.one (i:=14) (by kernel_rfl) rfl (fun K hK=>?_);go_simp;refine hK.out _ _ (fun _=>KC6.o _ (BX6.o.alloc BX6.o.size _)) (fun bU=>?_);have aW:=bU (by decide);clear hK bU;try simp only[bI]
        refine bH.one (i:=15) (by kernel_rfl) rfl (fun K hK=>?_);go_simp;refine hK.out _ _ (fun h=>absurd rfl h) (fun _=>?_);clear hK;refine bH.done (by kernel_rfl) ?_ _;try simp only[bI]
        go_wp2_with fail;go_meet
        case rel=>exact jm.out
       ·have VB0:aZ (dG (w5.alloc (af #[ay aj 0 0] 173)).drew w5.heap.size 173 #[ay aj 0 0]):=dG.new w5 _ _;have BB0:aZ (aO w5.heap.size w5 (w5.alloc (af #[ay aj 0 0] 173)).drew):=((aS _ _).alloc (aC _) _).drew;go_simp;refine hK.out _ _ (fun _=>KC6.o _ BB0.o) (fun bU=>?_);have aW:=bU (by decide);clear hK bU;try simp only[bI]
        refine bH.one (i:=9) (by kernel_rfl) rfl (fun K hK=>?_);refine Am (by rfl) ENT (by rfl) (by rfl) (by rfl) (by rfl) (MK.o _ BB0.o) ?_;rintro e w6 ⟨bT,base,V1,G1,rfl,hg,hgT,hT,Dt,Jc,hb6⟩;refine⟨_,rfl,?_⟩;have BX6:aZ (aO w5.heap.size w5 w6):=Jc;have vb5:=VB0.o.below hb6 VB0.o.lt;have vc5:w6.cell? ⟨w5.heap.size,0,aj⟩=az (ay aj 0 0):=vb5.cell 0;have vf5:w6.frozen? ⟨w5.heap.size,0,aj⟩=false:=vb5.frozen 0;have jm:aZ (akv ns.length cs f.up l w5 (au (az ⟨w5.heap.size,0,aj⟩)) (w6.setCell ⟨w5.heap.size,0,aj⟩ (ay (az ⟨bT,0,aj⟩) ns.length ns.length))):=(by refine⟨w5.heap.size,bT,base,V1,G1,rfl,vb5.jy 0 _,aC _,hg,hgT,?_,Dt,Jc.setCell (aC _) _⟩;have hc:=(Ch.refl (fun i=>i=w5.heap.size) w6).setCell (p:=⟨w5.heap.size,0,aj⟩) (.inl rfl) (ay (az ⟨bT,0,aj⟩) ns.length ns.length);exact hT.axe hc fun g s=>⟨173,_,by have s:g=w5.heap.size:=s;subst s;exact vb5,by decide,by decide⟩);clear hg hgT hT Dt hb6 Jc vb5;refine hK.out _ _ (fun _=>KC6.o _ BX6.o) (fun bU=>?_);have aW:=bU (by decide);clear hK bU;try simp only[bI]
        refine bH.tk 10 aW ?_;try simp only[bI]
        refine bH.tk 11 aW ?_;try simp only[bI]
        refine bH.tk 12 aW ?_;try simp only[bI]
        refine bH.one (i:=14) (by kernel_rfl) rfl (fun K hK=>?_);go_simp;refine hK.out _ _ (fun _=>KC6.o _ (BX6.o.setCell (aC _) _)) (fun bU=>?_);have aW:=bU (by decide);clear hK bU;try simp only[bI]
        refine bH.one (i:=15) (by kernel_rfl) rfl (fun K hK=>?_);go_simp;refine hK.out _ _ (fun h=>absurd rfl h) (fun _=>?_);clear hK;refine bH.done (by kernel_rfl) ?_ _;try simp only[bI]
        go_wp2_with fail;go_meet
        case rel=>exact jm.out
     case rest=>
      obtain⟨bQ,bT,ajp,V1,G1,rfl,hbQ,hgQ,hgb,hgT,hTM,Dt,hB6⟩:=hcut;obtain⟨w6,rfl⟩:∃w6:aG,w6=wc:=⟨_,rfl⟩;have B6R:aZ (aO wr.heap.size wr w6):=B5.o.trans (hB6.mono B5.o.size);have B6W:aZ (aO w.heap.size w w6):=BWR.o.trans (B6R.o.mono BWR.o.size);have BQH:=aA hbQ;have TMH:=aA hTM;have LB1:aZ (w.heap.size<=ajp):=eY B5W.o.size hgb;have apc:aZ (Tm ns cs f.up P l G1):=(by refine⟨⟨root,LU.o⟩,?_,⟨HV.o,agV.out,Dt⟩⟩;rw[PF.o];unfold wS;refine List.filter_congr fun j hj=>?_;have hr:=RP.o;rw[PF.o]at hr;have:=L0.o.same LU.o (rW.1 hr).1 (rW.1 hr).2 (by rw[LU.o.lv.zero];exact fC _) (dK.1 hj);rw[Bool.eq_iff_iff,decide_eq_true_eq,decide_eq_true_eq];exact this);have RS6:=aA (RSM.o.below B6R.o);have C26:aZ (Ch (fun k=>k=bN\/k=bF) w2 w6):=CM.o.sH B6R.o;have BO6:aZ (dG w6 bO 169 #[ay aL l.length cL]):=BO.o.below hB6 BO.o.lt;have BTN:aZ (¬bT=bN/\¬bT=bF):=(by have h1:=RSM.o.nx.lt;have h2:=RSM.o.fl.lt;have h3:=B5.o.size;exact⟨fun e=>by omega,fun e=>by omega⟩);have CQ6:aZ (∀q,q<P.length->w6.cell? ⟨gp,q,aj⟩=az (ah ag (P.getD q 0:Nat))):=fun q hq=>(by have:=CQ.o q hq;exact(B6R.o.cell (aY _ _ this)).trans this);have PND:aZ (P.Nodup):=(by rw[aZ,PF.o];exact List.filter_sublist.nodup List.nodup_range);have LPL:aZ (∀q,q<P.length->0<=l.getD (P.getD q 0) 0):=fun q hq=>(by have hm:P.getD q 0∈P:=(by simp[bS,hq]);have h2:=apc.out.part;have Iq:P.getD q 0∈wS l ns.length:=(by rw[<-h2];exact hm);exact(rW.1 Iq).2);have avc:aZ (∀q,q<P.length->∀k,k<m->P.getD q 0∉PS.getD k []):=fun q hq k hk hh=>(by have hm:P.getD q 0∈P:=(by simp[bS,hq]);have hkl:k<PS.length:=(by omega);have:=AQ.1 PI.o.dis k m hkl hmn hk (P.getD q 0) (by simpa[bS,hkl]using hh);have e3:PS[m]=P:=(by rw[<-PD.o];simp[bS,hmn]);exact this (by rw[e3];exact hm));have ST2:aZ (Tx ns cs w.heap.size w6 bR bN bF m PS P LV GG l G1 (ah ag 0) w6):=⟨0,V,U,bJ _,rfl,RS6.o,fun k hk u hu=>(ROM.o k hk u hu).ch (Ch.dw (S:=fun _=>False) B6R.o) (fun _ s=>s.elim),fun u hu=>by simp at hu,fun u hu h1 _=>UM.o u hu h1,Ch.refl _ _⟩;have OL6:aZ (w6.ownsRow wr.heap.size 3 1 (ay aL l.length cL) l.length (l.flatMap cI)):=fT OL.o (Ch.dw (S:=fun _=>False) hB6) fun _ _ s=>s;have CBO:aZ (w6.cell? ⟨bO,0,aj⟩=az (ay aL l.length cL)/\gH 1 cI 0 w6 aL l.length l):=⟨(hB6.cell (p:=⟨bO,0,aj⟩) BO.o.lt).trans (BO.o.cell 0),IRL.o.below (aC _) hB6⟩;clear hbQ hgQ hgb hTM Dt hB6 cm cp0 MK KC6 KC5;go_wp2_with fail;go_loopw [11,13,14,15,16,17,18,19,20,76,97] (fun _ _ _ _ _ _ _ _ _ i _ wq=>Tx ns cs w.heap.size w6 bR bN bF m PS P LV GG l G1 i wq) (fun _ _ _ _ _ _ _ _ _ i _ _=>P.length-(aK i).toNat);case atStart=>exact ST2.o
      case round=>
       clear ST2;obtain⟨q,V',U',hq,rfl,Yp,hRo,hRq,hU,hC⟩:=hrel;obtain⟨w7,rfl⟩:∃w7:aG,w7=wr:=⟨_,rfl⟩;have RS7:=aA Yp;have RO7:=aA hRo;have RQ7:=aA hRq;have U7:=aA hU;have C7:=aA hC;have B7W:aZ (aO w.heap.size w w7):=Dj B6W.o hC fun g s=>by have:=RS6.o.gN;have:=RS6.o.gF;rcases s with s|s<;>omega
       by_cases hqn:q<P.length
       ·obtain⟨u,hu⟩:∃u,P.getD q 0=u:=⟨_,rfl⟩;have ult:=Plt.o q hqn;have lpu:=LPL.o q hqn;have dj:=avc.out q hqn;have cqq:=CQA.o w7 (C26.o.trans hC fun i _ s=>s) q hqn;have hPu:P.take (q+1)=P.take q++[u]:=(by rw[<-hu];exact jU 0 P q hqn);have ang:u∉P.take q:=fun hh=>by
         have h1:=PND.o;rw[<-List.take_append_drop (q+1) P,hPu]at h1;have h2:=(nZ.1 h1).1;have h3:=(nZ.1 h2).2.2 u hh u (by simp);exact h3 rfl
        rw[hu]at ult lpu dj cqq;have apP:=hU u ult dj ang;have HPU:=aA hPu;have DJ:=aA dj;have UNW:=aA ang;have LPU:=aA lpu;have nBO:¬(bO=bN\/bO=bF):=fun e=>by
         rcases e with e|e
         ·exact dG.sZ BO6.o RS6.o.nx (by decide) e
         ·exact dG.sZ BO6.o RS6.o.fl (by decide) e
        have nBQ:¬(bQ=bN\/bQ=bF):=fun e=>by
         rcases e with e|e
         ·exact dG.sZ BQH.o RS6.o.nx (by decide) e
         ·exact dG.sZ BQH.o RS6.o.fl (by decide) e
        have BO7:aZ (dG w7 bO 169 #[ay aL l.length cL]):=BO6.o.ch hC nBO;have BQ7:aZ (dG w7 bQ 173 #[ay (az ⟨bT,0,aj⟩) ns.length ns.length]):=BQH.o.ch hC nBQ;have aiu:∀p,p<2->w7.ownsRow ajp 3 1 (V1 u p) ns.length ((Jt G1 u p ns.length).flatMap cI):=fun p hp=>Dz (TMH.o.own u p ult hp) hC fun g s=>by
         rcases s with s|s
         ·subst s;exact⟨_,_,RS6.o.nx,by decide⟩
         ·subst s;exact⟨_,_,RS6.o.fl,by decide⟩
        have tc7:∀p,p<2->w7.cell? ⟨bT,u*2+p,aj⟩=az (V1 u p):=fun p hp=>by
         have h1:=TMH.o.cell ult hp;exact(hC.cell (p:=⟨bT,u*2+p,aj⟩) (aY _ _ h1) fun e=>by
          rcases e with e|e
          ·exact BTN.o.1 e
          ·exact BTN.o.2 e).trans h1
        obtain⟨a0,k0,e0⟩:=dX (aiu 0 (by omega));obtain⟨a1,k1,e1⟩:=dX (aiu 1 (by omega));have t0:=tc7 0 (by omega);have t1:=tc7 1 (by omega);rw[e0]at t0;rw[e1]at t1;have r0:w7.cell? ⟨bR,0,aj⟩=az (ay (az ⟨bN,0,aj⟩) ns.length ns.length):=Yp.r.cell 0;have q0':w7.cell? ⟨bQ,0,aj⟩=az (ay (az ⟨bT,0,aj⟩) ns.length ns.length):=BQ7.o.cell 0;have f0:w7.frozen? ⟨bN,u*2,aj⟩=false:=Yp.nx.frozen _;have f1:w7.frozen? ⟨bN,u*2+1,aj⟩=false:=Yp.nx.frozen _;have n0:w7.cell? ⟨bN,u*2,aj⟩=az (V' u 0):=(by rw[Yp.nx.cell,dJ];exact FE _ V' (p:=0) ult (by omega));have n1:w7.cell? ⟨bN,u*2+1,aj⟩=az (V' u 1):=(by rw[Yp.nx.cell,dJ];exact FE _ V' (p:=1) ult (by omega));have ROWS:aZ (∀p,p<2->w7.ownsRow w.heap.size 3 1 (EF (EF V' u 0 (ay a0 ns.length k0)) u 1 (ay a1 ns.length k1) u p) ns.length ((aN ns.length).map fun t=>ah ag (G1 u p t))):=fun p hp=>by
         have h1:=rX (aiu p hp) LB1.o;have e3:(Jt G1 u p ns.length).flatMap cI=(aN ns.length).map fun t=>ah .i64 (G1 u p t):=by
          unfold Jt;rw[List.flatMap_map]
          induction ns.length with
          |zero=>rfl
          |succ n ih=>rw[dL,fU,fF,ih];rfl
         rw[e3]at h1;rcases(show p=0\/p=1 by omega)with rfl|rfl
         ·rw[mY _ _ (by omega),sI,<-e0];exact h1
         ·rw[sI,<-e1];exact h1
        obtain⟨w8,hw8⟩:∃w8:aG,((w7.setCell ⟨bN,u*2,aj⟩ (ay a0 ns.length k0)).setCell ⟨bN,u*2+1,aj⟩ (ay a1 ns.length k1)).drew=w8:=⟨_,rfl⟩;have WW:aZ (RS w.heap.size w8 ns.length bR bN bF (EF (EF V' u 0 (ay a0 ns.length k0)) u 1 (ay a1 ns.length k1)) U'):=(by rw[<-hw8];have h:=(Yp.acG (p:=0) ult (by omega) (ay a0 ns.length k0)).acG (p:=1) ult (by omega) (ay a1 ns.length k1);exact⟨h.r,h.nx,h.fl,h.gR,h.gN,h.gF⟩);have C78:aZ (Ch (fun k=>k=bN) w7 w8):=(by rw[<-hw8];exact(((Ch.refl (fun k=>k=bN) w7).setCell (p:=⟨bN,u*2,aj⟩) (.inl rfl) _).setCell (p:=⟨bN,u*2+1,aj⟩) (.inl rfl) _).drew);have u0:(0:Int)<=(u:Int):=(by omega);have u1:(u:Int)<(ns.length:Int):=(by omega);have qq0:(0:Int)<=(q:Int):=(by omega);have qq1:(q:Int)<(P.length:Int):=(by omega);have kk:(fun wq=>wq.cell? ⟨bR,0,aj⟩=az (ay (az ⟨bN,0,aj⟩) ns.length ns.length)/\wq.cell? ⟨bQ,0,aj⟩=az (ay (az ⟨bT,0,aj⟩) ns.length ns.length)/\wq.cell? ⟨bT,u*2,aj⟩=az (ay a0 ns.length k0)/\wq.cell? ⟨bT,u*2+1,aj⟩=az (ay a1 ns.length k1)) w7.drew:=⟨r0,q0',t0,t1⟩;clear Yp hRo hRq hU hC aiu tc7 e0 e1 ang dj lpu hPu;go_wp2_with fail;refine fZ 9 (fun wq=>wq.cell? ⟨bR,0,aj⟩=az (ay (az ⟨bN,0,aj⟩) ns.length ns.length)/\wq.cell? ⟨bQ,0,aj⟩=az (ay (az ⟨bT,0,aj⟩) ns.length ns.length)/\wq.cell? ⟨bT,u*2,aj⟩=az (ay a0 ns.length k0)/\wq.cell? ⟨bT,u*2+1,aj⟩=az (ay a1 ns.length k1)) (by kernel_rfl) kk (fun aW=>?_);refine bH.tk 0 aW ?_;try simp only[bI]
        refine bH.tk 1 aW ?_;try simp only[bI]
        refine bH.tk 2 aW ?_;try simp only[bI]
        refine bH.tk 3 aW ?_;try simp only[bI]
        refine bH.tk 4 aW ?_;try simp only[bI]
        refine bH.tk 5 aW ?_;try simp only[bI]
        refine bH.tk 6 aW ?_;try simp only[bI]
        refine bH.tk 7 aW ?_;try simp only[bI]
        refine bH.tk 8 aW ?_;try simp only[bI]
        refine bH.one (i:=9) (by kernel_rfl) rfl (fun K hK=>?_);go_simp;refine hK.out _ _ (fun h=>absurd rfl h) (fun _=>?_);clear hK;refine bH.done (by kernel_rfl) ?_ _;try simp only[bI]
        clear kk r0 q0' t0 t1 f0 f1 n0 n1 hw8;have B8W:aZ (aO w.heap.size w w8):=Dj B7W.o C78.o fun g s=>by have:=RS6.o.gN;have s:g=bN:=s;omega
        obtain⟨gt,ct,eT,ct1,_,lT,tT⟩:=HH.o.xP.1.at_ (i:=u) (by simpa using ult);have np8:=PL.o.Qp ult;have aht:=HH.o.xP.2 u ult;obtain⟨np,hnp⟩:∃np,fA (ns.getD u iZ)=np:=⟨_,rfl⟩;have np1:1<=np/\np<=8:=(by rw[<-hnp];exact np8);rw[hnp]at aht;obtain⟨gr,cr,eRw⟩:=aht.OJ (by simp;omega);have KT:aZ (∀wq,aO w.heap.size w wq->wq.cell? ⟨b,4,aj⟩=az (ay (az ⟨gt,0,aj⟩) ns.length ct)/\wq.cell? ⟨gt,u,aj⟩=az (ay (az ⟨gr,0,aj⟩) np cr)/\∀p,p<np->wq.cell? ⟨gr,p,aj⟩=az (ah ag (Ev cs u p))):=fun wq hb=>(by have t:∀{p:fE} {z:aJ},w.cell? p=az z->wq.cell? p=az z:=fun{p z} hz=>(hb.cell (aY _ _ hz)).trans hz;refine⟨t (by rw[<-eT];exact HH.o.xu),t (by rw[ct1,cK,eu ult,<-eRw];rfl),fun p hp=>t (by rw[aht.cellOf eRw (by simpa using hp),cK,eu hp];rfl)⟩);obtain⟨k4,kt,_⟩:=KT.o w8 B8W.o;have HNP:=aA hnp;have BO8:aZ (dG w8 bO 169 #[ay aL l.length cL]):=BO7.o.ch C78.o fun e=>nBO (.inl e);have ST3:aZ (Xl ns cs w8 bF u np U' l (ah ag 0) w8):=⟨0,ay aj 0 0,bJ _,rfl,World.ownsRow_nil w8 _ _ _,by
         have e:((aN ns.length).map fun i=>if i=u then ay aj 0 0 else U' i)=(aN ns.length).map U':=gm fun i _=>by
          by_cases e:i=u
          ·rw[if_pos e,e,apP]
          ·rw[if_neg e]
         rw[e];exact WW.o.fl,Ch.refl _ _⟩
        clear eT ct1 lT tT np8 aht eRw hnp apP cqq nBQ;go_wp2_with fail;go_loopw [13,14,15,16,17,18,19,20,97] (fun _ _ _ _ _ _ _ _ i wq=>Xl ns cs w8 bF u np U' l i wq) (fun _ _ _ _ _ _ _ _ i _=>np-(aK i).toNat);case atStart=>exact ST3.o
        case round=>
         clear ST3 k4 kt;obtain⟨p,vf,hp,rfl,hF,hB,hC3⟩:=hrel;obtain⟨w9,rfl⟩:∃w9:aG,w9=wr:=⟨_,rfl⟩;have F9:=aA hF;have FB9:=aA hB;have C9:=aA hC3;have B9W:aZ (aO w.heap.size w w9):=Dj B8W.o hC3 fun g s=>by have:=RS6.o.gF;have s:g=bF:=s;omega
         clear hF hB hC3;by_cases hpn:p<np
         ·obtain⟨k4,kt,kr⟩:=KT.o w9 B9W.o;have krp:=kr p hpn;have p0:(0:Int)<=(p:Int):=(by omega);have p1:(p:Int)<(np:Int):=(by omega);obtain⟨a0,a1,_⟩:=KC.o w9 B9W.o;have bo9:w9.cell? ⟨bO,0,aj⟩=az (ay aL l.length cL):=(BO8.o.ch C9.o fun e=>nBO (.inr e)).cell 0;have KC9:aZ (∀wq,aO w9.heap.size w9 wq->wq.cell? ⟨b,0,aj⟩=az (ay An ns.length cn)/\wq.cell? ⟨b,1,aj⟩=az (ay Ac cs.length cc)/\wq.cell? ⟨bO,0,aj⟩=az (ay aL l.length cL)):=fun wq hb=>by
           have t:∀{p:fE} {z:aJ},w9.cell? p=az z->wq.cell? p=az z:=fun{p z} hz=>(hb.cell (aY _ _ hz)).trans hz;exact⟨t a0,t a1,t bo9⟩
          clear k4 kt kr;go_upto_if 102 with fail;go_cut [13,14,15,16,17,18,19,20]from 99 to 131 (fun _ s14 _ _ _ _ _ _ wx=>s14=.bool (qN cs l u p)/\aO w9.heap.size w9 wx);case first=>
           as_aux_lemma=>
            cases rP:jH cs u p with
            |none=>have e1:Ev cs u p=-1:=(by unfold Ev;rw[rP];rfl);have FALL:aZ (kv false=.bool (qN cs l u p)):=(by rw[aZ];unfold qN;rw[rP]);rw[e1]at krp|-;clear rP e1;go_wp2_with fail;go_meet;case rel=>exact⟨FALL.o,aS _ _⟩
            |some i=>
             have e1:Ev cs u p=(i:Int):=Rz rP;obtain⟨hi,htu⟩:=wu rP;have FLP:=PL.o.flip hi htu;obtain⟨v,hv⟩:∃v,Wl cs i u=v:=⟨_,rfl⟩;have EVF:qN cs l u p=(decide (0<=l.getD v 0)&&decide (0<=l.getD u 0)&&!Gc l v u):=(by unfold qN;rw[rP,<-hv]);rw[hv]at FLP;have S9:QN w9 b ns cs An Ac cn cc:=⟨a0,a1,HIP.o.below (aC _) B9W.o⟩;have CH:aZ (∀wq,aO w9.heap.size w9 wq->di aH 65 #[au (az ⟨b,0,aj⟩),ah ag i,ah ag u] wq fun e w'=>e=ax (ah ag (iT cs i u:Nat))/\wq=w'):=fun wq hb=>Ma i u b ns cs An Ac cn cc wq (S9.below hb) PL.o hi ult;have ENX:=Ct (Ed (iT cs i u)) b ns cs An Ac cn cc w9 S9 PL.o FLP.2.2.1;have Ll:=PL.o.Ll;have cch:=(PL.o.chan hi htu).1;have hfb:bits .xor .i64 ((iT cs i u:Nat):Int) 1=(Ed (iT cs i u):Int):=abA (by omega);unfold uD pt at ENX;have e1v:(bV cs (Ed (iT cs i u))).1=v:=hv;obtain⟨⟨ex,ex1,ex2,ex3⟩,hex⟩:∃x,bV cs (Ed (iT cs i u))=x:=⟨_,rfl⟩;rw[hex]at ENX e1v;simp only at ENX e1v;subst e1v;have ENX:=aA ENX;have C69:Ch (fun k=>k=bN\/k=bF) w6 w9:=(C7.o.trans C78.o fun j _ s=>.inl s).trans C9.o fun j _ s=>.inr s;have IR9:aZ (∀wq,aO w9.heap.size w9 wq->gH 1 cI 0 wq aL l.length l):=fun wq hb=>by
              have h6:=Dz OL6.o C69 fun g s=>by
               rcases s with s|s
               ·subst s;exact⟨_,_,RS6.o.nx,by decide⟩
               ·subst s;exact⟨_,_,RS6.o.fl,by decide⟩
              obtain⟨a',c',e',_,hr',_⟩:=ic (d:=(0:Int)) rZ (by decide) (fT h6 (Ch.dw (S:=fun _=>False) hb) fun _ _ s=>s);injection e' with e';subst e';exact hr'
             have i0:(0:Int)<=(i:Int):=(by omega);have hge:decide ((i:Int)≥0)=true:=decide_eq_true (by omega);rw[e1]at krp|-;have agO:=aA FLP;have LVL:=LPU.o;by_cases hlv:0<=l.getD ex 0
             ·have FALL:aZ (kv (!Gc l ex u)=.bool (qN cs l u p)):=by rw[aZ,EVF,decide_eq_true hlv,decide_eq_true LVL];simp
              have UPW:aZ (∀wq,aO w9.heap.size w9 wq->di aH 90 #[.agg #[ay An ns.length cn,ay Ac cs.length cc],.agg #[ay aL l.length cL],ah ag (i:Int),ah ag (ex:Int)] wq.drew fun e w'=>e=ax (.tuple #[.bool (Gc l ex u),ah ag 0])/\aO w9.heap.size w9 w'):=fun wq hb=>(by have B:=B9W.o.trans (hb.mono B9W.o.size);exact(Zk ns cs l An Ac aL cn cc cL i ex u wq.drew agV.out hi agO.out.2.1 agO.out.1 ult hlv LVL HWF.o (LU.o.lv.wf (by omega)) (HIP.o.below (aC _) B.drew) (IR9.o _ hb.drew)).mono fun e w' k=>⟨k.1,hb.drew.trans (k.2.mono hb.drew.size)⟩);generalize iT cs i u=ch at *;generalize Ed ch=fc at *;generalize Gc l ex u=ub at *;clear rP hex hv EVF htu hi FLP S9;go_wp2_with (first
               |(go_at_call 65;(with_reducible refine(CH.o _ (aS _ _)).mono ?_);rintro e wq ⟨rfl,rfl⟩)
               |(go_at_call 53;(with_reducible refine ENX.o.mono ?_);rintro e vz ⟨rfl,hb⟩;have B10:aZ (aO w9.heap.size w9 vz):=(show aO w9.heap.size w9 vz from⟨hb.os,hb.tape,hb.output,hb.size,hb.block⟩);clear hb))
              have U10:=UPW.o vz B10.o;have akZ:=aA U10;have K10:=aA (KC9.o vz B10.o);clear U10;go_region_held3 (fun wq=>wq.cell? ⟨b,0,aj⟩=az (ay An ns.length cn)/\wq.cell? ⟨b,1,aj⟩=az (ay Ac cs.length cc)/\wq.cell? ⟨bO,0,aj⟩=az (ay aL l.length cL))
               (first|exact K10.o|exact KC9.o _ B11.o)
               (first|(go_at_call 90;(with_reducible refine akZ.out.mono ?_);rintro e Zm ⟨rfl,hb⟩;have B11:aZ (aO w9.heap.size w9 Zm):=(show aO w9.heap.size w9 Zm from⟨hb.os,hb.tape,hb.output,hb.size,hb.block⟩);clear hb))
              go_wp2_with fail;go_meet
              case rel=>exact⟨FALL.o,B11.o⟩
             ·have FALL:aZ (kv false=.bool (qN cs l u p)):=by rw[aZ,EVF,decide_eq_false hlv];simp
              have UPW:aZ (∀wq,aO w9.heap.size w9 wq->di aH 90 #[.agg #[ay An ns.length cn,ay Ac cs.length cc],.agg #[ay aL l.length cL],ah ag (i:Int),ah ag (ex:Int)] wq.drew fun e w'=>(∃c:Int,c≠0/\e=ax (.tuple #[.bool false,ah ag c]))/\aO w9.heap.size w9 w'):=fun wq hb=>(by have B:=B9W.o.trans (hb.mono B9W.o.size);exact(Zl ns cs l An Ac aL cn cc cL i ex u wq.drew agV.out hi agO.out.2.1 agO.out.1 ult (.inl (by omega)) HWF.o (LU.o.lv.wf (by omega)) (HIP.o.below (aC _) B.drew) (IR9.o _ hb.drew)).mono fun e w' k=>⟨k.1,hb.drew.trans (k.2.mono hb.drew.size)⟩);generalize iT cs i u=ch at *;generalize Ed ch=fc at *;clear rP hex hv EVF htu hi FLP S9;go_wp2_with (first
               |(go_at_call 65;(with_reducible refine(CH.o _ (aS _ _)).mono ?_);rintro e wq ⟨rfl,rfl⟩)
               |(go_at_call 53;(with_reducible refine ENX.o.mono ?_);rintro e vz ⟨rfl,hb⟩;have B10:aZ (aO w9.heap.size w9 vz):=(show aO w9.heap.size w9 vz from⟨hb.os,hb.tape,hb.output,hb.size,hb.block⟩);clear hb))
              have U10:=UPW.o vz B10.o;have akZ:=aA U10;have K10:=aA (KC9.o vz B10.o);clear U10;go_region_held3 (fun wq=>wq.cell? ⟨b,0,aj⟩=az (ay An ns.length cn)/\wq.cell? ⟨b,1,aj⟩=az (ay Ac cs.length cc)/\wq.cell? ⟨bO,0,aj⟩=az (ay aL l.length cL))
               (first|exact K10.o|exact KC9.o _ B11.o)
               (first|(go_at_call 90;(with_reducible refine akZ.out.mono ?_);rintro e Zm ⟨⟨ec,hec,rfl⟩,hb⟩;have aHL:(ec==0)=false:=beq_eq_false_iff_ne.2 hec;have B11:aZ (aO w9.heap.size w9 Zm):=(show aO w9.heap.size w9 Zm from⟨hb.os,hb.tape,hb.output,hb.size,hb.block⟩);clear hb))
              go_wp2_with fail;go_meet
              case rel=>exact⟨FALL.o,B11.o⟩
          case rest=>
           as_aux_lemma=>
            obtain⟨rfl,hBx⟩:=hcut;obtain⟨vz,rfl⟩:∃vz:aG,vz=wc:=⟨_,rfl⟩;have B10:=aA hBx;obtain⟨aV,kV,eV⟩:=dX F9.o;subst eV;obtain⟨fl,hfl⟩:∃fl,qN cs l u p=fl:=⟨_,rfl⟩;have adq:aZ (dG vz bF 52 ((aN ns.length).map fun i=>if i=u then ay aV p kV else U' i).toArray):=FB9.o.below hBx FB9.o.lt;have nBR:¬bR=bF:=dG.sZ WW.o.r WW.o.fl (by decide);have BR9:aZ (dG w9 bR 97 #[ay (az ⟨bN,0,aj⟩) ns.length ns.length,ay (az ⟨bF,0,aj⟩) ns.length ns.length]):=dG.ch (S:=fun k=>k=bF) WW.o.r C9.o nBR;have akq:aZ (dG vz bR 97 #[ay (az ⟨bN,0,aj⟩) ns.length ns.length,ay (az ⟨bF,0,aj⟩) ns.length ns.length]):=BR9.o.below hBx BR9.o.lt;have F10:aZ (vz.ownsRow w8.heap.size 4 1 (ay aV p kV) p ((aN p).map fun p=>.bool (qN cs l u p))):=fT F9.o (Ch.dw (S:=fun _=>False) hBx) fun _ _ s=>s;have C10:aZ (Ch (fun k=>k=bF) w8 vz):=C9.o.sH hBx;have r1:vz.cell? ⟨bR,1,aj⟩=az (ay (az ⟨bF,0,aj⟩) ns.length ns.length):=akq.out.cell 1;have fu:vz.cell? ⟨bF,u,aj⟩=az (ay aV p kV):=(by rw[adq.out.cell,dJ,cK,eu ult];simp);have KS:aZ (∀wq,Ch (fun k=>(ay aV p kV).ownBlock=az k) vz wq->(fun wq=>wq.cell? ⟨bR,1,aj⟩=az (ay (az ⟨bF,0,aj⟩) ns.length ns.length)/\wq.cell? ⟨bF,u,aj⟩=az (ay aV p kV)) wq/\wq.frozen? ⟨bF,u,aj⟩=false):=fun wq hq=>(by have nb:∀{g:Nat} {t:dP} {C:Array aJ},dG vz g t C->t≠4->¬(ay aV p kV).ownBlock=az g:=fun{g t C} hb ht e=>(by obtain⟨C',tq⟩:=kY F10.o _ e;exact ht (dG.same hb tq).1);have h1:=akq.out.ch hq (nb akq.out (by decide));have h2:=adq.out.ch hq (nb adq.out (by decide));exact⟨⟨h1.cell 1,by rw[h2.cell,dJ,cK,eu ult];simp⟩,h2.frozen u⟩);have jm:aZ (∀v' w',w'.ownsRow w8.heap.size 4 1 v' (p+1) (((aN p).map fun p=>.bool (qN cs l u p))++[.bool fl])->(vz.alloc (af #[.bool fl] 4)).grownBy w' (ay aV p kV).ownBlock->Xl ns cs w8 bF u np U' l (ah ag ((p:Int)+1)) (w'.setCell ⟨bF,u,aj⟩ v')):=fun v' w' ho hg=>by
             have hc:Ch (fun k=>(ay aV p kV).ownBlock=az k) vz w':=((Ch.refl _ vz).alloc _).grown hg fun g e=>.inl e;have nbF:¬(ay aV p kV).ownBlock=az bF:=fun e=>(by obtain⟨C',tq⟩:=kY F10.o _ e;exact dG.sZ adq.out tq (by decide) rfl);have h2:=adq.out.ch hc nbF;refine⟨p+1,v',by omega,by congr 1,?_,?_,?_⟩
             ·rw[dL,fF];have ho':=ho;rw[<-hfl]at ho';refine nK ho' (p:=⟨bF,u,aj⟩) _ fun g uz e=>?_;obtain⟨C',tq⟩:=kY ho g uz;subst e;exact dG.sZ h2 tq (by decide) rfl
             ·have h3:=h2.jy u v';rw[gI,Qc]at h3;have e:((aN ns.length).map fun i=>if i=u then v' else if i=u then ay aV p kV else U' i)=(aN ns.length).map fun i=>if i=u then v' else U' i:=gm fun i _=>by
               by_cases e:i=u
               ·rw[if_pos e,if_pos e]
               ·rw[if_neg e,if_neg e,if_neg e]
              rw[e]at h3;exact h3
             ·exact(C10.o.trans hc fun i hi s=>by have:=(F10.o.lt i s).1;omega).setCell (p:=⟨bF,u,aj⟩) (.inl rfl) _
            obtain⟨i0,hi0,hx0,hx1,hx2⟩:=eQ FO;have RN:aZ (Reads (vz.alloc (af #[.bool fl] 4)).drew (vz.heap.size+1) 1 (az ⟨vz.heap.size,0,aj⟩) 1 [.bool fl]):=(iE vz 4 [.bool fl] (n:=1) (size:=1) rfl).drew;have OW:aZ ((vz.alloc (af #[.bool fl] 4)).drew.ownsRow w8.heap.size 4 1 (ay aV p kV) p ((aN p).map fun p=>.bool (qN cs l u p))):=F10.o.alloc (af #[.bool fl] 4);have SZ:aZ (w8.heap.size<=vz.heap.size):=C10.o.size;have KK:aZ ((fun wq=>wq.cell? ⟨bR,1,aj⟩=az (ay (az ⟨bF,0,aj⟩) ns.length ns.length)/\wq.cell? ⟨bF,u,aj⟩=az (ay aV p kV)) vz.drew):=⟨r1,fu⟩;rw[hfl];clear hfl hBx r1 fu krp bo9 a0 a1;go_wp2_with fail;refine fZ 12 (fun wq=>wq.cell? ⟨bR,1,aj⟩=az (ay (az ⟨bF,0,aj⟩) ns.length ns.length)/\wq.cell? ⟨bF,u,aj⟩=az (ay aV p kV)) (by kernel_rfl) KK.o (fun aW=>?_);refine bH.tk 0 aW ?_;try simp only[bI]
            refine bH.tk 1 aW ?_;try simp only[bI]
            refine bH.tk 2 aW ?_;try simp only[bI]
            refine bH.tk 3 aW ?_;try simp only[bI]
            refine bH.tk 4 aW ?_;try simp only[bI]
            refine bH.tk 5 aW ?_;try simp only[bI]
            refine bH.tk 6 aW ?_;try simp only[bI]
            refine bH.tk 7 aW ?_;try simp only[bI]
            refine bH.tk 8 aW ?_;try simp only[bI]
            refine bH.one (i:=9) (by kernel_rfl) rfl (fun K hK=>?_);go_simp;refine hK.out _ _ (fun _=>(KS.o _ ((Ch.refl _ _).alloc _).drew).1) (fun bU=>?_);have aW:=bU (by decide);clear hK bU;try simp only[bI]
            refine bH.one (i:=10) (by kernel_rfl) rfl (fun K hK=>?_);refine gy _ (by rfl) (.tmp 139) (.tmp 141) 52 (by rfl) w8.heap.size 4 i0 _ 1 1 underlying52 hi0 hx0 hx1 hx2 rfl (by decide) _ _ _ (by rfl) OW.o _ (az ⟨vz.heap.size,0,aj⟩) 1 1 [.bool fl] (by rfl) RN.o ?_ ?_ ?_ ?_ ?_
            ·intro u hu;simp only[dM,dZ,or_false]at hu;subst hu;rfl
            ·unfold maxLen;omega
            ·omega
            ·have:=SZ.o;exact eY this ((Ch.refl (fun _=>False) vz).alloc _).drew.size
            intro v5 w12 uL zW Dw;have Cu:(vz.alloc (af #[.bool fl] 4)).grownBy w12 (ay aV p kV).ownBlock:=⟨zW.os,zW.tape,zW.output,zW.size,zW.block⟩;have R0:=jm.out v5 w12 uL Cu;obtain⟨a5,c5,e5⟩:=dX uL;subst e5;have R:=aA R0;clear R0;obtain⟨k16,aIq⟩:=KS.o w12 ((((Ch.refl _ vz).alloc _).grown Cu fun g hg=>.inl hg));have aIp:=k16.2;clear uL zW Cu Dw;refine hK.out _ _ (fun _=>k16) (fun bU=>?_);have aW:=bU (by decide);clear hK bU;try simp only[bI]
            clear k16;refine bH.tk 11 aW ?_;try simp only[bI]
            refine bH.one (i:=12) (by kernel_rfl) rfl (fun K hK=>?_);go_simp;refine hK.out _ _ (fun h=>absurd rfl h) (fun _=>?_);clear hK;refine bH.done (by kernel_rfl) ?_ _;try simp only[bI]
            go_wp2_with fail;exact⟨R.o,by simp[aK];omega⟩
         ·obtain rfl:np=p:=by omega
          have R:aZ (Tx ns cs w.heap.size w6 bR bN bF m PS P LV GG l G1 (ah ag ((q:Int)+1)) w9):=
           amW RS7.o WW.o (fun x p' hx=>by rw[mY _ _ (by omega),mY _ _ (by omega)]) C7.o C78.o C9.o FB9.o F9.o ROWS.o RO7.o RQ7.o U7.o HPU.o DJ.o UNW.o HNP.o (by omega) B8W.o.size
          clear RO7 RQ7 U7;go_wp2_with fail;exact⟨R.o,by simp[aK];omega⟩
       ·obtain rfl:P.length=q:=by omega
        have R:aZ (Tw ns cs f.up w.heap.size w2 bR bN bF PS (ah ag ((m:Int)+1)) w7):=aiw RS7.o NM.o apc.out PD.o RO7.o RQ7.o U7.o (C26.o.trans C7.o fun i _ s=>s) hmn;clear Yp hRo hRq hU hC RO7 RQ7 U7;go_wp2_with fail;exact⟨R.o,by simp[aK];omega⟩
   ·obtain rfl:PS.length=m:=by omega
    obtain⟨w7,rfl⟩:∃w7:aG,w7=wr:=⟨_,rfl⟩;obtain⟨B7,_⟩:=KL.o w7 CM.o;have B7W:=aA B7;have RT7:aZ (dG w7 b 100 (BU f L)):=HH.o.root.below B7 HH.o.root.lt;have l11:w7.cell? ⟨b,11,aj⟩=az (au (az ⟨L.bk,0,aj⟩)):=RT7.o.cell 11;have KK:aZ ((fun wq=>wq.cell? ⟨b,11,aj⟩=az (au (az ⟨L.bk,0,aj⟩))/\wq.cell? ⟨bR,0,aj⟩=az (ay (az ⟨bN,0,aj⟩) ns.length ns.length)/\wq.cell? ⟨bR,1,aj⟩=az (ay (az ⟨bF,0,aj⟩) ns.length ns.length)) w7.drew):=⟨l11,RSM.o.r.cell 0,RSM.o.r.cell 1⟩;have BK7:Bk w7.drew L.bk f.dE f.wQ f.vJ:=dG.below HB.o B7.drew HH.o.bkL;have NOW:=aA (Oj L.bk f.dE f.wQ f.vJ w7.drew BK7);have ENT:=enters_of (P:=aH) func47 (by kernel_rfl) rfl;clear B7 BK7 l11;rcases(show f.dE%2=0\/f.dE%2=1 by omega)with hq|hq
    ·have hm:(f.dE:Int)%2=0:=by omega
     have htm:(f.dE:Int).tmod 2=0:=(by rw[pg (by omega)];exact hm);have jm:=aA (afP HH.o HB.o HR0.o HR1.o hq B7W.o RSM.o PI.o NM.o ROM.o);have fz0:w7.frozen? ⟨b,7,aj⟩=false:=RT7.o.frozen _;have fz1:w7.frozen? ⟨b,8,aj⟩=false:=RT7.o.frozen _;have cc0:w7.cell? ⟨b,7,aj⟩=az L.r0n:=RT7.o.cell _;have cc1:w7.cell? ⟨b,8,aj⟩=az L.r0f:=RT7.o.cell _;clear hq;go_wp2_with fail;refine fZ 11 (fun wq=>wq.cell? ⟨b,11,aj⟩=az (au (az ⟨L.bk,0,aj⟩))/\wq.cell? ⟨bR,0,aj⟩=az (ay (az ⟨bN,0,aj⟩) ns.length ns.length)/\wq.cell? ⟨bR,1,aj⟩=az (ay (az ⟨bF,0,aj⟩) ns.length ns.length)) (by kernel_rfl) KK.o (fun aW=>?_);refine bH.tk 0 aW ?_;try simp only[bI]
     refine bH.tk 1 aW ?_;try simp only[bI]
     refine bH.tk 2 aW ?_;try simp only[bI]
     refine bH.tk 3 aW ?_;try simp only[bI]
     refine bH.tk 4 aW ?_;try simp only[bI]
     refine bH.tk 7 aW ?_;try simp only[bI]
     refine bH.tk 8 aW ?_;try simp only[bI]
     refine bH.tk 9 aW ?_;try simp only[bI]
     refine bH.one (i:=5) (by kernel_rfl) rfl (fun K hK=>?_);refine xM (by rfl) ENT (by rfl) (by rfl) NOW.o ?_;rintro e wq ⟨rfl,rfl⟩;refine⟨_,rfl,?_⟩;refine hK.out _ _ (fun _=>KK.o) (fun bU=>?_);have aW:=bU (by decide);clear hK bU;try simp only[bI]
     refine bH.tk 6 aW ?_;try simp only[bI]
     refine bH.tk 10 aW ?_;try simp only[bI]
     refine bH.one (i:=11) (by kernel_rfl) rfl (fun K hK=>?_);go_simp;refine hK.out _ _ (fun h=>absurd rfl h) (fun _=>?_);clear hK;refine bH.done (by kernel_rfl) ?_ _;try simp only[bI]
     go_wp2_with fail;refine bodyPost_end (results_none rfl _ _ _) rfl ⟨rfl,?_⟩
     obtain⟨r,h1,dV,L',h2,h3⟩:=jm.out;exact⟨r,h1,dV,L',h2.drew,h3.drew⟩
    ·have hm:(f.dE:Int)%2=1:=by omega
     have htm:(f.dE:Int).tmod 2=1:=(by rw[pg (by omega)];exact hm);have jm:=aA (afP HH.o HB.o HR0.o HR1.o hq B7W.o RSM.o PI.o NM.o ROM.o);have fz0:w7.frozen? ⟨b,9,aj⟩=false:=RT7.o.frozen _;have fz1:w7.frozen? ⟨b,10,aj⟩=false:=RT7.o.frozen _;have cc0:w7.cell? ⟨b,9,aj⟩=az L.r1n:=RT7.o.cell _;have cc1:w7.cell? ⟨b,10,aj⟩=az L.r1f:=RT7.o.cell _;clear hq;go_wp2_with fail;refine fZ 11 (fun wq=>wq.cell? ⟨b,11,aj⟩=az (au (az ⟨L.bk,0,aj⟩))/\wq.cell? ⟨bR,0,aj⟩=az (ay (az ⟨bN,0,aj⟩) ns.length ns.length)/\wq.cell? ⟨bR,1,aj⟩=az (ay (az ⟨bF,0,aj⟩) ns.length ns.length)) (by kernel_rfl) KK.o (fun aW=>?_);refine bH.tk 0 aW ?_;try simp only[bI]
     refine bH.tk 1 aW ?_;try simp only[bI]
     refine bH.tk 2 aW ?_;try simp only[bI]
     refine bH.tk 3 aW ?_;try simp only[bI]
     refine bH.tk 4 aW ?_;try simp only[bI]
     refine bH.tk 7 aW ?_;try simp only[bI]
     refine bH.tk 8 aW ?_;try simp only[bI]
     refine bH.tk 9 aW ?_;try simp only[bI]
     refine bH.one (i:=5) (by kernel_rfl) rfl (fun K hK=>?_);refine xM (by rfl) ENT (by rfl) (by rfl) NOW.o ?_;rintro e wq ⟨rfl,rfl⟩;refine⟨_,rfl,?_⟩;refine hK.out _ _ (fun _=>KK.o) (fun bU=>?_);have aW:=bU (by decide);clear hK bU;try simp only[bI]
     refine bH.tk 6 aW ?_;try simp only[bI]
     refine bH.tk 10 aW ?_;try simp only[bI]
     refine bH.one (i:=11) (by kernel_rfl) rfl (fun K hK=>?_);go_simp;refine hK.out _ _ (fun h=>absurd rfl h) (fun _=>?_);clear hK;refine bH.done (by kernel_rfl) ?_ _;try simp only[bI]
     go_wp2_with fail;refine bodyPost_end (results_none rfl _ _ _) rfl ⟨rfl,?_⟩
     obtain⟨r,h1,dV,L',h2,h3⟩:=jm.out;exact⟨r,h1,dV,L',h2.drew,h3.drew⟩
end
section
open Go.RowKit Go.Maps
def Zn(w:aG)(g:Nat)(f:dB)(e:Ending)(w':aG):Prop:=
 (f.mJ=true/\e=ax (ah ag 0)/\w'=w.setCell ⟨g,0,aj⟩ (ah ag ((f.dE:Int)+1)))\/(f.mJ=false/\e=ax (ah ag 6)/\w'=w)
theorem aen(g:Nat)(f:dB)(w:aG)(h:Bk w g f.dE f.wQ f.vJ)(h0:0<=f.wQ)(h1:0<=f.vJ)(hb:f.dE<=1000000000):di aH 52 #[pt g] w (Zn w g f):=by
 have e1:=Cr f ((f.dE:Int)-1);have n0:0<=f.alive ((f.dE:Int)-1):=by
  unfold dB.alive;split
  ·omega
  ·split<;>assumption
 by_cases q:f.alive ((f.dE:Int)-1)=0
 ·refine(Xw g f.dE f.wQ f.vJ w h (by omega) (by omega) (by rw[<-e1];exact q)).mono ?_;rintro r w' ⟨rfl,rfl⟩;exact .inl ⟨by unfold dB.mJ;rw[q];rfl,rfl,rfl⟩
 ·refine(QQ g f.dE f.wQ f.vJ w h (by omega) (by omega) (by rw[<-e1];omega)).mono ?_;rintro r w' ⟨rfl,rfl⟩;exact .inr ⟨by unfold dB.mJ;exact decide_eq_false (by omega),rfl,rfl⟩
section
variable{Z dV:Own}{w w':aG}{b:Nat}{ns:List Nd}{cs:List Cb}{f f':dB}{L L':rY}
theorem gz.ayZ(h:gz Z w b ns cs f L):w.frozen? ⟨b,13,aj⟩=false/\w.cell? ⟨b,13,aj⟩=az (ah ag f.now)/\gz Z (w.setCell ⟨b,13,aj⟩ (ah ag ((f.now:Int)+1))) b ns cs f.xI L/\qA Z w Z (w.setCell ⟨b,13,aj⟩ (ah ag ((f.now:Int)+1))):=by have c1:Ch (· =b) w (w.setCell ⟨b,13,aj⟩ (ah ag ((f.now:Int)+1))):=(Ch.refl (· =b) w).setCell (p:=⟨b,13,aj⟩) (.inl rfl) _;have b2:=h.root.1.jy 13 (ah ag ((f.now:Int)+1));have g:=h.Rf (fun k=>k=0) (dV:=Z) c1 (fun _ _=>rfl) fun k s=>.inr (by rw[s,h.root.2];exact⟨rfl,rfl⟩);refine⟨h.root.1.frozen 13,by have:=h.root.1.cell 13;rw[this];rfl,⟨⟨b2,g.iO.1⟩,g.plan,g.aI,g.xP,g.Kc,g.bx,g.up (by decide),g.r0,g.r1,⟨g.bk (by decide),g.IZ⟩,⟨g.fl (by decide) (by decide),g.ZM⟩,⟨g.lim (by decide) (by decide),g.Kw⟩,g.came (by decide),g.gone (by decide),g.lost (by decide)⟩,⟨c1.mono fun k _ s=>?_,fun _ _=>rfl⟩⟩;rw[s,h.root.2];exact aC 2
theorem gz.awR(h:gz Z w b ns cs f L)(w1:aG)(hw:w1=w.setCell ⟨L.bk,0,aj⟩ (ah ag ((f.dE:Int)+1))):w1.frozen? ⟨b,12,aj⟩=false/\w1.cell? ⟨b,12,aj⟩=az (.bool f.mW)/\Hd Z (w1.setCell ⟨b,12,aj⟩ (.bool false)) b ns cs {f with mW:=false,dE:=f.dE+1} L/\Bk (w1.setCell ⟨b,12,aj⟩ (.bool false)) L.bk ((f.dE+1:Nat):Int) f.wQ f.vJ/\Uv Z (w1.setCell ⟨b,12,aj⟩ (.bool false)) ns L.r0n L.r0f f.CR/\(0<f.dE->Uv Z (w1.setCell ⟨b,12,aj⟩ (.bool false)) ns L.r1n L.r1f f.JH)/\qA Z w Z (w1.setCell ⟨b,12,aj⟩ (.bool false)):=by
 have c1:Ch (fun k=>k=L.bk) w w1:=by rw[hw];exact(Ch.refl (fun k=>k=L.bk) w).setCell (p:=⟨L.bk,0,aj⟩) (.inl rfl) _
 have nb:¬b=L.bk:=fun q=>by have:=h.root.2;rw[q,h.bk.2]at this;simp at this
 have b1:dG w1 b 100 (BU f L):=h.root.1.ch c1 nb;have c2:Ch (fun k=>k=b\/k=L.bk) w (w1.setCell ⟨b,12,aj⟩ (.bool false)):=(c1.mono fun k _ q=>.inr q).setCell (p:=⟨b,12,aj⟩) (.inl (.inl rfl)) _;have b2:=b1.jy 12 (.bool false);have k1:Bk w1 L.bk ((f.dE:Int)+1) f.wQ f.vJ:=by rw[hw];exact h.bk.1.acG _
 have k2:Bk (w1.setCell ⟨b,12,aj⟩ (.bool false)) L.bk ((f.dE:Int)+1) f.wQ f.vJ:=dG.ch k1 ((Ch.refl (fun k=>k=b) w1).setCell (p:=⟨b,12,aj⟩) (.inl rfl) _) fun q=>nb q.symm;have g:=h.Rf (fun k=>k=0\/k=2) (dV:=Z) c2 (fun _ _=>rfl) fun k s=>.inr (by
  rcases s with s|s
  ·rw[s,h.root.2];exact⟨rfl,.inl rfl⟩
  ·rw[s,h.bk.2];exact⟨rfl,.inr rfl⟩)
 refine⟨b1.frozen 12,by have:=b1.cell 12;rw[this];rfl,⟨b2,g.iO.1,g.plan,g.aI,g.xP,g.Kc,g.bx,g.up (by decide),g.IZ,dG.lt k2,⟨g.fl (by decide) (by decide),g.ZM⟩,⟨g.lim (by decide) (by decide),g.Kw⟩,g.came (by decide),g.gone (by decide),g.lost (by decide)⟩,k2,g.r0,g.r1,⟨c2.mono fun k _ s=>?_,fun _ _=>rfl⟩⟩;rcases s with s|s
 ·rw[s,h.root.2];exact aC 2
 ·rw[s,h.bk.2];exact aC 2
end
theorem gz.ahV{Z:Own}{w:aG}{b:Nat}{ns:List Nd}{cs:List Cb}{f:dB}{L:rY}(h:gz Z w b ns cs f L)(now:Nat)(hn:now<=900000000):∃v:aJ,(∀wq,Ch (fun _=>False) w wq->(Instr.lookup 91 (.map (az L.ml)) (ah ag now) false).run aH wq=.ok v wq)/\JU w v (f.lim now)/\∀g,v.ownBlock=az g->Z g=(2,6,now,0):=by obtain⟨n,M,om,_,nm,tg,_⟩:=h.ajM now;exact⟨pM M now,fun wq hq=>(ny om hq id).look (t:=91) (int_keyed underlying3) underlying91 (Gd _) (keyOf_int_mk underlying3 (pO (now:Int) (by omega) (by omega))),nm,tg⟩
structure FNb(Z:Own)(w:aG)(dV:Own)(w':aG):Prop where
 ch:Ch (fun k=>3<=(Z k).1) w w'
 ext:∀k,k<w.heap.size->dV k=Z k
theorem FNb.x{Z dV:Own}{w w':aG}(h:FNb Z w dV w'):qA Z w dV w':=⟨h.ch.mono fun k _ s=>eY (by decide) s,h.ext⟩
theorem FNb.trans{Z dV Gf:Own}{w w' w'':aG}(h:FNb Z w dV w')(k:FNb dV w' Gf w''):FNb Z w Gf w'':=
 ⟨h.ch.trans k.ch fun i hi s=>by rw[h.ext i hi]at s;exact s,fun i hi=>(k.ext i (bY hi h.ch.size)).trans (h.ext i hi)⟩
theorem FNb.KE{Z dV:Own}{w w':aG}{i:Nat}(h:Nx Z (3+i) w dV w'):FNb Z w dV w':=⟨h.ch.mono fun k _ s=>by omega,h.ext⟩
theorem FNb.cell{Z dV:Own}{w w':aG}(h:FNb Z w dV w'){p:fE}(hp:p.block<w.heap.size)(ht:(Z p.block).1<=2):w'.cell? p=w.cell? p:=h.ch.cell hp fun s=>by omega
end
section
open Go.RowKit Go.Maps
attribute [local go_sem ↓] fM fK
def aee(Z:Own)(w:aG)(b:Nat)(ns:List Nd)(cs:List Cb)(f:dB)(wx:aG):Prop:=
 ∃nr,AV ns cs nr/\((f.mW&&f.mJ)=true->Az ns cs f.up nr)/\∃dV L',gz dV wx b ns cs (f.jk nr) L'/\qA Z w dV wx
theorem aep{f:dB}{nr:Rt}(h:(f.mW&&f.mJ)=false):f.jk nr=f.xI:=by unfold dB.jk;rw[if_neg];intro q;have e:(f.xI.mW&&f.xI.mJ)=(f.mW&&f.mJ):=rfl;rw[e,h]at q;cases q
theorem aeq{f:dB}{nr:Rt}(h:(f.mW&&f.mJ)=true):f.jk nr=({f.xI with mW:=false,dE:=f.dE+1}:dB).Jv ((f.dE+1)%2) nr:=by unfold dB.jk;rw[if_pos (show(f.xI.mW&&f.xI.mJ)=true from h)];rfl
def adV(Z:Own)(w:aG)(b:Nat)(ns:List Nd)(cs:List Cb)(L:rY)(g:dB)(l:List (Nat×Nat×Int))(i:aJ)(wr:aG):Prop:=
 ∃k:Nat,k<=l.length/\i=ah ag k/\∃dV L',gz dV wr b ns cs ((l.take k).foldl (dB.jh cs) g) L'/\FNb Z w dV wr/\L'.ml=L.ml
def UQ(Z:Own)(w:aG)(b:Nat)(ns:List Nd)(cs:List Cb)(f:dB)(e:Ending)(w':aG):Prop:=
 ∃nr,AV ns cs nr/\((f.mW&&f.mJ)=true->Az ns cs f.up nr)/\∃v,e=ax v/\∃dV L',gz dV w' b ns cs (f.tick ns cs nr).1 L'/\qA Z w dV w'/\Aw dV w.heap.size w' v (f.tick ns cs nr).2
theorem RZ(f:dB)(N:Nat)(b:Nat)(ns:List Nd)(cs:List Cb)(L:rY)(Z:Own)(w:aG)(h:gz Z w b ns cs f L)(hp:nW ns cs)(qX:dH ns cs f N)(hfl:yJ cs f)(Mf:cs.length<=10)(hv:fQ ⟨ns,cs⟩=0)(sN:QJ ⟨ns,cs⟩)(yS:f.up.length=cs.length)(hN:N<=600000000):di aH 15 #[pt b] w (UQ Z w b ns cs f):=by
 have hbn:f.dE<=900000000:=by have:=qX.bn;have:=qX.now;omega
 have ayg:f.now<=800000000:=by have:=qX.now;omega
 have hwr:wrap64 ((f.now:Int)+1)=(f.now:Int)+1:=by unfold wrap64;omega
 obtain⟨f13,c13,mN,nN⟩:=h.ayZ;obtain⟨w1,gK⟩:∃w1:aG,w.setCell ⟨b,13,aj⟩ (ah ag ((f.now:Int)+1))=w1:=⟨_,rfl⟩;rw[gK]at mN nN;have c12:w1.cell? ⟨b,12,aj⟩=az (.bool f.mW):=mN.xu;have c11:w1.cell? ⟨b,11,aj⟩=az (au (az ⟨L.bk,0,aj⟩)):=mN.xu;have MN:=aA mN;have NN:=aA nN;have OK:=aA qX;have PL:=aA hp;have HV:=aA hv;have HW:=aA sN;have FL:=aA hfl;have HCS:=aA Mf;have HN:=aA hN;have HUP:=aA yS;clear h hp qX hfl Mf hv sN yS hN mN nN;unfold pt;go_enter func15,ntmps15;have NOT:aZ ((f.mW&&f.mJ)=false->aee Z w b ns cs f w1):=fun q=>⟨f.CR,OK.o.r0,fun e=>(by rw[q]at e;cases e),Z,L,by rw[aep q];exact MN.o,NN.o⟩;have ADV:aZ (di aH 52 #[pt L.bk] w1 (Zn w1 L.bk f.xI)):=aen L.bk f.xI w1 MN.o.bk.1 OK.o.a0.1 OK.o.a1.1 (by show f.dE<=_;omega);have YES:aZ ((f.mW&&f.mJ)=true->∀w2,w2=w1.setCell ⟨L.bk,0,aj⟩ (ah ag ((f.dE:Int)+1))->w2.frozen? ⟨b,12,aj⟩=false/\w2.cell? ⟨b,12,aj⟩=az (.bool f.mW)/\di aH 42 #[pt b] (w2.setCell ⟨b,12,aj⟩ (.bool false)) fun e w'=>e=ax (.tuple #[])/\aee Z w b ns cs f w'):=fun q w2 Lp=>by
  obtain⟨a1,a2,a3,a4,a5,a6,a7⟩:=MN.o.awR w2 Lp;refine⟨a1,a2,?_⟩;refine(Km _ b ns cs L Z _ a3 a4 (fun _=>a5) (fun e1 e2=>?_) PL.o HV.o HW.o HUP.o (by show f.dE+1<=_;omega)).mono ?_
  ·exact a6 (by have e1:(f.dE+1)%2=0:=e1;show 0<f.dE;omega)
  ·rintro e w' ⟨rfl,r,hr,dV,L',m,n⟩;have ro:AV ns cs r:=by obtain⟨PS,LL,G,hn⟩:=hr;exact hn.ok HV.o
   exact⟨rfl,r,ro,fun _=>hr,dV,L',by rw[aeq q];exact m,(NN.o.trans a7).trans n⟩
 unfold pt at ADV YES;go_upto_region 4 with fail;go_cut [30]from 19 to 29 (fun s30 wx=>s30=.bool (f.mW&&f.mJ)/\((f.mW&&f.mJ)=false->w1=wx)/\((f.mW&&f.mJ)=true->wx=w1.setCell ⟨L.bk,0,aj⟩ (ah ag ((f.dE:Int)+1))));case first=>
  as_aux_lemma=>
   clear NOT YES MN NN OK PL HV HW FL HCS HN HUP;cases hpd:f.mW with
   |false=>rw[hpd]at c12;go_wp2_with fail;go_meet;case rel=>exact⟨by rw[hpd];rfl,fun _=>rfl,fun e=>(by rw[hpd]at e;cases e)⟩
   |true=>
    rw[hpd]at c12;cases hm:f.mJ with
    |false=>
     have AD:aZ (di aH 52 #[au (az ⟨L.bk,0,aj⟩)] w1 fun e w'=>e=ax (ah ag 6)/\w1=w'):=ADV.o.mono fun e w' q=>by
      rcases q with⟨q,_,_⟩|⟨_,q1,q2⟩
      ·rw[show f.xI.mJ=f.mJ from rfl,hm]at q;cases q
      ·exact⟨q1,q2.symm⟩
     clear ADV;go_wp2_with (first|(go_at_call 52;refine AD.o.mono ?_;rintro e w' ⟨rfl,rfl⟩));go_meet;case rel=>exact⟨by rw[hpd,hm];rfl,fun _=>rfl,fun e=>(by rw[hpd,hm]at e;cases e)⟩
    |true=>
     have AD:aZ (di aH 52 #[au (az ⟨L.bk,0,aj⟩)] w1 fun e w'=>e=ax (ah ag 0)/\w'=w1.setCell ⟨L.bk,0,aj⟩ (ah ag ((f.dE:Int)+1))):=ADV.o.mono fun e w' q=>by
      rcases q with⟨_,q1,q2⟩|⟨q,_,_⟩
      ·exact⟨q1,q2⟩
      ·rw[show f.xI.mJ=f.mJ from rfl,hm]at q;cases q
     clear ADV;go_wp2_with (first|(go_at_call 52;refine AD.o.mono ?_;rintro e w2 ⟨rfl,Lp⟩;have HW2:=aA Lp;clear Lp));go_meet;case rel=>exact⟨by rw[hpd,hm];rfl,fun e=>(by rw[hpd,hm]at e;cases e),fun _=>HW2.o⟩
 case rest=>
  obtain⟨rfl,hA0,hB0⟩:=hcut;clear ADV;have hA:=aA hA0;have hB:=aA hB0;clear hA0 hB0;obtain⟨w2,rfl⟩:∃w2:aG,w2=wc:=⟨_,rfl⟩;generalize hq:(f.mW&&f.mJ)=q at *;go_upto_if 30 with fail;go_cut [31]from 32 to 35 (fun _ wx=>aee Z w b ns cs f wx);case first=>
   as_aux_lemma=>
    clear MN NN OK PL HV HW FL HCS HN HUP;cases q with
    |false=>have NB:=NOT.o rfl;rw[hA.out rfl]at NB;clear NOT YES;go_wp2_with fail;go_meet;case rel=>exact NB
    |true=>obtain⟨g1,g2,g3⟩:=YES.o rfl w2 (hB.out rfl);have RR:=aA g3;clear NOT YES g3;go_wp2_with (first|(go_at_call 42;refine RR.o.mono ?_;rintro e w4 ⟨rfl,hE⟩;have HE:=aA hE;clear hE));go_meet;case rel=>exact HE.o
  case rest=>
   clear NOT YES hA hB NN MN c12 c11 f13 c13;obtain⟨nr,ro,hnr,vP,L1,m1,n1⟩:=hcut;have E1:=OO f nr;have c16:wc.cell? ⟨b,16,aj⟩=az (.map (az L1.ml)):=m1.xu;obtain⟨T,hT⟩:∃T:Nat,(f.jk nr).now=T:=⟨_,rfl⟩;have c13:wc.cell? ⟨b,13,aj⟩=az (ah ag (T:Int)):=by rw[m1.xu,<-hT];rfl
   obtain⟨v,look,nm,tg⟩:=m1.ahV T (by rw[<-hT,E1.2.1];omega);obtain⟨l,hl⟩:∃l,(f.jk nr).lim T=l:=⟨_,rfl⟩;rw[hl]at nm;have aeR:=look wc.drew ⟨rfl,rfl,rfl,aC _,fun _ _ _=>rfl⟩;have amc:=look wc ⟨rfl,rfl,rfl,aC _,fun _ _ _=>rfl⟩;obtain⟨la,lc,eV⟩:=dX nm;subst eV;have M1:=aA m1;have N1:=aA n1;have NM:=aA nm;have TG:=aA tg;have RO:=aA ro;have HNR:=aA hnr;clear m1 n1 nm tg ro hnr look;go_wp2_with fail;go_region;go_wp2_with fail;have ST:aZ (adV vP wc b ns cs L1 (f.jk nr) l (ah ag 0) wc.drew):=⟨0,bJ _,rfl,vP,L1,M1.o.drew,⟨(Ch.refl _ wc).drew,fun _ _=>rfl⟩,rfl⟩;go_loopw [4,5,6,7,8,46] (fun _ _ _ _ _ i wr=>adV vP wc b ns cs L1 (f.jk nr) l i wr) (fun _ _ _ _ _ i _=>l.length-(aK i).toNat);case atStart=>exact ST.o
   case round=>
    clear ST aeR amc c16 c13;obtain⟨k,hk,rfl,IB,L4,m4,n4,e4⟩:=hrel;have M4:=aA m4;have N4:=aA n4;have BOK:=OK.o.beg RO.o;have LB:∀x∈l,x.1<2*cs.length/\x.2.1<(f.jk nr).aI.length/\0<=x.2.2/\x.2.2<=1000000000000000:=fun x hx=>BOK.lim T x (by rw[hl];exact hx);by_cases hkl:k<l.length
    ·as_aux_lemma=>
     have hwk:wrap64 ((k:Int)+1)=(k:Int)+1:=(by have h1:=OK.o.Ei T;have h2:=HN.o;have h3:l.length<=N:=(by rw[<-hl,E1.2.2.1];exact h1);unfold wrap64;omega);have OG:=dH.wJ PL.o (l.take k) BOK fun x hx=>⟨(LB x (jC hx)).1,(LB x (jC hx)).2.1⟩;obtain⟨g,cap,eg,_,lg,og,cg⟩:=qf (d:=(0,0,0)) (m:=3) (c:=JG) (fun _=>rfl) NM.o rfl hkl;have tgg:=TG.o g og;have Gj:(l.take (k+1)).foldl (dB.jh cs) (f.jk nr)=dB.jh cs ((l.take k).foldl (dB.jh cs) (f.jk nr)) (l.getD k (0,0,0)):=(by rw[List.take_add_one,List.foldl_append];simp[bS,hkl]);have hx:=LB (l.getD k (0,0,0)) (by simp[bS,hkl]);have kc:∀j,j<3->wr.cell? ⟨g,k*3+j,aj⟩=(JG (l.getD k (0,0,0)))[j]?:=fun j hj=>(n4.cell (p:=⟨g,k*3+j,aj⟩) lg (by show(vP g).1<=2;rw[tgg];exact aC 2)).trans (cg k hkl j hj);generalize l.getD k (0,0,0)=x at *;obtain⟨c,xc,xl⟩:=x;simp only at hx;obtain⟨hc,hxc,hl0,hl1⟩:=hx;have m0:=kc 0 (by omega);have m1:=kc 1 (by omega);have m2:=kc 2 (by omega);simp only[JG,Nat.add_zero,List.getElem?_cons_zero,List.getElem?_cons_succ]at m0 m1 m2;obtain⟨G,hG⟩:∃G,(l.take k).foldl (dB.jh cs) (f.jk nr)=G:=⟨_,rfl⟩;rw[hG]at OG Gj M4;have OGH:=aA OG;have k0:(0:Int)<=(k:Int):=(by omega);have k1:(k:Int)<(l.length:Int):=(by omega);obtain⟨wb,Og⟩:∃wb:aG,wr.alloc (af #[ah ag (c:Int),ah ag (xc:Int),ah ag xl] 116)=wb:=⟨_,rfl⟩;have WQ:aZ (aO wr.heap.size wr wb):=(by rw[<-Og];exact(aS _ _).alloc (aC _) _);have VB:aZ (dG wb wr.heap.size 116 #[ah ag (c:Int),ah ag (xc:Int),ah ag xl]):=(by rw[<-Og];exact dG.new wr _ _);obtain⟨An,Ac,cn,cc,S0⟩:=M4.o.toS;have EC:aZ (∀w',aO wr.heap.size wr w'->di aH 53 #[au (az ⟨b,0,aj⟩),ah ag c] w' (uD cs c w')):=fun w' hb=>Ct c b ns cs An Ac cn cc w' (S0.below hb) PL.o hc;have EN:=PL.o.ends hc;have PT:=PL.o.qP EN.1 EN.2.2.1;have Gp:=EN.1;obtain⟨⟨u,p,ea,eb⟩,hE⟩:∃e,bV cs c=e:=⟨_,rfl⟩;unfold uD at EC;rw[hE]at PT EC Gp;simp only at PT EC Gp;obtain⟨bX,hbX⟩:∃bX,wr.heap.size=bX:=⟨_,rfl⟩;obtain⟨gb,cb,eB,c5,TH,tgb,lgb⟩:=M4.o.aaU Gp;unfold pt at TH;have u0:(0:Int)<=(u:Int):=(by omega);have u1:(u:Int)<(ns.length:Int):=(by omega);rw[hbX]at VB;have vb0:wb.cell? ⟨bX,0,aj⟩=az (ah ag (c:Int)):=VB.o.cell 0;have K5:aZ (∀w',aO wr.heap.size wr w'->w'.cell? ⟨b,4+1,aj⟩=az (ay (az ⟨gb,0,aj⟩) ns.length cb)/\w'.cell? ⟨b,5,aj⟩=az (ay (az ⟨gb,0,aj⟩) ns.length cb)/\w'.cell? ⟨gb,u,aj⟩=az (au (az ⟨L4.bx u,0,aj⟩))):=fun w' hb=>(by have t:∀{p:fE} {z:aJ},wr.cell? p=az z->w'.cell? p=az z:=fun{p z} hz=>(hb.cell (aY _ _ hz)).trans hz;exact⟨t c5,t c5,t TH⟩);have VX:aZ (∀w',aO wb.heap.size wb w'->w'.cell? ⟨bX,1,aj⟩=az (ah ag xc)/\w'.cell? ⟨bX,2,aj⟩=az (ah ag xl)):=fun w' hb=>(by have k:=VB.o.below hb VB.o.lt;exact⟨k.cell 1,k.cell 2⟩);obtain⟨zz,Ku⟩:∃zz,fr IB wr.heap.size=zz:=⟨_,rfl⟩;have M5:aZ (∀w',aO wr.heap.size wr w'->gz zz w'.drew b ns cs G L4):=fun w' hb=>(by rw[<-Ku];exact(M4.o.below hb).drew);injection eg with eg1 _ eg2;subst eg1;clear eg2;clear m4 n4 kc cg lg og tgg;go_wp2_with (first|(go_at_call 53;(with_reducible refine(EC.o _ WQ.o).mono ?_);rintro e w5 ⟨rfl,hb⟩;have BE:=aA hb;have B5:aZ (aO wr.heap.size wr w5):=WQ.o.trans (hb.mono WQ.o.size);obtain⟨_,k3,k4⟩:=K5.o w5 B5.o;obtain⟨x1,x2⟩:=VX.o w5 hb;clear hb));have mb:=M5.o w5 B5.o;have MB:=aA mb;have Lh:=OGH.o.1.box u Gp;have ba:=XK p xc (N+1) xl zz (3+u) w5.drew (L4.bx u) (G.boxes.getD u default) (L4.Ik u) (mb.bx u Gp) (by omega) Lh.1 (by have:=HN.o;omega) (by rw[Lh.2.1];exact PT) (by rw[Lh.2.2,OGH.o.2.1];exact hxc) (pO xl (by omega) (by omega));have bl:=OGH.o.1.bl;have EA:dB.jh cs G (c,xc,xl)={G with boxes:=G.boxes.set u ((G.boxes.getD u default).raise p xc xl)}:=(by unfold dB.jh;rw[show bV cs c=(u,p,ea,eb)from hE]);obtain⟨r1,hr⟩:∃r,(G.boxes.getD u default).raise p xc xl=r:=⟨_,rfl⟩;rw[hr]at ba EA;have RES:aZ (∀w7,yI zz (3+u) w5.drew (L4.bx u) r1 (L4.Ik u) w7->adV vP wc b ns cs L1 (f.jk nr) l (ah ag ((k:Int)+1)) w7):=fun w7 hq=>(by obtain⟨Oq,L8,h8,n8⟩:=hq;refine⟨k+1,by omega,by congr 1,Oq,{L4 with Ik:=fun j=>if j=u then L8 else L4.Ik j},by rw[Gj,EA];exact MB.o.box Gp bl n8 h8,?_,e4⟩;have nb:FNb IB wr zz w5.drew:=⟨(Ch.dw B5.o).drew,fun i hi=>by rw[<-Ku];exact iD hi⟩;exact(N4.o.trans nb).trans (FNb.KE n8));have K7:aZ (∀w7,yI zz (3+u) w5.drew (L4.bx u) r1 (L4.Ik u) w7->(fun wq=>wq.cell? ⟨b,5,aj⟩=az (ay (az ⟨gb,0,aj⟩) ns.length cb)/\wq.cell? ⟨gb,u,aj⟩=az (au (az ⟨L4.bx u,0,aj⟩))/\wq.cell? ⟨bX,1,aj⟩=az (ah ag xc)/\wq.cell? ⟨bX,2,aj⟩=az (ah ag xl)) w7):=fun w7 hq=>(by obtain⟨Oq,L8,h8,n⟩:=hq;have t:∀{q:fE} {z:aJ},w5.cell? q=az z->(zz q.block).1≠3+u->w7.cell? q=az z:=fun{q z} hz ht=>(n.ch.cell (aY w5 _ hz) ht).trans hz;have tb:(zz b).1≠3+u:=(by rw[<-Ku,iD M4.o.root.1.lt,M4.o.root.2];show 2≠3+u;omega);have tg:(zz gb).1≠3+u:=(by rw[<-Ku,iD lgb,tgb];omega);have tx:(zz bX).1≠3+u:=(by rw[<-Ku,<-hbX,mH (aC _)];omega);exact⟨t k3 tb,t k4 tg,t x1 tx,t x2 tx⟩);have BA:aZ (di aH 54 #[au (az ⟨L4.bx u,0,aj⟩),ah ag p,ah ag xc,ah ag xl] w5.drew fun e w'=>(∃r:Int,e=ax (ah ag r))/\yI zz (3+u) w5.drew (L4.bx u) r1 (L4.Ik u) w'):=ba;clear ba mb Lh hr EA bl OG Gj EN hE;go_region_held3 (fun wq=>wq.cell? ⟨b,5,aj⟩=az (ay (az ⟨gb,0,aj⟩) ns.length cb)/\wq.cell? ⟨gb,u,aj⟩=az (au (az ⟨L4.bx u,0,aj⟩))/\wq.cell? ⟨bX,1,aj⟩=az (ah ag xc)/\wq.cell? ⟨bX,2,aj⟩=az (ah ag xl))
      (first|exact⟨k3,k4,x1,x2⟩|exact K7.o _ HB7.o)
      (first|(go_at_call 54;(with_reducible refine BA.o.mono ?_);rintro e w7 ⟨⟨r,rfl⟩,Uy⟩;have HB7:=aA Uy;clear Uy))
     have R:=aA (RES.o _ HB7.o);clear K7 RES BA HB7;go_wp2_with fail;rw[hwk];exact⟨R.o,by simp[aK];omega⟩
    ·obtain rfl:l.length=k:=by omega
     have EG:(l.take l.length).foldl (dB.jh cs) (f.jk nr)=(f.jk nr).iM cs:=(by rw[fB,<-hl,<-hT];rfl);rw[EG]at M4;obtain⟨q1,q2,q3⟩:=OK.o.mid PL.o RO.o;obtain⟨G1,hG1⟩:∃G1,(f.jk nr).iM cs=G1:=⟨_,rfl⟩;have ED:(f.tick ns cs nr)=(((nL ns cs (G1.uA.jf ns cs).1 ns.length).tell ns cs),(G1.uA.jf ns cs).2):=(by rw[<-hG1];exact Bt ns cs f nr);have EDH:=aA ED;rw[hG1]at M4 q1 q2 q3;have nT:G1.now=T:=(by have e1:G1.uA.now=G1.now:=rfl;omega);have c16:wr.cell? ⟨b,16,aj⟩=az (.map (az L4.ml)):=M4.o.xu;have c13:wr.cell? ⟨b,13,aj⟩=az (ah ag (T:Int)):=(by rw[M4.o.xu,<-nT];rfl);obtain⟨w5,hdel,zz,m5,n5⟩:=(M4.o.drew).YB T (by rw[<-hT,E1.2.1];omega) 0;have e5:({G1 with lim:=fun t=>if t=T then[]else G1.lim t}:dB)=G1.uA:=(by unfold dB.uA;rw[nT]);rw[e5]at m5;have nd5:((G1.uA.fl G1.uA.now).map (·.1)).Nodup:=(by rw[q3];exact FL.o.nd _);have AR:=aA (Vu G1.uA (N+1) b ns cs L4 zz w5 m5 PL.o q1 nd5 HCS.o (by have:=HN.o;omega));have N5:aZ (qA Z w zz w5):=((N1.o.trans N4.o.x).drew).trans n5;have OK6:=q1.jf PL.o nd5;have O6:=aA OK6.1;have s1:=dH.steps PL.o (aN ns.length) OK6.1 fun x hx=>dK.1 hx;rw[List.length_range]at s1;have O7:aZ (dH ns cs (nL ns cs (G1.uA.jf ns cs).1 ns.length) (N+1+128+ns.length*5000)):=s1.1;obtain⟨R1,hR1⟩:∃R,G1.uA.jf ns cs=R:=⟨_,rfl⟩;rw[hR1]at AR O6 O7 EDH;obtain⟨R2,hR2⟩:∃R,nL ns cs R1.1 ns.length=R:=⟨_,rfl⟩;rw[hR2]at O7 EDH;have HR2:=aA hR2;have STP:aZ (∀L6 xN w6,gz xN w6 b ns cs R1.1 L6->di aH 56 #[au (az ⟨b,0,aj⟩)] w6 fun e w'=>e=ax (.tuple #[])/\lX xN w6 b ns cs L6 R2 w'):=fun L6 xN w6 m=>(by rw[<-HR2.o];exact abG R1.1 _ b ns cs L6 xN w6 m PL.o O6.o (by have:=HN.o;omega));have n16:=PL.o.n16;have TEL:aZ (∀L6 xN w6,gz xN w6 b ns cs R2 L6->di aH 57 #[au (az ⟨b,0,aj⟩)] w6 fun e w'=>e=ax (.tuple #[])/\ko xN w6 b ns cs L6 (R2.tell ns cs) w'):=fun L6 xN w6 m=>
      abH R2 _ b ns cs L6 xN w6 m PL.o O7.o (by have:=HN.o;omega)
     have jm:aZ (∀v xN w6 QI L7 w7 Oq w8,qA zz w5 xN w6->Aw xN w5.heap.size w6 v R1.2->qA xN w6 QI w7->qA QI w7 Oq w8->gz Oq w8 b ns cs (R2.tell ns cs) L7->UQ Z w b ns cs f (ax v) w8):=fun v xN w6 QI L7 w7 Oq w8 a1 a2 a3 a4 a5=>(by refine⟨nr,RO.o,HNR.o,v,rfl,Oq,L7,by rw[EDH.o];exact a5,(N5.o.trans a1).trans (a3.trans a4),?_⟩;rw[EDH.o];exact((a2.base N5.o.ch.size).fnx a3).fnx a4);clear m5 n5 e5 nd5 q1 q2 q3 OK6 s1 ED EG nT hR1 hR2 hG1 M4 N4 n4 m4 e4 O6 O7 BOK LB;unfold pt at AR;go_wp2_with fail;go_region;go_wp2_with (first
      |(go_at_call 55;(with_reducible refine AR.o.mono ?_);rintro e w6 ⟨v6,rfl,xN,L6,hm6,hn6,hd6⟩;have N6:=aA hn6;have D6:=aA hd6;have ST6:=aA (STP.o L6 xN w6 hm6);clear hm6 hn6 hd6)
      |(go_at_call 56;(with_reducible refine ST6.o.mono ?_);rintro e w7 ⟨rfl,QI,L7,hm7,hn7,_⟩;have N7:=aA hn7;have TE7:=aA (TEL.o L7 QI w7 hm7);clear hm7 hn7)
      |(go_at_call 57;(with_reducible refine TE7.o.mono ?_);rintro e w8 ⟨rfl,Oq,hm8,hn8⟩;have F:=aA (jm.out _ _ _ _ _ _ _ _ N6.o D6.o N7.o hn8 hm8);clear hm8 hn8))
     go_ret;exact F.o
end
section
inductive Jn(cs:List Cb)(us:List Bool):Nat->Nat->Prop
 |refl (u:Nat):Jn cs us u u
 |step {u v w i:Nat} (h:Jn cs us u v) (hi:i<cs.length) (hu:us.getD i false=true) (ht:touch (cs.getD i gV) v w):Jn cs us u w
theorem GU{x:Cb}{j k:Nat}(h:touch x j k):touch x k j:=by
 rcases h with⟨a,b⟩|⟨a,b⟩
 ·exact .inr ⟨b,a⟩
 ·exact .inl ⟨b,a⟩
section
variable{cs:List Cb}{us:List Bool}
theorem Jn.trans{u v w:Nat}(h:Jn cs us u v)(k:Jn cs us v w):Jn cs us u w:=by
 induction k with
 |refl=>exact h
 |step _ hi hu ht ih=>exact ih.step hi hu ht
theorem Jn.one{u v i:Nat}(hi:i<cs.length)(hu:us.getD i false=true)(ht:touch (cs.getD i gV) u v):Jn cs us u v:=(Jn.refl u).step hi hu ht
theorem Jn.symm{u v:Nat}(h:Jn cs us u v):Jn cs us v u:=by
 induction h with
 |refl=>exact Jn.refl _
 |step _ hi hu ht ih=>exact(Jn.one hi hu (GU ht)).trans ih
end
structure rH(ns:List Nd)(cs:List Cb)(us:List Bool)(root:Nat)(l:List Int)(t:Nat)(f:zA):Prop where
 hp:nW ns cs
 lu:Ib ns.length cs us root l
 len:l.length=ns.length
 t0:t<ns.length
 found:Found ns.length cs us l t f
section
variable{ns:List Nd}{cs:List Cb}{us:List Bool}{root:Nat}{l:List Int}{t:Nat}{f:zA}
theorem nW.Us{ns:List Nd}{cs:List Cb}(h:nW ns cs){i u v:Nat}(hi:i<cs.length)(ht:touch (cs.getD i gV) u v):u<ns.length/\v<ns.length/\u≠v:=by have A:=h.a0 i hi;have B:=h.b0 i hi;have ab:=h.ab i hi;rcases ht with⟨a,b⟩|⟨a,b⟩<;>omega
theorem rH.si(h:rH ns cs us root l t f)(ht:0<=l.getD t 0):SI ns.length cs us l t f/\∀x∈xU cs us l cs.length,impr l f x.1 x.2=aj:=by
 rcases h.found with q|q
 ·omega
 ·exact q
theorem rH.Oi(h:rH ns cs us root l t f)(ht:l.getD t 0<0):f=fun _=>aj:=by
 rcases h.found with q|q
 ·exact q.2
 ·have:=q.1.tlv;omega
theorem rH.impr(h:rH ns cs us root l t f)(ht:0<=l.getD t 0){u v i d:Nat}{b:Bool}(hi:i<cs.length)(hu:us.getD i false=true)(Lm:touch (cs.getD i gV) u v)(lu0:0<=l.getD u 0)(lv0:0<=l.getD v 0)(hp:FY l (u,b) v=true)(hf:f (Mr l (u,b) v)=az d):∃d',f (u,b)=az d'/\d'<=d+1:=by
 have hm:((u,b),v)∈xU cs us l cs.length:=by
  unfold xU;rw[List.mem_flatMap];refine⟨i,dK.2 hi,?_⟩;unfold acQ;have A:=h.hp.a0 i hi;have B:=h.hp.b0 i hi;rcases Lm with⟨a1,b1⟩|⟨a1,b1⟩
  ·have e1:(cs.getD i gV).a.toNat=u:=by omega
   have e2:(cs.getD i gV).b.toNat=v:=(by omega);rw[e1,e2,if_pos ⟨hu,lu0,lv0⟩];cases b<;>simp
  ·have e1:(cs.getD i gV).a.toNat=v:=by omega
   have e2:(cs.getD i gV).b.toNat=u:=(by omega);rw[e1,e2,if_pos ⟨hu,lv0,lu0⟩];cases b<;>simp
 have hn:=(h.si ht).2 _ hm;unfold Go.Proofs.YtnjjkgjdhljfnaaGreat.impr at hn;simp only[hp,if_true,hf]at hn;cases hs:f (u,b)with
 |none=>rw[hs]at hn;cases hn
 |some old=>
  rw[hs]at hn;simp only at hn;split at hn
  ·rename_i q;exact⟨old,rfl,q⟩
  ·cases hn
theorem rH.sup(h:rH ns cs us root l t f){u d:Nat}{b:Bool}(hf:f (u,b)=az (d+1)):u<ns.length/\0<=l.getD u 0/\0<=l.getD t 0/\∃i o,i<cs.length/\us.getD i false=true/\o<ns.length/\touch (cs.getD i gV) u o/\FY l (u,b) o=true/\f (Mr l (u,b) o)=az d/\0<=l.getD o 0:=by
 have ht:0<=l.getD t 0:=by
  rcases tO (l.getD t 0) 0 with q|q
  ·rw[h.Oi q]at hf;cases hf
  ·exact q
 obtain⟨hu,lu0,q⟩:=(h.si ht).1.sup _ _ hf;simp only at hu lu0;rcases q with⟨_,q⟩|⟨i,hi,Oe,o,ho,Lm,hp,d',Ap,hle⟩
 ·omega
 have lo:=h.lu.QT u hu lu0 i o hi Oe Lm;obtain⟨d2,e2,le2⟩:=h.impr ht hi Oe Lm lu0 lo hp Ap;rw[hf]at e2;injection e2 with e2;have:d'=d:=by omega
 subst this;exact⟨hu,lu0,ht,i,o,hi,Oe,ho,Lm,hp,Ap,lo⟩
theorem rH.zero(h:rH ns cs us root l t f){u:Nat}{b:Bool}(hf:f (u,b)=az 0):u=t:=by
 have ht:0<=l.getD t 0:=by
  rcases tO (l.getD t 0) 0 with q|q
  ·rw[h.Oi q]at hf;cases hf
  ·exact q
 obtain⟨_,_,q⟩:=(h.si ht).1.sup _ _ hf;rcases q with⟨q,_⟩|⟨i,hi,Oe,o,ho,Lm,hp,d',Ap,hle⟩
 ·exact q
 ·omega
theorem rH.aan(h:rH ns cs us root l t f){u v:Nat}(hu:u<ns.length)(hv:v<ns.length):Gc l u v=true↔0<=l.getD v 0/\0<=l.getD u 0/\(l.getD v 0<l.getD u 0\/(l.getD v 0=l.getD u 0/\v<u)):=by
 unfold Gc;rw[Gl,h.len];constructor
 ·intro q;exact⟨q.2.2.1,q.2.2.2.1,by have:=q.2.2.2.2;omega⟩
 ·intro q;exact⟨hv,hu,q.1,q.2.1,by have:=q.2.2;omega⟩
theorem rH.akg(h:rH ns cs us root l t f){x:Nat}(hx:x<ns.length)(h0:l.getD x 0=0):x=root:=by
 rcases Classical.em (x=root)with q|q
 ·exact q
 ·rcases h.lu.lv.pos x hx q with q|q<;>omega
theorem rH.aga(h:rH ns cs us root l t f)(ht:0<=l.getD t 0):∀(d x:Nat),x<ns.length->l.getD x 0=(d:Int)->(∀b,(f (x,b)).isSome=true)->∀b,(f (root,b)).isSome=true
 |0,x,hx,e,hf=>by rw[<-h.akg hx e];exact hf
 |d+1,x,hx,e,hf=>by
  obtain⟨i,k,hi,Oe,hk,Lm,lk⟩:=h.lu.led x hx (by omega);have lk':l.getD k 0=(d:Int):=by omega
  refine rH.aga h ht d k hk lk' fun b=>?_;have nu:Gc l k x=false:=by
   cases q:Gc l k x with
   |false=>rfl
   |true=>have:=(h.aan hk hx).1 q;omega
  obtain⟨y,hy⟩:=jT.1 (hf true);obtain⟨d',e',_⟩:=h.impr ht (b:=b) hi Oe (GU Lm) (by omega) (by omega) (by unfold FY;simp only[nu];rfl) (d:=y) (by unfold Mr;simp only[nu];exact hy);rw[e'];rfl
theorem rH.afx(h:rH ns cs us root l t f)(ht:0<=l.getD t 0)(hr:(f (root,false)).isSome=true):∀(d x:Nat),x<ns.length->l.getD x 0=(d:Int)->(f (x,false)).isSome=true
 |0,x,hx,e=>by rw[h.akg hx e];exact hr
 |d+1,x,hx,e=>by
  obtain⟨i,k,hi,Oe,hk,Lm,lk⟩:=h.lu.led x hx (by omega);have lk':l.getD k 0=(d:Int):=by omega
  have ih:=rH.afx h ht hr d k hk lk';have nu:Gc l x k=true:=(h.aan hx hk).2 ⟨by omega,by omega,.inl (by omega)⟩;obtain⟨y,hy⟩:=jT.1 ih;obtain⟨d',e',_⟩:=h.impr ht (b:=false) hi Oe Lm (by omega) (by omega) (by unfold FY;simp) (d:=y) (by unfold Mr;simp only[nu];exact hy);rw[e'];rfl
theorem rH.src(h:rH ns cs us root l t f)(ht:0<=l.getD t 0){u:Nat}(hu:u<ns.length)(lu0:0<=l.getD u 0):(f (u,false)).isSome=true:=
 h.afx ht (h.aga ht (l.getD t 0).toNat t h.t0 (by omega) (fun b=>by rw[(h.si ht).1.t0 b];rfl) false) (l.getD u 0).toNat u hu (by omega)
theorem rH.sep(h:rH ns cs us root l t f):∀(d u:Nat) (b:Bool),f (u,b)=az d->Jn cs us u t
 |0,u,b,hf=>by rw[h.zero hf];exact Jn.refl _
 |d+1,u,b,hf=>by obtain⟨_,_,_,i,o,hi,Oe,ho,Lm,_,hd,_⟩:=h.sup hf;exact(Jn.one hi Oe Lm).trans (rH.sep h d o _ hd)
theorem rH.mono(h:rH ns cs us root l t f){u d:Nat}(hf:f (u,true)=az d):∃d',f (u,false)=az d'/\d'<=d:=by
 cases d with
 |zero=>
  have e:=h.zero hf;have ht:0<=l.getD t 0:=by
   rcases tO (l.getD t 0) 0 with q|q
   ·rw[h.Oi q]at hf;cases hf
   ·exact q
  exact⟨0,by rw[e];exact(h.si ht).1.t0 false,aC _⟩
 |succ d=>
  obtain⟨hu,lu0,ht,i,o,hi,Oe,ho,Lm,hp,hd,lo⟩:=h.sup hf;have nu:Gc l u o=false:=by unfold FY at hp;simpa using hp
  obtain⟨d',e',le'⟩:=h.impr ht (b:=false) hi Oe Lm lu0 lo (by unfold FY;simp) (d:=d) (by unfold Mr at hd|-;exact hd);exact⟨d',e',le'⟩
theorem rH.ent(h:rH ns cs us root l t f){u d p:Nat}(Mj:p<2){c:Int}(hc:NG ns.length cs us l f t u p c)(hf:f (u,p==1)=az (d+1)):∃i v,i<cs.length/\c=(i:Int)/\us.getD i false=true/\v<ns.length/\touch (cs.getD i gV) u v/\FY l (u,p==1) v=true/\f (v,!Gc l u v)=az d/\0<=l.getD v 0:=by
 obtain⟨hu,lu0,ht,i0,o,hi0,ayp,ho,aym,hp0,hd0,lo0⟩:=h.sup hf;have hab:∀i,i<cs.length->(cs.getD i gV).a≠(cs.getD i gV).b:=h.hp.ab;have aqE:NQ cs us l (xL ns.length f false) (xL ns.length f true) u (dI (f (u,p==1))) (p==0) i0=true:=by
  have ac:kX (cs.getD i0 gV) (u:Int)=((o:Int),true):=by
   unfold kX;rcases aym with⟨a1,b1⟩|⟨a1,b1⟩
   ·rw[if_pos a1.symm,b1]
   ·rw[if_neg (by have:=hab i0 hi0;omega),if_pos a1.symm,b1]
  unfold NQ;rw[ac,hf,ayp];simp only[dI,Bool.and_true,cO];simp only[Cz f false ho,Cz f true ho];rw[dD];refine⟨decide_eq_true (by omega),?_⟩;unfold FY at hp0;unfold Mr at hd0;simp only at hp0 hd0;have e3:qL l (o:Int) (u:Int)=Gc l u o:=rfl;rw[e3];cases EH:Gc l u o with
  |true=>
   rw[EH]at hp0 hd0;simp only[xO,iW,jW]at hp0 hd0;have p0:(p==0)=true:=by have:p≠1:=(by simpa using hp0);simp;omega
   rw[if_pos rfl,p0,hd0];simp[dI]
  |false=>rw[EH]at hd0;simp only[Bool.not_false]at hd0;rw[if_neg (by simp),hd0];simp[dI]
 have hut:u≠t:=fun e=>by have:=(h.si ht).1.t0 (p==1);rw[<-e,hf]at this;cases this
 rcases hc with⟨e,_⟩|⟨_,⟨_,Px⟩|⟨i,hi,e,QW⟩⟩
 ·exact absurd e hut
 ·rw[Px i0 hi0]at aqE;cases aqE
 have aDj:=QW;unfold NQ at QW;simp only[dD,decide_eq_true_eq]at QW;obtain⟨⟨⟨_,h2⟩,h3⟩,h4⟩:=QW;obtain⟨v,hv,htv⟩:∃v:Nat,v<ns.length/\touch (cs.getD i gV) u v:=by
  unfold kX at h2;have A:=h.hp.a0 i hi;have B:=h.hp.b0 i hi;split at h2
  ·rename_i e;exact⟨(cs.getD i gV).b.toNat,by omega,.inl ⟨e.symm,by omega⟩⟩
  ·split at h2
   ·rename_i e;exact⟨(cs.getD i gV).a.toNat,by omega,.inr ⟨e.symm,by omega⟩⟩
   ·cases h2
 have ac:kX (cs.getD i gV) (u:Int)=((v:Int),true):=by
  unfold kX;rcases htv with⟨a1,b1⟩|⟨a1,b1⟩
  ·rw[if_pos a1.symm,b1]
  ·rw[if_neg (by have:=hab i hi;omega),if_pos a1.symm,b1]
 rw[ac,hf]at h4;simp only[dI,cO]at h4;simp only[Cz f false hv,Cz f true hv]at h4;have e3:qL l (v:Int) (u:Int)=Gc l u v:=rfl;rw[e3]at h4;have lv0:=h.lu.QT u hu lu0 i v hi h3 htv;refine⟨i,v,hi,e,h3,hv,htv,?_,?_,lv0⟩
 ·unfold FY;cases EH:Gc l u v with
  |true=>rw[EH]at h4;simp only[if_true,dD,beq_iff_eq]at h4;simp[EH,h4.1]
  |false=>simp[EH]
 ·cases EH:Gc l u v with
  |true=>
   rw[EH]at h4;simp only[if_true,dD,decide_eq_true_eq]at h4;have h5:=h4.2;show f (v,false)=_;cases hq:f (v,false)with
   |none=>rw[hq]at h5;simp[dI]at h5
   |some y=>rw[hq]at h5;simp only[dI]at h5;congr 1;omega
  |false=>
   rw[EH]at h4;simp only[Bool.false_eq_true,if_false,decide_eq_true_eq]at h4;show f (v,true)=_;cases hq:f (v,true)with
   |none=>rw[hq]at h4;simp[dI]at h4
   |some y=>rw[hq]at h4;simp only[dI]at h4;congr 1;omega
theorem rH.ahA(h:rH ns cs us root l t f){u p:Nat}{c:Int}(hc:NG ns.length cs us l f t u p c)(hut:u≠t)(hf:f (u,p==1)=aj):c<0:=by
 rcases hc with⟨e,_⟩|⟨_,⟨e,_⟩|⟨i,hi,e,QW⟩⟩
 ·exact absurd e hut
 ·omega
 ·unfold NQ at QW;rw[hf]at QW;simp[dI]at QW
theorem rH.through(h:rH ns cs us root l t f){u v i d:Nat}{b:Bool}(hi:i<cs.length)(Oe:us.getD i false=true)(Lm:touch (cs.getD i gV) u v)(hp:FY l (u,b) v=true)(hf:f (u,b)=az (d+1))(hd:f (v,!Gc l u v)=az d):v=t\/(ns.getD v iZ).sw=true:=by
 cases d with
 |zero=>exact .inl (h.zero hd)
 |succ d=>
  refine .inr ?_;cases hsw:(ns.getD v iZ).sw with
  |true=>rfl
  |false=>
   exfalso;obtain⟨Bn,hvl,huv⟩:=h.hp.Us hi Lm;have one:=(h.hp.sw v hvl).2.2 hsw;obtain⟨_,lv0,ht,i2,o,hi2,ayq,ho,amh,Mj,hd2,lo⟩:=h.sup hd;have same:i2=i/\o=u:=by
    have P1:=h.hp.ap i hi;have P2:=h.hp.bp i hi;have P3:=h.hp.ap i2 hi2;have P4:=h.hp.bp i2 hi2;have k1:=Dn cs hi;have k2:=Dn cs hi2;have e1:∃x,x/2=i/\x<2*cs.length/\(gW cs).getD x (0,0)=((v:Int),0):=by
     rcases Lm with⟨a1,b1⟩|⟨a1,b1⟩
     ·refine⟨2*i+1,by omega,by omega,?_⟩;rw[k1.2,b1];have:(cs.getD i gV).bp=0:=by
       have e:(cs.getD i gV).b.toNat=v:=(by omega);rw[e,one]at P2;omega
      rw[this]
     ·refine⟨2*i,by omega,by omega,?_⟩;rw[k1.1,b1];have:(cs.getD i gV).ap=0:=by
       have e:(cs.getD i gV).a.toNat=v:=(by omega);rw[e,one]at P1;omega
      rw[this]
    have e2:∃x,x/2=i2/\x<2*cs.length/\(gW cs).getD x (0,0)=((v:Int),0):=by
     rcases amh with⟨a1,b1⟩|⟨a1,b1⟩
     ·refine⟨2*i2,by omega,by omega,?_⟩;rw[k2.1,a1];have:(cs.getD i2 gV).ap=0:=by
       have e:(cs.getD i2 gV).a.toNat=v:=(by omega);rw[e,one]at P3;omega
      rw[this]
     ·refine⟨2*i2+1,by omega,by omega,?_⟩;rw[k2.2,a1];have:(cs.getD i2 gV).bp=0:=by
       have e:(cs.getD i2 gV).b.toNat=v:=(by omega);rw[e,one]at P4;omega
      rw[this]
    obtain⟨x,x1,x2,x3⟩:=e1;obtain⟨y,y1,y2,y3⟩:=e2;have:=h.hp.inj x y x2 y2 (x3.trans y3.symm);have ii:i2=i:=(by omega);subst ii;refine⟨rfl,?_⟩;rcases Lm with⟨a1,b1⟩|⟨a1,b1⟩<;>rcases amh with⟨a2,b2⟩|⟨a2,b2⟩<;>omega
   obtain⟨rfl,rfl⟩:=same;unfold Mr at hd2;unfold FY at hp Mj;simp only at hd2 hp Mj;cases EH:Gc l o v with
   |true=>have nb:Gc l v o=false:=(by unfold Gc at EH|-;exact Xp EH);rw[EH]at hp;simp only[xO,iW,jW]at hp;subst hp;rw[nb]at hd2;obtain⟨d',e',le'⟩:=h.mono hd2;rw[hf]at e';injection e' with e';omega
   |false=>rw[EH]at Mj;simp only[Bool.not_false,xO,Bool.or_false,jW]at Mj;have lo0:=h.lu.QT v hvl lv0 i2 o hi2 ayq amh;have:=UR (lv:=l) (a:=v) (b:=o) (by rw[h.len];exact hvl) (by rw[h.len];exact Bn) lv0 lo0 (Ne.symm huv) EH;unfold Gc at Mj;rw[this]at Mj;cases Mj
theorem rH.chain(h:rH ns cs us root l t f):∀(d u:Nat) (b:Bool),f (u,b)=az d->∃L:List St,L.length=d+2/\L.Nodup/\∀s∈L,s.1<ns.length/\∃e,f s=az e/\e<=d
 |0,u,b,hf=>by
  have e:=h.zero hf;have ht:0<=l.getD t 0:=by
   rcases tO (l.getD t 0) 0 with q|q
   ·rw[h.Oi q]at hf;cases hf
   ·exact q
  refine⟨[(t,false),(t,true)],rfl,by simp,fun s hs=>?_⟩;simp only[dM,dZ,or_false]at hs;rcases hs with rfl|rfl
  ·exact⟨h.t0,0,(h.si ht).1.t0 _,aC _⟩
  ·exact⟨h.t0,0,(h.si ht).1.t0 _,aC _⟩
 |d+1,u,b,hf=>by
  obtain⟨hu,_,_,i,o,_,_,_,_,_,hd,_⟩:=h.sup hf;obtain⟨L,l1,l2,l3⟩:=rH.chain h d _ _ hd;refine⟨(u,b)::L,by rw[List.length_cons,l1],List.nodup_cons.2 ⟨fun hm=>?_,l2⟩,fun s hs=>?_⟩
  ·obtain⟨_,e,he,hle⟩:=l3 _ hm;rw[hf]at he;injection he with he;omega
  ·rcases dM.1 hs with q|q
   ·rw[q];exact⟨hu,_,hf,aC _⟩
   ·obtain⟨a,e,he,hle⟩:=l3 s q;exact⟨a,e,he,by omega⟩
theorem rH.bnd(h:rH ns cs us root l t f){d u:Nat}{b:Bool}(hf:f (u,b)=az d):d+2<=2*ns.length:=by obtain⟨L,l1,l2,l3⟩:=h.chain d u b hf;have:=Dy (S:=NL ns.length) l2 fun s hs=>FQ.2 (l3 s hs).1;rw[UT]at this;omega
end
def YM(ns:List Nd)(r:Rt)(v q:Nat):Nat:=if qE ns v&&r.rz v q then 1 else 0
theorem Uk(ns:List Nd)(r:Rt)(v q:Nat):YM ns r v q<2:=by unfold YM;split<;>omega
structure RtD(ns:List Nd)(cs:List Cb)(us:List Bool)(r:Rt)(f:Nat->Nat->Nat->Option Nat):Prop where
 self:∀t p,t<ns.length->f t t p=az 0
 zero:∀t u p,t<ns.length->u<ns.length->f t u p=az 0->u=t
 bnd:∀t u p d,t<ns.length->u<ns.length->f t u p=az d->d+2<=2*ns.length
 non:∀t u p,t<ns.length->u<ns.length->p<2->u≠t->f t u p=aj->r.next u p t<0
 step:∀t u p d,t<ns.length->u<ns.length->p<2->f t u p=az (d+1)->∃i,i<cs.length/\r.next u p t=(i:Int)/\us.getD i false=true/\touch (cs.getD i gV) u (bV cs (iT cs i u)).2.2.1/\(bV cs (iT cs i u)).2.2.1<ns.length/\
  ((bV cs (iT cs i u)).2.2.1=t\/qE ns (bV cs (iT cs i u)).2.2.1=true)/\f t (bV cs (iT cs i u)).2.2.1 (YM ns r (bV cs (iT cs i u)).2.2.1 (bV cs (iT cs i u)).2.2.2)=az d
 src:∀t u,t<ns.length->u<ns.length->Jn cs us u t->(f t u 0).isSome=true
 sep:∀t u p,t<ns.length->u<ns.length->(f t u p).isSome=true->Jn cs us u t
theorem nW.across{ns:List Nd}{cs:List Cb}(h:nW ns cs){i u v:Nat}(hi:i<cs.length)(ht:touch (cs.getD i gV) u v):(bV cs (iT cs i u)).2.2.1=v/\jH cs v (bV cs (iT cs i u)).2.2.2=az i/\Wl cs i v=u:=by
 obtain⟨hu,hv,huv⟩:=h.Us hi ht;have A:=h.a0 i hi;have B:=h.b0 i hi;have ab:=h.ab i hi;have hv':(cs.getD i gV).a=(v:Int)\/(cs.getD i gV).b=(v:Int):=by
  rcases ht with⟨a,b⟩|⟨a,b⟩
  ·exact .inr b
  ·exact .inl b
 obtain⟨c1,c2,c3⟩:=h.chan hi hv';obtain⟨d1,d2⟩:=h.yu c1;rw[c2,c3]at d1;obtain⟨f1,f2,f3,f4⟩:=h.flip hi hv';have e0:(bV cs (iT cs i u)).2.2.1=v/\(bV cs (iT cs i u)).2.2.2=(bV cs (iT cs i v)).2.1:=by
  rcases ht with⟨a,b⟩|⟨a,b⟩
  ·unfold iT;rw[if_pos a,if_neg (by omega)];unfold bV;rw[if_pos (by omega),if_neg (by omega),show 2*i/2=i by omega,show(2*i+1)/2=i by omega];simp only;exact⟨by omega,trivial⟩
  ·unfold iT;rw[if_neg (by omega),if_pos b];unfold bV;rw[if_neg (by omega),if_pos (by omega),show 2*i/2=i by omega,show(2*i+1)/2=i by omega];simp only;exact⟨by omega,trivial⟩
 refine⟨e0.1,by rw[e0.2];exact d1,?_⟩;rcases ht with⟨a,b⟩|⟨a,b⟩<;>rcases f2 with⟨a',b'⟩|⟨a',b'⟩<;>omega
theorem afG{PS:List (List Nat)}{u:Nat}(h:∃m,m<PS.length/\u∈PS.getD m []):xK PS u<PS.length/\u∈PS.getD (xK PS u) []:=by
 obtain⟨m,hm,hu⟩:=h;have e:PS.getD m []=PS[m]:=by simp[bS,hm]
 rw[e]at hu;have hl:xK PS u<PS.length:=List.findIdx_lt_length_of_exists ⟨PS[m],List.getElem_mem hm,by simpa using hu⟩;refine⟨hl,?_⟩;have:=List.findIdx_getElem (p:=fun P:List Nat=>P.contains u) (xs:=PS) (w:=hl);have e2:PS.getD (xK PS u) []=PS[PS.findIdx fun P=>P.contains u]'hl:=by show PS.getD (PS.findIdx fun P=>P.contains u) []=_;have hl':(PS.findIdx fun P=>P.contains u)<PS.length:=hl;simp only[dN,cZ hl',iy];rfl
 rw[e2];exact List.contains_iff_mem.1 this
theorem aim{PS:List (List Nat)}{u m:Nat}(hm:m<PS.length)(hu:u∈PS.getD m []):xK PS u<=m:=by
 rcases Nat.lt_or_ge m (xK PS u)with q|q
 ·have:=List.not_of_lt_findIdx q;have e:PS.getD m []=PS[m]:=by simp[bS,hm]
  rw[e]at hu;simp at this;exact absurd hu this
 ·exact q
section
variable{ns:List Nd}{cs:List Cb}{us:List Bool}{r:Rt}{PS:List (List Nat)}{L:Nat->List Int}{G:Nat->GT}
theorem uE.mem(h:uE ns cs us r PS L G){m u:Nat}(hm:m<PS.length):u∈PS.getD m []↔u<ns.length/\0<=(L m).getD u 0:=by rw[(h.net m hm).part];exact rW
theorem uE.zw(h:uE ns cs us r PS L G){u:Nat}(hu:u<ns.length):xK PS u<PS.length/\0<=(L (xK PS u)).getD u 0:=by have:=afG (h.all u hu);exact⟨this.1,((h.mem this.1).1 this.2).2⟩
theorem uE.adj(h:uE ns cs us r PS L G)(hp:nW ns cs){u v i:Nat}(hi:i<cs.length)(Oe:us.getD i false=true)(ht:touch (cs.getD i gV) u v):xK PS u=xK PS v:=by
 obtain⟨hu,hv,_⟩:=hp.Us hi ht;have key:∀{a b:Nat},a<ns.length->b<ns.length->touch (cs.getD i gV) a b->xK PS b<=xK PS a:=fun{a b} ha hb Lm=>by have:=h.zw ha;obtain⟨root,hl⟩:=(h.net _ this.1).lv;exact aim this.1 ((h.mem this.1).2 ⟨hb,hl.QT a ha this.2 i b hi Oe Lm⟩)
 exact Nat.le_antisymm (key hv hu (GU ht)) (key hu hv ht)
theorem uE.jn(h:uE ns cs us r PS L G)(hp:nW ns cs){u v:Nat}(hj:Jn cs us u v):xK PS u=xK PS v:=by
 induction hj with
 |refl=>rfl
 |step _ hi hu ht ih=>exact ih.trans (h.adj hp hi hu ht)
noncomputable def uE.F(h:uE ns cs us r PS L G)(m t:Nat):zA:=if q:m<PS.length/\t<ns.length then mD ((h.net m q.1).net.col t q.2)else fun _=>aj
theorem uE.Xb(h:uE ns cs us r PS L G){m t:Nat}(hm:m<PS.length)(ht:t<ns.length):Found ns.length cs us (L m) t (h.F m t)/\∀i p,i<ns.length->p<2->NG ns.length cs us (L m) (h.F m t) t i p (G m i p t):=by
 have e:h.F m t=mD ((h.net m hm).net.col t ht):=by unfold uE.F;rw[dif_pos ⟨hm,ht⟩]
 rw[e];exact Classical.choose_spec ((h.net m hm).net.col t ht)
theorem uE.one(h:uE ns cs us r PS L G)(hp:nW ns cs){m t:Nat}(hm:m<PS.length)(ht:t<ns.length):∃root,rH ns cs us root (L m) t (h.F m t):=by obtain⟨root,hl⟩:=(h.net m hm).lv;exact⟨root,hp,hl,hl.lv.len,ht,(h.Xb hm ht).1⟩
theorem Az.alC(hr:Az ns cs us r)(hv:fQ ⟨ns,cs⟩=0):∃f,RtD ns cs us r f:=by
 obtain⟨PS,L,G,h⟩:=hr;have hp:=GK hv;refine⟨fun t u p=>h.F (xK PS u) t (u,p==1),?_⟩;exact{
  self:=fun t p ht=>by have:=h.zw ht;obtain⟨root,o⟩:=h.one hp this.1 ht;exact(o.si this.2).1.t0 _
  zero:=fun t u p ht hu hf=>by have:=h.zw hu;obtain⟨root,o⟩:=h.one hp this.1 ht;exact o.zero hf
  bnd:=fun t u p d ht hu hf=>by have:=h.zw hu;obtain⟨root,o⟩:=h.one hp this.1 ht;exact o.bnd hf
  non:=fun t u p ht hu Mj nJ hf=>by have:=h.zw hu;obtain⟨root,o⟩:=h.one hp this.1 ht;rw[h.next _ this.1 u ((h.mem this.1).2 ⟨hu,this.2⟩) p t Mj ht];exact o.ahA ((h.Xb this.1 ht).2 u p hu Mj) nJ hf
  step:=fun t u p d ht hu Mj hf=>by
   have:=h.zw hu;obtain⟨root,o⟩:=h.one hp this.1 ht;obtain⟨i,v,hi,e,Oe,hvl,Lm,ayj,hd,lv0⟩:=o.ent Mj ((h.Xb this.1 ht).2 u p hu Mj) hf;obtain⟨a1,a2,a3⟩:=hp.across hi Lm;have thr:=o.through hi Oe Lm ayj hf hd;refine⟨i,hi,by rw[h.next _ this.1 u ((h.mem this.1).2 ⟨hu,this.2⟩) p t Mj ht];exact e,Oe,by rw[a1];exact Lm,by rw[a1];exact hvl,by rw[a1];exact thr,?_⟩;rw[a1];have same:=h.adj hp hi Oe Lm;show h.F (xK PS v) t (v,YM ns r v (bV cs (iT cs i u)).2.2.2==1)=az d;rw[<-same];cases hsw:qE ns v with
   |true=>
    have hf2:r.rz v (bV cs (iT cs i u)).2.2.2=!Gc (L (xK PS u)) u v:=(by rw[h.rz _ this.1 v ((h.mem this.1).2 ⟨hvl,lv0⟩)];unfold qN;rw[a2];simp only[a3];rw[decide_eq_true this.2,decide_eq_true lv0];rfl);unfold YM;rw[hsw,hf2,Bool.true_and];have e4:((if(!Gc (L (xK PS u)) u v)=true then 1 else 0:Nat)==1)=!Gc (L (xK PS u)) u v:=by cases Gc (L (xK PS u)) u v<;>rfl
    rw[e4];exact hd
   |false=>
    have vt:v=t:=by
     rcases thr with q|q
     ·exact q
     ·unfold qE at hsw;rw[hsw]at q;cases q
    have t0:0<=(L (xK PS u)).getD t 0:=(by rw[<-vt];exact lv0);have z:=(o.si t0).1.t0;rw[vt]at hd|-;rw[z]at hd|-;exact hd
  src:=fun t u ht hu hj=>by have:=h.zw hu;obtain⟨root,o⟩:=h.one hp this.1 ht;have lt:=h.zw ht;rw[<-h.jn hp hj]at lt;exact o.src lt.2 hu this.2
  sep:=fun t u p ht hu hs=>by have:=h.zw hu;obtain⟨root,o⟩:=h.one hp this.1 ht;obtain⟨d,hd⟩:=jT.1 hs;exact o.sep d u _ hd}
end
theorem dH.new{ns:List Nd}{cs:List Cb}{aI:List Int}{r:Rt}(hp:nW ns cs)(l0:1<=aI.length)(l1:aI.length<=4)(hr:∀x∈aI,1<=x/\x<=64)(hrt:AV ns cs r):dH ns cs (iq ns cs aI r) 0:=by
 have rl:(aI++aI).length=2*aI.length:=by simp;omega
 have hr2:∀x∈aI++aI,1<=x/\x<=64:=fun x hx=>hr x (by simpa using hx);have bx:∀i,i<ns.length->(iq ns cs aI r).boxes.getD i default=oL (gJ (ns.getD i iZ)) (aI++aI):=fun i hi=>by show(ns.map fun n=>oL (if n.sw then n.bE.toNat else 2) (aI++aI)).getD i default=_;simp[bS,hi,gJ]
 have cm:∀i v,dz (iq ns cs aI r).came i v=0:=fun i v=>by
  show dz (ns.map fun _=>(aI++aI).map fun _=>(0:Int)) i v=0;unfold dz;by_cases hi:i<ns.length
  ·by_cases hv:v<(aI++aI).length
   ·simp only[dN,cK,cZ hi,je,iy,cZ hv]
   ·simp only[dN,cK,cZ hi,je,iy,gG (xz hv),uQ,tY];rfl
  ·simp only[dN,cK,gG (xz hi),uQ,tY];rfl
 have gn:∀i v,dz (iq ns cs aI r).gone i v=0:=fun i v=>by
  show dz ((aN (2*cs.length)).map fun _=>(aI++aI).map fun _=>(0:Int)) i v=0;unfold dz;by_cases hi:i<(aN (2*cs.length)).length
  ·by_cases hv:v<(aI++aI).length
   ·simp only[dN,cK,cZ hi,je,iy,cZ hv]
   ·simp only[dN,cK,cZ hi,je,iy,gG (xz hv),uQ,tY];rfl
  ·simp only[dN,cK,gG (xz hi),uQ,tY];rfl
 exact{
  k0:=l0
  k1:=l1
  rl:=rl
  rv:=hr2
  bl:=by show(ns.map _).length=_;simp
  box:=fun i hi=>by rw[bx i hi];exact⟨lW.new (hp.Qp hi).1 (hp.Qp hi).2 (by omega) (by omega) hr2 0,rfl,rfl⟩
  q:=fun i p c x hi xh hc hx=>by
   rw[bx i hi]at hx;have e:dz (oL (gJ (ns.getD i iZ)) (aI++aI)).q p c=[]:=by show dz (aQ _ (aQ _ [])) p c=[];have qx:c<(aI++aI).length:=hc;rw[uJ xh];simp only[dN,List.getElem?_replicate,if_pos qx,iy]
   rw[e]at hx;cases hx
  up:=by show(cs.map _).length=_;simp
  r0:=hrt
  r1:=fun h=>absurd h (Nat.lt_irrefl 0)
  bn:=aC _
  a0:=⟨fC _,fC _⟩
  a1:=⟨fC _,fC _⟩
  now:=aC _
  last:=aC _
  ll:=aC _
  cm:=⟨by show(ns.map _).length=_;simp,fun i hi=>by show((ns.map fun _=>(aI++aI).map fun _=>(0:Int)).getD i []).length=_;simp only[dN,cK,cZ hi,je,iy,dW];rfl⟩
  cv:=fun i v _ _=>by rw[cm i v];exact⟨fC _,fC _⟩
  gn:=⟨by show((aN (2*cs.length)).map _).length=_;simp,fun i hi=>by show(((aN (2*cs.length)).map fun _=>(aI++aI).map fun _=>(0:Int)).getD i []).length=_;have hi':i<(aN (2*cs.length)).length:=(by simpa using hi);simp only[dN,cK,cZ hi',je,iy,dW];rfl⟩
  gv:=fun i v _ _=>by rw[gn i v];exact⟨fC _,fC _⟩
  fl:=fun t x hx=>by cases hx
  lim:=fun t x hx=>by cases hx
  Ee:=fun t=>aC _
  Ei:=fun t=>aC _}
theorem yJ.new(ns:List Nd)(cs:List Cb)(aI:List Int)(r:Rt):yJ cs (iq ns cs aI r):=⟨fun t=>List.nodup_nil,fun t x hx=>by cases hx⟩
def oP:List Nd:=[⟨⟨#[97]⟩,false,1⟩,⟨⟨#[115]⟩,true,2⟩,⟨⟨#[98]⟩,false,1⟩]
def oK:List Cb:=[⟨0,0,1,0,1,1⟩,⟨1,1,2,0,1,1⟩]
theorem Cx:fQ ⟨oP,oK⟩=0:=by decide+kernel
def rtC(ph:Nat)(r:Rt):Rt:=⟨fun u p t=>if u=0/\p=0/\t=2 then 0 else if u=1/\p=ph/\t=2 then 1 else r.next u p t,fun u p=>if u=1/\p=0 then ph==1 else r.rz u p⟩
theorem afp{r:Rt}(h:Az oP oK [true,true] r):r=rtC 0 r\/r=rtC 1 r:=by
 obtain⟨f,D⟩:=h.alC Cx;have j:Jn oK [true,true] 0 2:=((Jn.refl 0).step (i:=0) (v:=0) (w:=1) (by decide) rfl (.inl ⟨rfl,rfl⟩)).step (i:=1) (w:=2) (by decide) rfl (.inl ⟨rfl,rfl⟩);have s:=D.src 2 0 (by decide) (by decide) j;obtain⟨d,hd⟩:=jT.1 s;obtain⟨e,rfl⟩:∃e,d=e+1:=by
  cases d with
  |zero=>have:=D.zero 2 0 0 (by decide) (by decide) hd;cases this
  |succ e=>exact⟨e,rfl⟩
 obtain⟨i,hi,hn,_,Lm,_,thr,hf⟩:=D.step 2 0 0 e (by decide) (by decide) (by decide) hd;have hi2:i<2:=hi;obtain rfl:i=0:=by
  rcases(show i=0\/i=1 by omega)with q|q
  ·exact q
  ·exfalso;subst q;have A:(oK.getD 1 gV).a=1:=rfl;have B:(oK.getD 1 gV).b=2:=rfl;rcases Lm with⟨a,_⟩|⟨a,_⟩
   ·rw[A]at a;cases a
   ·rw[B]at a;cases a
 have e1:(bV oK (iT oK 0 0)).2.2.1=1:=rfl;have e2:(bV oK (iT oK 0 0)).2.2.2=0:=rfl;rw[e1,e2]at hf;obtain⟨e',rfl⟩:∃e',e=e'+1:=by
  cases e with
  |zero=>have:=D.zero 2 1 _ (by decide) (by decide) hf;cases this
  |succ e=>exact⟨e,rfl⟩
 obtain⟨i,hi,hn1,_,Lm,_,thr,hf1⟩:=D.step 2 1 _ e' (by decide) (by decide) (Uk _ _ _ _) hf;have hi2:i<2:=hi;obtain rfl:i=1:=by
  rcases(show i=0\/i=1 by omega)with q|q
  ·exfalso;subst q;have e3:(bV oK (iT oK 0 1)).2.2.1=0:=rfl;rw[e3]at thr;rcases thr with q|q
   ·cases q
   ·cases q
  ·exact q
 have hb:YM oP r 1 0=if r.rz 1 0 then 1 else 0:=rfl
 have key:∀ph,(if r.rz 1 0=true then 1 else 0:Nat)=ph->r.rz 1 0=(ph==1)->r=rtC ph r:=fun ph h1 h2=>by
  rw[hb,h1]at hn1;obtain⟨nx,fa⟩:=r;unfold rtC;simp only at hn hn1 h2|-;congr 1
  ·funext u p t;by_cases q1:u=0/\p=0/\t=2
   ·rw[if_pos q1,q1.1,q1.2.1,q1.2.2];exact hn
   ·rw[if_neg q1];by_cases q2:u=1/\p=ph/\t=2
    ·rw[if_pos q2,q2.1,q2.2.1,q2.2.2];exact hn1
    ·rw[if_neg q2]
  ·funext u p;by_cases q1:u=1/\p=0
   ·rw[if_pos q1,q1.1,q1.2];exact h2
   ·rw[if_neg q1]
 cases uy:r.rz 1 0 with
 |true=>exact .inr (key 1 (by rw[uy];rfl) (by rw[uy];rfl))
 |false=>exact .inl (key 0 (by rw[uy];rfl) (by rw[uy];rfl))
def ahl(r:Rt):dB:=((iq oP oK [1] r).iF oP 0 2 0 [120]).1
def ahm(r n1:Rt):dB:=((ahl r).tick oP oK n1).1
def ahn(r n1 n2:Rt):dB:=((ahm r n1).tick oP oK n2).1
def aaO(r n1 n2 n3:Rt):dB:=((ahn r n1 n2).tick oP oK n3).1
structure auJ(r n1 n2 n3 n4:Rt):Prop where
 a:((iq oP oK [1] r).iF oP 0 2 0 [120]).2=(1,0)
 t1:((ahl r).tick oP oK n1).2=[]
 t2:((ahm r n1).tick oP oK n2).2=[]
 t3:((ahn r n1 n2).tick oP oK n3).2=[]
 t4:((aaO r n1 n2 n3).tick oP oK n4).2=[(4,2,⟨1,0,2,0,0,[120]⟩)]
 b:((aaO r n1 n2 n3).tick oP oK n4).1.dE=0
 a0:((aaO r n1 n2 n3).tick oP oK n4).1.wQ=0
theorem UY{r:Rt}(h:Az oP oK [true,true] r)(n1 n2 n3 n4:Rt):auJ r n1 n2 n3 n4:=by
 rcases afp h with e|e
 ·rw[e];refine⟨?_,?_,?_,?_,?_,?_,?_⟩<;>kernel_rfl
 ·rw[e];refine⟨?_,?_,?_,?_,?_,?_,?_⟩<;>kernel_rfl
end
end Go.Proofs.YtnjjkgjdhljfnaaGreat
