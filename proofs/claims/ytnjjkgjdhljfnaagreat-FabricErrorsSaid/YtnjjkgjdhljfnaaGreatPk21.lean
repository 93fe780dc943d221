/- Part 21 of the proof of fabricErrors.proved: FbRp FbRm FbRr FbTa FbTb FbTc FbTd FbTw FbRg FbRh FbAw. Several texts in one, blanks struck, what is not used left out. -/
import Derived.Deep.Cut
import Derived.Deep.CutRange
import Derived.KernelRfl
import Derived.Shelf.Abstract
import Derived.Test.YtnjjkgjdhljfnaaGreatPk1
import Derived.Test.YtnjjkgjdhljfnaaGreatPk7
import Derived.Test.YtnjjkgjdhljfnaaGreatPk12
import Derived.Test.YtnjjkgjdhljfnaaGreatPk13
import Derived.Test.YtnjjkgjdhljfnaaGreatPk15
import Derived.Test.YtnjjkgjdhljfnaaGreatPk16
import Derived.Test.YtnjjkgjdhljfnaaGreatPk20
set_option maxRecDepth 100000
set_option maxHeartbeats 16000000
set_option linter.unusedVariables false
set_option linter.unusedSimpArgs false
namespace Go.Proofs.YtnjjkgjdhljfnaaGreat
open Go.RowKit Go.Maps
def flipC(c:Nat):Nat:=if c%2=0 then c+1 else c-1
theorem flip_bits{c:Nat}(h:c<64):bits .xor .i64 (c:Int) 1=(flipC c:Int):=by
 have key:∀c:Fin 64,bits .xor .i64 ((c.val:Nat):Int) 1=(flipC c.val:Int):=by decide+kernel
 exact key ⟨c,h⟩
def othF(cs:List Cb)(i u:Nat):Nat:=(endsF cs (flipC (chanF cs i u))).1
def fallsP(cs:List Cb)(lv:List Int)(u p:Nat):Bool:=match cableAt cs u p with
 |none=>false
 |some i=>decide (0≤lv.getD (othF cs i u) 0)&&decide (0≤lv.getD u 0)&&!upB lv (othF cs i u) u
theorem PlF.flip{ns:List Nd}{cs:List Cb}(h:PlF ns cs){i u:Nat}(hi:i<cs.length)(hu:(cs.getD i cb0).a=(u:Int)∨(cs.getD i cb0).b=(u:Int)):othF cs i u<ns.length∧touch (cs.getD i cb0) (othF cs i u) u∧flipC (chanF cs i u)<2*cs.length∧othF cs i u≠u:=by
 have A:=h.a0 _ hi;have B:=h.b0 _ hi;have ab:=h.ab _ hi;unfold othF chanF;by_cases e:(cs.getD i cb0).a=(u:Int)
 ·rw[if_pos e];unfold flipC;rw[if_pos (by omega)];unfold endsF;rw[if_neg (by omega),show(2*i+1)/2=i by omega];simp only;refine⟨by omega,.inr ⟨by omega,by omega⟩,by omega,by omega⟩
 ·rw[if_neg e];have e2:(cs.getD i cb0).b=(u:Int):=hu.resolve_left e;unfold flipC;rw[if_neg (by omega)];unfold endsF;rw[if_pos (by omega),show(2*i+1-1)/2=i by omega];simp only;refine⟨by omega,.inl ⟨by omega,by omega⟩,by omega,by omega⟩
def pidx(PS:List (List Nat))(u:Nat):Nat:=PS.findIdx fun P=>P.contains u
theorem pidx_of{PS:List (List Nat)}(hd:PS.Pairwise fun P Q=>∀j,j∈P→j∉Q){m u:Nat}(hm:m<PS.length)(hu:u∈PS.getD m []):pidx PS u=m:=by
 have e:PS.getD m []=PS[m]:=by simp[List.getD,hm]
 rw[e]at hu;unfold pidx;rw[List.findIdx_eq hm];refine⟨by simpa using hu,fun j hj=>?_⟩;have:=List.pairwise_iff_getElem.1 hd j m (by omega) hm hj;simp only[List.contains_eq_mem,decide_eq_false_iff_not];exact fun q=>this u q hu
def rOf(cs:List Cb)(PS:List (List Nat))(L:Nat→List Int)(G:Nat→GT):Rt:=⟨fun u p t=>G (pidx PS u) u p t,fun u p=>fallsP cs (L (pidx PS u)) u p⟩
structure NetP(ns:List Nd)(cs:List Cb)(us:List Bool)(P:List Nat)(l:List Int)(G:GT):Prop where
 lv:∃root,LvU ns.length cs us root l
 part:P=fltL l ns.length
 net:Net ns cs us l G
structure RtNet(ns:List Nd)(cs:List Cb)(us:List Bool)(r:Rt)(PS:List (List Nat))(L:Nat→List Int)(G:Nat→GT):Prop where
 all:∀u,u<ns.length→∃m,m<PS.length∧u∈PS.getD m []
 net:∀m,m<PS.length→NetP ns cs us (PS.getD m []) (L m) (G m)
 next:∀m,m<PS.length→∀u∈PS.getD m [],∀p t,p<2→t<ns.length→r.next u p t=G m u p t
 falls:∀m,m<PS.length→∀u∈PS.getD m [],∀p,r.falls u p=fallsP cs (L m) u p
def IsRt(ns:List Nd)(cs:List Cb)(us:List Bool)(r:Rt):Prop:=∃PS L G,RtNet ns cs us r PS L G
theorem RtNet.of{ns:List Nd}{cs:List Cb}{us:List Bool}{PS:List (List Nat)}{L:Nat→List Int}{G:Nat→GT}{sn:Nat→Bool}(h:PaI ns.length cs us ns.length sn PS)(hn:∀m,m<PS.length→NetP ns cs us (PS.getD m []) (L m) (G m)):RtNet ns cs us (rOf cs PS L G) PS L G where
 all:=fun u hu=>by obtain⟨P,h1,h2⟩:=(h.seen u hu).1 (h.all u hu);obtain⟨m,hm,rfl⟩:=List.getElem_of_mem h1;exact⟨m,hm,by simpa[List.getD,hm]using h2⟩
 net:=hn
 next:=fun m hm u hu p t hp ht=>by show G (pidx PS u) u p t=_;rw[pidx_of h.dis hm hu]
 falls:=fun m hm u hu p=>by show fallsP cs (L (pidx PS u)) u p=_;rw[pidx_of h.dis hm hu]
theorem NetP.bound{ns:List Nd}{cs:List Cb}{us:List Bool}{P:List Nat}{l:List Int}{G:GT}(h:NetP ns cs us P l G)(hv:validP ⟨ns,cs⟩=0){u p t:Nat}(hu:u<ns.length)(hp:p<2)(ht:t<ns.length):(G u p t<cs.length∧-2≤G u p t)∧(0≤G u p t→(cs.getD (G u p t).toNat cb0).a=(u:Int)∨(cs.getD (G u p t).toNat cb0).b=(u:Int)):=by
 obtain⟨f,h1,h2⟩:=h.net.col t ht;have h3:=h2 u p hu hp;refine⟨?_,fun h0=>?_⟩
 ·rcases h3 with⟨_,e⟩|⟨_,⟨e,_⟩|⟨i,hi,e,_⟩⟩<;>(rw[e];omega)
 ·rcases h3 with⟨_,e⟩|⟨_,⟨e,_⟩|⟨i,hi,e,hf⟩⟩
  ·omega
  ·omega
  ·obtain⟨v,_,hv'⟩:=fit_touch hv hi hf;rw[e,Int.toNat_natCast];rcases hv' with q|q
   ·exact .inl q.1
   ·exact .inr q.1
theorem RtNet.ok{ns:List Nd}{cs:List Cb}{us:List Bool}{r:Rt}{PS:List (List Nat)}{L:Nat→List Int}{G:Nat→GT}(h:RtNet ns cs us r PS L G)(hv:validP ⟨ns,cs⟩=0):RtOk ns cs r:=fun u p t hu hp ht=>by obtain⟨m,hm,hum⟩:=h.all u hu;rw[h.next m hm u hum p t hp ht];exact(h.net m hm).bound hv hu hp ht
structure FabH(τ:Own)(w:World)(b:Nat)(ns:List Nd)(cs:List Cb)(f:Fab)(L:FbL):Prop where
 root:Blk w b 100 (fabC f L)
 rootT:τ b=(2,0,0,0)
 plan:PlanM τ w ns cs L.vn L.vc
 rooms:ArrM τ w 3 never L.vr f.rooms.length (f.rooms.map fun x=>.int .i64 x)
 cab:ArrM τ w 26 never L.vt ns.length ((List.range ns.length).map L.row)∧∀i,i<ns.length→ArrM τ w 3 never (L.row i) (portsOf (ns.getD i nd0)) ((List.range (portsOf (ns.getD i nd0))).map fun p=>.int .i64 (cabI cs i p))
 bxs:ArrM τ w 101 never L.vb ns.length ((List.range ns.length).map fun i=>pt (L.bx i))
 bx:∀i,i<ns.length→BxM τ (3+i) w (L.bx i) (f.boxes.getD i default) (L.bxl i)
 up:ArrM τ w 4 (is2 1 0) L.vu f.up.length (f.up.map fun x=>.bool x)
 bkT:τ L.bk=(2,2,0,0)
 bkL:L.bk<w.heap.size
 fl:TickM w L.mf f.fl (fun t v l=>FliM τ w v l∧∀g,v.ownBlock=some g→τ g=(2,4,t,0))∧τ L.mf=(2,3,0,0)
 lim:TickM w L.ml f.lim (fun t v l=>NotM w v l∧∀g,v.ownBlock=some g→τ g=(2,6,t,0))∧τ L.ml=(2,5,0,0)
 came:CntM τ w 7 L.vcm L.cm ns.length f.came
 gone:CntM τ w 8 L.vg L.gn (2*cs.length) f.gone
 lost:∃ids:List Int,w.ownsRow 0 3 1 L.vl ids.length (ids.flatMap cI)∧(∀g,L.vl.ownBlock=some g→τ g=(2,9,0,0))∧ids.Perm (f.lost.map (·.id))
section
variable{τ τ':Own}{w w':World}{b:Nat}{ns:List Nd}{cs:List Cb}{f f':Fab}{L L':FbL}
theorem FabH.toM(h:FabH τ w b ns cs f L)(hb:Bk w L.bk f.bnow f.al0 f.al1)(r0:RtM τ w ns L.r0n L.r0f f.rt0)(r1:0<f.bnow→RtM τ w ns L.r1n L.r1f f.rt1):FabM τ w b ns cs f L:=
 ⟨⟨h.root,h.rootT⟩,h.plan,h.rooms,h.cab,h.bxs,h.bx,h.up,r0,r1,⟨hb,h.bkT⟩,h.fl,h.lim,h.came,h.gone,h.lost⟩
theorem FabH.chE{S:Nat→Prop}(h:FabH τ w b ns cs f L)(hc:Ch S w w')(he:∀k,k<w.heap.size→τ' k=τ k)(hS:∀k,S k→k=b)(hr:Blk w' b 100 (fabC f' L'))(e1:f'={f with rt0:=f'.rt0,rt1:=f'.rt1})(e2:L'={L with r0n:=L'.r0n,r0f:=L'.r0f,r1n:=L'.r1n,r1f:=L'.r1f}):FabH τ' w' b ns cs f' L':=by
 have hT:=h.rootT;have s1:∀k,S k→(τ k).1≠1:=fun k s=>by rw[hS k s,hT];decide
 have s2:∀(kd:Nat) {g a d:Nat},kd≠0→τ g=(2,kd,a,d)→¬S g:=fun kd g a d hk e s=>by have:=hS g s;rw[this,hT]at e;injection e with _ e;injection e with e;exact hk e.symm
 have s3:∀k,S k→∀i,(τ k).1≠3+i:=fun k s i=>by rw[hS k s,hT];show 2≠3+i;omega
 have sn:∀k,S k→¬never (τ k):=fun k s q=>s1 k s q;have kind:∀k,S k→(τ k).2.1=0:=fun k s=>by rw[hS k s,hT]
 rw[e1,e2]at hr⊢;exact{
  root:=hr
  rootT:=by rw[he _ h.root.lt];exact hT
  plan:=h.plan.chE hc he s1
  rooms:=h.rooms.chE hc he sn
  cab:=⟨h.cab.1.chE hc he sn,fun i hi=>(h.cab.2 i hi).chE hc he sn⟩
  bxs:=h.bxs.chE hc he sn
  bx:=fun i hi=>(h.bx i hi).chE hc he fun k s=>⟨s1 k s,s3 k s i⟩
  up:=h.up.chE hc he fun k s q=>s2 1 (by decide) q s
  bkT:=by show τ' L.bk=_;rw[he _ h.bkL];exact h.bkT
  bkL:=Nat.lt_of_lt_of_le h.bkL hc.size
  fl:=by obtain⟨n,M,m1,m2,m3,m4,m5⟩:=h.fl.1;refine⟨⟨n,M,omap_ch m1 hc (s2 3 (by decide) h.fl.2),m2,m3,m4,fun t v hv=>?_⟩,by show τ' L.mf=_;rw[he _ m1.ltb];exact h.fl.2⟩;obtain⟨a1,a2⟩:=m5 t v hv;exact⟨a1.chE hc he s1 fun g hg=>s2 4 (by decide) (a2 g hg),fun g hg=>by rw[he _ (a1.lt g hg)];exact a2 g hg⟩
  lim:=by obtain⟨n,M,m1,m2,m3,m4,m5⟩:=h.lim.1;refine⟨⟨n,M,omap_ch m1 hc (s2 5 (by decide) h.lim.2),m2,m3,m4,fun t v hv=>?_⟩,by show τ' L.ml=_;rw[he _ m1.ltb];exact h.lim.2⟩;obtain⟨a1,a2⟩:=m5 t v hv;exact⟨own_ch a1 hc fun g hg=>s2 6 (by decide) (a2 g hg),fun g hg=>by rw[he _ (World.ownsRow.lt a1 g hg).2];exact a2 g hg⟩
  came:=h.came.chE hc he fun g s=>⟨s1 g s,fun _ q=>by rw[kind g s]at q;omega⟩
  gone:=h.gone.chE hc he fun g s=>⟨s1 g s,fun _ q=>by rw[kind g s]at q;omega⟩
  lost:=by obtain⟨ids,i1,i2,i3⟩:=h.lost;exact⟨ids,own_ch i1 hc fun g hg=>s2 9 (by decide) (i2 g hg),fun g hg=>by rw[he _ (i1.lt g hg).2];exact i2 g hg,i3⟩}
theorem FabH.below(h:FabH τ w b ns cs f L)(k:Below w.heap.size w w')(he:∀k,k<w.heap.size→τ' k=τ k):FabH τ' w' b ns cs f L:=
 h.chE (S:=fun _=>False) (Ch.of_below k) he (fun _ s=>s.elim) (h.root.below k h.root.lt) rfl rfl
theorem FabH.r19(h:FabH τ w b ns cs f L){i:Nat}:w.cell? ⟨b,i,none⟩=(fabC f L)[i]?:=h.root.cell i
def Fab.setR(f:Fab)(q:Nat)(r:Rt):Fab:=if q=0 then{f with rt0:=r}else{f with rt1:=r}
def FbL.setR(L:FbL)(q:Nat)(vn vf:Value):FbL:=if q=0 then{L with r0n:=vn,r0f:=vf}else{L with r1n:=vn,r1f:=vf}
end
structure RS(base:Nat)(w:World)(n bR bN bF:Nat)(V:Nat→Nat→Value)(U:Nat→Value):Prop where
 r:Blk w bR 97 #[.slice (some ⟨bN,0,none⟩) n n,.slice (some ⟨bF,0,none⟩) n n]
 nx:Blk w bN 176 ((List.range n).flatMap fun i=>[V i 0,V i 1]).toArray
 fl:Blk w bF 52 ((List.range n).map U).toArray
 gR:base≤bR
 gN:base≤bN
 gF:base≤bF
structure RowOK(ns:List Nd)(cs:List Cb)(base:Nat)(w:World)(V:Nat→Nat→Value)(U:Nat→Value)(l:List Int)(G:GT)(u:Nat):Prop where
 a:∀p,p<2→w.ownsRow base 3 1 (V u p) ns.length ((List.range ns.length).map fun t=>.int .i64 (G u p t))
 b:w.ownsRow base 4 1 (U u) (portsOf (ns.getD u nd0)) ((List.range (portsOf (ns.getD u nd0))).map fun p=>.bool (fallsP cs l u p))
section
variable{base n bR bN bF:Nat}{w w':World}{V:Nat→Nat→Value}{U:Nat→Value}{S:Nat→Prop}{ns:List Nd}{cs:List Cb}{l:List Int}{G:GT}{u:Nat}
theorem own_ty{base' m k:Nat}{e:TypeId}{v:Value}{xs:List Value}(h:w.ownsRow base' e m v k xs)(hc:Ch S w w')(hS:∀g,S g→∃t C,Blk w g t C∧t≠e):w'.ownsRow base' e m v k xs:=
 own_ch h hc fun g hg s=>by obtain⟨t,C,hb,n1⟩:=hS g s;obtain⟨C',hb'⟩:=own_blk h g hg;exact n1 (Blk.same hb hb').1
theorem RowOK.ch(h:RowOK ns cs base w V U l G u)(hc:Ch S w w')(hS:∀g,S g→∃t C,Blk w g t C∧t≠3∧t≠4):RowOK ns cs base w' V U l G u:=
 ⟨fun p hp=>own_ty (h.a p hp) hc fun g s=>(by obtain⟨t,C,a,b,c⟩:=hS g s;exact⟨t,C,a,b⟩),own_ty h.b hc fun g s=>(by obtain⟨t,C,a,b,c⟩:=hS g s;exact⟨t,C,a,c⟩)⟩
theorem RowOK.congr{V':Nat→Nat→Value}{U':Nat→Value}(h:RowOK ns cs base w V U l G u)(hV:∀p,p<2→V' u p=V u p)(hU:U' u=U u):RowOK ns cs base w V' U' l G u:=
 ⟨fun p hp=>by rw[hV p hp];exact h.a p hp,by rw[hU];exact h.b⟩
theorem RS.ch(h:RS base w n bR bN bF V U)(hc:Ch S w w')(hR:¬S bR)(hN:¬S bN)(hF:¬S bF):RS base w' n bR bN bF V U:=⟨h.r.ch hc hR,h.nx.ch hc hN,h.fl.ch hc hF,h.gR,h.gN,h.gF⟩
theorem RS.below(h:RS base w n bR bN bF V U)(hb:Below w.heap.size w w'):RS base w' n bR bN bF V U:=⟨h.r.below hb h.r.lt,h.nx.below hb h.nx.lt,h.fl.below hb h.fl.lt,h.gR,h.gN,h.gF⟩
theorem flat2_len(n:Nat)(f:Nat→List Value)(hf:∀i,(f i).length=2):((List.range n).flatMap f).length=n*2:=by
 induction n with
 |zero=>rfl
 |succ n ih=>rw[List.range_succ,List.flatMap_append,List.length_append,ih];simp[hf];omega
theorem flat2_at(n:Nat)(V:Nat→Nat→Value){i p:Nat}(hi:i<n)(hp:p<2):((List.range n).flatMap fun i=>[V i 0,V i 1])[i*2+p]?=some (V i p):=by
 rw[flatG_at (d:=0) (m:=2) (c:=fun i=>[V i 0,V i 1]) (fun _=>rfl) _ i p (by simpa using hi) hp];have e2:(List.range n).getD i 0=i:=by simp[List.getD,hi]
 rw[e2];rcases(show p=0∨p=1 by omega)with rfl|rfl<;>rfl
theorem flat2_set(n:Nat)(V:Nat→Nat→Value){i p:Nat}(hi:i<n)(hp:p<2)(v:Value):((List.range n).flatMap fun i=>[V i 0,V i 1]).set (i*2+p) v=(List.range n).flatMap fun j=>[upd2 V i p v j 0,upd2 V i p v j 1]:=by
 have l1:=flat2_len n (fun i=>[V i 0,V i 1]) fun _=>rfl;have l2:=flat2_len n (fun j=>[upd2 V i p v j 0,upd2 V i p v j 1]) fun _=>rfl;apply List.ext_getElem?;intro k;rw[List.getElem?_set];by_cases hk:k<n*2
 ·obtain⟨j,q,hj,hq,rfl⟩:∃j q,j<n∧q<2∧k=j*2+q:=⟨k/2,k%2,by omega,by omega,by omega⟩;rw[flat2_at n V hj hq,flat2_at n (upd2 V i p v) hj hq];by_cases e:i*2+p=j*2+q
  ·have e1:j=i:=by omega
   have e2:q=p:=(by omega);subst e1;subst e2;rw[if_pos rfl,if_pos (by rw[l1];omega),upd2_same]
  ·rw[if_neg e,upd2_other V v (fun q'=>e (by rw[q'.1,q'.2]))]
 ·rw[if_neg (by omega),List.getElem?_eq_none (by rw[l1];omega),List.getElem?_eq_none (by rw[l2];omega)]
theorem RS.setN(h:RS base w n bR bN bF V U){u p:Nat}(hu:u<n)(hp:p<2)(v:Value):RS base (w.setCell ⟨bN,u*2+p,none⟩ v) n bR bN bF (upd2 V u p v) U:=by have n1:bR≠bN:=Blk.ne_ h.r h.nx (by decide);have n2:bF≠bN:=Blk.ne_ h.fl h.nx (by decide);refine⟨h.r.far (p:=⟨bN,u*2+p,none⟩) n1 _,?_,h.fl.far (p:=⟨bN,u*2+p,none⟩) n2 _,h.gR,h.gN,h.gF⟩;have:=h.nx.set_ (u*2+p) v;rw[List.setIfInBounds_toArray,flat2_set n V hu hp v]at this;exact this
theorem map_set_at{α:Type}(n:Nat)(f:Nat→α)(u:Nat)(x:α):((List.range n).map f).set u x=(List.range n).map fun i=>if i=u then x else f i:=by
 apply List.ext_getElem?;intro k;rw[List.getElem?_set,List.getElem?_map,List.getElem?_map];by_cases hk:k<n
 ·rw[List.getElem?_range hk];by_cases e:u=k
  ·subst e;simp[hk]
  ·rw[if_neg e];simp[Ne.symm e]
 ·have e1:(List.range n)[k]?=none:=List.getElem?_eq_none (by simp;omega);rw[e1];by_cases e:u=k
  ·subst e;simp[hk]
  ·rw[if_neg e];rfl
theorem ArrM.of_own{τ:Own}{base' k:Nat}{e:TypeId}{v:Value}{xs:List Value}{T:Tg→Prop}(h:w.ownsRow base' e 1 v k xs)(hT:∀g,base'≤g→g<w.heap.size→T (τ g)):ArrM τ w e T v k xs:=by
 have hl:xs.length=k:=by rw[h.1];omega
 obtain⟨a,c,ev⟩:=own_formN h;refine⟨a,c,ev,fun h0=>?_⟩;obtain⟨g,cap,C,e1,hb,hbase,hC⟩:=own_blk1 h (by omega);rw[ev]at e1;injection e1 with e1;exact⟨g,C,e1,hb,hT g hbase hb.lt,fun i hi=>hC i (by omega)⟩
theorem RS.rtM{τ:Own}{r:Rt}(h:RS base w ns.length bR bN bF V U)(hT:∀g,base≤g→g<w.heap.size→(τ g).1=1)(hr:∀u,u<ns.length→∃l G,RowOK ns cs base w V U l G u∧(∀p t,p<2→t<ns.length→r.next u p t=G u p t)∧∀p,r.falls u p=fallsP cs l u p):RtM τ w ns (.slice (some ⟨bN,0,none⟩) ns.length ns.length) (.slice (some ⟨bF,0,none⟩) ns.length ns.length) r where
 nx:=by
  refine⟨V,⟨_,_,rfl,fun h0=>⟨bN,_,rfl,h.nx,hT _ h.gN h.nx.lt,fun i hi=>by rw[List.getElem?_toArray]⟩⟩,fun u hu p hp=>?_⟩;obtain⟨l,G,h1,h2,h3⟩:=hr u hu;have:=ArrM.of_own (τ:=τ) (T:=never) (h1.a p hp) fun g a c=>hT g a c;have e:((List.range ns.length).map fun t=>Value.int .i64 (r.next u p t))=(List.range ns.length).map fun t=>Value.int .i64 (G u p t):=List.map_congr_left fun t ht=>by rw[h2 p t hp (List.mem_range.1 ht)]
  rw[e];exact this
 fl:=by
  refine⟨U,⟨_,_,rfl,fun h0=>⟨bF,_,rfl,h.fl,hT _ h.gF h.fl.lt,fun i hi=>by rw[List.getElem?_toArray]⟩⟩,fun u hu=>?_⟩;obtain⟨l,G,h1,h2,h3⟩:=hr u hu;have:=ArrM.of_own (τ:=τ) (T:=never) h1.b fun g a c=>hT g a c;have e:((List.range (portsOf (ns.getD u nd0))).map fun p=>Value.bool (r.falls u p))=(List.range (portsOf (ns.getD u nd0))).map fun p=>Value.bool (fallsP cs l u p):=List.map_congr_left fun p _=>by rw[h3 p]
  rw[e];exact this
end
end Go.Proofs.YtnjjkgjdhljfnaaGreat
namespace Go.Proofs.YtnjjkgjdhljfnaaGreat
open Go.RowKit Go.Maps
attribute [local go_sem ↓] Go.wp_at_zero Go.wp_at_succ
theorem infoBoolsR:(Tryz.prog.info? 52).map (fun i=>(i.zero,i.size,i.bytes))=some (some (.slice none 0 0),1,24):=by kernel_rfl
def RerPost(τ:Own)(w:World)(b:Nat)(ns:List Nd)(cs:List Cb)(f:Fab)(e:Ending)(w':World):Prop:=
 e=.returned (.tuple #[])∧∃r,IsRt ns cs f.up r∧∃τ' L',FabM τ' w' b ns cs (f.setR (f.bnow%2) r) L'∧FNx τ w τ' w'
theorem blk31(w:World)(t1 t2 t3:TypeId)(C1 C2 C3:Array Value):Blk (((w.alloc (.cells C1 t1)).alloc (.cells C2 t2)).alloc (.cells C3 t3)).drew w.heap.size t1 C1:=((Blk.new w _ _).alloc _).alloc _
theorem blk32(w:World)(t1 t2 t3:TypeId)(C1 C2 C3:Array Value):Blk (((w.alloc (.cells C1 t1)).alloc (.cells C2 t2)).alloc (.cells C3 t3)).drew (w.heap.size+1) t2 C2:=by have:=Blk.new (w.alloc (.cells C1 t1)) t2 C2;exact(by simpa using this:Blk _ (w.heap.size+1) _ _).alloc _
theorem blk33(w:World)(t1 t2 t3:TypeId)(C1 C2 C3:Array Value):Blk (((w.alloc (.cells C1 t1)).alloc (.cells C2 t2)).alloc (.cells C3 t3)).drew (w.heap.size+1+1) t3 C3:=by have:=Blk.new ((w.alloc (.cells C1 t1)).alloc (.cells C2 t2)) t3 C3;exact(by simpa using this:Blk _ (w.heap.size+1+1) _ _)
theorem blk3b(w:World)(t1 t2 t3:TypeId)(C1 C2 C3:Array Value):Below w.heap.size w (((w.alloc (.cells C1 t1)).alloc (.cells C2 t2)).alloc (.cells C3 t3)).drew:=((((Below.refl _ _).alloc (Nat.le_refl _) _).alloc (by simp) _).alloc (by simp;omega) _).drew
theorem made2R(n:Nat):madeCells #[.slice none 0 0,.slice none 0 0] (n*2)=((List.range n).flatMap fun _=>[Value.slice none 0 0,.slice none 0 0]).toArray:=by
 have l1:=flat2_len n (fun _=>[Value.slice none 0 0,.slice none 0 0]) fun _=>rfl;apply Array.ext
 ·simp[size_madeCells,l1]
 ·intro i h1 h2;simp only[size_madeCells]at h1;have e:=flat2_at n (fun _ _=>Value.slice none 0 0) (i:=i/2) (p:=i%2) (by omega) (by omega);rw[show i/2*2+i%2=i by omega]at e;rw[List.getElem?_eq_getElem (by rw[l1];omega)]at e;injection e with e
  conv=>rhs;rw[List.getElem_toArray,e]
  simp only[madeCells,Array.getElem_ofFn];rcases(show i%2=0∨i%2=1 by omega)with q|q<;>simp[q]
theorem made1R(n:Nat):madeCells #[.slice none 0 0] n=((List.range n).map fun _=>Value.slice none 0 0).toArray:=by
 apply Array.ext
 ·simp[size_madeCells]
 ·intro i h1 h2;simp[madeCells,Nat.mod_one]
def Cut1(n:Nat)(w:World)(s3:Value)(wx:World):Prop:=
 ∃bR bN bF,s3=.pointer (some ⟨bR,0,none⟩)∧RS w.heap.size wx n bR bN bF (fun _ _=>.slice none 0 0) (fun _=>.slice none 0 0)∧Below w.heap.size w wx
theorem cut1_of{n bR bN bF:Nat}{w wx:World}(h1:Blk wx bR 97 #[.slice (some ⟨bN,0,none⟩) n n,.slice (some ⟨bF,0,none⟩) n n])(h2:Blk wx bN 176 (madeCells #[.slice none 0 0,.slice none 0 0] (n*2)))(h3:Blk wx bF 52 (madeCells #[.slice none 0 0] n))(g1:w.heap.size≤bR)(g2:w.heap.size≤bN)(g3:w.heap.size≤bF)(hb:Below w.heap.size w wx):Cut1 n w (.pointer (some ⟨bR,0,none⟩)) wx:=⟨bR,bN,bF,rfl,⟨h1,by rw[←made2R];exact h2,by rw[←made1R];exact h3,g1,g2,g3⟩,hb⟩
def Cut5(ns:List Nd)(cs:List Cb)(us:List Bool)(root:Nat)(wr:World)(s6:Value)(wx:World):Prop:=
 ∃bO l v,s6=.pointer (some ⟨bO,0,none⟩)∧Blk wx bO 169 #[v]∧wr.heap.size≤bO∧wx.ownsRow wr.heap.size 3 1 v l.length (l.flatMap cI)∧LvU ns.length cs us root l∧Below wr.heap.size wr wx
def Cut6(n:Nat)(cs:List Cb)(us:List Bool)(lv:List Int)(wr:World)(s8:Value)(wx:World):Prop:=
 ∃bQ bT base V G,s8=.pointer (some ⟨bQ,0,none⟩)∧Blk wx bQ 173 #[.slice (some ⟨bT,0,none⟩) n n]∧wr.heap.size≤bQ∧wr.heap.size≤base∧wr.heap.size≤bT∧TM wx bT base n 0 0 V (fun _ _=>n) G∧(∀t,t<n→Col n cs us lv G t)∧Below wr.heap.size wr wx
def RelRr1(ns:List Nd)(cs:List Cb)(us:List Bool)(base:Nat)(w2:World)(bR bN bF:Nat)(PS:List (List Nat))(i:Value)(wr:World):Prop:=
 ∃(m:Nat) (V:Nat→Nat→Value) (U:Nat→Value) (L:Nat→List Int) (G:Nat→GT),m≤PS.length∧i=.int .i64 (m:Nat)∧RS base wr ns.length bR bN bF V U∧(∀k,k<m→NetP ns cs us (PS.getD k []) (L k) (G k))∧
  (∀k,k<m→∀u∈PS.getD k [],RowOK ns cs base wr V U (L k) (G k) u)∧(∀u,u<ns.length→(∀k,k<m→u∉PS.getD k [])→U u=.slice none 0 0)∧Ch (fun k=>k=bN∨k=bF) w2 wr
theorem TM.chTy{S:Nat→Prop}{w w':World}{bT base n hA hB:Nat}{V:Nat→Nat→Value}{len:Nat→Nat→Nat}{G:GT}(h:TM w bT base n hA hB V len G)(hc:Ch S w w')(hS:∀g,S g→∃t C,Blk w g t C∧t≠176∧t≠3):TM w' bT base n hA hB V len G:=by refine⟨?_,fun i p hi hp=>own_ty (h.own i p hi hp) hc fun g s=>(by obtain⟨t,C,a,b,c⟩:=hS g s;exact⟨t,C,a,c⟩),h.apart,h.gap,h.lt⟩;obtain⟨arr,hb,hr⟩:=h.row;exact⟨arr,hb.ch hc fun s=>by obtain⟨t,C,a,b,c⟩:=hS _ s;exact b (Blk.same hb a).1.symm,hr⟩
theorem below_thenCh{S:Nat→Prop}{w a c:World}(hB:Below w.heap.size w a)(hc:Ch S a c)(hS:∀g,S g→w.heap.size≤g):Below w.heap.size w c:=
 ⟨hc.os.trans hB.os,hc.tape.trans hB.tape,hc.output.trans hB.output,Nat.le_trans hB.size hc.size,fun i hi=>(hc.block i (Nat.lt_of_lt_of_le hi hB.size) fun s=>by have:=hS i s;omega).trans (hB.block i hi)⟩
def RelRr2(ns:List Nd)(cs:List Cb)(base:Nat)(w6:World)(bR bN bF m:Nat)(PS:List (List Nat))(P:List Nat)(LV:Nat→List Int)(GG:Nat→GT)(l:List Int)(G1:GT)(i:Value)(wr:World):Prop:=
 ∃(q:Nat) (V:Nat→Nat→Value) (U:Nat→Value),q≤P.length∧i=.int .i64 (q:Nat)∧RS base wr ns.length bR bN bF V U∧(∀k,k<m→∀u∈PS.getD k [],RowOK ns cs base wr V U (LV k) (GG k) u)∧(∀u∈P.take q,RowOK ns cs base wr V U l G1 u)∧
  (∀u,u<ns.length→(∀k,k<m→u∉PS.getD k [])→u∉P.take q→U u=.slice none 0 0)∧Ch (fun k=>k=bN∨k=bF) w6 wr
def RelRr3(ns:List Nd)(cs:List Cb)(w7:World)(bF u np:Nat)(U:Nat→Value)(l:List Int)(i:Value)(wr:World):Prop:=
 ∃(p:Nat) (vf:Value),p≤np∧i=.int .i64 (p:Nat)∧wr.ownsRow w7.heap.size 4 1 vf p ((List.range p).map fun p=>.bool (fallsP cs l u p))∧Blk wr bF 52 ((List.range ns.length).map fun i=>if i=u then vf else U i).toArray∧Ch (fun k=>k=bF) w7 wr
theorem rr_end{ns:List Nd}{cs:List Cb}{base:Nat}{w6 w7 w8 w9:World}{bR bN bF m q u np:Nat}{PS:List (List Nat)}{P:List Nat}{LV:Nat→List Int}{GG:Nat→GT}{l:List Int}{G1:GT}{V' V2:Nat→Nat→Value}{U':Nat→Value}{vf:Value}(RS7:RS base w7 ns.length bR bN bF V' U')(RS8:RS base w8 ns.length bR bN bF V2 U')(hV:∀x p,x≠u→V2 x p=V' x p)(C7:Ch (fun k=>k=bN∨k=bF) w6 w7)(C78:Ch (fun k=>k=bN) w7 w8)(C9:Ch (fun k=>k=bF) w8 w9)(FB9:Blk w9 bF 52 ((List.range ns.length).map fun i=>if i=u then vf else U' i).toArray)(F9:w9.ownsRow w8.heap.size 4 1 vf np ((List.range np).map fun p=>.bool (fallsP cs l u p)))(ROWS:∀p,p<2→w7.ownsRow base 3 1 (V2 u p) ns.length ((List.range ns.length).map fun t=>.int .i64 (G1 u p t)))(RO7:∀k,k<m→∀u∈PS.getD k [],RowOK ns cs base w7 V' U' (LV k) (GG k) u)(RQ7:∀u∈P.take q,RowOK ns cs base w7 V' U' l G1 u)(U7:∀u,u<ns.length→(∀k,k<m→u∉PS.getD k [])→u∉P.take q→U' u=.slice none 0 0)(HPU:P.take (q+1)=P.take q++[u])(DJ:∀k,k<m→u∉PS.getD k [])(UNW:u∉P.take q)(HNP:portsOf (ns.getD u nd0)=np)(hq:q+1≤P.length)(hb:base≤w8.heap.size):RelRr2 ns cs base w6 bR bN bF m PS P LV GG l G1 (.int .i64 ((q:Int)+1)) w9:=by
 have nBR:¬bR=bF:=Blk.ne_ RS8.r RS8.fl (by decide);have nBN:¬bN=bF:=Blk.ne_ RS8.nx RS8.fl (by decide);have cT:∀g,g=bN→∃t C,Blk w7 g t C∧t≠3∧t≠4:=fun g e=>⟨176,((List.range ns.length).flatMap fun i=>[V' i 0,V' i 1]).toArray,by subst e;exact RS7.nx,by decide,by decide⟩;have cF:∀g,g=bF→∃t C,Blk w8 g t C∧t≠3∧t≠4:=fun g e=>⟨52,((List.range ns.length).map U').toArray,by subst e;exact RS8.fl,by decide,by decide⟩;have keep:∀(lv:List Int) (G:GT) (x:Nat),x≠u→RowOK ns cs base w7 V' U' lv G x→RowOK ns cs base w9 V2 (fun i=>if i=u then vf else U' i) lv G x:=fun lv G x hx h=>
  ((h.ch C78 cT).ch C9 cF).congr (fun p' _=>hV x p' hx) (if_neg hx)
 refine⟨q+1,V2,fun i=>if i=u then vf else U' i,hq,by congr 1,⟨RS8.r.ch C9 nBR,RS8.nx.ch C9 nBN,FB9,RS8.gR,RS8.gN,RS8.gF⟩,fun k hk x hx=>keep _ _ x (fun e=>by rw[e]at hx;exact DJ k hk hx) (RO7 k hk x hx),fun x hx=>?_,fun x hx h1 h2=>?_,?_⟩
 ·rw[HPU]at hx;rcases List.mem_append.1 hx with hx|hx
  ·exact keep _ _ x (fun e=>by rw[e]at hx;exact UNW hx) (RQ7 x hx)
  ·rw[List.mem_singleton]at hx;subst hx;refine⟨fun p' hp'=>own_ty (own_ty (ROWS p' hp') C78 fun g s=>?_) C9 fun g s=>?_,?_⟩
   ·obtain⟨t,C,a,b,c⟩:=cT g s;exact⟨t,C,a,b⟩
   ·obtain⟨t,C,a,b,c⟩:=cF g s;exact⟨t,C,a,b⟩
   ·have e3:(if x=x then vf else U' x)=vf:=if_pos rfl;rw[e3,HNP];exact own_base F9 hb
 ·rw[HPU]at h2;simp only[List.mem_append,List.mem_singleton,not_or]at h2;simp only;rw[if_neg h2.2];exact U7 x hx h1 h2.1
 ·exact(C7.trans C78 fun i _ s=>.inl s).trans C9 fun i _ s=>.inr s
theorem rr_end2{ns:List Nd}{cs:List Cb}{us:List Bool}{base:Nat}{w2 w7:World}{bR bN bF m:Nat}{PS:List (List Nat)}{P:List Nat}{LV:Nat→List Int}{GG:Nat→GT}{l:List Int}{G1:GT}{V':Nat→Nat→Value}{U':Nat→Value}(RS7:RS base w7 ns.length bR bN bF V' U')(NM:∀k,k<m→NetP ns cs us (PS.getD k []) (LV k) (GG k))(NP:NetP ns cs us P l G1)(PD:PS.getD m []=P)(RO7:∀k,k<m→∀u∈PS.getD k [],RowOK ns cs base w7 V' U' (LV k) (GG k) u)(RQ7:∀u∈P.take P.length,RowOK ns cs base w7 V' U' l G1 u)(U7:∀u,u<ns.length→(∀k,k<m→u∉PS.getD k [])→u∉P.take P.length→U' u=.slice none 0 0)(C27:Ch (fun k=>k=bN∨k=bF) w2 w7)(hm:m+1≤PS.length):RelRr1 ns cs us base w2 bR bN bF PS (.int .i64 ((m:Int)+1)) w7:=by
 rw[List.take_length]at RQ7 U7;refine⟨m+1,V',U',fun k=>if k=m then l else LV k,fun k=>if k=m then G1 else GG k,hm,by congr 1,RS7,fun k hk=>?_,fun k hk u hu=>?_,fun u hu h=>?_,C27⟩
 ·by_cases e:k=m
  ·subst e;rw[PD];simp only[if_pos];exact NP
  ·simp only[if_neg e];exact NM k (by omega)
 ·by_cases e:k=m
  ·subst e;rw[PD]at hu;simp only[if_pos];exact RQ7 u hu
  ·simp only[if_neg e];exact RO7 k (by omega) u hu
 ·exact U7 u hu (fun k hk=>h k (by omega)) (by rw[←PD];exact h m (by omega))
theorem rr_fin{f:Fab}{b:Nat}{ns:List Nd}{cs:List Cb}{L:FbL}{τ:Own}{w w7:World}{bR bN bF q:Nat}{PS:List (List Nat)}{V:Nat→Nat→Value}{U:Nat→Value}{LV:Nat→List Int}{GG:Nat→GT}{sn:Nat→Bool}(H:FabH τ w b ns cs f L)(hb:Bk w L.bk f.bnow f.al0 f.al1)(hr0:f.bnow%2=1→RtM τ w ns L.r0n L.r0f f.rt0)(hr1:f.bnow%2=0→0<f.bnow→RtM τ w ns L.r1n L.r1f f.rt1)(hq:f.bnow%2=q)(B7:Below w.heap.size w w7)(RS7:RS w.heap.size w7 ns.length bR bN bF V U)(PI:PaI ns.length cs f.up ns.length sn PS)(NM:∀k,k<PS.length→NetP ns cs f.up (PS.getD k []) (LV k) (GG k))(RO:∀k,k<PS.length→∀u∈PS.getD k [],RowOK ns cs w.heap.size w7 V U (LV k) (GG k) u):∃r,IsRt ns cs f.up r∧∃τ' L',FabM τ' ((w7.setCell ⟨b,7+q*2,none⟩ (.slice (some ⟨bN,0,none⟩) ns.length ns.length)).setCell ⟨b,7+q*2+1,none⟩ (.slice (some ⟨bF,0,none⟩) ns.length ns.length)) b ns cs (f.setR (f.bnow%2) r) L'∧FNx τ w τ' ((w7.setCell ⟨b,7+q*2,none⟩ (.slice (some ⟨bN,0,none⟩) ns.length ns.length)).setCell ⟨b,7+q*2+1,none⟩ (.slice (some ⟨bF,0,none⟩) ns.length ns.length)):=by
 rw[hq];have RN:=RtNet.of PI NM;refine⟨_,⟨PS,LV,GG,RN⟩,tagTo τ w.heap.size (1,0,0,0),L.setR q (.slice (some ⟨bN,0,none⟩) ns.length ns.length) (.slice (some ⟨bF,0,none⟩) ns.length ns.length),?_,?_⟩
 ·have he:∀k,k<w.heap.size→tagTo τ w.heap.size (1,0,0,0) k=τ k:=fun k hk=>if_pos hk;have hn:∀k,w.heap.size≤k→(tagTo τ w.heap.size (1,0,0,0) k).1=1:=fun k hk=>by unfold tagTo;rw[if_neg (by omega)]
  have bl:=H.root.lt;have H7:=H.below (τ':=tagTo τ w.heap.size (1,0,0,0)) B7 he;obtain⟨wx,hwx⟩:∃wx:World,(w7.setCell ⟨b,7+q*2,none⟩ (.slice (some ⟨bN,0,none⟩) ns.length ns.length)).setCell ⟨b,7+q*2+1,none⟩ (.slice (some ⟨bF,0,none⟩) ns.length ns.length)=wx:=⟨_,rfl⟩;have hc:Ch (fun k=>k=b) w7 wx:=by rw[←hwx];exact((Ch.refl (fun k=>k=b) w7).setCell (p:=⟨b,7+q*2,none⟩) (.inl rfl) _).setCell (p:=⟨b,7+q*2+1,none⟩) (.inl rfl) _
  have hroot:=(H7.root.set_ (7+q*2) (.slice (some ⟨bN,0,none⟩) ns.length ns.length)).set_ (7+q*2+1) (.slice (some ⟨bF,0,none⟩) ns.length ns.length);rw[hwx]at hroot⊢;have tyS:∀g,g=b→∃t C,Blk w7 g t C∧t≠3∧t≠4:=fun g e=>⟨100,fabC f L,by subst e;exact H7.root,by decide,by decide⟩;have RSx:RS w.heap.size wx ns.length bR bN bF V U:=RS7.ch hc (fun e=>by have:=RS7.gR;omega) (fun e=>by have:=RS7.gN;omega) (fun e=>by have:=RS7.gF;omega);have RT:=RSx.rtM (τ:=tagTo τ w.heap.size (1,0,0,0)) (cs:=cs) (r:=rOf cs PS LV GG) (fun g h1 _=>hn g h1) fun u hu=>by obtain⟨m,hm,hum⟩:=RN.all u hu;exact⟨LV m,GG m,(RO m hm u hum).ch hc tyS,fun p t hp ht=>RN.next m hm u hum p t hp ht,fun p=>RN.falls m hm u hum p⟩
  have hcw:Ch (fun k=>k=b) w wx:=(Ch.of_below (S:=fun k=>k=b) B7).trans hc fun i _ s=>s;have nb1:∀k,k=b→(τ k).1≠1:=fun k e=>by rw[e,H.rootT];decide
  have bkx:Bk wx L.bk f.bnow f.al0 f.al1:=Blk.ch hb hcw fun e=>by have:=H.bkT;rw[e,H.rootT]at this;simp at this
  have q2:q=0∨q=1:=by omega
  rcases q2 with e|e
  ·subst e;have Hx:FabH (tagTo τ w.heap.size (1,0,0,0)) wx b ns cs (f.setR 0 (rOf cs PS LV GG)) (L.setR 0 (.slice (some ⟨bN,0,none⟩) ns.length ns.length) (.slice (some ⟨bF,0,none⟩) ns.length ns.length)):=H7.chE hc (fun _ _=>rfl) (fun k s=>s) hroot rfl rfl;exact Hx.toM bkx RT fun h0=>(hr1 hq h0).chE hcw he nb1
  ·subst e;have Hx:FabH (tagTo τ w.heap.size (1,0,0,0)) wx b ns cs (f.setR 1 (rOf cs PS LV GG)) (L.setR 1 (.slice (some ⟨bN,0,none⟩) ns.length ns.length) (.slice (some ⟨bF,0,none⟩) ns.length ns.length)):=H7.chE hc (fun _ _=>rfl) (fun k s=>s) hroot rfl rfl;exact Hx.toM bkx ((hr0 hq).chE hcw he nb1) fun _=>RT
 ·refine⟨((Ch.of_below (S:=fun k=>2≤(τ k).1) B7).setCell (p:=⟨b,7+q*2,none⟩) (.inl ?_) _).setCell (p:=⟨b,7+q*2+1,none⟩) (.inl ?_) _,fun k hk=>if_pos hk⟩
  ·show 2≤(τ b).1;rw[H.rootT];exact Nat.le_refl 2
  ·show 2≤(τ b).1;rw[H.rootT];exact Nat.le_refl 2
theorem freroute_any(f:Fab)(b:Nat)(ns:List Nd)(cs:List Cb)(L:FbL)(τ:Own)(w:World)(H:FabH τ w b ns cs f L)(hb:Bk w L.bk f.bnow f.al0 f.al1)(hr0:f.bnow%2=1→RtM τ w ns L.r0n L.r0f f.rt0)(hr1:f.bnow%2=0→0<f.bnow→RtM τ w ns L.r1n L.r1f f.rt1)(hp:PlF ns cs)(hv:validP ⟨ns,cs⟩=0)(hwf:WfP ⟨ns,cs⟩)(hup:f.up.length=cs.length)(hn:f.bnow≤1000000000):Calls Tryz.prog 42 #[pt b] w (RerPost τ w b ns cs f):=by
 obtain⟨An,Ac,cn,cc,eN,eC,hIP,_,_⟩:=H.plan;obtain⟨Au,cu,eU,hUR,_⟩:=H.up.isRec (d:=false);have hUR:IsRec 1 cB false w Au f.up.length f.up:=hUR;have c0:w.cell? ⟨b,0,none⟩=some (.slice An ns.length cn):=by rw[←eN];exact H.r19
 have c1:w.cell? ⟨b,1,none⟩=some (.slice Ac cs.length cc):=by rw[←eC];exact H.r19
 have c6:w.cell? ⟨b,6,none⟩=some (.slice Au f.up.length cu):=by rw[H.r19];show some L.vu=_;rw[eU]
 have n16:=hp.n16;obtain⟨j0,hj0,hy0,hy1,hy2⟩:=info_parts infoArr2I;obtain⟨k0,hk0,hz0,hz1,hz2⟩:=info_parts infoBoolsR;have hmk1:∀W:World,Sem.run Tryz.prog (Instr.makeSlice 94 (.int .i64 (ns.length:Int)) (.int .i64 (ns.length:Int))) W=.ok (.slice (some ⟨W.heap.size,0,none⟩) ns.length ns.length) (W.alloc (.cells (madeCells #[.slice none 0 0,.slice none 0 0] (ns.length*2)) 176)):=fun W=>by have:=run_make (P:=Tryz.prog) W 94 176 j0 (.agg #[.slice none 0 0,.slice none 0 0]) (by kernel_rfl) hj0 hy0 .i64 .i64 (ns.length:Int) (ns.length:Int) (by omega) (Int.le_refl _) (by rw[hy2];omega) (by omega);rw[hy1]at this;simp only[Int.toNat_natCast]at this;exact this
 have hmk2:∀W:World,Sem.run Tryz.prog (Instr.makeSlice 95 (.int .i64 (ns.length:Int)) (.int .i64 (ns.length:Int))) W=.ok (.slice (some ⟨W.heap.size,0,none⟩) ns.length ns.length) (W.alloc (.cells (madeCells #[.slice none 0 0] ns.length) 52)):=fun W=>by have:=run_make (P:=Tryz.prog) W 95 52 k0 (.slice none 0 0) (by kernel_rfl) hk0 hz0 .i64 .i64 (ns.length:Int) (ns.length:Int) (by omega) (Int.le_refl _) (by rw[hz2];omega) (by omega);rw[hz1]at this;simp only[Int.toNat_natCast,Nat.mul_one]at this;exact this
 have HH:=Lib.hid H;have HB:=Lib.hid hb;have HR0:=Lib.hid hr0;have HR1:=Lib.hid hr1;have PL:=Lib.hid hp;have HV:=Lib.hid hv;have HWF:=Lib.hid hwf;have HUP:=Lib.hid hup;have HIP:=Lib.hid hIP;have HUR:=Lib.hid hUR;have HC:=Lib.hid (show _∧_∧_ from⟨c0,c1,c6⟩);clear H hb hr0 hr1 hp hv hwf hup hIP hUR eN eC eU;unfold pt
 go_enter Tryz.func42,Tryz.ntmps42
 go_upto_region 1 with fail
 go_cut [3]from 27 (fun s3 wx=>Cut1 ns.length w s3 wx)
 case first=>
  as_aux_lemma=>
   go_region
   all_goals
    go_wp2_with fail
    go_meet
    case rel=>
     first
      |with_reducible exact cut1_of (blk31 ..) (blk32 ..) (blk33 ..) (by omega) (by omega) (by omega) (blk3b ..)
      |with_reducible exact cut1_of (blk31 ..) (blk33 ..) (blk32 ..) (by omega) (by omega) (by omega) (blk3b ..)
      |with_reducible exact cut1_of (blk32 ..) (blk31 ..) (blk33 ..) (by omega) (by omega) (by omega) (blk3b ..)
      |with_reducible exact cut1_of (blk32 ..) (blk33 ..) (blk31 ..) (by omega) (by omega) (by omega) (blk3b ..)
      |with_reducible exact cut1_of (blk33 ..) (blk31 ..) (blk32 ..) (by omega) (by omega) (by omega) (blk3b ..)
      |with_reducible exact cut1_of (blk33 ..) (blk32 ..) (blk31 ..) (by omega) (by omega) (by omega) (blk3b ..)
 case rest=>
  obtain⟨bR,bN,bF,rfl,hRS,hBel⟩:=hcut;have RS0:=Lib.hid hRS;have B1:=Lib.hid hBel;have KC:Hid (∀wq,Below w.heap.size w wq→wq.cell? ⟨b,0,none⟩=some (.slice An ns.length cn)∧wq.cell? ⟨b,1,none⟩=some (.slice Ac cs.length cc)∧wq.cell? ⟨b,6,none⟩=some (.slice Au f.up.length cu)):=fun wq hb=>by have t:∀{p:Addr} {z:Value},w.cell? p=some z→wq.cell? p=some z:=fun{p z} hz=>(hb.cell (World.block_lt_of_cell? _ _ hz)).trans hz;obtain⟨a,b',c⟩:=HC.out;exact⟨t a,t b',t c⟩
  have PA:=Lib.hid (parts_any ns cs f.up An Ac Au cn cc cu wc.drew HV.out HUP.out HWF.out (HIP.out.below (Nat.le_refl _) B1.out.drew) (HUR.out.below (Nat.le_refl _) B1.out.drew));obtain⟨d0,d1,d6⟩:=KC.out wc B1.out;have D0:=Lib.hid (show _∧_∧_ from⟨d0,d1,d6⟩);clear hRS hBel c0 c1 c6 d0 d1 d6 hmk1 hmk2 hj0 hy0 hy1 hy2 hk0 hz0 hz1 hz2
  go_wp2_with fail
  go_region_held3 (fun wq=>wq.cell? ⟨b,0,none⟩=some (.slice An ns.length cn)∧wq.cell? ⟨b,1,none⟩=some (.slice Ac cs.length cc)∧wq.cell? ⟨b,6,none⟩=some (.slice Au f.up.length cu))
   (first|exact D0.out|exact KC.out _ (B1.out.trans (BE2.out.mono B1.out.size)))
   (first|(go_at_call 77;((with_reducible refine PA.out.mono ?_);rintro e w2 ⟨v,sn,PS,rfl,hPI,hPM,hB2⟩;obtain⟨V0,hv1,hv2⟩:=hPM;obtain⟨aP,cP,eP⟩:=own_formN hv1;subst eP;have PI:=Lib.hid hPI;have HV1:=Lib.hid hv1;have HV2:=Lib.hid hv2;have BE2:Hid (Below wc.heap.size wc w2):=(show Below wc.heap.size wc w2 from⟨hB2.os,hB2.tape,hB2.output,hB2.size,hB2.block⟩);clear hPI hv1 hv2 hB2)))
  have PIO:=PI.out;have PLN:=Lib.hid PIO.len;have B2:Hid (Below w.heap.size w w2):=B1.out.trans (BE2.out.mono B1.out.size);have RS2:=Lib.hid (RS0.out.below BE2.out);have ST:Hid (RelRr1 ns cs f.up w.heap.size w2 bR bN bF PS (.int .i64 0) w2):=⟨0,fun _ _=>.slice none 0 0,fun _=>.slice none 0 0,fun _=>[],fun _ _ _ _=>0,Nat.zero_le _,rfl,RS2.out,fun k hk=>by omega,fun k hk=>by omega,fun u _ _=>rfl,Ch.refl _ _⟩;have KL:Hid (∀wq,Ch (fun k=>k=bN∨k=bF) w2 wq→Below w.heap.size w wq∧∀{t:TypeId} {base' k:Nat} {v:Value} {xs:List Value},w2.ownsRow base' t 1 v k xs→t≠176→t≠52→wq.ownsRow base' t 1 v k xs):=fun wq hc=>by
   refine⟨⟨hc.os.trans B2.out.os,hc.tape.trans B2.out.tape,hc.output.trans B2.out.output,Nat.le_trans B2.out.size hc.size,fun i hi=>(hc.block i (Nat.lt_of_lt_of_le hi B2.out.size) fun e=>by have:=RS2.out.gN;have:=RS2.out.gF;omega).trans (B2.out.block i hi)⟩,fun{t base' k v xs} ho n1 n2=>own_ty ho hc fun g s=>?_⟩;rcases s with s|s
   ·subst s;exact⟨_,_,RS2.out.nx,fun e=>n1 e.symm⟩
   ·subst s;exact⟨_,_,RS2.out.fl,fun e=>n2 e.symm⟩
  clear PA D0 PIO RS0
  go_wp2_with fail
  go_loopw [5,6,7,8,9,11,13,14,15,16,17,18,19,20,42,76,97] (fun _ _ _ _ _ _ _ _ _ _ _ _ _ _ i _ _ wr=>RelRr1 ns cs f.up w.heap.size w2 bR bN bF PS i wr) (fun _ _ _ _ _ _ _ _ _ _ _ _ _ _ i _ _ _=>PS.length-(RowKit.intOf i).toNat)
  case atStart=>exact ST.out
  case round=>
   clear ST;obtain⟨m,V,U,LV,GG,hm,rfl,hRS,hN,hRo,hU,hC⟩:=hrel;have RSM:=Lib.hid hRS;have NM:=Lib.hid hN;have ROM:=Lib.hid hRo;have UM:=Lib.hid hU;have CM:=Lib.hid hC;clear hRS hN hRo hU hC;by_cases hmn:m<PS.length
   ·obtain⟨P,hPd⟩:∃P,PS.getD m []=P:=⟨_,rfl⟩;have hPm:P∈PS:=by rw[←hPd];simp[List.getD,hmn]
    obtain⟨rt0,l0,hl0,hPf⟩:=PI.out.ok P hPm;have rt0P:rt0∈P:=(by rw[hPf];exact fltL_mem.2 ⟨hl0.lv.rlt,by rw[hl0.lv.zero];exact Int.le_refl _⟩);have Ppos:0<P.length:=List.length_pos_of_mem rt0P;have Plt:Hid (∀q,q<P.length→P.getD q 0<ns.length):=fun q hq=>(by have hm:P.getD q 0∈P:=(by simp[List.getD,hq]);have hm2:P.getD q 0∈fltL l0 ns.length:=(by rw[←hPf];exact hm);exact(fltL_mem.1 hm2).1);obtain⟨root,hroot⟩:∃root,P.getD 0 0=root:=⟨_,rfl⟩;have rootP:root∈P:=(by rw[←hroot];simp[List.getD,Ppos]);have rlt:=Plt.out 0 Ppos;rw[hroot]at rlt;have PF:=Lib.hid hPf;have L0:=Lib.hid hl0;have PD:=Lib.hid hPd;have RP:=Lib.hid rootP;obtain⟨BW,KOW⟩:=KL.out wr CM.out;have BWR:=Lib.hid BW;obtain⟨gP,capP,CP,eP,hbP,_,hcP⟩:=own_blk1 (KOW HV1.out (by decide) (by decide)) (by omega);injection eP with eP _ eC;clear eC;subst eP;have hv2:=KOW (HV2.out m hmn) (by decide) (by decide);rw[hPd]at hv2;obtain⟨gp,capp,Cp,ep,hbp,_,hcp⟩:=own_blk1 hv2 Ppos;have cm:wr.cell? ⟨gP,m,none⟩=some (.slice (some ⟨gp,0,none⟩) P.length capp):=(by rw[hbP.cell,hcP m hmn,List.getElem?_map,List.getElem?_range hmn,←ep];rfl);have cq:∀q,q<P.length→wr.cell? ⟨gp,q,none⟩=some (.int .i64 (P.getD q 0:Nat)):=fun q hq=>(by rw[hbp.cell,hcp q hq,List.getElem?_map];simp[List.getD,hq,cN1]);have CQ:=Lib.hid cq;have EP:=Lib.hid ep;have CQA:Hid (∀wq,Ch (fun k=>k=bN∨k=bF) w2 wq→∀q,q<P.length→wq.cell? ⟨gp,q,none⟩=some (.int .i64 (P.getD q 0:Nat))):=fun wq hc q hq=>(by obtain⟨_,KO⟩:=KL.out wq hc;have h:=KO (HV2.out m hmn) (by decide) (by decide);rw[PD.out]at h;obtain⟨g',c',C',e',hb',_,hc'⟩:=own_blk1 h (by omega);rw[EP.out]at e';injection e' with e';injection e' with e';injection e' with e';subst e';rw[hb'.cell,hc' q hq,List.getElem?_map];simp[List.getD,hq,cN1]);have cp0:wr.cell? ⟨gp,0,none⟩=some (.int .i64 (root:Nat)):=(by rw[←hroot];exact cq 0 Ppos);have m0:(0:Int)≤(m:Int):=(by omega);have m1:(m:Int)<(PS.length:Int):=(by omega);have psl:PS.length≤16:=Nat.le_trans PLN.out n16;have pll:P.length≤16:=(by rw[hPf];exact Nat.le_trans (fltL_len _ _) n16);have P0:(0:Int)<(P.length:Int):=(by omega);obtain⟨a0,a1,a6⟩:=KC.out wr BW;have OF:Hid (∀wq,Below wr.heap.size wr wq→Calls Tryz.prog 88 #[.agg #[.slice An ns.length cn,.slice Ac cs.length cc],.slice Au f.up.length cu,.int .i64 (root:Nat)] wq fun e w'=>∃l v c,e=.returned (.tuple #[.agg #[.slice v l.length c],.int .i64 0])∧LvU ns.length cs f.up root l∧w'.ownsRow wr.heap.size 3 1 (.slice v l.length c) l.length (l.flatMap cI)∧Below wr.heap.size wr w'∧Below wq.heap.size wq w'):=fun wq hb=>by
     have B:=BWR.out.trans (hb.mono BWR.out.size);refine(of_anyUU ⟨ns,cs⟩ f.up (root:Int) An Ac Au cn cc cu wq (by show ns.length≤_;omega) (by have:=PL.out.c32;show cs.length≤_;omega) HWF.out (HIP.out.below (Nat.le_refl _) B) (HUR.out.below (Nat.le_refl _) B)).mono ?_;rintro e w' ⟨hb',hh⟩;rcases hh with⟨hno,_⟩|⟨_,l,v,hl,rfl,ho⟩
     ·exact absurd ⟨HV.out,HUP.out,by omega,by show(root:Int)<(ns.length:Int);omega⟩ hno
     ·obtain⟨a,c,e⟩:=own_formN ho;subst e;exact⟨l,a,c,rfl,hl,own_base ho hb.size,hb.trans (hb'.mono hb.size),hb'⟩
    have KC5:Hid (∀wq,Below wr.heap.size wr wq→wq.cell? ⟨b,0,none⟩=some (.slice An ns.length cn)∧wq.cell? ⟨b,1,none⟩=some (.slice Ac cs.length cc)∧wq.cell? ⟨b,6,none⟩=some (.slice Au f.up.length cu)∧wq.cell? ⟨gp,0,none⟩=some (.int .i64 (root:Nat))):=fun wq hb=>(by have t:∀{p:Addr} {z:Value},wr.cell? p=some z→wq.cell? p=some z:=fun{p z} hz=>(hb.cell (World.block_lt_of_cell? _ _ hz)).trans hz;exact⟨t a0,t a1,t a6,t cp0⟩);clear hPd hPf hl0 rt0P hroot rootP hv2 hbP hcP ep hbp hcp KOW BW cq
    go_upto_region 5 with fail
    go_cut [6,7]from 46 to 60 (fun s6 _ wx=>Cut5 ns cs f.up root wr s6 wx)
    case first=>
     as_aux_lemma=>
      have ENT:=enters_of (P:=Tryz.prog) Tryz.func88 (by kernel_rfl) rfl
      go_wp2_with fail
      refine wp_region_L 17 (fun wq=>wq.cell? ⟨b,0,none⟩=some (.slice An ns.length cn)∧wq.cell? ⟨b,1,none⟩=some (.slice Ac cs.length cc)∧wq.cell? ⟨b,6,none⟩=some (.slice Au f.up.length cu)∧wq.cell? ⟨gp,0,none⟩=some (.int .i64 (root:Nat))) (by kernel_rfl) (KC5.out _ ((Below.refl _ _).drew)) (fun hHeld=>?_);refine AnyL.tk 0 hHeld ?_
      try simp only[puts]
      refine AnyL.tk 1 hHeld ?_
      try simp only[puts]
      refine AnyL.tk 2 hHeld ?_
      try simp only[puts]
      refine AnyL.tk 3 hHeld ?_
      try simp only[puts]
      refine AnyL.tk 4 hHeld ?_
      try simp only[puts]
      refine AnyL.tk 5 hHeld ?_
      try simp only[puts]
      refine AnyL.tk 6 hHeld ?_
      try simp only[puts]
      refine AnyL.tk 7 hHeld ?_
      try simp only[puts]
      refine AnyL.tk 8 hHeld ?_
      try simp only[puts]
      refine AnyL.tk 9 hHeld ?_
      try simp only[puts]
      refine AnyL.tk 10 hHeld ?_
      try simp only[puts]
      refine AnyL.two (i:=11) (j:=15) (by kernel_rfl) rfl rfl (fun K hK=>?_) (fun K hK=>?_)
      ·refine step_call3 (by rfl) ENT (by rfl) (by rfl) (by rfl) (by rfl) (OF.out _ ((Below.refl _ _).drew)) ?_;rintro e w5 ⟨l,v,c,rfl,hl,ho,hbx,hb5⟩;refine⟨_,rfl,?_⟩;have BX5:Hid (Below wr.heap.size wr w5):=hbx;have FIN:Hid (Cut5 ns cs f.up root wr (.pointer (some ⟨w5.heap.size,0,none⟩)) (w5.alloc (.cells #[.slice v l.length c] 169))):=
        ⟨w5.heap.size,l,_,rfl,Blk.new w5 _ _,hbx.size,own_ch ho (Ch.of_below (S:=fun _=>False) ((Below.refl _ _).alloc (Nat.le_refl _) _)) (fun _ _ q=>q),hl,hbx.alloc hbx.size _⟩
       clear hl ho hb5 hbx;refine hK.out _ _ (fun _=>KC5.out _ BX5.out) (fun hHeld0=>?_);have hHeld:=hHeld0 (by decide);clear hK hHeld0
       try simp only[puts]
       refine AnyL.tk 12 hHeld ?_
       try simp only[puts]
       refine AnyL.tk 13 hHeld ?_
       try simp only[puts]
       refine AnyL.tk 14 hHeld ?_
       try simp only[puts]
       refine AnyL.one (i:=15) (by kernel_rfl) rfl (fun K hK=>?_);go_simp;refine hK.out _ _ (fun _=>KC5.out _ (BX5.out.alloc BX5.out.size _)) (fun hHeld0=>?_);have hHeld:=hHeld0 (by decide);clear hK hHeld0
       try simp only[puts]
       refine AnyL.one (i:=16) (by kernel_rfl) rfl (fun K hK=>?_);go_simp;refine hK.out _ _ (fun _=>KC5.out _ (BX5.out.alloc BX5.out.size _)) (fun hHeld0=>?_);have hHeld:=hHeld0 (by decide);clear hK hHeld0
       try simp only[puts]
       refine AnyL.one (i:=17) (by kernel_rfl) rfl (fun K hK=>?_);go_simp;refine hK.out _ _ (fun h=>absurd rfl h) (fun _=>?_);clear hK;refine AnyL.done (by kernel_rfl) ?_ _
       try simp only[puts]
       go_wp2_with fail
       go_meet
       case rel=>exact FIN.out
      ·have VB0:Hid (Blk (wr.alloc (.cells #[.slice none 0 0] 169)).drew wr.heap.size 169 #[.slice none 0 0]):=Blk.new wr _ _;have BB0:Hid (Below wr.heap.size wr (wr.alloc (.cells #[.slice none 0 0] 169)).drew):=((Below.refl _ _).alloc (Nat.le_refl _) _).drew;go_simp;refine hK.out _ _ (fun _=>KC5.out _ BB0.out) (fun hHeld0=>?_);have hHeld:=hHeld0 (by decide);clear hK hHeld0
       try simp only[puts]
       refine AnyL.one (i:=11) (by kernel_rfl) rfl (fun K hK=>?_);refine step_call3 (by rfl) ENT (by rfl) (by rfl) (by rfl) (by rfl) (OF.out _ BB0.out) ?_;rintro e w5 ⟨l,v,c,rfl,hl,ho,hbx,hb5⟩;refine⟨_,rfl,?_⟩;have BX5:Hid (Below wr.heap.size wr w5):=hbx;have vb5:=VB0.out.below hb5 VB0.out.lt;have vc5:w5.cell? ⟨wr.heap.size,0,none⟩=some (.slice none 0 0):=vb5.cell 0;have vf5:w5.frozen? ⟨wr.heap.size,0,none⟩=false:=vb5.frozen 0;have FIN:Hid (Cut5 ns cs f.up root wr (.pointer (some ⟨wr.heap.size,0,none⟩)) (w5.setCell ⟨wr.heap.size,0,none⟩ (.slice v l.length c))):=(by refine⟨wr.heap.size,l,_,rfl,vb5.set_ 0 _,Nat.le_refl _,own_set ho (p:=⟨wr.heap.size,0,none⟩) _ fun g hg e=>?_,hl,hbx.setCell (Nat.le_refl _) _⟩;obtain⟨C',hb'⟩:=own_blk ho g hg;subst e;exact Blk.ne_ vb5 hb' (by decide) rfl);clear hl ho hb5 hbx vb5;refine hK.out _ _ (fun _=>KC5.out _ BX5.out) (fun hHeld0=>?_);have hHeld:=hHeld0 (by decide);clear hK hHeld0
       try simp only[puts]
       refine AnyL.tk 12 hHeld ?_
       try simp only[puts]
       refine AnyL.tk 13 hHeld ?_
       try simp only[puts]
       refine AnyL.tk 14 hHeld ?_
       try simp only[puts]
       refine AnyL.one (i:=16) (by kernel_rfl) rfl (fun K hK=>?_);go_simp;refine hK.out _ _ (fun _=>KC5.out _ (BX5.out.setCell (Nat.le_refl _) _)) (fun hHeld0=>?_);have hHeld:=hHeld0 (by decide);clear hK hHeld0
       try simp only[puts]
       refine AnyL.one (i:=17) (by kernel_rfl) rfl (fun K hK=>?_);go_simp;refine hK.out _ _ (fun h=>absurd rfl h) (fun _=>?_);clear hK;refine AnyL.done (by kernel_rfl) ?_ _
       try simp only[puts]
       go_wp2_with fail
       go_meet
       case rel=>exact FIN.out
    case rest=>
     obtain⟨bO,l,vL,rfl,hbO,hgO,hoL,hlv,hB5⟩:=hcut;obtain⟨aL,cL,eL⟩:=own_formN hoL;subst eL;obtain⟨w5,rfl⟩:∃w5:World,w5=wc:=⟨_,rfl⟩;have BO:=Lib.hid hbO;have OL:=Lib.hid hoL;have LU:=Lib.hid hlv;have B5:=Lib.hid hB5;have hll:=hlv.lv.len;have ORD:=hlv.lv.order HV.out;have WFL:=hlv.lv.wf (by omega);have ORDH:=Lib.hid ORD;have B5W:Hid (Below w.heap.size w w5):=BWR.out.trans (hB5.mono BWR.out.size);have IRL:Hid (IsRec 1 cI 0 w5 aL l.length l):=(by obtain⟨a',c',e',_,hr',_⟩:=rec_of_own (d:=(0:Int)) cI_length (by decide) hoL;injection e' with e';subst e';exact hr');have MK:Hid (∀wq,Below w5.heap.size w5 wq→Calls Tryz.prog 89 #[.agg #[.slice An ns.length cn,.slice Ac cs.length cc],.agg #[.slice aL l.length cL],.slice Au f.up.length cu] wq (fun e w'=>∃bT base V G,e=.returned (.tuple #[.agg #[.slice (some ⟨bT,0,none⟩) ns.length ns.length],.int .i64 0])∧w5.heap.size≤base∧w5.heap.size≤bT∧TM w' bT base ns.length 0 0 V (fun _ _=>ns.length) G∧(∀t,t<ns.length→Col ns.length cs f.up l G t)∧Below w5.heap.size w5 w'∧Below wq.heap.size wq w')):=fun wq hb=>(by have B:=B5W.out.trans (hb.mono B5W.out.size);refine(make_any ns cs f.up l An Ac Au aL cn cc cu cL wq HV.out ORDH.out HUP.out hll HWF.out WFL (HIP.out.below (Nat.le_refl _) B) (HUR.out.below (Nat.le_refl _) B) (IRL.out.below (Nat.le_refl _) hb)).mono ?_;rintro e w' ⟨bT,base,V,G,rfl,h1,h2,h3,h4⟩;exact⟨bT,base,V,G,rfl,by have:=h2.lt;have:=hb.size;omega,by have:=hb.size;omega,h2,h3,hb.trans (h4.mono hb.size),h4⟩);obtain⟨a0,a1,a6,_⟩:=KC5.out w5 hB5;have bo0:w5.cell? ⟨bO,0,none⟩=some (.slice aL l.length cL):=hbO.cell 0;have KC6:Hid (∀wq,Below w5.heap.size w5 wq→(fun wq=>wq.cell? ⟨b,0,none⟩=some (.slice An ns.length cn)∧wq.cell? ⟨b,1,none⟩=some (.slice Ac cs.length cc)∧wq.cell? ⟨b,6,none⟩=some (.slice Au f.up.length cu)∧wq.cell? ⟨bO,0,none⟩=some (.slice aL l.length cL)) wq):=fun wq hb=>(by have t:∀{p:Addr} {z:Value},w5.cell? p=some z→wq.cell? p=some z:=fun{p z} hz=>(hb.cell (World.block_lt_of_cell? _ _ hz)).trans hz;exact⟨t a0,t a1,t a6,t bo0⟩);clear hbO hgO hoL hlv hB5 hll ORD WFL a0 a1 a6 bo0 OF
     go_upto_region 6 with fail
     go_cut [8,9]from 61 to 73 (fun s8 _ wx=>Cut6 ns.length cs f.up l w5 s8 wx)
     case first=>
      as_aux_lemma=>
       have ENT:=enters_of (P:=Tryz.prog) Tryz.func89 (by kernel_rfl) rfl
       go_wp2_with fail
       refine wp_region_L 15 (fun wq=>wq.cell? ⟨b,0,none⟩=some (.slice An ns.length cn)∧wq.cell? ⟨b,1,none⟩=some (.slice Ac cs.length cc)∧wq.cell? ⟨b,6,none⟩=some (.slice Au f.up.length cu)∧wq.cell? ⟨bO,0,none⟩=some (.slice aL l.length cL)) (by kernel_rfl) (KC6.out _ ((Below.refl _ _).drew)) (fun hHeld=>?_);refine AnyL.tk 0 hHeld ?_
       try simp only[puts]
       refine AnyL.tk 1 hHeld ?_
       try simp only[puts]
       refine AnyL.tk 2 hHeld ?_
       try simp only[puts]
       refine AnyL.tk 3 hHeld ?_
       try simp only[puts]
       refine AnyL.tk 4 hHeld ?_
       try simp only[puts]
       refine AnyL.tk 5 hHeld ?_
       try simp only[puts]
       refine AnyL.tk 6 hHeld ?_
       try simp only[puts]
       refine AnyL.tk 7 hHeld ?_
       try simp only[puts]
       refine AnyL.tk 8 hHeld ?_
       try simp only[puts]
       refine AnyL.two (i:=9) (j:=13) (by kernel_rfl) rfl rfl (fun K hK=>?_) (fun K hK=>?_)
       ·refine step_call3 (by rfl) ENT (by rfl) (by rfl) (by rfl) (by rfl) (MK.out _ ((Below.refl _ _).drew)) ?_;rintro e w6 ⟨bT,base,V1,G1,rfl,hg,hgT,hT,hcol,hbx,hb6⟩;refine⟨_,rfl,?_⟩;have BX6:Hid (Below w5.heap.size w5 w6):=hbx;have FIN:Hid (Cut6 ns.length cs f.up l w5 (.pointer (some ⟨w6.heap.size,0,none⟩)) (w6.alloc (.cells #[.slice (some ⟨bT,0,none⟩) ns.length ns.length] 173))):=
         ⟨w6.heap.size,bT,base,V1,G1,rfl,Blk.new w6 _ _,hbx.size,hg,hgT,hT.below ((Below.refl _ _).alloc (Nat.le_refl _) _),hcol,hbx.alloc hbx.size _⟩
        clear hg hgT hT hcol hb6 hbx;refine hK.out _ _ (fun _=>KC6.out _ BX6.out) (fun hHeld0=>?_);have hHeld:=hHeld0 (by decide);clear hK hHeld0
        try simp only[puts]
        refine AnyL.tk 10 hHeld ?_
        try simp only[puts]
        refine AnyL.tk 11 hHeld ?_
        try simp only[puts]
        refine AnyL.tk 12 hHeld ?_
        try simp only[puts]
        refine AnyL.one (i:=13) (by kernel_rfl) rfl (fun K hK=>?_);go_simp;refine hK.out _ _ (fun _=>KC6.out _ (BX6.out.alloc BX6.out.size _)) (fun hHeld0=>?_);have hHeld:=hHeld0 (by decide);clear hK hHeld0
        try simp only[puts]
        refine AnyL.one (i:=14) (by kernel_rfl) rfl (fun K hK=>?_);go_simp;refine hK.out _ _ (fun _=>KC6.out _ (BX6.out.alloc BX6.out.size _)) (fun hHeld0=>?_);have hHeld:=hHeld0 (by decide);clear hK hHeld0
        try simp only[puts]
        refine AnyL.one (i:=15) (by kernel_rfl) rfl (fun K hK=>?_);go_simp;refine hK.out _ _ (fun h=>absurd rfl h) (fun _=>?_);clear hK;refine AnyL.done (by kernel_rfl) ?_ _
        try simp only[puts]
        go_wp2_with fail
        go_meet
        case rel=>exact FIN.out
       ·have VB0:Hid (Blk (w5.alloc (.cells #[.slice none 0 0] 173)).drew w5.heap.size 173 #[.slice none 0 0]):=Blk.new w5 _ _;have BB0:Hid (Below w5.heap.size w5 (w5.alloc (.cells #[.slice none 0 0] 173)).drew):=((Below.refl _ _).alloc (Nat.le_refl _) _).drew;go_simp;refine hK.out _ _ (fun _=>KC6.out _ BB0.out) (fun hHeld0=>?_);have hHeld:=hHeld0 (by decide);clear hK hHeld0
        try simp only[puts]
        refine AnyL.one (i:=9) (by kernel_rfl) rfl (fun K hK=>?_);refine step_call3 (by rfl) ENT (by rfl) (by rfl) (by rfl) (by rfl) (MK.out _ BB0.out) ?_;rintro e w6 ⟨bT,base,V1,G1,rfl,hg,hgT,hT,hcol,hbx,hb6⟩;refine⟨_,rfl,?_⟩;have BX6:Hid (Below w5.heap.size w5 w6):=hbx;have vb5:=VB0.out.below hb6 VB0.out.lt;have vc5:w6.cell? ⟨w5.heap.size,0,none⟩=some (.slice none 0 0):=vb5.cell 0;have vf5:w6.frozen? ⟨w5.heap.size,0,none⟩=false:=vb5.frozen 0;have FIN:Hid (Cut6 ns.length cs f.up l w5 (.pointer (some ⟨w5.heap.size,0,none⟩)) (w6.setCell ⟨w5.heap.size,0,none⟩ (.slice (some ⟨bT,0,none⟩) ns.length ns.length))):=(by refine⟨w5.heap.size,bT,base,V1,G1,rfl,vb5.set_ 0 _,Nat.le_refl _,hg,hgT,?_,hcol,hbx.setCell (Nat.le_refl _) _⟩;have hc:=(Ch.refl (fun i=>i=w5.heap.size) w6).setCell (p:=⟨w5.heap.size,0,none⟩) (.inl rfl) (.slice (some ⟨bT,0,none⟩) ns.length ns.length);exact hT.chTy hc fun g s=>⟨173,_,by have s:g=w5.heap.size:=s;subst s;exact vb5,by decide,by decide⟩);clear hg hgT hT hcol hb6 hbx vb5;refine hK.out _ _ (fun _=>KC6.out _ BX6.out) (fun hHeld0=>?_);have hHeld:=hHeld0 (by decide);clear hK hHeld0
        try simp only[puts]
        refine AnyL.tk 10 hHeld ?_
        try simp only[puts]
        refine AnyL.tk 11 hHeld ?_
        try simp only[puts]
        refine AnyL.tk 12 hHeld ?_
        try simp only[puts]
        refine AnyL.one (i:=14) (by kernel_rfl) rfl (fun K hK=>?_);go_simp;refine hK.out _ _ (fun _=>KC6.out _ (BX6.out.setCell (Nat.le_refl _) _)) (fun hHeld0=>?_);have hHeld:=hHeld0 (by decide);clear hK hHeld0
        try simp only[puts]
        refine AnyL.one (i:=15) (by kernel_rfl) rfl (fun K hK=>?_);go_simp;refine hK.out _ _ (fun h=>absurd rfl h) (fun _=>?_);clear hK;refine AnyL.done (by kernel_rfl) ?_ _
        try simp only[puts]
        go_wp2_with fail
        go_meet
        case rel=>exact FIN.out
     case rest=>
      obtain⟨bQ,bT,base1,V1,G1,rfl,hbQ,hgQ,hgb,hgT,hTM,hcol,hB6⟩:=hcut;obtain⟨w6,rfl⟩:∃w6:World,w6=wc:=⟨_,rfl⟩;have B6R:Hid (Below wr.heap.size wr w6):=B5.out.trans (hB6.mono B5.out.size);have B6W:Hid (Below w.heap.size w w6):=BWR.out.trans (B6R.out.mono BWR.out.size);have BQH:=Lib.hid hbQ;have TMH:=Lib.hid hTM;have LB1:Hid (w.heap.size≤base1):=Nat.le_trans B5W.out.size hgb;have NETP:Hid (NetP ns cs f.up P l G1):=(by refine⟨⟨root,LU.out⟩,?_,⟨HV.out,ORDH.out,hcol⟩⟩;rw[PF.out];unfold fltL;refine List.filter_congr fun j hj=>?_;have hr:=RP.out;rw[PF.out]at hr;have:=L0.out.same LU.out (fltL_mem.1 hr).1 (fltL_mem.1 hr).2 (by rw[LU.out.lv.zero];exact Int.le_refl _) (List.mem_range.1 hj);rw[Bool.eq_iff_iff,decide_eq_true_eq,decide_eq_true_eq];exact this);have RS6:=Lib.hid (RSM.out.below B6R.out);have C26:Hid (Ch (fun k=>k=bN∨k=bF) w2 w6):=CM.out.thenBelow B6R.out;have BO6:Hid (Blk w6 bO 169 #[.slice aL l.length cL]):=BO.out.below hB6 BO.out.lt;have BTN:Hid (¬bT=bN∧¬bT=bF):=(by have h1:=RSM.out.nx.lt;have h2:=RSM.out.fl.lt;have h3:=B5.out.size;exact⟨fun e=>by omega,fun e=>by omega⟩);have CQ6:Hid (∀q,q<P.length→w6.cell? ⟨gp,q,none⟩=some (.int .i64 (P.getD q 0:Nat))):=fun q hq=>(by have:=CQ.out q hq;exact(B6R.out.cell (World.block_lt_of_cell? _ _ this)).trans this);have PND:Hid (P.Nodup):=(by rw[Hid,PF.out];exact List.filter_sublist.nodup List.nodup_range);have LPL:Hid (∀q,q<P.length→0≤l.getD (P.getD q 0) 0):=fun q hq=>(by have hm:P.getD q 0∈P:=(by simp[List.getD,hq]);have h2:=NETP.out.part;have hm2:P.getD q 0∈fltL l ns.length:=(by rw[←h2];exact hm);exact(fltL_mem.1 hm2).2);have DISJ:Hid (∀q,q<P.length→∀k,k<m→P.getD q 0∉PS.getD k []):=fun q hq k hk hh=>(by have hm:P.getD q 0∈P:=(by simp[List.getD,hq]);have hkl:k<PS.length:=(by omega);have:=List.pairwise_iff_getElem.1 PI.out.dis k m hkl hmn hk (P.getD q 0) (by simpa[List.getD,hkl]using hh);have e3:PS[m]=P:=(by rw[←PD.out];simp[List.getD,hmn]);exact this (by rw[e3];exact hm));have ST2:Hid (RelRr2 ns cs w.heap.size w6 bR bN bF m PS P LV GG l G1 (.int .i64 0) w6):=⟨0,V,U,Nat.zero_le _,rfl,RS6.out,fun k hk u hu=>(ROM.out k hk u hu).ch (Ch.of_below (S:=fun _=>False) B6R.out) (fun _ s=>s.elim),fun u hu=>by simp at hu,fun u hu h1 _=>UM.out u hu h1,Ch.refl _ _⟩;have OL6:Hid (w6.ownsRow wr.heap.size 3 1 (.slice aL l.length cL) l.length (l.flatMap cI)):=own_ch OL.out (Ch.of_below (S:=fun _=>False) hB6) fun _ _ s=>s;have CBO:Hid (w6.cell? ⟨bO,0,none⟩=some (.slice aL l.length cL)∧IsRec 1 cI 0 w6 aL l.length l):=⟨(hB6.cell (p:=⟨bO,0,none⟩) BO.out.lt).trans (BO.out.cell 0),IRL.out.below (Nat.le_refl _) hB6⟩;clear hbQ hgQ hgb hTM hcol hB6 cm cp0 MK KC6 KC5
      go_wp2_with fail
      go_loopw [11,13,14,15,16,17,18,19,20,76,97] (fun _ _ _ _ _ _ _ _ _ i _ wq=>RelRr2 ns cs w.heap.size w6 bR bN bF m PS P LV GG l G1 i wq) (fun _ _ _ _ _ _ _ _ _ i _ _=>P.length-(RowKit.intOf i).toNat)
      case atStart=>exact ST2.out
      case round=>
       clear ST2;obtain⟨q,V',U',hq,rfl,hRS,hRo,hRq,hU,hC⟩:=hrel;obtain⟨w7,rfl⟩:∃w7:World,w7=wr:=⟨_,rfl⟩;have RS7:=Lib.hid hRS;have RO7:=Lib.hid hRo;have RQ7:=Lib.hid hRq;have U7:=Lib.hid hU;have C7:=Lib.hid hC;have B7W:Hid (Below w.heap.size w w7):=below_thenCh B6W.out hC fun g s=>by have:=RS6.out.gN;have:=RS6.out.gF;rcases s with s|s<;>omega
       by_cases hqn:q<P.length
       ·obtain⟨u,hu⟩:∃u,P.getD q 0=u:=⟨_,rfl⟩;have ult:=Plt.out q hqn;have lpu:=LPL.out q hqn;have dj:=DISJ.out q hqn;have cqq:=CQA.out w7 (C26.out.trans hC fun i _ s=>s) q hqn;have hPu:P.take (q+1)=P.take q++[u]:=(by rw[←hu];exact take_snocG 0 P q hqn);have unew:u∉P.take q:=fun hh=>by
         have h1:=PND.out;rw[←List.take_append_drop (q+1) P,hPu]at h1;have h2:=(List.nodup_append.1 h1).1;have h3:=(List.nodup_append.1 h2).2.2 u hh u (by simp);exact h3 rfl
        rw[hu]at ult lpu dj cqq;have UNIL:=hU u ult dj unew;have HPU:=Lib.hid hPu;have DJ:=Lib.hid dj;have UNW:=Lib.hid unew;have LPU:=Lib.hid lpu;have nBO:¬(bO=bN∨bO=bF):=fun e=>by
         rcases e with e|e
         ·exact Blk.ne_ BO6.out RS6.out.nx (by decide) e
         ·exact Blk.ne_ BO6.out RS6.out.fl (by decide) e
        have nBQ:¬(bQ=bN∨bQ=bF):=fun e=>by
         rcases e with e|e
         ·exact Blk.ne_ BQH.out RS6.out.nx (by decide) e
         ·exact Blk.ne_ BQH.out RS6.out.fl (by decide) e
        have BO7:Hid (Blk w7 bO 169 #[.slice aL l.length cL]):=BO6.out.ch hC nBO;have BQ7:Hid (Blk w7 bQ 173 #[.slice (some ⟨bT,0,none⟩) ns.length ns.length]):=BQH.out.ch hC nBQ;have row7:∀p,p<2→w7.ownsRow base1 3 1 (V1 u p) ns.length ((rowG G1 u p ns.length).flatMap cI):=fun p hp=>own_ty (TMH.out.own u p ult hp) hC fun g s=>by
         rcases s with s|s
         ·subst s;exact⟨_,_,RS6.out.nx,by decide⟩
         ·subst s;exact⟨_,_,RS6.out.fl,by decide⟩
        have tc7:∀p,p<2→w7.cell? ⟨bT,u*2+p,none⟩=some (V1 u p):=fun p hp=>by
         have h1:=TMH.out.cell ult hp;exact(hC.cell (p:=⟨bT,u*2+p,none⟩) (World.block_lt_of_cell? _ _ h1) fun e=>by
          rcases e with e|e
          ·exact BTN.out.1 e
          ·exact BTN.out.2 e).trans h1
        obtain⟨a0,k0,e0⟩:=own_formN (row7 0 (by omega));obtain⟨a1,k1,e1⟩:=own_formN (row7 1 (by omega));have t0:=tc7 0 (by omega);have t1:=tc7 1 (by omega);rw[e0]at t0;rw[e1]at t1;have r0:w7.cell? ⟨bR,0,none⟩=some (.slice (some ⟨bN,0,none⟩) ns.length ns.length):=hRS.r.cell 0;have q0':w7.cell? ⟨bQ,0,none⟩=some (.slice (some ⟨bT,0,none⟩) ns.length ns.length):=BQ7.out.cell 0;have f0:w7.frozen? ⟨bN,u*2,none⟩=false:=hRS.nx.frozen _;have f1:w7.frozen? ⟨bN,u*2+1,none⟩=false:=hRS.nx.frozen _;have n0:w7.cell? ⟨bN,u*2,none⟩=some (V' u 0):=(by rw[hRS.nx.cell,List.getElem?_toArray];exact flat2_at _ V' (p:=0) ult (by omega));have n1:w7.cell? ⟨bN,u*2+1,none⟩=some (V' u 1):=(by rw[hRS.nx.cell,List.getElem?_toArray];exact flat2_at _ V' (p:=1) ult (by omega));have ROWS:Hid (∀p,p<2→w7.ownsRow w.heap.size 3 1 (upd2 (upd2 V' u 0 (.slice a0 ns.length k0)) u 1 (.slice a1 ns.length k1) u p) ns.length ((List.range ns.length).map fun t=>.int .i64 (G1 u p t))):=fun p hp=>by
         have h1:=own_base (row7 p hp) LB1.out;have e3:(rowG G1 u p ns.length).flatMap cI=(List.range ns.length).map fun t=>Value.int .i64 (G1 u p t):=by
          unfold rowG;rw[List.flatMap_map]
          induction ns.length with
          |zero=>rfl
          |succ n ih=>rw[List.range_succ,List.flatMap_append,List.map_append,ih];rfl
         rw[e3]at h1;rcases(show p=0∨p=1 by omega)with rfl|rfl
         ·rw[upd2_other _ _ (by omega),upd2_same,←e0];exact h1
         ·rw[upd2_same,←e1];exact h1
        obtain⟨w8,hw8⟩:∃w8:World,((w7.setCell ⟨bN,u*2,none⟩ (.slice a0 ns.length k0)).setCell ⟨bN,u*2+1,none⟩ (.slice a1 ns.length k1)).drew=w8:=⟨_,rfl⟩;have RS8:Hid (RS w.heap.size w8 ns.length bR bN bF (upd2 (upd2 V' u 0 (.slice a0 ns.length k0)) u 1 (.slice a1 ns.length k1)) U'):=(by rw[←hw8];have h:=(hRS.setN (p:=0) ult (by omega) (.slice a0 ns.length k0)).setN (p:=1) ult (by omega) (.slice a1 ns.length k1);exact⟨h.r,h.nx,h.fl,h.gR,h.gN,h.gF⟩);have C78:Hid (Ch (fun k=>k=bN) w7 w8):=(by rw[←hw8];exact(((Ch.refl (fun k=>k=bN) w7).setCell (p:=⟨bN,u*2,none⟩) (.inl rfl) _).setCell (p:=⟨bN,u*2+1,none⟩) (.inl rfl) _).drew);have u0:(0:Int)≤(u:Int):=(by omega);have u1:(u:Int)<(ns.length:Int):=(by omega);have qq0:(0:Int)≤(q:Int):=(by omega);have qq1:(q:Int)<(P.length:Int):=(by omega);have kk:(fun wq=>wq.cell? ⟨bR,0,none⟩=some (.slice (some ⟨bN,0,none⟩) ns.length ns.length)∧wq.cell? ⟨bQ,0,none⟩=some (.slice (some ⟨bT,0,none⟩) ns.length ns.length)∧wq.cell? ⟨bT,u*2,none⟩=some (.slice a0 ns.length k0)∧wq.cell? ⟨bT,u*2+1,none⟩=some (.slice a1 ns.length k1)) w7.drew:=⟨r0,q0',t0,t1⟩;clear hRS hRo hRq hU hC row7 tc7 e0 e1 unew dj lpu hPu
        go_wp2_with fail
        refine wp_region_L 9 (fun wq=>wq.cell? ⟨bR,0,none⟩=some (.slice (some ⟨bN,0,none⟩) ns.length ns.length)∧wq.cell? ⟨bQ,0,none⟩=some (.slice (some ⟨bT,0,none⟩) ns.length ns.length)∧wq.cell? ⟨bT,u*2,none⟩=some (.slice a0 ns.length k0)∧wq.cell? ⟨bT,u*2+1,none⟩=some (.slice a1 ns.length k1)) (by kernel_rfl) kk (fun hHeld=>?_);refine AnyL.tk 0 hHeld ?_
        try simp only[puts]
        refine AnyL.tk 1 hHeld ?_
        try simp only[puts]
        refine AnyL.tk 2 hHeld ?_
        try simp only[puts]
        refine AnyL.tk 3 hHeld ?_
        try simp only[puts]
        refine AnyL.tk 4 hHeld ?_
        try simp only[puts]
        refine AnyL.tk 5 hHeld ?_
        try simp only[puts]
        refine AnyL.tk 6 hHeld ?_
        try simp only[puts]
        refine AnyL.tk 7 hHeld ?_
        try simp only[puts]
        refine AnyL.tk 8 hHeld ?_
        try simp only[puts]
        refine AnyL.one (i:=9) (by kernel_rfl) rfl (fun K hK=>?_);go_simp;refine hK.out _ _ (fun h=>absurd rfl h) (fun _=>?_);clear hK;refine AnyL.done (by kernel_rfl) ?_ _
        try simp only[puts]
        clear kk r0 q0' t0 t1 f0 f1 n0 n1 hw8;have B8W:Hid (Below w.heap.size w w8):=below_thenCh B7W.out C78.out fun g s=>by have:=RS6.out.gN;have s:g=bN:=s;omega
        obtain⟨gt,ct,eT,ct1,_,lT,tT⟩:=HH.out.cab.1.at_ (i:=u) (by simpa using ult);have np8:=PL.out.ports8 ult;have cab2:=HH.out.cab.2 u ult;obtain⟨np,hnp⟩:∃np,portsOf (ns.getD u nd0)=np:=⟨_,rfl⟩;have np1:1≤np∧np≤8:=(by rw[←hnp];exact np8);rw[hnp]at cab2;obtain⟨gr,cr,eRw⟩:=cab2.atHead (by simp;omega);have KT:Hid (∀wq,Below w.heap.size w wq→wq.cell? ⟨b,4,none⟩=some (.slice (some ⟨gt,0,none⟩) ns.length ct)∧wq.cell? ⟨gt,u,none⟩=some (.slice (some ⟨gr,0,none⟩) np cr)∧∀p,p<np→wq.cell? ⟨gr,p,none⟩=some (.int .i64 (cabI cs u p))):=fun wq hb=>(by have t:∀{p:Addr} {z:Value},w.cell? p=some z→wq.cell? p=some z:=fun{p z} hz=>(hb.cell (World.block_lt_of_cell? _ _ hz)).trans hz;refine⟨t (by rw[←eT];exact HH.out.r19),t (by rw[ct1,List.getElem?_map,List.getElem?_range ult,←eRw];rfl),fun p hp=>t (by rw[cab2.cellOf eRw (by simpa using hp),List.getElem?_map,List.getElem?_range hp];rfl)⟩);obtain⟨k4,kt,_⟩:=KT.out w8 B8W.out;have HNP:=Lib.hid hnp;have BO8:Hid (Blk w8 bO 169 #[.slice aL l.length cL]):=BO7.out.ch C78.out fun e=>nBO (.inl e);have ST3:Hid (RelRr3 ns cs w8 bF u np U' l (.int .i64 0) w8):=⟨0,.slice none 0 0,Nat.zero_le _,rfl,World.ownsRow_nil w8 _ _ _,by
         have e:((List.range ns.length).map fun i=>if i=u then Value.slice none 0 0 else U' i)=(List.range ns.length).map U':=List.map_congr_left fun i _=>by
          by_cases e:i=u
          ·rw[if_pos e,e,UNIL]
          ·rw[if_neg e]
         rw[e];exact RS8.out.fl,Ch.refl _ _⟩
        clear eT ct1 lT tT np8 cab2 eRw hnp UNIL cqq nBQ
        go_wp2_with fail
        go_loopw [13,14,15,16,17,18,19,20,97] (fun _ _ _ _ _ _ _ _ i wq=>RelRr3 ns cs w8 bF u np U' l i wq) (fun _ _ _ _ _ _ _ _ i _=>np-(RowKit.intOf i).toNat)
        case atStart=>exact ST3.out
        case round=>
         clear ST3 k4 kt;obtain⟨p,vf,hp,rfl,hF,hB,hC3⟩:=hrel;obtain⟨w9,rfl⟩:∃w9:World,w9=wr:=⟨_,rfl⟩;have F9:=Lib.hid hF;have FB9:=Lib.hid hB;have C9:=Lib.hid hC3;have B9W:Hid (Below w.heap.size w w9):=below_thenCh B8W.out hC3 fun g s=>by have:=RS6.out.gF;have s:g=bF:=s;omega
         clear hF hB hC3;by_cases hpn:p<np
         ·obtain⟨k4,kt,kr⟩:=KT.out w9 B9W.out;have krp:=kr p hpn;have p0:(0:Int)≤(p:Int):=(by omega);have p1:(p:Int)<(np:Int):=(by omega);obtain⟨a0,a1,_⟩:=KC.out w9 B9W.out;have bo9:w9.cell? ⟨bO,0,none⟩=some (.slice aL l.length cL):=(BO8.out.ch C9.out fun e=>nBO (.inr e)).cell 0;have KC9:Hid (∀wq,Below w9.heap.size w9 wq→wq.cell? ⟨b,0,none⟩=some (.slice An ns.length cn)∧wq.cell? ⟨b,1,none⟩=some (.slice Ac cs.length cc)∧wq.cell? ⟨bO,0,none⟩=some (.slice aL l.length cL)):=fun wq hb=>by
           have t:∀{p:Addr} {z:Value},w9.cell? p=some z→wq.cell? p=some z:=fun{p z} hz=>(hb.cell (World.block_lt_of_cell? _ _ hz)).trans hz;exact⟨t a0,t a1,t bo9⟩
          clear k4 kt kr
          go_upto_if 102 with fail
          go_cut [13,14,15,16,17,18,19,20]from 99 to 131 (fun _ s14 _ _ _ _ _ _ wx=>s14=.bool (fallsP cs l u p)∧Below w9.heap.size w9 wx)
          case first=>
           as_aux_lemma=>
            cases hcab:cableAt cs u p with
            |none=>
             have e1:cabI cs u p=-1:=(by unfold cabI;rw[hcab];rfl);have FALL:Hid (Value.bool false=.bool (fallsP cs l u p)):=(by rw[Hid];unfold fallsP;rw[hcab]);rw[e1]at krp⊢;clear hcab e1
             go_wp2_with fail
             go_meet
             case rel=>exact⟨FALL.out,Below.refl _ _⟩
            |some i=>
             have e1:cabI cs u p=(i:Int):=cabI_some hcab;obtain⟨hi,htu⟩:=cableAt_some hcab;have FLP:=PL.out.flip hi htu;obtain⟨v,hv⟩:∃v,othF cs i u=v:=⟨_,rfl⟩;have EVF:fallsP cs l u p=(decide (0≤l.getD v 0)&&decide (0≤l.getD u 0)&&!upB l v u):=(by unfold fallsP;rw[hcab,←hv]);rw[hv]at FLP;have S9:FabS w9 b ns cs An Ac cn cc:=⟨a0,a1,HIP.out.below (Nat.le_refl _) B9W.out⟩;have CH:Hid (∀wq,Below w9.heap.size w9 wq→Calls Tryz.prog 65 #[.pointer (some ⟨b,0,none⟩),.int .i64 i,.int .i64 u] wq fun e w'=>e=.returned (.int .i64 (chanF cs i u:Nat))∧wq=w'):=fun wq hb=>fchan_any i u b ns cs An Ac cn cc wq (S9.below hb) PL.out hi ult;have ENX:=fends_any (flipC (chanF cs i u)) b ns cs An Ac cn cc w9 S9 PL.out FLP.2.2.1;have c32:=PL.out.c32;have cch:=(PL.out.chan hi htu).1;have hfb:bits .xor .i64 ((chanF cs i u:Nat):Int) 1=(flipC (chanF cs i u):Int):=flip_bits (by omega);unfold EndsPost pt at ENX;have e1v:(endsF cs (flipC (chanF cs i u))).1=v:=hv;obtain⟨⟨ex,ex1,ex2,ex3⟩,hex⟩:∃x,endsF cs (flipC (chanF cs i u))=x:=⟨_,rfl⟩;rw[hex]at ENX e1v;simp only at ENX e1v;subst e1v;have ENX:=Lib.hid ENX;have C69:Ch (fun k=>k=bN∨k=bF) w6 w9:=(C7.out.trans C78.out fun j _ s=>.inl s).trans C9.out fun j _ s=>.inr s;have IR9:Hid (∀wq,Below w9.heap.size w9 wq→IsRec 1 cI 0 wq aL l.length l):=fun wq hb=>by
              have h6:=own_ty OL6.out C69 fun g s=>by
               rcases s with s|s
               ·subst s;exact⟨_,_,RS6.out.nx,by decide⟩
               ·subst s;exact⟨_,_,RS6.out.fl,by decide⟩
              obtain⟨a',c',e',_,hr',_⟩:=rec_of_own (d:=(0:Int)) cI_length (by decide) (own_ch h6 (Ch.of_below (S:=fun _=>False) hb) fun _ _ s=>s);injection e' with e';subst e';exact hr'
             have i0:(0:Int)≤(i:Int):=(by omega);have hge:decide ((i:Int)≥0)=true:=decide_eq_true (by omega);rw[e1]at krp⊢;have FLPH:=Lib.hid FLP;have LVL:=LPU.out;by_cases hlv:0≤l.getD ex 0
             ·have FALL:Hid (Value.bool (!upB l ex u)=.bool (fallsP cs l u p)):=by rw[Hid,EVF,decide_eq_true hlv,decide_eq_true LVL];simp
              have UPW:Hid (∀wq,Below w9.heap.size w9 wq→Calls Tryz.prog 90 #[.agg #[.slice An ns.length cn,.slice Ac cs.length cc],.agg #[.slice aL l.length cL],.int .i64 (i:Int),.int .i64 (ex:Int)] wq.drew fun e w'=>e=.returned (.tuple #[.bool (upB l ex u),.int .i64 0])∧Below w9.heap.size w9 w'):=fun wq hb=>(by have B:=B9W.out.trans (hb.mono B9W.out.size);exact(upward_any ns cs l An Ac aL cn cc cL i ex u wq.drew ORDH.out hi FLPH.out.2.1 FLPH.out.1 ult hlv LVL HWF.out (LU.out.lv.wf (by omega)) (HIP.out.below (Nat.le_refl _) B.drew) (IR9.out _ hb.drew)).mono fun e w' k=>⟨k.1,hb.drew.trans (k.2.mono hb.drew.size)⟩);generalize chanF cs i u=ch at *;generalize flipC ch=fc at *;generalize upB l ex u=ub at *;clear hcab hex hv EVF htu hi FLP S9
              go_wp2_with (first
               |(go_at_call 65;((with_reducible refine(CH.out _ (Below.refl _ _)).mono ?_);rintro e wq ⟨rfl,rfl⟩))
               |(go_at_call 53;((with_reducible refine ENX.out.mono ?_);rintro e w10 ⟨rfl,hb⟩;have B10:Hid (Below w9.heap.size w9 w10):=(show Below w9.heap.size w9 w10 from⟨hb.os,hb.tape,hb.output,hb.size,hb.block⟩);clear hb)))
              have U10:=UPW.out w10 B10.out;have U10H:=Lib.hid U10;have K10:=Lib.hid (KC9.out w10 B10.out);clear U10
              go_region_held3 (fun wq=>wq.cell? ⟨b,0,none⟩=some (.slice An ns.length cn)∧wq.cell? ⟨b,1,none⟩=some (.slice Ac cs.length cc)∧wq.cell? ⟨bO,0,none⟩=some (.slice aL l.length cL))
               (first|exact K10.out|exact KC9.out _ B11.out)
               (first|(go_at_call 90;((with_reducible refine U10H.out.mono ?_);rintro e w11 ⟨rfl,hb⟩;have B11:Hid (Below w9.heap.size w9 w11):=(show Below w9.heap.size w9 w11 from⟨hb.os,hb.tape,hb.output,hb.size,hb.block⟩);clear hb)))
              go_wp2_with fail
              go_meet
              case rel=>exact⟨FALL.out,B11.out⟩
             ·have FALL:Hid (Value.bool false=.bool (fallsP cs l u p)):=by rw[Hid,EVF,decide_eq_false hlv];simp
              have UPW:Hid (∀wq,Below w9.heap.size w9 wq→Calls Tryz.prog 90 #[.agg #[.slice An ns.length cn,.slice Ac cs.length cc],.agg #[.slice aL l.length cL],.int .i64 (i:Int),.int .i64 (ex:Int)] wq.drew fun e w'=>(∃c:Int,c≠0∧e=.returned (.tuple #[.bool false,.int .i64 c]))∧Below w9.heap.size w9 w'):=fun wq hb=>(by have B:=B9W.out.trans (hb.mono B9W.out.size);exact(upward_bad ns cs l An Ac aL cn cc cL i ex u wq.drew ORDH.out hi FLPH.out.2.1 FLPH.out.1 ult (.inl (by omega)) HWF.out (LU.out.lv.wf (by omega)) (HIP.out.below (Nat.le_refl _) B.drew) (IR9.out _ hb.drew)).mono fun e w' k=>⟨k.1,hb.drew.trans (k.2.mono hb.drew.size)⟩);generalize chanF cs i u=ch at *;generalize flipC ch=fc at *;clear hcab hex hv EVF htu hi FLP S9
              go_wp2_with (first
               |(go_at_call 65;((with_reducible refine(CH.out _ (Below.refl _ _)).mono ?_);rintro e wq ⟨rfl,rfl⟩))
               |(go_at_call 53;((with_reducible refine ENX.out.mono ?_);rintro e w10 ⟨rfl,hb⟩;have B10:Hid (Below w9.heap.size w9 w10):=(show Below w9.heap.size w9 w10 from⟨hb.os,hb.tape,hb.output,hb.size,hb.block⟩);clear hb)))
              have U10:=UPW.out w10 B10.out;have U10H:=Lib.hid U10;have K10:=Lib.hid (KC9.out w10 B10.out);clear U10
              go_region_held3 (fun wq=>wq.cell? ⟨b,0,none⟩=some (.slice An ns.length cn)∧wq.cell? ⟨b,1,none⟩=some (.slice Ac cs.length cc)∧wq.cell? ⟨bO,0,none⟩=some (.slice aL l.length cL))
               (first|exact K10.out|exact KC9.out _ B11.out)
               (first|(go_at_call 90;((with_reducible refine U10H.out.mono ?_);rintro e w11 ⟨⟨ec,hec,rfl⟩,hb⟩;have hec':(ec==0)=false:=beq_eq_false_iff_ne.2 hec;have B11:Hid (Below w9.heap.size w9 w11):=(show Below w9.heap.size w9 w11 from⟨hb.os,hb.tape,hb.output,hb.size,hb.block⟩);clear hb)))
              go_wp2_with fail
              go_meet
              case rel=>exact⟨FALL.out,B11.out⟩
          case rest=>
           as_aux_lemma=>
            obtain⟨rfl,hBx⟩:=hcut;obtain⟨w10,rfl⟩:∃w10:World,w10=wc:=⟨_,rfl⟩;have B10:=Lib.hid hBx;obtain⟨aV,kV,eV⟩:=own_formN F9.out;subst eV;obtain⟨fl,hfl⟩:∃fl,fallsP cs l u p=fl:=⟨_,rfl⟩;have FB10:Hid (Blk w10 bF 52 ((List.range ns.length).map fun i=>if i=u then Value.slice aV p kV else U' i).toArray):=FB9.out.below hBx FB9.out.lt;have nBR:¬bR=bF:=Blk.ne_ RS8.out.r RS8.out.fl (by decide);have BR9:Hid (Blk w9 bR 97 #[.slice (some ⟨bN,0,none⟩) ns.length ns.length,.slice (some ⟨bF,0,none⟩) ns.length ns.length]):=Blk.ch (S:=fun k=>k=bF) RS8.out.r C9.out nBR;have BR10:Hid (Blk w10 bR 97 #[.slice (some ⟨bN,0,none⟩) ns.length ns.length,.slice (some ⟨bF,0,none⟩) ns.length ns.length]):=BR9.out.below hBx BR9.out.lt;have F10:Hid (w10.ownsRow w8.heap.size 4 1 (.slice aV p kV) p ((List.range p).map fun p=>.bool (fallsP cs l u p))):=own_ch F9.out (Ch.of_below (S:=fun _=>False) hBx) fun _ _ s=>s;have C10:Hid (Ch (fun k=>k=bF) w8 w10):=C9.out.thenBelow hBx;have r1:w10.cell? ⟨bR,1,none⟩=some (.slice (some ⟨bF,0,none⟩) ns.length ns.length):=BR10.out.cell 1;have fu:w10.cell? ⟨bF,u,none⟩=some (.slice aV p kV):=(by rw[FB10.out.cell,List.getElem?_toArray,List.getElem?_map,List.getElem?_range ult];simp);have KS:Hid (∀wq,Ch (fun k=>(Value.slice aV p kV).ownBlock=some k) w10 wq→(fun wq=>wq.cell? ⟨bR,1,none⟩=some (.slice (some ⟨bF,0,none⟩) ns.length ns.length)∧wq.cell? ⟨bF,u,none⟩=some (.slice aV p kV)) wq∧wq.frozen? ⟨bF,u,none⟩=false):=fun wq hq=>(by have nb:∀{g:Nat} {t:TypeId} {C:Array Value},Blk w10 g t C→t≠4→¬(Value.slice aV p kV).ownBlock=some g:=fun{g t C} hb ht e=>(by obtain⟨C',hb'⟩:=own_blk F10.out _ e;exact ht (Blk.same hb hb').1);have h1:=BR10.out.ch hq (nb BR10.out (by decide));have h2:=FB10.out.ch hq (nb FB10.out (by decide));exact⟨⟨h1.cell 1,by rw[h2.cell,List.getElem?_toArray,List.getElem?_map,List.getElem?_range ult];simp⟩,h2.frozen u⟩);have FIN:Hid (∀v' w',w'.ownsRow w8.heap.size 4 1 v' (p+1) (((List.range p).map fun p=>.bool (fallsP cs l u p))++[.bool fl])→(w10.alloc (.cells #[.bool fl] 4)).grownBy w' (Value.slice aV p kV).ownBlock→RelRr3 ns cs w8 bF u np U' l (.int .i64 ((p:Int)+1)) (w'.setCell ⟨bF,u,none⟩ v')):=fun v' w' ho hg=>by
             have hc:Ch (fun k=>(Value.slice aV p kV).ownBlock=some k) w10 w':=((Ch.refl _ w10).alloc _).grown hg fun g e=>.inl e;have nbF:¬(Value.slice aV p kV).ownBlock=some bF:=fun e=>(by obtain⟨C',hb'⟩:=own_blk F10.out _ e;exact Blk.ne_ FB10.out hb' (by decide) rfl);have h2:=FB10.out.ch hc nbF;refine⟨p+1,v',by omega,by congr 1,?_,?_,?_⟩
             ·rw[List.range_succ,List.map_append];have ho':=ho;rw[←hfl]at ho';refine own_set ho' (p:=⟨bF,u,none⟩) _ fun g hg' e=>?_;obtain⟨C',hb'⟩:=own_blk ho g hg';subst e;exact Blk.ne_ h2 hb' (by decide) rfl
             ·have h3:=h2.set_ u v';rw[List.setIfInBounds_toArray,map_set_at]at h3;have e:((List.range ns.length).map fun i=>if i=u then v' else if i=u then Value.slice aV p kV else U' i)=(List.range ns.length).map fun i=>if i=u then v' else U' i:=List.map_congr_left fun i _=>by
               by_cases e:i=u
               ·rw[if_pos e,if_pos e]
               ·rw[if_neg e,if_neg e,if_neg e]
              rw[e]at h3;exact h3
             ·exact(C10.out.trans hc fun i hi s=>by have:=(F10.out.lt i s).1;omega).setCell (p:=⟨bF,u,none⟩) (.inl rfl) _
            obtain⟨i0,hi0,hx0,hx1,hx2⟩:=info_parts infoBool;have RN:Hid (Reads (w10.alloc (.cells #[.bool fl] 4)).drew (w10.heap.size+1) 1 (some ⟨w10.heap.size,0,none⟩) 1 [.bool fl]):=(reads_newN w10 4 [.bool fl] (n:=1) (size:=1) rfl).drew;have OW:Hid ((w10.alloc (.cells #[.bool fl] 4)).drew.ownsRow w8.heap.size 4 1 (.slice aV p kV) p ((List.range p).map fun p=>.bool (fallsP cs l u p))):=F10.out.alloc (.cells #[.bool fl] 4);have SZ:Hid (w8.heap.size≤w10.heap.size):=C10.out.size;have KK:Hid ((fun wq=>wq.cell? ⟨bR,1,none⟩=some (.slice (some ⟨bF,0,none⟩) ns.length ns.length)∧wq.cell? ⟨bF,u,none⟩=some (.slice aV p kV)) w10.drew):=⟨r1,fu⟩;rw[hfl];clear hfl hBx r1 fu krp bo9 a0 a1
            go_wp2_with fail
            refine wp_region_L 12 (fun wq=>wq.cell? ⟨bR,1,none⟩=some (.slice (some ⟨bF,0,none⟩) ns.length ns.length)∧wq.cell? ⟨bF,u,none⟩=some (.slice aV p kV)) (by kernel_rfl) KK.out (fun hHeld=>?_);refine AnyL.tk 0 hHeld ?_
            try simp only[puts]
            refine AnyL.tk 1 hHeld ?_
            try simp only[puts]
            refine AnyL.tk 2 hHeld ?_
            try simp only[puts]
            refine AnyL.tk 3 hHeld ?_
            try simp only[puts]
            refine AnyL.tk 4 hHeld ?_
            try simp only[puts]
            refine AnyL.tk 5 hHeld ?_
            try simp only[puts]
            refine AnyL.tk 6 hHeld ?_
            try simp only[puts]
            refine AnyL.tk 7 hHeld ?_
            try simp only[puts]
            refine AnyL.tk 8 hHeld ?_
            try simp only[puts]
            refine AnyL.one (i:=9) (by kernel_rfl) rfl (fun K hK=>?_);go_simp;refine hK.out _ _ (fun _=>(KS.out _ ((Ch.refl _ _).alloc _).drew).1) (fun hHeld0=>?_);have hHeld:=hHeld0 (by decide);clear hK hHeld0
            try simp only[puts]
            refine AnyL.one (i:=10) (by kernel_rfl) rfl (fun K hK=>?_);refine step_append_any _ (by rfl) (.tmp 139) (.tmp 141) 52 (by rfl) w8.heap.size 4 i0 _ 1 1 Tryz.underlying52 hi0 hx0 hx1 hx2 rfl (by decide) _ _ _ (by rfl) OW.out _ (some ⟨w10.heap.size,0,none⟩) 1 1 [.bool fl] (by rfl) RN.out ?_ ?_ ?_ ?_ ?_
            ·intro u hu;simp only[List.mem_cons,List.not_mem_nil,or_false]at hu;subst hu;rfl
            ·unfold maxLen;omega
            ·omega
            ·have:=SZ.out;exact Nat.le_trans this ((Ch.refl (fun _=>False) w10).alloc _).drew.size
            intro v5 w12 own5 gr5 loc5;have gr5':(w10.alloc (.cells #[.bool fl] 4)).grownBy w12 (Value.slice aV p kV).ownBlock:=⟨gr5.os,gr5.tape,gr5.output,gr5.size,gr5.block⟩;have R0:=FIN.out v5 w12 own5 gr5';obtain⟨a5,c5,e5⟩:=own_formN own5;subst e5;have R:=Lib.hid R0;clear R0;obtain⟨k16,kf16⟩:=KS.out w12 ((((Ch.refl _ w10).alloc _).grown gr5' fun g hg=>.inl hg));have kc16:=k16.2;clear own5 gr5 gr5' loc5;refine hK.out _ _ (fun _=>k16) (fun hHeld0=>?_);have hHeld:=hHeld0 (by decide);clear hK hHeld0
            try simp only[puts]
            clear k16;refine AnyL.tk 11 hHeld ?_
            try simp only[puts]
            refine AnyL.one (i:=12) (by kernel_rfl) rfl (fun K hK=>?_);go_simp;refine hK.out _ _ (fun h=>absurd rfl h) (fun _=>?_);clear hK;refine AnyL.done (by kernel_rfl) ?_ _
            try simp only[puts]
            go_wp2_with fail
            exact⟨R.out,by simp[RowKit.intOf];omega⟩
         ·obtain rfl:np=p:=by omega
          have R:Hid (RelRr2 ns cs w.heap.size w6 bR bN bF m PS P LV GG l G1 (.int .i64 ((q:Int)+1)) w9):=
           rr_end RS7.out RS8.out (fun x p' hx=>by rw[upd2_other _ _ (by omega),upd2_other _ _ (by omega)]) C7.out C78.out C9.out FB9.out F9.out ROWS.out RO7.out RQ7.out U7.out HPU.out DJ.out UNW.out HNP.out (by omega) B8W.out.size
          clear RO7 RQ7 U7
          go_wp2_with fail
          exact⟨R.out,by simp[RowKit.intOf];omega⟩
       ·obtain rfl:P.length=q:=by omega
        have R:Hid (RelRr1 ns cs f.up w.heap.size w2 bR bN bF PS (.int .i64 ((m:Int)+1)) w7):=rr_end2 RS7.out NM.out NETP.out PD.out RO7.out RQ7.out U7.out (C26.out.trans C7.out fun i _ s=>s) hmn;clear hRS hRo hRq hU hC RO7 RQ7 U7
        go_wp2_with fail
        exact⟨R.out,by simp[RowKit.intOf];omega⟩
   ·obtain rfl:PS.length=m:=by omega
    obtain⟨w7,rfl⟩:∃w7:World,w7=wr:=⟨_,rfl⟩;obtain⟨B7,_⟩:=KL.out w7 CM.out;have B7W:=Lib.hid B7;have RT7:Hid (Blk w7 b 100 (fabC f L)):=HH.out.root.below B7 HH.out.root.lt;have l11:w7.cell? ⟨b,11,none⟩=some (.pointer (some ⟨L.bk,0,none⟩)):=RT7.out.cell 11;have KK:Hid ((fun wq=>wq.cell? ⟨b,11,none⟩=some (.pointer (some ⟨L.bk,0,none⟩))∧wq.cell? ⟨bR,0,none⟩=some (.slice (some ⟨bN,0,none⟩) ns.length ns.length)∧wq.cell? ⟨bR,1,none⟩=some (.slice (some ⟨bF,0,none⟩) ns.length ns.length)) w7.drew):=⟨l11,RSM.out.r.cell 0,RSM.out.r.cell 1⟩;have BK7:Bk w7.drew L.bk f.bnow f.al0 f.al1:=Blk.below HB.out B7.drew HH.out.bkL;have NOW:=Lib.hid (now_any L.bk f.bnow f.al0 f.al1 w7.drew BK7);have ENT:=enters_of (P:=Tryz.prog) Tryz.func47 (by kernel_rfl) rfl;clear B7 BK7 l11;rcases(show f.bnow%2=0∨f.bnow%2=1 by omega)with hq|hq
    ·have hm:(f.bnow:Int)%2=0:=by omega
     have htm:(f.bnow:Int).tmod 2=0:=(by rw[Int.tmod_eq_emod_of_nonneg (by omega)];exact hm);have FIN:=Lib.hid (rr_fin HH.out HB.out HR0.out HR1.out hq B7W.out RSM.out PI.out NM.out ROM.out);have fz0:w7.frozen? ⟨b,7,none⟩=false:=RT7.out.frozen _;have fz1:w7.frozen? ⟨b,8,none⟩=false:=RT7.out.frozen _;have cc0:w7.cell? ⟨b,7,none⟩=some L.r0n:=RT7.out.cell _;have cc1:w7.cell? ⟨b,8,none⟩=some L.r0f:=RT7.out.cell _;clear hq
     go_wp2_with fail
     refine wp_region_L 11 (fun wq=>wq.cell? ⟨b,11,none⟩=some (.pointer (some ⟨L.bk,0,none⟩))∧wq.cell? ⟨bR,0,none⟩=some (.slice (some ⟨bN,0,none⟩) ns.length ns.length)∧wq.cell? ⟨bR,1,none⟩=some (.slice (some ⟨bF,0,none⟩) ns.length ns.length)) (by kernel_rfl) KK.out (fun hHeld=>?_);refine AnyL.tk 0 hHeld ?_
     try simp only[puts]
     refine AnyL.tk 1 hHeld ?_
     try simp only[puts]
     refine AnyL.tk 2 hHeld ?_
     try simp only[puts]
     refine AnyL.tk 3 hHeld ?_
     try simp only[puts]
     refine AnyL.tk 4 hHeld ?_
     try simp only[puts]
     refine AnyL.tk 7 hHeld ?_
     try simp only[puts]
     refine AnyL.tk 8 hHeld ?_
     try simp only[puts]
     refine AnyL.tk 9 hHeld ?_
     try simp only[puts]
     refine AnyL.one (i:=5) (by kernel_rfl) rfl (fun K hK=>?_);refine step_call1 (by rfl) ENT (by rfl) (by rfl) NOW.out ?_;rintro e wq ⟨rfl,rfl⟩;refine⟨_,rfl,?_⟩;refine hK.out _ _ (fun _=>KK.out) (fun hHeld0=>?_);have hHeld:=hHeld0 (by decide);clear hK hHeld0
     try simp only[puts]
     refine AnyL.tk 6 hHeld ?_
     try simp only[puts]
     refine AnyL.tk 10 hHeld ?_
     try simp only[puts]
     refine AnyL.one (i:=11) (by kernel_rfl) rfl (fun K hK=>?_);go_simp;refine hK.out _ _ (fun h=>absurd rfl h) (fun _=>?_);clear hK;refine AnyL.done (by kernel_rfl) ?_ _
     try simp only[puts]
     go_wp2_with fail
     refine bodyPost_end (results_none rfl _ _ _) rfl ⟨rfl,?_⟩;obtain⟨r,h1,τ',L',h2,h3⟩:=FIN.out;exact⟨r,h1,τ',L',h2.drew,h3.drew⟩
    ·have hm:(f.bnow:Int)%2=1:=by omega
     have htm:(f.bnow:Int).tmod 2=1:=(by rw[Int.tmod_eq_emod_of_nonneg (by omega)];exact hm);have FIN:=Lib.hid (rr_fin HH.out HB.out HR0.out HR1.out hq B7W.out RSM.out PI.out NM.out ROM.out);have fz0:w7.frozen? ⟨b,9,none⟩=false:=RT7.out.frozen _;have fz1:w7.frozen? ⟨b,10,none⟩=false:=RT7.out.frozen _;have cc0:w7.cell? ⟨b,9,none⟩=some L.r1n:=RT7.out.cell _;have cc1:w7.cell? ⟨b,10,none⟩=some L.r1f:=RT7.out.cell _;clear hq
     go_wp2_with fail
     refine wp_region_L 11 (fun wq=>wq.cell? ⟨b,11,none⟩=some (.pointer (some ⟨L.bk,0,none⟩))∧wq.cell? ⟨bR,0,none⟩=some (.slice (some ⟨bN,0,none⟩) ns.length ns.length)∧wq.cell? ⟨bR,1,none⟩=some (.slice (some ⟨bF,0,none⟩) ns.length ns.length)) (by kernel_rfl) KK.out (fun hHeld=>?_);refine AnyL.tk 0 hHeld ?_
     try simp only[puts]
     refine AnyL.tk 1 hHeld ?_
     try simp only[puts]
     refine AnyL.tk 2 hHeld ?_
     try simp only[puts]
     refine AnyL.tk 3 hHeld ?_
     try simp only[puts]
     refine AnyL.tk 4 hHeld ?_
     try simp only[puts]
     refine AnyL.tk 7 hHeld ?_
     try simp only[puts]
     refine AnyL.tk 8 hHeld ?_
     try simp only[puts]
     refine AnyL.tk 9 hHeld ?_
     try simp only[puts]
     refine AnyL.one (i:=5) (by kernel_rfl) rfl (fun K hK=>?_);refine step_call1 (by rfl) ENT (by rfl) (by rfl) NOW.out ?_;rintro e wq ⟨rfl,rfl⟩;refine⟨_,rfl,?_⟩;refine hK.out _ _ (fun _=>KK.out) (fun hHeld0=>?_);have hHeld:=hHeld0 (by decide);clear hK hHeld0
     try simp only[puts]
     refine AnyL.tk 6 hHeld ?_
     try simp only[puts]
     refine AnyL.tk 10 hHeld ?_
     try simp only[puts]
     refine AnyL.one (i:=11) (by kernel_rfl) rfl (fun K hK=>?_);go_simp;refine hK.out _ _ (fun h=>absurd rfl h) (fun _=>?_);clear hK;refine AnyL.done (by kernel_rfl) ?_ _
     try simp only[puts]
     go_wp2_with fail
     refine bodyPost_end (results_none rfl _ _ _) rfl ⟨rfl,?_⟩;obtain⟨r,h1,τ',L',h2,h3⟩:=FIN.out;exact⟨r,h1,τ',L',h2.drew,h3.drew⟩
end Go.Proofs.YtnjjkgjdhljfnaaGreat
namespace Go.Proofs.YtnjjkgjdhljfnaaGreat
open Go.RowKit Go.Maps
def AdvPost(w:World)(g:Nat)(f:Fab)(e:Ending)(w':World):Prop:=
 (f.mayAdv=true∧e=.returned (.int .i64 0)∧w'=w.setCell ⟨g,0,none⟩ (.int .i64 ((f.bnow:Int)+1)))∨(f.mayAdv=false∧e=.returned (.int .i64 6)∧w'=w)
theorem badv_any(g:Nat)(f:Fab)(w:World)(h:Bk w g f.bnow f.al0 f.al1)(h0:0≤f.al0)(h1:0≤f.al1)(hb:f.bnow≤1000000000):Calls Tryz.prog 52 #[pt g] w (AdvPost w g f):=by
 have e1:=alive_alv f ((f.bnow:Int)-1);have n0:0≤f.alive ((f.bnow:Int)-1):=by
  unfold Fab.alive;split
  ·omega
  ·split<;>assumption
 by_cases q:f.alive ((f.bnow:Int)-1)=0
 ·refine(advance_ok g f.bnow f.al0 f.al1 w h (by omega) (by omega) (by rw[←e1];exact q)).mono ?_;rintro r w' ⟨rfl,rfl⟩;exact .inl ⟨by unfold Fab.mayAdv;rw[q];rfl,rfl,rfl⟩
 ·refine(advance_state g f.bnow f.al0 f.al1 w h (by omega) (by omega) (by rw[←e1];omega)).mono ?_;rintro r w' ⟨rfl,rfl⟩;exact .inr ⟨by unfold Fab.mayAdv;exact decide_eq_false (by omega),rfl,rfl⟩
section
variable{τ τ':Own}{w w':World}{b:Nat}{ns:List Nd}{cs:List Cb}{f f':Fab}{L L':FbL}
theorem FabM.nowS(h:FabM τ w b ns cs f L):w.frozen? ⟨b,13,none⟩=false∧w.cell? ⟨b,13,none⟩=some (.int .i64 f.now)∧FabM τ (w.setCell ⟨b,13,none⟩ (.int .i64 ((f.now:Int)+1))) b ns cs f.nowF L∧FNx τ w τ (w.setCell ⟨b,13,none⟩ (.int .i64 ((f.now:Int)+1))):=by have c1:Ch (· =b) w (w.setCell ⟨b,13,none⟩ (.int .i64 ((f.now:Int)+1))):=(Ch.refl (· =b) w).setCell (p:=⟨b,13,none⟩) (.inl rfl) _;have b2:=h.root.1.set_ 13 (.int .i64 ((f.now:Int)+1));have g:=h.toG (fun k=>k=0) (τ':=τ) c1 (fun _ _=>rfl) fun k s=>.inr (by rw[s,h.root.2];exact⟨rfl,rfl⟩);refine⟨h.root.1.frozen 13,by have:=h.root.1.cell 13;rw[this];rfl,⟨⟨b2,g.rootT.1⟩,g.plan,g.rooms,g.cab,g.bxs,g.bx,g.up (by decide),g.r0,g.r1,⟨g.bk (by decide),g.bkT⟩,⟨g.fl (by decide) (by decide),g.flT⟩,⟨g.lim (by decide) (by decide),g.limT⟩,g.came (by decide),g.gone (by decide),g.lost (by decide)⟩,⟨c1.mono fun k _ s=>?_,fun _ _=>rfl⟩⟩;rw[s,h.root.2];exact Nat.le_refl 2
theorem FabM.advS(h:FabM τ w b ns cs f L)(w1:World)(hw:w1=w.setCell ⟨L.bk,0,none⟩ (.int .i64 ((f.bnow:Int)+1))):w1.frozen? ⟨b,12,none⟩=false∧w1.cell? ⟨b,12,none⟩=some (.bool f.pend)∧FabH τ (w1.setCell ⟨b,12,none⟩ (.bool false)) b ns cs {f with pend:=false,bnow:=f.bnow+1} L∧Bk (w1.setCell ⟨b,12,none⟩ (.bool false)) L.bk ((f.bnow+1:Nat):Int) f.al0 f.al1∧RtM τ (w1.setCell ⟨b,12,none⟩ (.bool false)) ns L.r0n L.r0f f.rt0∧(0<f.bnow→RtM τ (w1.setCell ⟨b,12,none⟩ (.bool false)) ns L.r1n L.r1f f.rt1)∧FNx τ w τ (w1.setCell ⟨b,12,none⟩ (.bool false)):=by
 have c1:Ch (fun k=>k=L.bk) w w1:=by rw[hw];exact(Ch.refl (fun k=>k=L.bk) w).setCell (p:=⟨L.bk,0,none⟩) (.inl rfl) _
 have nb:¬b=L.bk:=fun q=>by have:=h.root.2;rw[q,h.bk.2]at this;simp at this
 have b1:Blk w1 b 100 (fabC f L):=h.root.1.ch c1 nb;have c2:Ch (fun k=>k=b∨k=L.bk) w (w1.setCell ⟨b,12,none⟩ (.bool false)):=(c1.mono fun k _ q=>.inr q).setCell (p:=⟨b,12,none⟩) (.inl (.inl rfl)) _;have b2:=b1.set_ 12 (.bool false);have k1:Bk w1 L.bk ((f.bnow:Int)+1) f.al0 f.al1:=by rw[hw];exact h.bk.1.setN _
 have k2:Bk (w1.setCell ⟨b,12,none⟩ (.bool false)) L.bk ((f.bnow:Int)+1) f.al0 f.al1:=Blk.ch k1 ((Ch.refl (fun k=>k=b) w1).setCell (p:=⟨b,12,none⟩) (.inl rfl) _) fun q=>nb q.symm;have g:=h.toG (fun k=>k=0∨k=2) (τ':=τ) c2 (fun _ _=>rfl) fun k s=>.inr (by
  rcases s with s|s
  ·rw[s,h.root.2];exact⟨rfl,.inl rfl⟩
  ·rw[s,h.bk.2];exact⟨rfl,.inr rfl⟩)
 refine⟨b1.frozen 12,by have:=b1.cell 12;rw[this];rfl,⟨b2,g.rootT.1,g.plan,g.rooms,g.cab,g.bxs,g.bx,g.up (by decide),g.bkT,Blk.lt k2,⟨g.fl (by decide) (by decide),g.flT⟩,⟨g.lim (by decide) (by decide),g.limT⟩,g.came (by decide),g.gone (by decide),g.lost (by decide)⟩,k2,g.r0,g.r1,⟨c2.mono fun k _ s=>?_,fun _ _=>rfl⟩⟩;rcases s with s|s
 ·rw[s,h.root.2];exact Nat.le_refl 2
 ·rw[s,h.bk.2];exact Nat.le_refl 2
end
theorem FabM.limLook{τ:Own}{w:World}{b:Nat}{ns:List Nd}{cs:List Cb}{f:Fab}{L:FbL}(h:FabM τ w b ns cs f L)(now:Nat)(hn:now≤900000000):∃v:Value,(∀wq,Ch (fun _=>False) w wq→(Instr.lookup 91 (.map (some L.ml)) (.int .i64 now) false).run Tryz.prog wq=.ok v wq)∧NotM w v (f.lim now)∧∀g,v.ownBlock=some g→τ g=(2,6,now,0):=by obtain⟨n,M,om,_,nm,tg,_⟩:=h.limAt now;exact⟨tickV M now,fun wq hq=>(omap_ch om hq id).look (t:=91) (int_keyed Tryz.underlying3) Tryz.underlying91 (zeroNotices _) (keyOf_int_mk Tryz.underlying3 (wf_small (now:Int) (by omega) (by omega))),nm,tg⟩
structure FNb(τ:Own)(w:World)(τ':Own)(w':World):Prop where
 ch:Ch (fun k=>3≤(τ k).1) w w'
 ext:∀k,k<w.heap.size→τ' k=τ k
theorem FNb.x{τ τ':Own}{w w':World}(h:FNb τ w τ' w'):FNx τ w τ' w':=⟨h.ch.mono fun k _ s=>Nat.le_trans (by decide) s,h.ext⟩
theorem FNb.trans{τ τ' τ'':Own}{w w' w'':World}(h:FNb τ w τ' w')(k:FNb τ' w' τ'' w''):FNb τ w τ'' w'':=
 ⟨h.ch.trans k.ch fun i hi s=>by rw[h.ext i hi]at s;exact s,fun i hi=>(k.ext i (Nat.lt_of_lt_of_le hi h.ch.size)).trans (h.ext i hi)⟩
theorem FNb.of_nx{τ τ':Own}{w w':World}{i:Nat}(h:Nx τ (3+i) w τ' w'):FNb τ w τ' w':=⟨h.ch.mono fun k _ s=>by omega,h.ext⟩
theorem FNb.cell{τ τ':Own}{w w':World}(h:FNb τ w τ' w'){p:Addr}(hp:p.block<w.heap.size)(ht:(τ p.block).1≤2):w'.cell? p=w.cell? p:=h.ch.cell hp fun s=>by omega
end Go.Proofs.YtnjjkgjdhljfnaaGreat
namespace Go.Proofs.YtnjjkgjdhljfnaaGreat
open Go.RowKit Go.Maps
attribute [local go_sem ↓] Go.wp_at_zero Go.wp_at_succ
def TkBeg(τ:Own)(w:World)(b:Nat)(ns:List Nd)(cs:List Cb)(f:Fab)(wx:World):Prop:=
 ∃nr,RtOk ns cs nr∧((f.pend&&f.mayAdv)=true→IsRt ns cs f.up nr)∧∃τ' L',FabM τ' wx b ns cs (f.begF nr) L'∧FNx τ w τ' wx
theorem begF_not{f:Fab}{nr:Rt}(h:(f.pend&&f.mayAdv)=false):f.begF nr=f.nowF:=by unfold Fab.begF;rw[if_neg];intro q;have e:(f.nowF.pend&&f.nowF.mayAdv)=(f.pend&&f.mayAdv):=rfl;rw[e,h]at q;cases q
theorem begF_yes{f:Fab}{nr:Rt}(h:(f.pend&&f.mayAdv)=true):f.begF nr=({f.nowF with pend:=false,bnow:=f.bnow+1}:Fab).setR ((f.bnow+1)%2) nr:=by unfold Fab.begF;rw[if_pos (show(f.nowF.pend&&f.nowF.mayAdv)=true from h)];rfl
def RelTk(τ:Own)(w:World)(b:Nat)(ns:List Nd)(cs:List Cb)(L:FbL)(g:Fab)(l:List (Nat×Nat×Int))(i:Value)(wr:World):Prop:=
 ∃k:Nat,k≤l.length∧i=.int .i64 k∧∃τ' L',FabM τ' wr b ns cs ((l.take k).foldl (Fab.raise1 cs) g) L'∧FNb τ w τ' wr∧L'.ml=L.ml
def TickPost(τ:Own)(w:World)(b:Nat)(ns:List Nd)(cs:List Cb)(f:Fab)(e:Ending)(w':World):Prop:=
 ∃nr,RtOk ns cs nr∧((f.pend&&f.mayAdv)=true→IsRt ns cs f.up nr)∧∃v,e=.returned v∧∃τ' L',FabM τ' w' b ns cs (f.tick ns cs nr).1 L'∧FNx τ w τ' w'∧DelM τ' w.heap.size w' v (f.tick ns cs nr).2
theorem ftick_any(f:Fab)(N:Nat)(b:Nat)(ns:List Nd)(cs:List Cb)(L:FbL)(τ:Own)(w:World)(h:FabM τ w b ns cs f L)(hp:PlF ns cs)(hok:FabOk ns cs f N)(hfl:FlOk cs f)(hcs:cs.length≤10)(hv:validP ⟨ns,cs⟩=0)(hwf:WfP ⟨ns,cs⟩)(hup:f.up.length=cs.length)(hN:N≤600000000):Calls Tryz.prog 15 #[pt b] w (TickPost τ w b ns cs f):=by
 have hbn:f.bnow≤900000000:=by have:=hok.bn;have:=hok.now;omega
 have hnow:f.now≤800000000:=by have:=hok.now;omega
 have hwr:wrap64 ((f.now:Int)+1)=(f.now:Int)+1:=by unfold wrap64;omega
 obtain⟨f13,c13,mN,nN⟩:=h.nowS;obtain⟨w1,hw1⟩:∃w1:World,w.setCell ⟨b,13,none⟩ (.int .i64 ((f.now:Int)+1))=w1:=⟨_,rfl⟩;rw[hw1]at mN nN;have c12:w1.cell? ⟨b,12,none⟩=some (.bool f.pend):=mN.r19;have c11:w1.cell? ⟨b,11,none⟩=some (.pointer (some ⟨L.bk,0,none⟩)):=mN.r19;have MN:=Lib.hid mN;have NN:=Lib.hid nN;have OK:=Lib.hid hok;have PL:=Lib.hid hp;have HV:=Lib.hid hv;have HW:=Lib.hid hwf;have FL:=Lib.hid hfl;have HCS:=Lib.hid hcs;have HN:=Lib.hid hN;have HUP:=Lib.hid hup;clear h hp hok hfl hcs hv hwf hup hN mN nN;unfold pt
 go_enter Tryz.func15,Tryz.ntmps15
 have NOT:Hid ((f.pend&&f.mayAdv)=false→TkBeg τ w b ns cs f w1):=fun q=>⟨f.rt0,OK.out.r0,fun e=>(by rw[q]at e;cases e),τ,L,by rw[begF_not q];exact MN.out,NN.out⟩;have ADV:Hid (Calls Tryz.prog 52 #[pt L.bk] w1 (AdvPost w1 L.bk f.nowF)):=badv_any L.bk f.nowF w1 MN.out.bk.1 OK.out.a0.1 OK.out.a1.1 (by show f.bnow≤_;omega);have YES:Hid ((f.pend&&f.mayAdv)=true→∀w2,w2=w1.setCell ⟨L.bk,0,none⟩ (.int .i64 ((f.bnow:Int)+1))→w2.frozen? ⟨b,12,none⟩=false∧w2.cell? ⟨b,12,none⟩=some (.bool f.pend)∧Calls Tryz.prog 42 #[pt b] (w2.setCell ⟨b,12,none⟩ (.bool false)) fun e w'=>e=.returned (.tuple #[])∧TkBeg τ w b ns cs f w'):=fun q w2 hw2=>by
  obtain⟨a1,a2,a3,a4,a5,a6,a7⟩:=MN.out.advS w2 hw2;refine⟨a1,a2,?_⟩;refine(freroute_any _ b ns cs L τ _ a3 a4 (fun _=>a5) (fun e1 e2=>?_) PL.out HV.out HW.out HUP.out (by show f.bnow+1≤_;omega)).mono ?_
  ·exact a6 (by have e1:(f.bnow+1)%2=0:=e1;show 0<f.bnow;omega)
  ·rintro e w' ⟨rfl,r,hr,τ',L',m,n⟩;have ro:RtOk ns cs r:=by obtain⟨PS,LL,G,hn⟩:=hr;exact hn.ok HV.out
   exact⟨rfl,r,ro,fun _=>hr,τ',L',by rw[begF_yes q];exact m,(NN.out.trans a7).trans n⟩
 unfold pt at ADV YES
 go_upto_region 4 with fail
 go_cut [30]from 19 to 29 (fun s30 wx=>s30=.bool (f.pend&&f.mayAdv)∧((f.pend&&f.mayAdv)=false→w1=wx)∧((f.pend&&f.mayAdv)=true→wx=w1.setCell ⟨L.bk,0,none⟩ (.int .i64 ((f.bnow:Int)+1))))
 case first=>
  as_aux_lemma=>
   clear NOT YES MN NN OK PL HV HW FL HCS HN HUP;cases hpd:f.pend with
   |false=>
    rw[hpd]at c12
    go_wp2_with fail
    go_meet
    case rel=>exact⟨by rw[hpd];rfl,fun _=>rfl,fun e=>(by rw[hpd]at e;cases e)⟩
   |true=>
    rw[hpd]at c12;cases hm:f.mayAdv with
    |false=>
     have AD:Hid (Calls Tryz.prog 52 #[.pointer (some ⟨L.bk,0,none⟩)] w1 fun e w'=>e=.returned (.int .i64 6)∧w1=w'):=ADV.out.mono fun e w' q=>by
      rcases q with⟨q,_,_⟩|⟨_,q1,q2⟩
      ·rw[show f.nowF.mayAdv=f.mayAdv from rfl,hm]at q;cases q
      ·exact⟨q1,q2.symm⟩
     clear ADV
     go_wp2_with (first|(go_at_call 52;refine AD.out.mono ?_;rintro e w' ⟨rfl,rfl⟩))
     go_meet
     case rel=>exact⟨by rw[hpd,hm];rfl,fun _=>rfl,fun e=>(by rw[hpd,hm]at e;cases e)⟩
    |true=>
     have AD:Hid (Calls Tryz.prog 52 #[.pointer (some ⟨L.bk,0,none⟩)] w1 fun e w'=>e=.returned (.int .i64 0)∧w'=w1.setCell ⟨L.bk,0,none⟩ (.int .i64 ((f.bnow:Int)+1))):=ADV.out.mono fun e w' q=>by
      rcases q with⟨_,q1,q2⟩|⟨q,_,_⟩
      ·exact⟨q1,q2⟩
      ·rw[show f.nowF.mayAdv=f.mayAdv from rfl,hm]at q;cases q
     clear ADV
     go_wp2_with (first|(go_at_call 52;refine AD.out.mono ?_;rintro e w2 ⟨rfl,hw2⟩;have HW2:=Lib.hid hw2;clear hw2))
     go_meet
     case rel=>exact⟨by rw[hpd,hm];rfl,fun e=>(by rw[hpd,hm]at e;cases e),fun _=>HW2.out⟩
 case rest=>
  obtain⟨rfl,hA0,hB0⟩:=hcut;clear ADV;have hA:=Lib.hid hA0;have hB:=Lib.hid hB0;clear hA0 hB0;obtain⟨w2,rfl⟩:∃w2:World,w2=wc:=⟨_,rfl⟩;generalize hq:(f.pend&&f.mayAdv)=q at *
  go_upto_if 30 with fail
  go_cut [31]from 32 to 35 (fun _ wx=>TkBeg τ w b ns cs f wx)
  case first=>
   as_aux_lemma=>
    clear MN NN OK PL HV HW FL HCS HN HUP;cases q with
    |false=>
     have NB:=NOT.out rfl;rw[hA.out rfl]at NB;clear NOT YES
     go_wp2_with fail
     go_meet
     case rel=>exact NB
    |true=>
     obtain⟨g1,g2,g3⟩:=YES.out rfl w2 (hB.out rfl);have RR:=Lib.hid g3;clear NOT YES g3
     go_wp2_with (first|(go_at_call 42;refine RR.out.mono ?_;rintro e w4 ⟨rfl,hE⟩;have HE:=Lib.hid hE;clear hE))
     go_meet
     case rel=>exact HE.out
  case rest=>
   clear NOT YES hA hB NN MN c12 c11 f13 c13;obtain⟨nr,ro,hnr,τ1,L1,m1,n1⟩:=hcut;have E1:=beg_same f nr;have c16:wc.cell? ⟨b,16,none⟩=some (.map (some L1.ml)):=m1.r19;obtain⟨T,hT⟩:∃T:Nat,(f.begF nr).now=T:=⟨_,rfl⟩;have c13:wc.cell? ⟨b,13,none⟩=some (.int .i64 (T:Int)):=by rw[m1.r19,←hT];rfl
   obtain⟨v,look,nm,tg⟩:=m1.limLook T (by rw[←hT,E1.2.1];omega);obtain⟨l,hl⟩:∃l,(f.begF nr).lim T=l:=⟨_,rfl⟩;rw[hl]at nm;have hlook:=look wc.drew ⟨rfl,rfl,rfl,Nat.le_refl _,fun _ _ _=>rfl⟩;have hlook0:=look wc ⟨rfl,rfl,rfl,Nat.le_refl _,fun _ _ _=>rfl⟩;obtain⟨la,lc,eV⟩:=own_formN nm;subst eV;have M1:=Lib.hid m1;have N1:=Lib.hid n1;have NM:=Lib.hid nm;have TG:=Lib.hid tg;have RO:=Lib.hid ro;have HNR:=Lib.hid hnr;clear m1 n1 nm tg ro hnr look
   go_wp2_with fail
   go_region
   go_wp2_with fail
   have ST:Hid (RelTk τ1 wc b ns cs L1 (f.begF nr) l (.int .i64 0) wc.drew):=⟨0,Nat.zero_le _,rfl,τ1,L1,M1.out.drew,⟨(Ch.refl _ wc).drew,fun _ _=>rfl⟩,rfl⟩
   go_loopw [4,5,6,7,8,46] (fun _ _ _ _ _ i wr=>RelTk τ1 wc b ns cs L1 (f.begF nr) l i wr) (fun _ _ _ _ _ i _=>l.length-(RowKit.intOf i).toNat)
   case atStart=>exact ST.out
   case round=>
    clear ST hlook hlook0 c16 c13;obtain⟨k,hk,rfl,τ4,L4,m4,n4,e4⟩:=hrel;have M4:=Lib.hid m4;have N4:=Lib.hid n4;have BOK:=OK.out.beg RO.out;have LB:∀x∈l,x.1<2*cs.length∧x.2.1<(f.begF nr).rooms.length∧0≤x.2.2∧x.2.2≤1000000000000000:=fun x hx=>BOK.lim T x (by rw[hl];exact hx);by_cases hkl:k<l.length
    ·as_aux_lemma=>
     have hwk:wrap64 ((k:Int)+1)=(k:Int)+1:=(by have h1:=OK.out.lil T;have h2:=HN.out;have h3:l.length≤N:=(by rw[←hl,E1.2.2.1];exact h1);unfold wrap64;omega);have OG:=FabOk.raises PL.out (l.take k) BOK fun x hx=>⟨(LB x (List.mem_of_mem_take hx)).1,(LB x (List.mem_of_mem_take hx)).2.1⟩;obtain⟨g,cap,eg,_,lg,og,cg⟩:=own_cellG (d:=(0,0,0)) (m:=3) (c:=cNo) (fun _=>rfl) NM.out rfl hkl;have tgg:=TG.out g og;have NXT:(l.take (k+1)).foldl (Fab.raise1 cs) (f.begF nr)=Fab.raise1 cs ((l.take k).foldl (Fab.raise1 cs) (f.begF nr)) (l.getD k (0,0,0)):=(by rw[List.take_add_one,List.foldl_append];simp[List.getD,hkl]);have hx:=LB (l.getD k (0,0,0)) (by simp[List.getD,hkl]);have kc:∀j,j<3→wr.cell? ⟨g,k*3+j,none⟩=(cNo (l.getD k (0,0,0)))[j]?:=fun j hj=>(n4.cell (p:=⟨g,k*3+j,none⟩) lg (by show(τ1 g).1≤2;rw[tgg];exact Nat.le_refl 2)).trans (cg k hkl j hj);generalize l.getD k (0,0,0)=x at *;obtain⟨c,xc,xl⟩:=x;simp only at hx;obtain⟨hc,hxc,hl0,hl1⟩:=hx;have m0:=kc 0 (by omega);have m1:=kc 1 (by omega);have m2:=kc 2 (by omega);simp only[cNo,Nat.add_zero,List.getElem?_cons_zero,List.getElem?_cons_succ]at m0 m1 m2;obtain⟨G,hG⟩:∃G,(l.take k).foldl (Fab.raise1 cs) (f.begF nr)=G:=⟨_,rfl⟩;rw[hG]at OG NXT M4;have OGH:=Lib.hid OG;have k0:(0:Int)≤(k:Int):=(by omega);have k1:(k:Int)<(l.length:Int):=(by omega);obtain⟨wb,hwb⟩:∃wb:World,wr.alloc (.cells #[.int .i64 (c:Int),.int .i64 (xc:Int),.int .i64 xl] 116)=wb:=⟨_,rfl⟩;have BB':Hid (Below wr.heap.size wr wb):=(by rw[←hwb];exact(Below.refl _ _).alloc (Nat.le_refl _) _);have VB:Hid (Blk wb wr.heap.size 116 #[.int .i64 (c:Int),.int .i64 (xc:Int),.int .i64 xl]):=(by rw[←hwb];exact Blk.new wr _ _);obtain⟨An,Ac,cn,cc,S0⟩:=M4.out.toS;have EC:Hid (∀w',Below wr.heap.size wr w'→Calls Tryz.prog 53 #[.pointer (some ⟨b,0,none⟩),.int .i64 c] w' (EndsPost cs c w')):=fun w' hb=>fends_any c b ns cs An Ac cn cc w' (S0.below hb) PL.out hc;have EN:=PL.out.ends hc;have PT:=PL.out.portLt EN.1 EN.2.2.1;have eul:=EN.1;obtain⟨⟨u,p,ea,eb⟩,hE⟩:∃e,endsF cs c=e:=⟨_,rfl⟩;unfold EndsPost at EC;rw[hE]at PT EC eul;simp only at PT EC eul;obtain⟨bX,hbX⟩:∃bX,wr.heap.size=bX:=⟨_,rfl⟩;obtain⟨gb,cb,eB,c5,cbx,tgb,lgb⟩:=M4.out.boxc eul;unfold pt at cbx;have u0:(0:Int)≤(u:Int):=(by omega);have u1:(u:Int)<(ns.length:Int):=(by omega);rw[hbX]at VB;have vb0:wb.cell? ⟨bX,0,none⟩=some (.int .i64 (c:Int)):=VB.out.cell 0;have K5:Hid (∀w',Below wr.heap.size wr w'→w'.cell? ⟨b,4+1,none⟩=some (.slice (some ⟨gb,0,none⟩) ns.length cb)∧w'.cell? ⟨b,5,none⟩=some (.slice (some ⟨gb,0,none⟩) ns.length cb)∧w'.cell? ⟨gb,u,none⟩=some (.pointer (some ⟨L4.bx u,0,none⟩))):=fun w' hb=>(by have t:∀{p:Addr} {z:Value},wr.cell? p=some z→w'.cell? p=some z:=fun{p z} hz=>(hb.cell (World.block_lt_of_cell? _ _ hz)).trans hz;exact⟨t c5,t c5,t cbx⟩);have VX:Hid (∀w',Below wb.heap.size wb w'→w'.cell? ⟨bX,1,none⟩=some (.int .i64 xc)∧w'.cell? ⟨bX,2,none⟩=some (.int .i64 xl)):=fun w' hb=>(by have k:=VB.out.below hb VB.out.lt;exact⟨k.cell 1,k.cell 2⟩);obtain⟨τ5,hτ5⟩:∃τ5,fr τ4 wr.heap.size=τ5:=⟨_,rfl⟩;have M5:Hid (∀w',Below wr.heap.size wr w'→FabM τ5 w'.drew b ns cs G L4):=fun w' hb=>(by rw[←hτ5];exact(M4.out.below hb).drew);injection eg with eg1 _ eg2;subst eg1;clear eg2;clear m4 n4 kc cg lg og tgg
     go_wp2_with (first|(go_at_call 53;((with_reducible refine(EC.out _ BB'.out).mono ?_);rintro e w5 ⟨rfl,hb⟩;have BE:=Lib.hid hb;have B5:Hid (Below wr.heap.size wr w5):=BB'.out.trans (hb.mono BB'.out.size);obtain⟨_,k3,k4⟩:=K5.out w5 B5.out;obtain⟨x1,x2⟩:=VX.out w5 hb;clear hb)))
     have mb:=M5.out w5 B5.out;have MB:=Lib.hid mb;have BXO:=OGH.out.1.box u eul;have ba:=braise_any p xc (N+1) xl τ5 (3+u) w5.drew (L4.bx u) (G.boxes.getD u default) (L4.bxl u) (mb.bx u eul) (by omega) BXO.1 (by have:=HN.out;omega) (by rw[BXO.2.1];exact PT) (by rw[BXO.2.2,OGH.out.2.1];exact hxc) (wf_small xl (by omega) (by omega));have bl:=OGH.out.1.bl;have EA:Fab.raise1 cs G (c,xc,xl)={G with boxes:=G.boxes.set u ((G.boxes.getD u default).raise p xc xl)}:=(by unfold Fab.raise1;rw[show endsF cs c=(u,p,ea,eb)from hE]);obtain⟨r1,hr⟩:∃r,(G.boxes.getD u default).raise p xc xl=r:=⟨_,rfl⟩;rw[hr]at ba EA;have RES:Hid (∀w7,BxPost τ5 (3+u) w5.drew (L4.bx u) r1 (L4.bxl u) w7→RelTk τ1 wc b ns cs L1 (f.begF nr) l (.int .i64 ((k:Int)+1)) w7):=fun w7 hq=>(by obtain⟨τ8,L8,h8,n8⟩:=hq;refine⟨k+1,by omega,by congr 1,τ8,{L4 with bxl:=fun j=>if j=u then L8 else L4.bxl j},by rw[NXT,EA];exact MB.out.box eul bl n8 h8,?_,e4⟩;have nb:FNb τ4 wr τ5 w5.drew:=⟨(Ch.of_below B5.out).drew,fun i hi=>by rw[←hτ5];exact fr_old hi⟩;exact(N4.out.trans nb).trans (FNb.of_nx n8));have K7:Hid (∀w7,BxPost τ5 (3+u) w5.drew (L4.bx u) r1 (L4.bxl u) w7→(fun wq=>wq.cell? ⟨b,5,none⟩=some (.slice (some ⟨gb,0,none⟩) ns.length cb)∧wq.cell? ⟨gb,u,none⟩=some (.pointer (some ⟨L4.bx u,0,none⟩))∧wq.cell? ⟨bX,1,none⟩=some (.int .i64 xc)∧wq.cell? ⟨bX,2,none⟩=some (.int .i64 xl)) w7):=fun w7 hq=>(by obtain⟨τ8,L8,h8,n⟩:=hq;have t:∀{q:Addr} {z:Value},w5.cell? q=some z→(τ5 q.block).1≠3+u→w7.cell? q=some z:=fun{q z} hz ht=>(n.ch.cell (World.block_lt_of_cell? w5 _ hz) ht).trans hz;have tb:(τ5 b).1≠3+u:=(by rw[←hτ5,fr_old M4.out.root.1.lt,M4.out.root.2];show 2≠3+u;omega);have tg:(τ5 gb).1≠3+u:=(by rw[←hτ5,fr_old lgb,tgb];omega);have tx:(τ5 bX).1≠3+u:=(by rw[←hτ5,←hbX,fr_new (Nat.le_refl _)];omega);exact⟨t k3 tb,t k4 tg,t x1 tx,t x2 tx⟩);have BA:Hid (Calls Tryz.prog 54 #[.pointer (some ⟨L4.bx u,0,none⟩),.int .i64 p,.int .i64 xc,.int .i64 xl] w5.drew fun e w'=>(∃r:Int,e=.returned (.int .i64 r))∧BxPost τ5 (3+u) w5.drew (L4.bx u) r1 (L4.bxl u) w'):=ba;clear ba mb BXO hr EA bl OG NXT EN hE
     go_region_held3 (fun wq=>wq.cell? ⟨b,5,none⟩=some (.slice (some ⟨gb,0,none⟩) ns.length cb)∧wq.cell? ⟨gb,u,none⟩=some (.pointer (some ⟨L4.bx u,0,none⟩))∧wq.cell? ⟨bX,1,none⟩=some (.int .i64 xc)∧wq.cell? ⟨bX,2,none⟩=some (.int .i64 xl))
      (first|exact⟨k3,k4,x1,x2⟩|exact K7.out _ HB7.out)
      (first|(go_at_call 54;((with_reducible refine BA.out.mono ?_);rintro e w7 ⟨⟨r,rfl⟩,hb7⟩;have HB7:=Lib.hid hb7;clear hb7)))
     have R:=Lib.hid (RES.out _ HB7.out);clear K7 RES BA HB7
     go_wp2_with fail
     rw[hwk];exact⟨R.out,by simp[RowKit.intOf];omega⟩
    ·obtain rfl:l.length=k:=by omega
     have EG:(l.take l.length).foldl (Fab.raise1 cs) (f.begF nr)=(f.begF nr).raiseF cs:=(by rw[List.take_length,←hl,←hT];rfl);rw[EG]at M4;obtain⟨q1,q2,q3⟩:=OK.out.mid PL.out RO.out;obtain⟨G1,hG1⟩:∃G1,(f.begF nr).raiseF cs=G1:=⟨_,rfl⟩;have ED:(f.tick ns cs nr)=(((stepsTo ns cs (G1.limF.arriveF ns cs).1 ns.length).tell ns cs),(G1.limF.arriveF ns cs).2):=(by rw[←hG1];exact tick_is ns cs f nr);have EDH:=Lib.hid ED;rw[hG1]at M4 q1 q2 q3;have nT:G1.now=T:=(by have e1:G1.limF.now=G1.now:=rfl;omega);have c16:wr.cell? ⟨b,16,none⟩=some (.map (some L4.ml)):=M4.out.r19;have c13:wr.cell? ⟨b,13,none⟩=some (.int .i64 (T:Int)):=(by rw[M4.out.r19,←nT];rfl);obtain⟨w5,hdel,τ5,m5,n5⟩:=(M4.out.drew).limDel T (by rw[←hT,E1.2.1];omega) 0;have e5:({G1 with lim:=fun t=>if t=T then[]else G1.lim t}:Fab)=G1.limF:=(by unfold Fab.limF;rw[nT]);rw[e5]at m5;have nd5:((G1.limF.fl G1.limF.now).map (·.1)).Nodup:=(by rw[q3];exact FL.out.nd _);have AR:=Lib.hid (farrive_any G1.limF (N+1) b ns cs L4 τ5 w5 m5 PL.out q1 nd5 HCS.out (by have:=HN.out;omega));have N5:Hid (FNx τ w τ5 w5):=((N1.out.trans N4.out.x).drew).trans n5;have OK6:=q1.arriveF PL.out nd5;have O6:=Lib.hid OK6.1;have s1:=FabOk.steps PL.out (List.range ns.length) OK6.1 fun x hx=>List.mem_range.1 hx;rw[List.length_range]at s1;have O7:Hid (FabOk ns cs (stepsTo ns cs (G1.limF.arriveF ns cs).1 ns.length) (N+1+128+ns.length*5000)):=s1.1;obtain⟨R1,hR1⟩:∃R,G1.limF.arriveF ns cs=R:=⟨_,rfl⟩;rw[hR1]at AR O6 O7 EDH;obtain⟨R2,hR2⟩:∃R,stepsTo ns cs R1.1 ns.length=R:=⟨_,rfl⟩;rw[hR2]at O7 EDH;have HR2:=Lib.hid hR2;have STP:Hid (∀L6 τ6 w6,FabM τ6 w6 b ns cs R1.1 L6→Calls Tryz.prog 56 #[.pointer (some ⟨b,0,none⟩)] w6 fun e w'=>e=.returned (.tuple #[])∧FabPostS τ6 w6 b ns cs L6 R2 w'):=fun L6 τ6 w6 m=>(by rw[←HR2.out];exact fstep_any R1.1 _ b ns cs L6 τ6 w6 m PL.out O6.out (by have:=HN.out;omega));have n16:=PL.out.n16;have TEL:Hid (∀L6 τ6 w6,FabM τ6 w6 b ns cs R2 L6→Calls Tryz.prog 57 #[.pointer (some ⟨b,0,none⟩)] w6 fun e w'=>e=.returned (.tuple #[])∧FabPostL τ6 w6 b ns cs L6 (R2.tell ns cs) w'):=fun L6 τ6 w6 m=>
      ftell_any R2 _ b ns cs L6 τ6 w6 m PL.out O7.out (by have:=HN.out;omega)
     have FIN:Hid (∀v τ6 w6 τ7 L7 w7 τ8 w8,FNx τ5 w5 τ6 w6→DelM τ6 w5.heap.size w6 v R1.2→FNx τ6 w6 τ7 w7→FNx τ7 w7 τ8 w8→FabM τ8 w8 b ns cs (R2.tell ns cs) L7→TickPost τ w b ns cs f (.returned v) w8):=fun v τ6 w6 τ7 L7 w7 τ8 w8 a1 a2 a3 a4 a5=>(by refine⟨nr,RO.out,HNR.out,v,rfl,τ8,L7,by rw[EDH.out];exact a5,(N5.out.trans a1).trans (a3.trans a4),?_⟩;rw[EDH.out];exact((a2.base N5.out.ch.size).fnx a3).fnx a4);clear m5 n5 e5 nd5 q1 q2 q3 OK6 s1 ED EG nT hR1 hR2 hG1 M4 N4 n4 m4 e4 O6 O7 BOK LB;unfold pt at AR
     go_wp2_with fail
     go_region
     go_wp2_with (first
      |(go_at_call 55;((with_reducible refine AR.out.mono ?_);rintro e w6 ⟨v6,rfl,τ6,L6,hm6,hn6,hd6⟩;have N6:=Lib.hid hn6;have D6:=Lib.hid hd6;have ST6:=Lib.hid (STP.out L6 τ6 w6 hm6);clear hm6 hn6 hd6))
      |(go_at_call 56;((with_reducible refine ST6.out.mono ?_);rintro e w7 ⟨rfl,τ7,L7,hm7,hn7,_⟩;have N7:=Lib.hid hn7;have TE7:=Lib.hid (TEL.out L7 τ7 w7 hm7);clear hm7 hn7))
      |(go_at_call 57;((with_reducible refine TE7.out.mono ?_);rintro e w8 ⟨rfl,τ8,hm8,hn8⟩;have F:=Lib.hid (FIN.out _ _ _ _ _ _ _ _ N6.out D6.out N7.out hn8 hm8);clear hm8 hn8)))
     go_ret
     exact F.out
end Go.Proofs.YtnjjkgjdhljfnaaGreat
namespace Go.Proofs.YtnjjkgjdhljfnaaGreat
inductive Jn(cs:List Cb)(us:List Bool):Nat→Nat→Prop
 |refl (u:Nat):Jn cs us u u
 |step {u v w i:Nat} (h:Jn cs us u v) (hi:i<cs.length) (hu:us.getD i false=true) (ht:touch (cs.getD i cb0) v w):Jn cs us u w
theorem touch_sym{x:Cb}{j k:Nat}(h:touch x j k):touch x k j:=by
 rcases h with⟨a,b⟩|⟨a,b⟩
 ·exact .inr ⟨b,a⟩
 ·exact .inl ⟨b,a⟩
section
variable{cs:List Cb}{us:List Bool}
theorem Jn.trans{u v w:Nat}(h:Jn cs us u v)(k:Jn cs us v w):Jn cs us u w:=by
 induction k with
 |refl=>exact h
 |step _ hi hu ht ih=>exact ih.step hi hu ht
theorem Jn.one{u v i:Nat}(hi:i<cs.length)(hu:us.getD i false=true)(ht:touch (cs.getD i cb0) u v):Jn cs us u v:=(Jn.refl u).step hi hu ht
end
structure OneP(ns:List Nd)(cs:List Cb)(us:List Bool)(root:Nat)(l:List Int)(t:Nat)(f:SMp):Prop where
 hp:PlF ns cs
 lu:LvU ns.length cs us root l
 len:l.length=ns.length
 t0:t<ns.length
 found:Found ns.length cs us l t f
section
variable{ns:List Nd}{cs:List Cb}{us:List Bool}{root:Nat}{l:List Int}{t:Nat}{f:SMp}
theorem PlF.touchLt{ns:List Nd}{cs:List Cb}(h:PlF ns cs){i u v:Nat}(hi:i<cs.length)(ht:touch (cs.getD i cb0) u v):u<ns.length∧v<ns.length∧u≠v:=by have A:=h.a0 i hi;have B:=h.b0 i hi;have ab:=h.ab i hi;rcases ht with⟨a,b⟩|⟨a,b⟩<;>omega
theorem OneP.si(h:OneP ns cs us root l t f)(ht:0≤l.getD t 0):SI ns.length cs us l t f∧∀x∈triesTo cs us l cs.length,impr l f x.1 x.2=none:=by
 rcases h.found with q|q
 ·omega
 ·exact q
theorem OneP.none_of(h:OneP ns cs us root l t f)(ht:l.getD t 0<0):f=fun _=>none:=by
 rcases h.found with q|q
 ·exact q.2
 ·have:=q.1.tlv;omega
theorem OneP.impr(h:OneP ns cs us root l t f)(ht:0≤l.getD t 0){u v i d:Nat}{b:Bool}(hi:i<cs.length)(hu:us.getD i false=true)(htc:touch (cs.getD i cb0) u v)(lu0:0≤l.getD u 0)(lv0:0≤l.getD v 0)(hp:perS l (u,b) v=true)(hf:f (nxtS l (u,b) v)=some d):∃d',f (u,b)=some d'∧d'≤d+1:=by
 have hm:((u,b),v)∈triesTo cs us l cs.length:=by
  unfold triesTo;rw[List.mem_flatMap];refine⟨i,List.mem_range.2 hi,?_⟩;unfold tryI;have A:=h.hp.a0 i hi;have B:=h.hp.b0 i hi;rcases htc with⟨a1,b1⟩|⟨a1,b1⟩
  ·have e1:(cs.getD i cb0).a.toNat=u:=by omega
   have e2:(cs.getD i cb0).b.toNat=v:=(by omega);rw[e1,e2,if_pos ⟨hu,lu0,lv0⟩];cases b<;>simp
  ·have e1:(cs.getD i cb0).a.toNat=v:=by omega
   have e2:(cs.getD i cb0).b.toNat=u:=(by omega);rw[e1,e2,if_pos ⟨hu,lv0,lu0⟩];cases b<;>simp
 have hn:=(h.si ht).2 _ hm;unfold Go.Proofs.YtnjjkgjdhljfnaaGreat.impr at hn;simp only[hp,if_true,hf]at hn;cases hs:f (u,b)with
 |none=>rw[hs]at hn;cases hn
 |some old=>
  rw[hs]at hn;simp only at hn;split at hn
  ·rename_i q;exact⟨old,rfl,q⟩
  ·cases hn
theorem OneP.sup(h:OneP ns cs us root l t f){u d:Nat}{b:Bool}(hf:f (u,b)=some (d+1)):u<ns.length∧0≤l.getD u 0∧0≤l.getD t 0∧∃i o,i<cs.length∧us.getD i false=true∧o<ns.length∧touch (cs.getD i cb0) u o∧perS l (u,b) o=true∧f (nxtS l (u,b) o)=some d∧0≤l.getD o 0:=by
 have ht:0≤l.getD t 0:=by
  rcases Int.lt_or_le (l.getD t 0) 0 with q|q
  ·rw[h.none_of q]at hf;cases hf
  ·exact q
 obtain⟨hu,lu0,q⟩:=(h.si ht).1.sup _ _ hf;simp only at hu lu0;rcases q with⟨_,q⟩|⟨i,hi,hus,o,ho,htc,hp,d',hd',hle⟩
 ·omega
 have lo:=h.lu.clo u hu lu0 i o hi hus htc;obtain⟨d2,e2,le2⟩:=h.impr ht hi hus htc lu0 lo hp hd';rw[hf]at e2;injection e2 with e2;have:d'=d:=by omega
 subst this;exact⟨hu,lu0,ht,i,o,hi,hus,ho,htc,hp,hd',lo⟩
theorem OneP.zero(h:OneP ns cs us root l t f){u:Nat}{b:Bool}(hf:f (u,b)=some 0):u=t:=by
 have ht:0≤l.getD t 0:=by
  rcases Int.lt_or_le (l.getD t 0) 0 with q|q
  ·rw[h.none_of q]at hf;cases hf
  ·exact q
 obtain⟨_,_,q⟩:=(h.si ht).1.sup _ _ hf;rcases q with⟨q,_⟩|⟨i,hi,hus,o,ho,htc,hp,d',hd',hle⟩
 ·exact q
 ·omega
theorem OneP.upB_iff(h:OneP ns cs us root l t f){u v:Nat}(hu:u<ns.length)(hv:v<ns.length):upB l u v=true↔0≤l.getD v 0∧0≤l.getD u 0∧(l.getD v 0<l.getD u 0∨(l.getD v 0=l.getD u 0∧v<u)):=by
 unfold upB;rw[above_iff,h.len];constructor
 ·intro q;exact⟨q.2.2.1,q.2.2.2.1,by have:=q.2.2.2.2;omega⟩
 ·intro q;exact⟨hv,hu,q.1,q.2.1,by have:=q.2.2;omega⟩
theorem OneP.rootU(h:OneP ns cs us root l t f){x:Nat}(hx:x<ns.length)(h0:l.getD x 0=0):x=root:=by
 rcases Classical.em (x=root)with q|q
 ·exact q
 ·rcases h.lu.lv.pos x hx q with q|q<;>omega
theorem OneP.toRoot(h:OneP ns cs us root l t f)(ht:0≤l.getD t 0):∀(d x:Nat),x<ns.length→l.getD x 0=(d:Int)→(∀b,(f (x,b)).isSome=true)→∀b,(f (root,b)).isSome=true
 |0,x,hx,e,hf=>by rw[←h.rootU hx e];exact hf
 |d+1,x,hx,e,hf=>by
  obtain⟨i,k,hi,hus,hk,htc,lk⟩:=h.lu.led x hx (by omega);have lk':l.getD k 0=(d:Int):=by omega
  refine OneP.toRoot h ht d k hk lk' fun b=>?_;have nu:upB l k x=false:=by
   cases q:upB l k x with
   |false=>rfl
   |true=>have:=(h.upB_iff hk hx).1 q;omega
  obtain⟨y,hy⟩:=Option.isSome_iff_exists.1 (hf true);obtain⟨d',e',_⟩:=h.impr ht (b:=b) hi hus (touch_sym htc) (by omega) (by omega) (by unfold perS;simp only[nu];rfl) (d:=y) (by unfold nxtS;simp only[nu];exact hy);rw[e'];rfl
theorem OneP.ofRoot(h:OneP ns cs us root l t f)(ht:0≤l.getD t 0)(hr:(f (root,false)).isSome=true):∀(d x:Nat),x<ns.length→l.getD x 0=(d:Int)→(f (x,false)).isSome=true
 |0,x,hx,e=>by rw[h.rootU hx e];exact hr
 |d+1,x,hx,e=>by
  obtain⟨i,k,hi,hus,hk,htc,lk⟩:=h.lu.led x hx (by omega);have lk':l.getD k 0=(d:Int):=by omega
  have ih:=OneP.ofRoot h ht hr d k hk lk';have nu:upB l x k=true:=(h.upB_iff hx hk).2 ⟨by omega,by omega,.inl (by omega)⟩;obtain⟨y,hy⟩:=Option.isSome_iff_exists.1 ih;obtain⟨d',e',_⟩:=h.impr ht (b:=false) hi hus htc (by omega) (by omega) (by unfold perS;simp) (d:=y) (by unfold nxtS;simp only[nu];exact hy);rw[e'];rfl
theorem OneP.src(h:OneP ns cs us root l t f)(ht:0≤l.getD t 0){u:Nat}(hu:u<ns.length)(lu0:0≤l.getD u 0):(f (u,false)).isSome=true:=
 h.ofRoot ht (h.toRoot ht (l.getD t 0).toNat t h.t0 (by omega) (fun b=>by rw[(h.si ht).1.t0 b];rfl) false) (l.getD u 0).toNat u hu (by omega)
theorem OneP.sep(h:OneP ns cs us root l t f):∀(d u:Nat) (b:Bool),f (u,b)=some d→Jn cs us u t
 |0,u,b,hf=>by rw[h.zero hf];exact Jn.refl _
 |d+1,u,b,hf=>by obtain⟨_,_,_,i,o,hi,hus,ho,htc,_,hd,_⟩:=h.sup hf;exact(Jn.one hi hus htc).trans (OneP.sep h d o _ hd)
theorem OneP.mono(h:OneP ns cs us root l t f){u d:Nat}(hf:f (u,true)=some d):∃d',f (u,false)=some d'∧d'≤d:=by
 cases d with
 |zero=>
  have e:=h.zero hf;have ht:0≤l.getD t 0:=by
   rcases Int.lt_or_le (l.getD t 0) 0 with q|q
   ·rw[h.none_of q]at hf;cases hf
   ·exact q
  exact⟨0,by rw[e];exact(h.si ht).1.t0 false,Nat.le_refl _⟩
 |succ d=>
  obtain⟨hu,lu0,ht,i,o,hi,hus,ho,htc,hp,hd,lo⟩:=h.sup hf;have nu:upB l u o=false:=by unfold perS at hp;simpa using hp
  obtain⟨d',e',le'⟩:=h.impr ht (b:=false) hi hus htc lu0 lo (by unfold perS;simp) (d:=d) (by unfold nxtS at hd⊢;exact hd);exact⟨d',e',le'⟩
theorem OneP.ent(h:OneP ns cs us root l t f){u d p:Nat}(hp2:p<2){c:Int}(hc:EntC ns.length cs us l f t u p c)(hf:f (u,p==1)=some (d+1)):∃i v,i<cs.length∧c=(i:Int)∧us.getD i false=true∧v<ns.length∧touch (cs.getD i cb0) u v∧perS l (u,p==1) v=true∧f (v,!upB l u v)=some d∧0≤l.getD v 0:=by
 obtain⟨hu,lu0,ht,i0,o,hi0,hus0,ho,htc0,hp0,hd0,lo0⟩:=h.sup hf;have hab:∀i,i<cs.length→(cs.getD i cb0).a≠(cs.getD i cb0).b:=h.hp.ab;have fit0:fitC cs us l (risF ns.length f false) (risF ns.length f true) u (dI (f (u,p==1))) (p==0) i0=true:=by
  have ac:acrossV (cs.getD i0 cb0) (u:Int)=((o:Int),true):=by
   unfold acrossV;rcases htc0 with⟨a1,b1⟩|⟨a1,b1⟩
   ·rw[if_pos a1.symm,b1]
   ·rw[if_neg (by have:=hab i0 hi0;omega),if_pos a1.symm,b1]
  unfold fitC;rw[ac,hf,hus0];simp only[dI,Bool.and_true,Int.toNat_natCast];simp only[risF_get f false ho,risF_get f true ho];rw[Bool.and_eq_true];refine⟨decide_eq_true (by omega),?_⟩;unfold perS at hp0;unfold nxtS at hd0;simp only at hp0 hd0;have e3:aboveB l (o:Int) (u:Int)=upB l u o:=rfl;rw[e3];cases hub:upB l u o with
  |true=>
   rw[hub]at hp0 hd0;simp only[Bool.not_true,Bool.false_or,Bool.not_eq_true']at hp0 hd0;have p0:(p==0)=true:=by have:p≠1:=(by simpa using hp0);simp;omega
   rw[if_pos rfl,p0,hd0];simp[dI]
  |false=>rw[hub]at hd0;simp only[Bool.not_false]at hd0;rw[if_neg (by simp),hd0];simp[dI]
 have hut:u≠t:=fun e=>by have:=(h.si ht).1.t0 (p==1);rw[←e,hf]at this;cases this
 rcases hc with⟨e,_⟩|⟨_,⟨_,hno⟩|⟨i,hi,e,hfit⟩⟩
 ·exact absurd e hut
 ·rw[hno i0 hi0]at fit0;cases fit0
 have hfit':=hfit;unfold fitC at hfit;simp only[Bool.and_eq_true,decide_eq_true_eq]at hfit;obtain⟨⟨⟨_,h2⟩,h3⟩,h4⟩:=hfit;obtain⟨v,hv,htv⟩:∃v:Nat,v<ns.length∧touch (cs.getD i cb0) u v:=by
  unfold acrossV at h2;have A:=h.hp.a0 i hi;have B:=h.hp.b0 i hi;split at h2
  ·rename_i e;exact⟨(cs.getD i cb0).b.toNat,by omega,.inl ⟨e.symm,by omega⟩⟩
  ·split at h2
   ·rename_i e;exact⟨(cs.getD i cb0).a.toNat,by omega,.inr ⟨e.symm,by omega⟩⟩
   ·cases h2
 have ac:acrossV (cs.getD i cb0) (u:Int)=((v:Int),true):=by
  unfold acrossV;rcases htv with⟨a1,b1⟩|⟨a1,b1⟩
  ·rw[if_pos a1.symm,b1]
  ·rw[if_neg (by have:=hab i hi;omega),if_pos a1.symm,b1]
 rw[ac,hf]at h4;simp only[dI,Int.toNat_natCast]at h4;simp only[risF_get f false hv,risF_get f true hv]at h4;have e3:aboveB l (v:Int) (u:Int)=upB l u v:=rfl;rw[e3]at h4;have lv0:=h.lu.clo u hu lu0 i v hi h3 htv;refine⟨i,v,hi,e,h3,hv,htv,?_,?_,lv0⟩
 ·unfold perS;cases hub:upB l u v with
  |true=>rw[hub]at h4;simp only[if_true,Bool.and_eq_true,beq_iff_eq]at h4;simp[hub,h4.1]
  |false=>simp[hub]
 ·cases hub:upB l u v with
  |true=>
   rw[hub]at h4;simp only[if_true,Bool.and_eq_true,decide_eq_true_eq]at h4;have h5:=h4.2;show f (v,false)=_;cases hq:f (v,false)with
   |none=>rw[hq]at h5;simp[dI]at h5
   |some y=>rw[hq]at h5;simp only[dI]at h5;congr 1;omega
  |false=>
   rw[hub]at h4;simp only[Bool.false_eq_true,if_false,decide_eq_true_eq]at h4;show f (v,true)=_;cases hq:f (v,true)with
   |none=>rw[hq]at h4;simp[dI]at h4
   |some y=>rw[hq]at h4;simp only[dI]at h4;congr 1;omega
theorem OneP.entNone(h:OneP ns cs us root l t f){u p:Nat}{c:Int}(hc:EntC ns.length cs us l f t u p c)(hut:u≠t)(hf:f (u,p==1)=none):c<0:=by
 rcases hc with⟨e,_⟩|⟨_,⟨e,_⟩|⟨i,hi,e,hfit⟩⟩
 ·exact absurd e hut
 ·omega
 ·unfold fitC at hfit;rw[hf]at hfit;simp[dI]at hfit
theorem OneP.through(h:OneP ns cs us root l t f){u v i d:Nat}{b:Bool}(hi:i<cs.length)(hus:us.getD i false=true)(htc:touch (cs.getD i cb0) u v)(hp:perS l (u,b) v=true)(hf:f (u,b)=some (d+1))(hd:f (v,!upB l u v)=some d):v=t∨(ns.getD v nd0).sw=true:=by
 cases d with
 |zero=>exact .inl (h.zero hd)
 |succ d=>
  refine .inr ?_;cases hsw:(ns.getD v nd0).sw with
  |true=>rfl
  |false=>
   exfalso;obtain⟨hul,hvl,huv⟩:=h.hp.touchLt hi htc;have one:=(h.hp.sw v hvl).2.2 hsw;obtain⟨_,lv0,ht,i2,o,hi2,hus2,ho,htc2,hp2,hd2,lo⟩:=h.sup hd;have same:i2=i∧o=u:=by
    have P1:=h.hp.ap i hi;have P2:=h.hp.bp i hi;have P3:=h.hp.ap i2 hi2;have P4:=h.hp.bp i2 hi2;have k1:=ends_at cs hi;have k2:=ends_at cs hi2;have e1:∃x,x/2=i∧x<2*cs.length∧(endsOf cs).getD x (0,0)=((v:Int),0):=by
     rcases htc with⟨a1,b1⟩|⟨a1,b1⟩
     ·refine⟨2*i+1,by omega,by omega,?_⟩;rw[k1.2,b1];have:(cs.getD i cb0).bp=0:=by
       have e:(cs.getD i cb0).b.toNat=v:=(by omega);rw[e,one]at P2;omega
      rw[this]
     ·refine⟨2*i,by omega,by omega,?_⟩;rw[k1.1,b1];have:(cs.getD i cb0).ap=0:=by
       have e:(cs.getD i cb0).a.toNat=v:=(by omega);rw[e,one]at P1;omega
      rw[this]
    have e2:∃x,x/2=i2∧x<2*cs.length∧(endsOf cs).getD x (0,0)=((v:Int),0):=by
     rcases htc2 with⟨a1,b1⟩|⟨a1,b1⟩
     ·refine⟨2*i2,by omega,by omega,?_⟩;rw[k2.1,a1];have:(cs.getD i2 cb0).ap=0:=by
       have e:(cs.getD i2 cb0).a.toNat=v:=(by omega);rw[e,one]at P3;omega
      rw[this]
     ·refine⟨2*i2+1,by omega,by omega,?_⟩;rw[k2.2,a1];have:(cs.getD i2 cb0).bp=0:=by
       have e:(cs.getD i2 cb0).b.toNat=v:=(by omega);rw[e,one]at P4;omega
      rw[this]
    obtain⟨x,x1,x2,x3⟩:=e1;obtain⟨y,y1,y2,y3⟩:=e2;have:=h.hp.inj x y x2 y2 (x3.trans y3.symm);have ii:i2=i:=(by omega);subst ii;refine⟨rfl,?_⟩;rcases htc with⟨a1,b1⟩|⟨a1,b1⟩<;>rcases htc2 with⟨a2,b2⟩|⟨a2,b2⟩<;>omega
   obtain⟨rfl,rfl⟩:=same;unfold nxtS at hd2;unfold perS at hp hp2;simp only at hd2 hp hp2;cases hub:upB l o v with
   |true=>have nb:upB l v o=false:=(by unfold upB at hub⊢;exact above_asym hub);rw[hub]at hp;simp only[Bool.not_true,Bool.false_or,Bool.not_eq_true']at hp;subst hp;rw[nb]at hd2;obtain⟨d',e',le'⟩:=h.mono hd2;rw[hf]at e';injection e' with e';omega
   |false=>rw[hub]at hp2;simp only[Bool.not_false,Bool.not_true,Bool.or_false,Bool.not_eq_true']at hp2;have lo0:=h.lu.clo v hvl lv0 i2 o hi2 hus2 htc2;have:=above_total (lv:=l) (a:=v) (b:=o) (by rw[h.len];exact hvl) (by rw[h.len];exact hul) lv0 lo0 (Ne.symm huv) hub;unfold upB at hp2;rw[this]at hp2;cases hp2
theorem OneP.chain(h:OneP ns cs us root l t f):∀(d u:Nat) (b:Bool),f (u,b)=some d→∃L:List St,L.length=d+2∧L.Nodup∧∀s∈L,s.1<ns.length∧∃e,f s=some e∧e≤d
 |0,u,b,hf=>by
  have e:=h.zero hf;have ht:0≤l.getD t 0:=by
   rcases Int.lt_or_le (l.getD t 0) 0 with q|q
   ·rw[h.none_of q]at hf;cases hf
   ·exact q
  refine⟨[(t,false),(t,true)],rfl,by simp,fun s hs=>?_⟩;simp only[List.mem_cons,List.not_mem_nil,or_false]at hs;rcases hs with rfl|rfl
  ·exact⟨h.t0,0,(h.si ht).1.t0 _,Nat.le_refl _⟩
  ·exact⟨h.t0,0,(h.si ht).1.t0 _,Nat.le_refl _⟩
 |d+1,u,b,hf=>by
  obtain⟨hu,_,_,i,o,_,_,_,_,_,hd,_⟩:=h.sup hf;obtain⟨L,l1,l2,l3⟩:=OneP.chain h d _ _ hd;refine⟨(u,b)::L,by rw[List.length_cons,l1],List.nodup_cons.2 ⟨fun hm=>?_,l2⟩,fun s hs=>?_⟩
  ·obtain⟨_,e,he,hle⟩:=l3 _ hm;rw[hf]at he;injection he with he;omega
  ·rcases List.mem_cons.1 hs with q|q
   ·rw[q];exact⟨hu,_,hf,Nat.le_refl _⟩
   ·obtain⟨a,e,he,hle⟩:=l3 s q;exact⟨a,e,he,by omega⟩
theorem OneP.bnd(h:OneP ns cs us root l t f){d u:Nat}{b:Bool}(hf:f (u,b)=some d):d+2≤2*ns.length:=by obtain⟨L,l1,l2,l3⟩:=h.chain d u b hf;have:=nodup_lenF (S:=allS ns.length) l2 fun s hs=>mem_allS.2 (l3 s hs).1;rw[allS_len]at this;omega
end
def phB(ns:List Nd)(r:Rt)(v q:Nat):Nat:=if isSw ns v&&r.falls v q then 1 else 0
theorem phB_lt(ns:List Nd)(r:Rt)(v q:Nat):phB ns r v q<2:=by unfold phB;split<;>omega
structure RtD(ns:List Nd)(cs:List Cb)(us:List Bool)(r:Rt)(f:Nat→Nat→Nat→Option Nat):Prop where
 self:∀t p,t<ns.length→f t t p=some 0
 zero:∀t u p,t<ns.length→u<ns.length→f t u p=some 0→u=t
 bnd:∀t u p d,t<ns.length→u<ns.length→f t u p=some d→d+2≤2*ns.length
 non:∀t u p,t<ns.length→u<ns.length→p<2→u≠t→f t u p=none→r.next u p t<0
 step:∀t u p d,t<ns.length→u<ns.length→p<2→f t u p=some (d+1)→∃i,i<cs.length∧r.next u p t=(i:Int)∧us.getD i false=true∧touch (cs.getD i cb0) u (endsF cs (chanF cs i u)).2.2.1∧(endsF cs (chanF cs i u)).2.2.1<ns.length∧
  ((endsF cs (chanF cs i u)).2.2.1=t∨isSw ns (endsF cs (chanF cs i u)).2.2.1=true)∧f t (endsF cs (chanF cs i u)).2.2.1 (phB ns r (endsF cs (chanF cs i u)).2.2.1 (endsF cs (chanF cs i u)).2.2.2)=some d
 src:∀t u,t<ns.length→u<ns.length→Jn cs us u t→(f t u 0).isSome=true
 sep:∀t u p,t<ns.length→u<ns.length→(f t u p).isSome=true→Jn cs us u t
theorem PlF.across{ns:List Nd}{cs:List Cb}(h:PlF ns cs){i u v:Nat}(hi:i<cs.length)(ht:touch (cs.getD i cb0) u v):(endsF cs (chanF cs i u)).2.2.1=v∧cableAt cs v (endsF cs (chanF cs i u)).2.2.2=some i∧othF cs i v=u:=by
 obtain⟨hu,hv,huv⟩:=h.touchLt hi ht;have A:=h.a0 i hi;have B:=h.b0 i hi;have ab:=h.ab i hi;have hv':(cs.getD i cb0).a=(v:Int)∨(cs.getD i cb0).b=(v:Int):=by
  rcases ht with⟨a,b⟩|⟨a,b⟩
  ·exact .inr b
  ·exact .inl b
 obtain⟨c1,c2,c3⟩:=h.chan hi hv';obtain⟨d1,d2⟩:=h.cable c1;rw[c2,c3]at d1;obtain⟨f1,f2,f3,f4⟩:=h.flip hi hv';have e0:(endsF cs (chanF cs i u)).2.2.1=v∧(endsF cs (chanF cs i u)).2.2.2=(endsF cs (chanF cs i v)).2.1:=by
  rcases ht with⟨a,b⟩|⟨a,b⟩
  ·unfold chanF;rw[if_pos a,if_neg (by omega)];unfold endsF;rw[if_pos (by omega),if_neg (by omega),show 2*i/2=i by omega,show(2*i+1)/2=i by omega];simp only;exact⟨by omega,trivial⟩
  ·unfold chanF;rw[if_neg (by omega),if_pos b];unfold endsF;rw[if_neg (by omega),if_pos (by omega),show 2*i/2=i by omega,show(2*i+1)/2=i by omega];simp only;exact⟨by omega,trivial⟩
 refine⟨e0.1,by rw[e0.2];exact d1,?_⟩;rcases ht with⟨a,b⟩|⟨a,b⟩<;>rcases f2 with⟨a',b'⟩|⟨a',b'⟩<;>omega
theorem pidx_mem{PS:List (List Nat)}{u:Nat}(h:∃m,m<PS.length∧u∈PS.getD m []):pidx PS u<PS.length∧u∈PS.getD (pidx PS u) []:=by
 obtain⟨m,hm,hu⟩:=h;have e:PS.getD m []=PS[m]:=by simp[List.getD,hm]
 rw[e]at hu;have hl:pidx PS u<PS.length:=List.findIdx_lt_length_of_exists ⟨PS[m],List.getElem_mem hm,by simpa using hu⟩;refine⟨hl,?_⟩;have:=List.findIdx_getElem (p:=fun P:List Nat=>P.contains u) (xs:=PS) (w:=hl);have e2:PS.getD (pidx PS u) []=PS[PS.findIdx fun P=>P.contains u]'hl:=by show PS.getD (PS.findIdx fun P=>P.contains u) []=_;have hl':(PS.findIdx fun P=>P.contains u)<PS.length:=hl;simp only[List.getD_eq_getElem?_getD,List.getElem?_eq_getElem hl',Option.getD_some];rfl
 rw[e2];exact List.contains_iff_mem.1 this
theorem pidx_le{PS:List (List Nat)}{u m:Nat}(hm:m<PS.length)(hu:u∈PS.getD m []):pidx PS u≤m:=by
 rcases Nat.lt_or_ge m (pidx PS u)with q|q
 ·have:=List.not_of_lt_findIdx q;have e:PS.getD m []=PS[m]:=by simp[List.getD,hm]
  rw[e]at hu;simp at this;exact absurd hu this
 ·exact q
section
variable{ns:List Nd}{cs:List Cb}{us:List Bool}{r:Rt}{PS:List (List Nat)}{L:Nat→List Int}{G:Nat→GT}
theorem RtNet.mem(h:RtNet ns cs us r PS L G){m u:Nat}(hm:m<PS.length):u∈PS.getD m []↔u<ns.length∧0≤(L m).getD u 0:=by rw[(h.net m hm).part];exact fltL_mem
theorem RtNet.part_of(h:RtNet ns cs us r PS L G){u:Nat}(hu:u<ns.length):pidx PS u<PS.length∧0≤(L (pidx PS u)).getD u 0:=by have:=pidx_mem (h.all u hu);exact⟨this.1,((h.mem this.1).1 this.2).2⟩
theorem RtNet.adj(h:RtNet ns cs us r PS L G)(hp:PlF ns cs){u v i:Nat}(hi:i<cs.length)(hus:us.getD i false=true)(ht:touch (cs.getD i cb0) u v):pidx PS u=pidx PS v:=by
 obtain⟨hu,hv,_⟩:=hp.touchLt hi ht;have key:∀{a b:Nat},a<ns.length→b<ns.length→touch (cs.getD i cb0) a b→pidx PS b≤pidx PS a:=fun{a b} ha hb htc=>by have:=h.part_of ha;obtain⟨root,hl⟩:=(h.net _ this.1).lv;exact pidx_le this.1 ((h.mem this.1).2 ⟨hb,hl.clo a ha this.2 i b hi hus htc⟩)
 exact Nat.le_antisymm (key hv hu (touch_sym ht)) (key hu hv ht)
theorem RtNet.jn(h:RtNet ns cs us r PS L G)(hp:PlF ns cs){u v:Nat}(hj:Jn cs us u v):pidx PS u=pidx PS v:=by
 induction hj with
 |refl=>rfl
 |step _ hi hu ht ih=>exact ih.trans (h.adj hp hi hu ht)
noncomputable def RtNet.F(h:RtNet ns cs us r PS L G)(m t:Nat):SMp:=if q:m<PS.length∧t<ns.length then Classical.choose ((h.net m q.1).net.col t q.2)else fun _=>none
theorem RtNet.F_spec(h:RtNet ns cs us r PS L G){m t:Nat}(hm:m<PS.length)(ht:t<ns.length):Found ns.length cs us (L m) t (h.F m t)∧∀i p,i<ns.length→p<2→EntC ns.length cs us (L m) (h.F m t) t i p (G m i p t):=by
 have e:h.F m t=Classical.choose ((h.net m hm).net.col t ht):=by unfold RtNet.F;rw[dif_pos ⟨hm,ht⟩]
 rw[e];exact Classical.choose_spec ((h.net m hm).net.col t ht)
theorem RtNet.one(h:RtNet ns cs us r PS L G)(hp:PlF ns cs){m t:Nat}(hm:m<PS.length)(ht:t<ns.length):∃root,OneP ns cs us root (L m) t (h.F m t):=by obtain⟨root,hl⟩:=(h.net m hm).lv;exact⟨root,hp,hl,hl.lv.len,ht,(h.F_spec hm ht).1⟩
theorem IsRt.dist(hr:IsRt ns cs us r)(hv:validP ⟨ns,cs⟩=0):∃f,RtD ns cs us r f:=by
 obtain⟨PS,L,G,h⟩:=hr;have hp:=plan_of hv;refine⟨fun t u p=>h.F (pidx PS u) t (u,p==1),?_⟩;exact{
  self:=fun t p ht=>by have:=h.part_of ht;obtain⟨root,o⟩:=h.one hp this.1 ht;exact(o.si this.2).1.t0 _
  zero:=fun t u p ht hu hf=>by have:=h.part_of hu;obtain⟨root,o⟩:=h.one hp this.1 ht;exact o.zero hf
  bnd:=fun t u p d ht hu hf=>by have:=h.part_of hu;obtain⟨root,o⟩:=h.one hp this.1 ht;exact o.bnd hf
  non:=fun t u p ht hu hp2 hne hf=>by have:=h.part_of hu;obtain⟨root,o⟩:=h.one hp this.1 ht;rw[h.next _ this.1 u ((h.mem this.1).2 ⟨hu,this.2⟩) p t hp2 ht];exact o.entNone ((h.F_spec this.1 ht).2 u p hu hp2) hne hf
  step:=fun t u p d ht hu hp2 hf=>by
   have:=h.part_of hu;obtain⟨root,o⟩:=h.one hp this.1 ht;obtain⟨i,v,hi,e,hus,hvl,htc,hper,hd,lv0⟩:=o.ent hp2 ((h.F_spec this.1 ht).2 u p hu hp2) hf;obtain⟨a1,a2,a3⟩:=hp.across hi htc;have thr:=o.through hi hus htc hper hf hd;refine⟨i,hi,by rw[h.next _ this.1 u ((h.mem this.1).2 ⟨hu,this.2⟩) p t hp2 ht];exact e,hus,by rw[a1];exact htc,by rw[a1];exact hvl,by rw[a1];exact thr,?_⟩;rw[a1];have same:=h.adj hp hi hus htc;show h.F (pidx PS v) t (v,phB ns r v (endsF cs (chanF cs i u)).2.2.2==1)=some d;rw[←same];cases hsw:isSw ns v with
   |true=>
    have hf2:r.falls v (endsF cs (chanF cs i u)).2.2.2=!upB (L (pidx PS u)) u v:=(by rw[h.falls _ this.1 v ((h.mem this.1).2 ⟨hvl,lv0⟩)];unfold fallsP;rw[a2];simp only[a3];rw[decide_eq_true this.2,decide_eq_true lv0];rfl);unfold phB;rw[hsw,hf2,Bool.true_and];have e4:((if(!upB (L (pidx PS u)) u v)=true then 1 else 0:Nat)==1)=!upB (L (pidx PS u)) u v:=by cases upB (L (pidx PS u)) u v<;>rfl
    rw[e4];exact hd
   |false=>
    have vt:v=t:=by
     rcases thr with q|q
     ·exact q
     ·unfold isSw at hsw;rw[hsw]at q;cases q
    have t0:0≤(L (pidx PS u)).getD t 0:=(by rw[←vt];exact lv0);have z:=(o.si t0).1.t0;rw[vt]at hd⊢;rw[z]at hd⊢;exact hd
  src:=fun t u ht hu hj=>by have:=h.part_of hu;obtain⟨root,o⟩:=h.one hp this.1 ht;have lt:=h.part_of ht;rw[←h.jn hp hj]at lt;exact o.src lt.2 hu this.2
  sep:=fun t u p ht hu hs=>by have:=h.part_of hu;obtain⟨root,o⟩:=h.one hp this.1 ht;obtain⟨d,hd⟩:=Option.isSome_iff_exists.1 hs;exact o.sep d u _ hd}
end
theorem FabOk.new{ns:List Nd}{cs:List Cb}{rooms:List Int}{r:Rt}(hp:PlF ns cs)(l0:1≤rooms.length)(l1:rooms.length≤4)(hr:∀x∈rooms,1≤x∧x≤64)(hrt:RtOk ns cs r):FabOk ns cs (newFab ns cs rooms r) 0:=by
 have rl:(rooms++rooms).length=2*rooms.length:=by simp;omega
 have hr2:∀x∈rooms++rooms,1≤x∧x≤64:=fun x hx=>hr x (by simpa using hx);have bx:∀i,i<ns.length→(newFab ns cs rooms r).boxes.getD i default=newBx (portsOfN (ns.getD i nd0)) (rooms++rooms):=fun i hi=>by show(ns.map fun n=>newBx (if n.sw then n.ports.toNat else 2) (rooms++rooms)).getD i default=_;simp[List.getD,hi,portsOfN]
 have cm:∀i v,get2 (newFab ns cs rooms r).came i v=0:=fun i v=>by
  show get2 (ns.map fun _=>(rooms++rooms).map fun _=>(0:Int)) i v=0;unfold get2;by_cases hi:i<ns.length
  ·by_cases hv:v<(rooms++rooms).length
   ·simp only[List.getD_eq_getElem?_getD,List.getElem?_map,List.getElem?_eq_getElem hi,Option.map_some,Option.getD_some,List.getElem?_eq_getElem hv]
   ·simp only[List.getD_eq_getElem?_getD,List.getElem?_map,List.getElem?_eq_getElem hi,Option.map_some,Option.getD_some,List.getElem?_eq_none (Nat.le_of_not_lt hv),Option.map_none,Option.getD_none];rfl
  ·simp only[List.getD_eq_getElem?_getD,List.getElem?_map,List.getElem?_eq_none (Nat.le_of_not_lt hi),Option.map_none,Option.getD_none];rfl
 have gn:∀i v,get2 (newFab ns cs rooms r).gone i v=0:=fun i v=>by
  show get2 ((List.range (2*cs.length)).map fun _=>(rooms++rooms).map fun _=>(0:Int)) i v=0;unfold get2;by_cases hi:i<(List.range (2*cs.length)).length
  ·by_cases hv:v<(rooms++rooms).length
   ·simp only[List.getD_eq_getElem?_getD,List.getElem?_map,List.getElem?_eq_getElem hi,Option.map_some,Option.getD_some,List.getElem?_eq_getElem hv]
   ·simp only[List.getD_eq_getElem?_getD,List.getElem?_map,List.getElem?_eq_getElem hi,Option.map_some,Option.getD_some,List.getElem?_eq_none (Nat.le_of_not_lt hv),Option.map_none,Option.getD_none];rfl
  ·simp only[List.getD_eq_getElem?_getD,List.getElem?_map,List.getElem?_eq_none (Nat.le_of_not_lt hi),Option.map_none,Option.getD_none];rfl
 exact{
  k0:=l0
  k1:=l1
  rl:=rl
  rv:=hr2
  bl:=by show(ns.map _).length=_;simp
  box:=fun i hi=>by rw[bx i hi];exact⟨BxOk.new (hp.ports8 hi).1 (hp.ports8 hi).2 (by omega) (by omega) hr2 0,rfl,rfl⟩
  q:=fun i p c x hi hp' hc hx=>by
   rw[bx i hi]at hx;have e:get2 (newBx (portsOfN (ns.getD i nd0)) (rooms++rooms)).q p c=[]:=by show get2 (List.replicate _ (List.replicate _ [])) p c=[];have hc':c<(rooms++rooms).length:=hc;rw[get2_rep hp'];simp only[List.getD_eq_getElem?_getD,List.getElem?_replicate,if_pos hc',Option.getD_some]
   rw[e]at hx;cases hx
  up:=by show(cs.map _).length=_;simp
  r0:=hrt
  r1:=fun h=>absurd h (Nat.lt_irrefl 0)
  bn:=Nat.le_refl _
  a0:=⟨Int.le_refl _,Int.le_refl _⟩
  a1:=⟨Int.le_refl _,Int.le_refl _⟩
  now:=Nat.le_refl _
  last:=Nat.le_refl _
  ll:=Nat.le_refl _
  cm:=⟨by show(ns.map _).length=_;simp,fun i hi=>by show((ns.map fun _=>(rooms++rooms).map fun _=>(0:Int)).getD i []).length=_;simp only[List.getD_eq_getElem?_getD,List.getElem?_map,List.getElem?_eq_getElem hi,Option.map_some,Option.getD_some,List.length_map];rfl⟩
  cv:=fun i v _ _=>by rw[cm i v];exact⟨Int.le_refl _,Int.le_refl _⟩
  gn:=⟨by show((List.range (2*cs.length)).map _).length=_;simp,fun i hi=>by show(((List.range (2*cs.length)).map fun _=>(rooms++rooms).map fun _=>(0:Int)).getD i []).length=_;have hi':i<(List.range (2*cs.length)).length:=(by simpa using hi);simp only[List.getD_eq_getElem?_getD,List.getElem?_map,List.getElem?_eq_getElem hi',Option.map_some,Option.getD_some,List.length_map];rfl⟩
  gv:=fun i v _ _=>by rw[gn i v];exact⟨Int.le_refl _,Int.le_refl _⟩
  fl:=fun t x hx=>by cases hx
  lim:=fun t x hx=>by cases hx
  fll:=fun t=>Nat.le_refl _
  lil:=fun t=>Nat.le_refl _}
theorem FlOk.new(ns:List Nd)(cs:List Cb)(rooms:List Int)(r:Rt):FlOk cs (newFab ns cs rooms r):=⟨fun t=>List.nodup_nil,fun t x hx=>by cases hx⟩
def lnNs:List Nd:=[⟨⟨#[97]⟩,false,1⟩,⟨⟨#[115]⟩,true,2⟩,⟨⟨#[98]⟩,false,1⟩]
def lnCs:List Cb:=[⟨0,0,1,0,1,1⟩,⟨1,1,2,0,1,1⟩]
theorem ln_valid:validP ⟨lnNs,lnCs⟩=0:=by decide+kernel
def rtC(ph:Nat)(r:Rt):Rt:=⟨fun u p t=>if u=0∧p=0∧t=2 then 0 else if u=1∧p=ph∧t=2 then 1 else r.next u p t,fun u p=>if u=1∧p=0 then ph==1 else r.falls u p⟩
theorem ln_route{r:Rt}(h:IsRt lnNs lnCs [true,true] r):r=rtC 0 r∨r=rtC 1 r:=by
 obtain⟨f,D⟩:=h.dist ln_valid;have j:Jn lnCs [true,true] 0 2:=((Jn.refl 0).step (i:=0) (v:=0) (w:=1) (by decide) rfl (.inl ⟨rfl,rfl⟩)).step (i:=1) (w:=2) (by decide) rfl (.inl ⟨rfl,rfl⟩);have s:=D.src 2 0 (by decide) (by decide) j;obtain⟨d,hd⟩:=Option.isSome_iff_exists.1 s;obtain⟨e,rfl⟩:∃e,d=e+1:=by
  cases d with
  |zero=>have:=D.zero 2 0 0 (by decide) (by decide) hd;cases this
  |succ e=>exact⟨e,rfl⟩
 obtain⟨i,hi,hn,_,htc,_,thr,hf⟩:=D.step 2 0 0 e (by decide) (by decide) (by decide) hd;have hi2:i<2:=hi;obtain rfl:i=0:=by
  rcases(show i=0∨i=1 by omega)with q|q
  ·exact q
  ·exfalso;subst q;have A:(lnCs.getD 1 cb0).a=1:=rfl;have B:(lnCs.getD 1 cb0).b=2:=rfl;rcases htc with⟨a,_⟩|⟨a,_⟩
   ·rw[A]at a;cases a
   ·rw[B]at a;cases a
 have e1:(endsF lnCs (chanF lnCs 0 0)).2.2.1=1:=rfl;have e2:(endsF lnCs (chanF lnCs 0 0)).2.2.2=0:=rfl;rw[e1,e2]at hf;obtain⟨e',rfl⟩:∃e',e=e'+1:=by
  cases e with
  |zero=>have:=D.zero 2 1 _ (by decide) (by decide) hf;cases this
  |succ e=>exact⟨e,rfl⟩
 obtain⟨i,hi,hn1,_,htc,_,thr,hf1⟩:=D.step 2 1 _ e' (by decide) (by decide) (phB_lt _ _ _ _) hf;have hi2:i<2:=hi;obtain rfl:i=1:=by
  rcases(show i=0∨i=1 by omega)with q|q
  ·exfalso;subst q;have e3:(endsF lnCs (chanF lnCs 0 1)).2.2.1=0:=rfl;rw[e3]at thr;rcases thr with q|q
   ·cases q
   ·cases q
  ·exact q
 have hb:phB lnNs r 1 0=if r.falls 1 0 then 1 else 0:=rfl
 have key:∀ph,(if r.falls 1 0=true then 1 else 0:Nat)=ph→r.falls 1 0=(ph==1)→r=rtC ph r:=fun ph h1 h2=>by
  rw[hb,h1]at hn1;obtain⟨nx,fa⟩:=r;unfold rtC;simp only at hn hn1 h2⊢;congr 1
  ·funext u p t;by_cases q1:u=0∧p=0∧t=2
   ·rw[if_pos q1,q1.1,q1.2.1,q1.2.2];exact hn
   ·rw[if_neg q1];by_cases q2:u=1∧p=ph∧t=2
    ·rw[if_pos q2,q2.1,q2.2.1,q2.2.2];exact hn1
    ·rw[if_neg q2]
  ·funext u p;by_cases q1:u=1∧p=0
   ·rw[if_pos q1,q1.1,q1.2];exact h2
   ·rw[if_neg q1]
 cases hb2:r.falls 1 0 with
 |true=>exact .inr (key 1 (by rw[hb2];rfl) (by rw[hb2];rfl))
 |false=>exact .inl (key 0 (by rw[hb2];rfl) (by rw[hb2];rfl))
def awF1(r:Rt):Fab:=((newFab lnNs lnCs [1] r).inject lnNs 0 2 0 [120]).1
def awF2(r n1:Rt):Fab:=((awF1 r).tick lnNs lnCs n1).1
def awF3(r n1 n2:Rt):Fab:=((awF2 r n1).tick lnNs lnCs n2).1
def awF4(r n1 n2 n3:Rt):Fab:=((awF3 r n1 n2).tick lnNs lnCs n3).1
structure AwOk(r n1 n2 n3 n4:Rt):Prop where
 a:((newFab lnNs lnCs [1] r).inject lnNs 0 2 0 [120]).2=(1,0)
 t1:((awF1 r).tick lnNs lnCs n1).2=[]
 t2:((awF2 r n1).tick lnNs lnCs n2).2=[]
 t3:((awF3 r n1 n2).tick lnNs lnCs n3).2=[]
 t4:((awF4 r n1 n2 n3).tick lnNs lnCs n4).2=[(4,2,⟨1,0,2,0,0,[120]⟩)]
 b:((awF4 r n1 n2 n3).tick lnNs lnCs n4).1.bnow=0
 a0:((awF4 r n1 n2 n3).tick lnNs lnCs n4).1.al0=0
theorem aw_ok{r:Rt}(h:IsRt lnNs lnCs [true,true] r)(n1 n2 n3 n4:Rt):AwOk r n1 n2 n3 n4:=by
 rcases ln_route h with e|e
 ·rw[e];refine⟨?_,?_,?_,?_,?_,?_,?_⟩<;>kernel_rfl
 ·rw[e];refine⟨?_,?_,?_,?_,?_,?_,?_⟩<;>kernel_rfl
end Go.Proofs.YtnjjkgjdhljfnaaGreat
