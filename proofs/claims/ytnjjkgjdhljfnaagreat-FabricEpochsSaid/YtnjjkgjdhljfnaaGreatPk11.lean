/- Part 11. -/
import Derived.Test.YtnjjkgjdhljfnaaGreatPk9
import Derived.Test.YtnjjkgjdhljfnaaGreatPk10
open Go.Proofs.Tryz
open Go renaming Value->aI,World->aG
open Go.Ending renaming returned->ax
open Go.IntKind renaming i64->ag
open Go.Proofs.Tryz renaming prog->aH
open Go.RowKit.Below renaming refl->aQ
open Go.Value renaming int->ah,slice->ay
open Go.World renaming block_lt_of_cell?->aZ
open List renaming range->aO
open Nat renaming le_refl->aC,lt_of_lt_of_le->bW
open Option renaming none->aj,some->az
set_option maxRecDepth 100000
set_option maxHeartbeats 16000000
set_option linter.unusedVariables false
set_option linter.unusedSimpArgs false
namespace Go.Proofs.YtnjjkgjdhljfnaaGreat
open Go.RowKit Go.Maps
section
def ku(Z:Own)(w:aG)(t:TypeId)(T:Tg->Prop)(v:aI)(n:Nat)(xs:List aI):Prop:=
 ∃a cap,v=ay a n cap/\(0<xs.length->∃g C,a=az ⟨g,0,aj⟩/\dh w g t C/\T (Z g)/\∀i,i<xs.length->C[i]?=xs[i]?)
section
variable{Z dN:Own}{w w':aG}{t:TypeId}{T:Tg->Prop}{v:aI}{xs:List aI}{n:Nat}
theorem ku.jD{S:Nat->Prop}(h:ku Z w t T v n xs)(hc:Ch S w w')(he:∀k,k<w.heap.size->dN k=Z k)(hS:∀k,S k->¬T (Z k)):ku dN w' t T v n xs:=by obtain⟨a,cap,e,h⟩:=h;refine⟨a,cap,e,fun h0=>?_⟩;obtain⟨g,C,e1,hb,ht,hx⟩:=h h0;exact⟨g,C,e1,hb.ch hc fun s=>hS _ s ht,by rw[he _ hb.lt];exact ht,hx⟩
theorem ku.at_(h:ku Z w t T v n xs){i:Nat}(hi:i<xs.length):∃g cap,v=ay (az ⟨g,0,aj⟩) n cap/\w.cell? ⟨g,i,aj⟩=xs[i]?/\w.frozen? ⟨g,i,aj⟩=false/\g<w.heap.size/\T (Z g):=by obtain⟨a,cap,e,h⟩:=h;obtain⟨g,C,rfl,hb,ht,hx⟩:=h (by omega);exact⟨g,cap,e,by rw[hb.cell];exact hx i hi,hb.frozen i,hb.lt,ht⟩
theorem ku.form(h:ku Z w t T v n xs):∃a cap,v=ay a n cap:=by obtain⟨a,cap,e,_⟩:=h;exact⟨a,cap,e⟩
theorem ku.jd(h:ku Z w t T v n xs){i g cap:Nat}(hi:i<xs.length)(hv:v=ay (az ⟨g,0,aj⟩) n cap)(u:aI):ku Z (w.setCell ⟨g,i,aj⟩ u) t T v n (xs.set i u):=by
 obtain⟨a,pG,e,h⟩:=h;obtain⟨g',C,rfl,hb,ht,hx⟩:=h (by omega);rw[hv]at e;injection e with e1 _ e2;injection e1 with e1;injection e1 with e1;subst e1;refine⟨_,cap,hv,fun h0=>⟨g,C.setIfInBounds i u,rfl,hb.jd i u,ht,fun j hj=>?_⟩⟩;rw[List.length_set]at hj;rw[Array.getElem?_setIfInBounds,List.getElem?_set];by_cases e3:i=j
 ·subst e3;have h1:=hx i hj;have h2:i<C.size:=by
   rcases Nat.lt_or_ge i C.size with q|q
   ·exact q
   ·rw[Array.getElem?_eq_none q,List.getElem?_eq_getElem hj]at h1;cases h1
  simp[h2,hj]
 ·rw[if_neg e3,if_neg e3];exact hx j hj
theorem ku.isRec{α:Type}{c:α->aI}{d:α}{l:List α}(h:ku Z w t T v l.length (l.map c)):∃a cap,v=ay a l.length cap/\gI 1 (fun x=>[c x]) d w a l.length l/\∀p,a=az p->0<l.length->T (Z p.block):=by
 obtain⟨a,cap,e,h⟩:=h;rw[List.length_map]at h;refine⟨a,cap,e,⟨rfl,fun h0=>?_⟩,fun p hp h0=>?_⟩
 ·obtain⟨g,C,rfl,hb,ht,hx⟩:=h h0;refine⟨g,0,rfl,hb.lt,fun i j hi hj=>?_⟩;obtain rfl:j=0:=by omega
  have:=hx i hi;rw[hb.cell,show 0+i*1+0=i by omega,this];simp[List.getD,hi]
 ·obtain⟨g,C,rfl,hb,ht,hx⟩:=h h0;injection hp with hp;subst hp;exact ht
end
structure rY where
 vn:aI
 vc:aI
 vr:aI
 vt:aI
 vb:aI
 vu:aI
 r0n:aI
 r0f:aI
 r1n:aI
 r1f:aI
 bk:Nat
 mf:Nat
 ml:Nat
 Uv:aI
 vg:aI
 vl:aI
 row:Nat->aI
 cm:Nat->aI
 gn:Nat->aI
 bx:Nat->Nat
 Hw:Nat->yM
def Bl(f:dx)(L:rY):Array aI:=
 #[L.vn,L.vc,ah ag f.aX,L.vr,L.vt,L.vb,L.vu,L.r0n,L.r0f,L.r1n,L.r1f,pt L.bk,.bool f.kJ,ah ag f.now,ah ag f.last,.map (az L.mf),.map (az L.ml),L.Uv,L.vg,L.vl]
def never(t:Tg):Prop:=t.1=1
def PK(k a:Nat)(t:Tg):Prop:=t=(2,k,a,0)
def EO(Z:Own)(w:aG)(ns:List Nd)(cs:List Cb)(vn vc:aI):Prop:=
 ∃An Ac cn cc,vn=ay An ns.length cn/\vc=ay Ac cs.length cc/\jw w An Ac ⟨ns,cs⟩/\(∀p,An=az p->(Z p.block).1=1/\p.block<w.heap.size)/\∀p,Ac=az p->(Z p.block).1=1/\p.block<w.heap.size
theorem EO.jD{Z dN:Own}{w w':aG}{ns:List Nd}{cs:List Cb}{vn vc:aI}{S:Nat->Prop}(h:EO Z w ns cs vn vc)(hc:Ch S w w')(he:∀k,k<w.heap.size->dN k=Z k)(hS:∀k,S k->(Z k).1≠1):EO dN w' ns cs vn vc:=by
 obtain⟨An,Ac,cn,cc,e1,e2,hp,h1,h2⟩:=h;exact⟨An,Ac,cn,cc,e1,e2,⟨hp.1.ch hc fun x hx s=>hS _ s (h1 x hx).1,hp.2.ch hc fun x hx s=>hS _ s (h2 x hx).1⟩,
  fun p e=>⟨by rw[he _ (h1 p e).2];exact(h1 p e).1,bW (h1 p e).2 hc.size⟩,fun p e=>⟨by rw[he _ (h2 p e).2];exact(h2 p e).1,bW (h2 p e).2 hc.size⟩⟩
def Ei(cs:List Cb)(node port:Nat):Int:=pQ (mZ cs node port)
def fw(n:Nd):Nat:=if n.sw then n.bE.toNat else 2
structure Uq(Z:Own)(w:aG)(ns:List Nd)(vn vf:aI)(r:Rt):Prop where
 nx:∃V:Nat->Nat->aI,ku Z w 176 never vn ns.length ((aO ns.length).flatMap fun i=>[V i 0,V i 1])/\∀i,i<ns.length->∀p,p<2->ku Z w 3 never (V i p) ns.length ((aO ns.length).map fun t=>ah ag (r.next i p t))
 fl:∃U:Nat->aI,ku Z w 52 never vf ns.length ((aO ns.length).map U)/\∀i,i<ns.length->ku Z w 4 never (U i) (fw (ns.getD i jk)) ((aO (fw (ns.getD i jk))).map fun p=>.bool (r.sQ i p))
def Hy(x:(Nat×Fm)×aI):List aI:=ah ag x.1.1::Cx (x.1.2,x.2)
theorem CX(x:(Nat×Fm)×aI):(Hy x).length=7:=rfl
def NC(Z:Own)(w:aG)(v:aI)(l:List (Nat×Fm)):Prop:=
 ∃Q:List ((Nat×Fm)×aI),Q.map (·.1)=l/\w.ownsRow 0 122 7 v Q.length (Q.flatMap Hy)/\∀x∈Q,iQ Z w x.1.2.data x.2
def JB(x:Nat×Nat×Int):List aI:=[ah ag x.1,ah ag x.2.1,ah ag x.2.2]
theorem zH(x:Nat×Nat×Int):(JB x).length=3:=rfl
def JM(w:aG)(v:aI)(l:List (Nat×Nat×Int)):Prop:=w.ownsRow 0 116 3 v l.length (l.flatMap JB)
def vG{α:Type}(w:aG)(bm:Nat)(fl:Nat->List α)(P:Nat->aI->List α->Prop):Prop:=
 ∃(n:Nat) (M:Lit->Option aI),jo w aH 3 bm n M/\n<=1000000000/\(∀l v,M l=az v->∃t:Nat,l=.int .i64 t/\t<=900000000)/\(∀t,M (.int .i64 (t:Nat))=aj->fl t=[])/\∀t v,M (.int .i64 (t:Nat))=az v->P t v (fl t)
def Ny(Z:Own)(w:aG)(k:Nat)(v:aI)(row:Nat->aI)(n:Nat)(l:List (List Int)):Prop:=
 ku Z w 26 never v n ((aO n).map row)/\∀i,i<n->ku Z w 3 (PK k i) (row i) (l.getD i []).length ((l.getD i []).map fun x=>ah ag x)
structure gy(Z:Own)(w:aG)(b:Nat)(ns:List Nd)(cs:List Cb)(f:dx)(L:rY):Prop where
 root:dh w b 100 (Bl f L)/\Z b=(2,0,0,0)
 plan:EO Z w ns cs L.vn L.vc
 aK:ku Z w 3 never L.vr f.aK.length (f.aK.map fun x=>ah ag x)
 xH:ku Z w 26 never L.vt ns.length ((aO ns.length).map L.row)/\∀i,i<ns.length->ku Z w 3 never (L.row i) (fw (ns.getD i jk)) ((aO (fw (ns.getD i jk))).map fun p=>ah ag (Ei cs i p))
 La:ku Z w 101 never L.vb ns.length ((aO ns.length).map fun i=>pt (L.bx i))
 bx:∀i,i<ns.length->pO Z (3+i) w (L.bx i) (f.boxes.getD i default) (L.Hw i)
 up:ku Z w 4 (PK 1 0) L.vu f.up.length (f.up.map fun x=>.bool x)
 r0:Uq Z w ns L.r0n L.r0f f.NL
 r1:0<f.dm->Uq Z w ns L.r1n L.r1f f.QB
 bk:Bk w L.bk f.dm f.wM f.vH/\Z L.bk=(2,2,0,0)
 fl:vG w L.mf f.fl (fun t v l=>NC Z w v l/\∀g,v.ownBlock=az g->Z g=(2,4,t,0))/\Z L.mf=(2,3,0,0)
 lim:vG w L.ml f.lim (fun t v l=>JM w v l/\∀g,v.ownBlock=az g->Z g=(2,6,t,0))/\Z L.ml=(2,5,0,0)
 came:Ny Z w 7 L.Uv L.cm ns.length f.came
 gone:Ny Z w 8 L.vg L.gn (2*cs.length) f.gone
 lost:∃ids:List Int,w.ownsRow 0 3 1 L.vl ids.length (ids.flatMap cI)/\(∀g,L.vl.ownBlock=az g->Z g=(2,9,0,0))/\ids.Perm (f.lost.map (·.id))
end
section
attribute [local go_sem ↓] Go.wp_at_zero Go.wp_at_succ
structure QF(w:aG)(b:Nat)(ns:List Nd)(cs:List Cb)(An Ac:Option Addr)(cn cc:Nat):Prop where
 c0:w.cell? ⟨b,0,aj⟩=az (ay An ns.length cn)
 c1:w.cell? ⟨b,0+1,aj⟩=az (ay Ac cs.length cc)
 plan:jw w An Ac ⟨ns,cs⟩
theorem QF.below{w w':aG}{b:Nat}{ns:List Nd}{cs:List Cb}{An Ac:Option Addr}{cn cc:Nat}(h:QF w b ns cs An Ac cn cc)(k:Below w.heap.size w w'):QF w' b ns cs An Ac cn cc:=
 ⟨(k.cell (p:=⟨b,0,aj⟩) (aZ _ _ h.c0)).trans h.c0,(k.cell (p:=⟨b,0+1,aj⟩) (aZ _ _ h.c1)).trans h.c1,h.plan.below (aC _) k⟩
def uB(cs:List Cb)(c:Nat)(w:aG)(e:Ending)(w':aG):Prop:=
 e=ax (.tuple #[ah ag (fM cs c).1,ah ag (fM cs c).2.1,ah ag (fM cs c).2.2.1,ah ag (fM cs c).2.2.2])/\Below w.heap.size w w'
theorem Ci(c b:Nat)(ns:List Nd)(cs:List Cb)(An Ac:Option Addr)(cn cc:Nat)(w:aG)(h:QF w b ns cs An Ac cn cc)(hp:sS ns cs)(hc:c<2*cs.length):Calls aH 53 #[pt b,ah ag c] w (uB cs c w):=by
 have hi:c/2<cs.length:=by omega
 have Lb:=hp.Lb;have A:=hp.a0 _ hi;have B:=hp.b0 _ hi;have C:=hp.ap _ hi;have D:=hp.bp _ hi;obtain⟨b2,o2,ha,uu,_,e0,e1,e2,e3,e4,e5⟩:=mq h.plan.2 (c/2) hi;have c1:=h.c1;rw[ha]at c1;have EV:Hid (fM cs c=if c%2=0 then((cs.getD (c/2) gX).a.toNat,(cs.getD (c/2) gX).ap.toNat,(cs.getD (c/2) gX).b.toNat,(cs.getD (c/2) gX).bp.toNat)else((cs.getD (c/2) gX).b.toNat,(cs.getD (c/2) gX).bp.toNat,(cs.getD (c/2) gX).a.toNat,(cs.getD (c/2) gX).ap.toNat)):=rfl;generalize cs.getD (c/2) gX=x at *;obtain⟨xa,qF,xb,qO,xd,xc⟩:=x;simp only at A B C D e0 e1 e2 e3 e4 e5 EV;obtain⟨na,rfl⟩:∃n:Nat,xa=n:=⟨xa.toNat,by omega⟩;obtain⟨nb,rfl⟩:∃n:Nat,xb=n:=⟨xb.toNat,by omega⟩;obtain⟨nc,rfl⟩:∃n:Nat,qF=n:=⟨qF.toNat,by omega⟩;obtain⟨nd,rfl⟩:∃n:Nat,qO=n:=⟨qO.toNat,by omega⟩;simp only[Int.toNat_natCast]at EV;have hd:(c:Int)/2=((c/2:Nat):Int):=by omega
 have hd0:(0:Int)<=((c/2:Nat):Int):=by omega
 have hd1:((c/2:Nat):Int)<(cs.length:Int):=by omega
 have hc0:(0:Int)<=(c:Int):=by omega
 have hc1:(c:Int)<=100:=by omega
 clear A B C D h hp ha hi hc;generalize c/2=k at *;unfold uB;by_cases hm:c%2=0
 ·have hm':(c:Int)%2=0:=by omega
  rw[EV.o,if_pos hm];clear EV hm;unfold pt;go_enter func53,ntmps53;go_wp2_with fail;go_quiet (fail);go_wp2_with fail;refine bodyPost_ret (v:=.tuple #[ah ag na,ah ag nc,ah ag nb,ah ag nd]) (by simp[results,Tryz.results53,go_sem]) rfl ⟨rfl,?_⟩;exact below_drewN ((aQ _ _).alloc (aC _) _) _
 ·have hm':(c:Int)%2=1:=by omega
  rw[EV.o,if_neg hm];clear EV hm;unfold pt;go_enter func53,ntmps53;go_wp2_with fail;go_quiet (fail);go_wp2_with fail;refine bodyPost_ret (v:=.tuple #[ah ag nb,ah ag nd,ah ag na,ah ag nc]) (by simp[results,Tryz.results53,go_sem]) rfl ⟨rfl,?_⟩;exact below_drewN ((aQ _ _).alloc (aC _) _) _
theorem LF(i u b:Nat)(ns:List Nd)(cs:List Cb)(An Ac:Option Addr)(cn cc:Nat)(w:aG)(h:QF w b ns cs An Ac cn cc)(hp:sS ns cs)(hi:i<cs.length)(hu:u<ns.length):Calls aH 65 #[pt b,ah ag i,ah ag u] w fun e w'=>e=ax (ah ag (iY cs i u:Nat))/\w=w':=by
 have Lb:=hp.Lb;have n16:=hp.n16;obtain⟨b2,o2,ha,uu,_,e0,_⟩:=mq h.plan.2 i hi;have A:=hp.a0 _ hi;have c1:=h.c1;rw[ha]at c1;have i0:(0:Int)<=(i:Int):=by omega
 have i1:(i:Int)<(cs.length:Int):=by omega
 have EV:Hid (iY cs i u=if(cs.getD i gX).a=(u:Int)then 2*i else 2*i+1):=rfl;generalize(cs.getD i gX).a=xa at *;obtain⟨na,rfl⟩:∃n:Nat,xa=n:=⟨xa.toNat,by omega⟩;clear A h hp ha hi hu;by_cases hm:na=u
 ·rw[EV.o,if_pos (by rw[hm])];have hq:((na:Int)==(u:Int))=true:=by rw[hm];exact beq_self_eq_true _
  clear EV;unfold pt;subst hm;go_enter func65,ntmps65;go_wp2_with fail;go_ret;exact⟨by push_cast;rfl,rfl⟩
 ·rw[EV.o,if_neg (by omega)];have hq:((na:Int)==(u:Int))=false:=by rw[beq_eq_false_iff_ne];omega
  clear EV;unfold pt;go_enter func65,ntmps65;go_wp2_with fail;go_ret;exact⟨by push_cast;rfl,rfl⟩
end
end Go.Proofs.YtnjjkgjdhljfnaaGreat
