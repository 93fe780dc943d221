/- Part 11 of the proof of fabricErrors.proved: FbM FbN1. Several texts in one, blanks struck, what is not used left out. -/
import Derived.Test.YtnjjkgjdhljfnaaGreatPk1
import Derived.Test.YtnjjkgjdhljfnaaGreatPk9
import Derived.Test.YtnjjkgjdhljfnaaGreatPk10
set_option maxRecDepth 100000
set_option maxHeartbeats 16000000
set_option linter.unusedVariables false
set_option linter.unusedSimpArgs false
namespace Go.Proofs.YtnjjkgjdhljfnaaGreat
open Go.RowKit Go.Maps
def ArrM(τ:Own)(w:World)(t:TypeId)(T:Tg→Prop)(v:Value)(n:Nat)(xs:List Value):Prop:=
 ∃a cap,v=.slice a n cap∧(0<xs.length→∃g C,a=some ⟨g,0,none⟩∧Blk w g t C∧T (τ g)∧∀i,i<xs.length→C[i]?=xs[i]?)
section
variable{τ τ':Own}{w w':World}{t:TypeId}{T:Tg→Prop}{v:Value}{xs:List Value}{n:Nat}
theorem ArrM.chE{S:Nat→Prop}(h:ArrM τ w t T v n xs)(hc:Ch S w w')(he:∀k,k<w.heap.size→τ' k=τ k)(hS:∀k,S k→¬T (τ k)):ArrM τ' w' t T v n xs:=by obtain⟨a,cap,e,h⟩:=h;refine⟨a,cap,e,fun h0=>?_⟩;obtain⟨g,C,e1,hb,ht,hx⟩:=h h0;exact⟨g,C,e1,hb.ch hc fun s=>hS _ s ht,by rw[he _ hb.lt];exact ht,hx⟩
theorem ArrM.at_(h:ArrM τ w t T v n xs){i:Nat}(hi:i<xs.length):∃g cap,v=.slice (some ⟨g,0,none⟩) n cap∧w.cell? ⟨g,i,none⟩=xs[i]?∧w.frozen? ⟨g,i,none⟩=false∧g<w.heap.size∧T (τ g):=by obtain⟨a,cap,e,h⟩:=h;obtain⟨g,C,rfl,hb,ht,hx⟩:=h (by omega);exact⟨g,cap,e,by rw[hb.cell];exact hx i hi,hb.frozen i,hb.lt,ht⟩
theorem ArrM.form(h:ArrM τ w t T v n xs):∃a cap,v=.slice a n cap:=by obtain⟨a,cap,e,_⟩:=h;exact⟨a,cap,e⟩
theorem ArrM.set_(h:ArrM τ w t T v n xs){i g cap:Nat}(hi:i<xs.length)(hv:v=.slice (some ⟨g,0,none⟩) n cap)(u:Value):ArrM τ (w.setCell ⟨g,i,none⟩ u) t T v n (xs.set i u):=by
 obtain⟨a,cap',e,h⟩:=h;obtain⟨g',C,rfl,hb,ht,hx⟩:=h (by omega);rw[hv]at e;injection e with e1 _ e2;injection e1 with e1;injection e1 with e1;subst e1;refine⟨_,cap,hv,fun h0=>⟨g,C.setIfInBounds i u,rfl,hb.set_ i u,ht,fun j hj=>?_⟩⟩;rw[List.length_set]at hj;rw[Array.getElem?_setIfInBounds,List.getElem?_set];by_cases e3:i=j
 ·subst e3;have h1:=hx i hj;have h2:i<C.size:=by
   rcases Nat.lt_or_ge i C.size with q|q
   ·exact q
   ·rw[Array.getElem?_eq_none q,List.getElem?_eq_getElem hj]at h1;cases h1
  simp[h2,hj]
 ·rw[if_neg e3,if_neg e3];exact hx j hj
theorem ArrM.isRec{α:Type}{c:α→Value}{d:α}{l:List α}(h:ArrM τ w t T v l.length (l.map c)):∃a cap,v=.slice a l.length cap∧IsRec 1 (fun x=>[c x]) d w a l.length l∧∀p,a=some p→0<l.length→T (τ p.block):=by
 obtain⟨a,cap,e,h⟩:=h;rw[List.length_map]at h;refine⟨a,cap,e,⟨rfl,fun h0=>?_⟩,fun p hp h0=>?_⟩
 ·obtain⟨g,C,rfl,hb,ht,hx⟩:=h h0;refine⟨g,0,rfl,hb.lt,fun i j hi hj=>?_⟩;obtain rfl:j=0:=by omega
  have:=hx i hi;rw[hb.cell,show 0+i*1+0=i by omega,this];simp[List.getD,hi]
 ·obtain⟨g,C,rfl,hb,ht,hx⟩:=h h0;injection hp with hp;subst hp;exact ht
end
structure FbL where
 vn:Value
 vc:Value
 vr:Value
 vt:Value
 vb:Value
 vu:Value
 r0n:Value
 r0f:Value
 r1n:Value
 r1f:Value
 bk:Nat
 mf:Nat
 ml:Nat
 vcm:Value
 vg:Value
 vl:Value
 row:Nat→Value
 cm:Nat→Value
 gn:Nat→Value
 bx:Nat→Nat
 bxl:Nat→BxL
def fabC(f:Fab)(L:FbL):Array Value:=
 #[L.vn,L.vc,.int .i64 f.classes,L.vr,L.vt,L.vb,L.vu,L.r0n,L.r0f,L.r1n,L.r1f,pt L.bk,.bool f.pend,.int .i64 f.now,.int .i64 f.last,.map (some L.mf),.map (some L.ml),L.vcm,L.vg,L.vl]
def never(t:Tg):Prop:=t.1=1
def is2(k a:Nat)(t:Tg):Prop:=t=(2,k,a,0)
def PlanM(τ:Own)(w:World)(ns:List Nd)(cs:List Cb)(vn vc:Value):Prop:=
 ∃An Ac cn cc,vn=.slice An ns.length cn∧vc=.slice Ac cs.length cc∧IsPlan w An Ac ⟨ns,cs⟩∧(∀p,An=some p→(τ p.block).1=1∧p.block<w.heap.size)∧∀p,Ac=some p→(τ p.block).1=1∧p.block<w.heap.size
theorem PlanM.chE{τ τ':Own}{w w':World}{ns:List Nd}{cs:List Cb}{vn vc:Value}{S:Nat→Prop}(h:PlanM τ w ns cs vn vc)(hc:Ch S w w')(he:∀k,k<w.heap.size→τ' k=τ k)(hS:∀k,S k→(τ k).1≠1):PlanM τ' w' ns cs vn vc:=by
 obtain⟨An,Ac,cn,cc,e1,e2,hp,h1,h2⟩:=h;exact⟨An,Ac,cn,cc,e1,e2,⟨hp.1.ch hc fun x hx s=>hS _ s (h1 x hx).1,hp.2.ch hc fun x hx s=>hS _ s (h2 x hx).1⟩,
  fun p e=>⟨by rw[he _ (h1 p e).2];exact(h1 p e).1,Nat.lt_of_lt_of_le (h1 p e).2 hc.size⟩,fun p e=>⟨by rw[he _ (h2 p e).2];exact(h2 p e).1,Nat.lt_of_lt_of_le (h2 p e).2 hc.size⟩⟩
def cabI(cs:List Cb)(node port:Nat):Int:=optI (cableAt cs node port)
def portsOf(n:Nd):Nat:=if n.sw then n.ports.toNat else 2
structure RtM(τ:Own)(w:World)(ns:List Nd)(vn vf:Value)(r:Rt):Prop where
 nx:∃V:Nat→Nat→Value,ArrM τ w 176 never vn ns.length ((List.range ns.length).flatMap fun i=>[V i 0,V i 1])∧∀i,i<ns.length→∀p,p<2→ArrM τ w 3 never (V i p) ns.length ((List.range ns.length).map fun t=>.int .i64 (r.next i p t))
 fl:∃U:Nat→Value,ArrM τ w 52 never vf ns.length ((List.range ns.length).map U)∧∀i,i<ns.length→ArrM τ w 4 never (U i) (portsOf (ns.getD i nd0)) ((List.range (portsOf (ns.getD i nd0))).map fun p=>.bool (r.falls i p))
def cFl(x:(Nat×Fm)×Value):List Value:=.int .i64 x.1.1::cFm (x.1.2,x.2)
theorem cFl_length(x:(Nat×Fm)×Value):(cFl x).length=7:=rfl
def FliM(τ:Own)(w:World)(v:Value)(l:List (Nat×Fm)):Prop:=
 ∃Q:List ((Nat×Fm)×Value),Q.map (·.1)=l∧w.ownsRow 0 122 7 v Q.length (Q.flatMap cFl)∧∀x∈Q,IsDat τ w x.1.2.data x.2
def cNo(x:Nat×Nat×Int):List Value:=[.int .i64 x.1,.int .i64 x.2.1,.int .i64 x.2.2]
def NotM(w:World)(v:Value)(l:List (Nat×Nat×Int)):Prop:=w.ownsRow 0 116 3 v l.length (l.flatMap cNo)
def TickM{α:Type}(w:World)(bm:Nat)(fl:Nat→List α)(P:Nat→Value→List α→Prop):Prop:=
 ∃(n:Nat) (M:Lit→Option Value),OMap w Tryz.prog 3 bm n M∧n≤1000000000∧(∀l v,M l=some v→∃t:Nat,l=.int .i64 t∧t≤900000000)∧(∀t,M (.int .i64 (t:Nat))=none→fl t=[])∧∀t v,M (.int .i64 (t:Nat))=some v→P t v (fl t)
def CntM(τ:Own)(w:World)(k:Nat)(v:Value)(row:Nat→Value)(n:Nat)(l:List (List Int)):Prop:=
 ArrM τ w 26 never v n ((List.range n).map row)∧∀i,i<n→ArrM τ w 3 (is2 k i) (row i) (l.getD i []).length ((l.getD i []).map fun x=>.int .i64 x)
structure FabM(τ:Own)(w:World)(b:Nat)(ns:List Nd)(cs:List Cb)(f:Fab)(L:FbL):Prop where
 root:Blk w b 100 (fabC f L)∧τ b=(2,0,0,0)
 plan:PlanM τ w ns cs L.vn L.vc
 rooms:ArrM τ w 3 never L.vr f.rooms.length (f.rooms.map fun x=>.int .i64 x)
 cab:ArrM τ w 26 never L.vt ns.length ((List.range ns.length).map L.row)∧∀i,i<ns.length→ArrM τ w 3 never (L.row i) (portsOf (ns.getD i nd0)) ((List.range (portsOf (ns.getD i nd0))).map fun p=>.int .i64 (cabI cs i p))
 bxs:ArrM τ w 101 never L.vb ns.length ((List.range ns.length).map fun i=>pt (L.bx i))
 bx:∀i,i<ns.length→BxM τ (3+i) w (L.bx i) (f.boxes.getD i default) (L.bxl i)
 up:ArrM τ w 4 (is2 1 0) L.vu f.up.length (f.up.map fun x=>.bool x)
 r0:RtM τ w ns L.r0n L.r0f f.rt0
 r1:0<f.bnow→RtM τ w ns L.r1n L.r1f f.rt1
 bk:Bk w L.bk f.bnow f.al0 f.al1∧τ L.bk=(2,2,0,0)
 fl:TickM w L.mf f.fl (fun t v l=>FliM τ w v l∧∀g,v.ownBlock=some g→τ g=(2,4,t,0))∧τ L.mf=(2,3,0,0)
 lim:TickM w L.ml f.lim (fun t v l=>NotM w v l∧∀g,v.ownBlock=some g→τ g=(2,6,t,0))∧τ L.ml=(2,5,0,0)
 came:CntM τ w 7 L.vcm L.cm ns.length f.came
 gone:CntM τ w 8 L.vg L.gn (2*cs.length) f.gone
 lost:∃ids:List Int,w.ownsRow 0 3 1 L.vl ids.length (ids.flatMap cI)∧(∀g,L.vl.ownBlock=some g→τ g=(2,9,0,0))∧ids.Perm (f.lost.map (·.id))
end Go.Proofs.YtnjjkgjdhljfnaaGreat
namespace Go.Proofs.YtnjjkgjdhljfnaaGreat
open Go.RowKit Go.Maps
attribute [local go_sem ↓] Go.wp_at_zero Go.wp_at_succ
structure FabS(w:World)(b:Nat)(ns:List Nd)(cs:List Cb)(An Ac:Option Addr)(cn cc:Nat):Prop where
 c0:w.cell? ⟨b,0,none⟩=some (.slice An ns.length cn)
 c1:w.cell? ⟨b,0+1,none⟩=some (.slice Ac cs.length cc)
 plan:IsPlan w An Ac ⟨ns,cs⟩
theorem FabS.below{w w':World}{b:Nat}{ns:List Nd}{cs:List Cb}{An Ac:Option Addr}{cn cc:Nat}(h:FabS w b ns cs An Ac cn cc)(k:Below w.heap.size w w'):FabS w' b ns cs An Ac cn cc:=
 ⟨(k.cell (p:=⟨b,0,none⟩) (World.block_lt_of_cell? _ _ h.c0)).trans h.c0,(k.cell (p:=⟨b,0+1,none⟩) (World.block_lt_of_cell? _ _ h.c1)).trans h.c1,h.plan.below (Nat.le_refl _) k⟩
def EndsPost(cs:List Cb)(c:Nat)(w:World)(e:Ending)(w':World):Prop:=
 e=.returned (.tuple #[.int .i64 (endsF cs c).1,.int .i64 (endsF cs c).2.1,.int .i64 (endsF cs c).2.2.1,.int .i64 (endsF cs c).2.2.2])∧Below w.heap.size w w'
theorem fends_any(c b:Nat)(ns:List Nd)(cs:List Cb)(An Ac:Option Addr)(cn cc:Nat)(w:World)(h:FabS w b ns cs An Ac cn cc)(hp:PlF ns cs)(hc:c<2*cs.length):Calls Tryz.prog 53 #[pt b,.int .i64 c] w (EndsPost cs c w):=by
 have hi:c/2<cs.length:=by omega
 have c32:=hp.c32;have A:=hp.a0 _ hi;have B:=hp.b0 _ hi;have C:=hp.ap _ hi;have D:=hp.bp _ hi;obtain⟨b2,o2,ha,hb2,_,e0,e1,e2,e3,e4,e5⟩:=cable_at h.plan.2 (c/2) hi;have c1:=h.c1;rw[ha]at c1;have EV:Hid (endsF cs c=if c%2=0 then((cs.getD (c/2) cb0).a.toNat,(cs.getD (c/2) cb0).ap.toNat,(cs.getD (c/2) cb0).b.toNat,(cs.getD (c/2) cb0).bp.toNat)else((cs.getD (c/2) cb0).b.toNat,(cs.getD (c/2) cb0).bp.toNat,(cs.getD (c/2) cb0).a.toNat,(cs.getD (c/2) cb0).ap.toNat)):=rfl;generalize cs.getD (c/2) cb0=x at *;obtain⟨xa,xap,xb,xbp,xd,xc⟩:=x;simp only at A B C D e0 e1 e2 e3 e4 e5 EV;obtain⟨na,rfl⟩:∃n:Nat,xa=n:=⟨xa.toNat,by omega⟩;obtain⟨nb,rfl⟩:∃n:Nat,xb=n:=⟨xb.toNat,by omega⟩;obtain⟨nc,rfl⟩:∃n:Nat,xap=n:=⟨xap.toNat,by omega⟩;obtain⟨nd,rfl⟩:∃n:Nat,xbp=n:=⟨xbp.toNat,by omega⟩;simp only[Int.toNat_natCast]at EV;have hd:(c:Int)/2=((c/2:Nat):Int):=by omega
 have hd0:(0:Int)≤((c/2:Nat):Int):=by omega
 have hd1:((c/2:Nat):Int)<(cs.length:Int):=by omega
 have hc0:(0:Int)≤(c:Int):=by omega
 have hc1:(c:Int)≤100:=by omega
 clear A B C D h hp ha hi hc;generalize c/2=k at *;unfold EndsPost;by_cases hm:c%2=0
 ·have hm':(c:Int)%2=0:=by omega
  rw[EV.out,if_pos hm];clear EV hm;unfold pt
  go_enter Tryz.func53,Tryz.ntmps53
  go_wp2_with fail
  go_quiet (fail)
  go_wp2_with fail
  refine bodyPost_ret (v:=.tuple #[.int .i64 na,.int .i64 nc,.int .i64 nb,.int .i64 nd]) (by simp[results,Tryz.results53,go_sem]) rfl ⟨rfl,?_⟩;exact below_drewN ((Below.refl _ _).alloc (Nat.le_refl _) _) _
 ·have hm':(c:Int)%2=1:=by omega
  rw[EV.out,if_neg hm];clear EV hm;unfold pt
  go_enter Tryz.func53,Tryz.ntmps53
  go_wp2_with fail
  go_quiet (fail)
  go_wp2_with fail
  refine bodyPost_ret (v:=.tuple #[.int .i64 nb,.int .i64 nd,.int .i64 na,.int .i64 nc]) (by simp[results,Tryz.results53,go_sem]) rfl ⟨rfl,?_⟩;exact below_drewN ((Below.refl _ _).alloc (Nat.le_refl _) _) _
theorem fchan_any(i u b:Nat)(ns:List Nd)(cs:List Cb)(An Ac:Option Addr)(cn cc:Nat)(w:World)(h:FabS w b ns cs An Ac cn cc)(hp:PlF ns cs)(hi:i<cs.length)(hu:u<ns.length):Calls Tryz.prog 65 #[pt b,.int .i64 i,.int .i64 u] w fun e w'=>e=.returned (.int .i64 (chanF cs i u:Nat))∧w=w':=by
 have c32:=hp.c32;have n16:=hp.n16;obtain⟨b2,o2,ha,hb2,_,e0,_⟩:=cable_at h.plan.2 i hi;have A:=hp.a0 _ hi;have c1:=h.c1;rw[ha]at c1;have i0:(0:Int)≤(i:Int):=by omega
 have i1:(i:Int)<(cs.length:Int):=by omega
 have EV:Hid (chanF cs i u=if(cs.getD i cb0).a=(u:Int)then 2*i else 2*i+1):=rfl;generalize(cs.getD i cb0).a=xa at *;obtain⟨na,rfl⟩:∃n:Nat,xa=n:=⟨xa.toNat,by omega⟩;clear A h hp ha hi hu;by_cases hm:na=u
 ·rw[EV.out,if_pos (by rw[hm])];have hq:((na:Int)==(u:Int))=true:=by rw[hm];exact beq_self_eq_true _
  clear EV;unfold pt;subst hm
  go_enter Tryz.func65,Tryz.ntmps65
  go_wp2_with fail
  go_ret
  exact⟨by push_cast;rfl,rfl⟩
 ·rw[EV.out,if_neg (by omega)];have hq:((na:Int)==(u:Int))=false:=by rw[beq_eq_false_iff_ne];omega
  clear EV;unfold pt
  go_enter Tryz.func65,Tryz.ntmps65
  go_wp2_with fail
  go_ret
  exact⟨by push_cast;rfl,rfl⟩
end Go.Proofs.YtnjjkgjdhljfnaaGreat
