/- Part 27. -/
import Derived.Test.YtnjjkgjdhljfnaaGreatPk22
import Derived.Test.YtnjjkgjdhljfnaaGreatPk26
open Go.Proofs.Tryz
open Go renaming Calls->bZ,Value->aI,World->aG,info_parts->dX,wp_at_succ->fH,wp_at_zero->fJ
open Go.Callee renaming value->kv
open Go.Ending renaming returned->ax
open Go.IntKind renaming i64->ag
open Go.Lib renaming hid->aA
open Go.Obj renaming cells->af
open Go.Operand renaming func->kz
open Go.Proofs.Tryz renaming prog->aH
open Go.Region renaming wanted->eH
open Go.RowKit renaming Below->aN,Hid->aY,intOf->aJ
open Go.RowKit.Below renaming refl->aQ
open Go.Value renaming int->ah,pointer->au,slice->ay
open List renaming append_nil->jF,flatMap_append->fP,flatMap_cons->eO,flatMap_nil->BJ,getD->bJ,length_append->bV,length_cons->eQ,length_map->dE,length_nil->jZ,map_append->eY,mem_append->eZ,mem_cons->dG,mem_singleton->dz,not_mem_nil->dP
open Nat renaming le_refl->aC,le_trans->dZ
open Option renaming none->aj,some->az
set_option maxRecDepth 100000
set_option maxHeartbeats 16000000
set_option linter.unusedVariables false
set_option linter.unusedSimpArgs false
namespace Go.Proofs.YtnjjkgjdhljfnaaGreat
section
open Go.RowKit Go.Maps
attribute [local go_sem ↓] fJ fH
def cSn(k:Nat)(x:Fm×aI):List aI:=[ah ag x.1.jR,ah ag x.1.kU,ah ag (x.1.cls-(k:Int)*(x.1.ep%2)),ah ag x.1.ep,x.2]
theorem XT(k:Nat)(x:Fm×aI):(cSn k x).length=5:=rfl
def WS(Z:Own)(k:Nat):Prop:=2<=(Z k).1\/Z k=(0,1,0,0)
structure MG(Z:Own)(w:aG)(dN:Own)(w':aG):Prop where
 ch:Ch (WS Z) w w'
 ext:∀k,k<w.heap.size->dN k=Z k
theorem MG.refl(Z:Own)(w:aG):MG Z w Z w:=⟨Ch.refl _ _,fun _ _=>rfl⟩
theorem MG.trans{Z dN FJ:Own}{w w' w'':aG}(h:MG Z w dN w')(k:MG dN w' FJ w''):MG Z w FJ w'':=
 ⟨h.ch.trans k.ch fun i hi s=>by unfold WS at s|-;rw[h.ext i hi]at s;exact s,fun i hi=>(k.ext i (Nat.lt_of_lt_of_le hi h.ch.size)).trans (h.ext i hi)⟩
theorem qo.w{Z dN:Own}{w w':aG}(h:qo Z w dN w'):MG Z w dN w':=⟨h.ch.mono fun k _ s=>.inl s,h.ext⟩
structure pg(B0:Nat)(Z:Own)(w:aG)(g0 b:Nat)(ns:List Nd)(cs:List Cb)(L:rY)(vi vo:aI)(tm:Nat)(s:Iz):Prop where
 Us:gy Z w b ns cs s.f L
 root:dh w g0 56 #[pt b,vi,vo,ah ag (tm:Int),.bool true]
 iP:Z g0=(0,1,0,0)
 Fz:B0<=g0
 ins:∃Q:List (Fm×aI),Q.map (·.1)=s.ins/\w.ownsRow B0 63 5 vi Q.length (Q.flatMap (cSn s.f.aX))/\(∀x∈Q,iQ Z w x.1.data x.2)/\∀g,vi.ownBlock=az g->Z g=(0,1,0,0)
 outs:Af Z B0 w vo s.outs/\∀g,vo.ownBlock=az g->Z g=(0,1,0,0)
section
variable{B0:Nat}{Z dN:Own}{w w' w2:aG}{g0 b:Nat}{ns:List Nd}{cs:List Cb}{L L':rY}{vi vo:aI}{tm:Nat}{s:Iz}
theorem pg.jD{S:Nat->Prop}(h:pg B0 Z w g0 b ns cs L vi vo tm s)(hc:Ch S w w')(he:∀k,k<w.heap.size->dN k=Z k)(hS:∀k,S k->(Z k).1=0/\(Z k).2.1≠1):pg B0 dN w' g0 b ns cs L vi vo tm s:=by
 have ns1:∀{g},Z g=(0,1,0,0)->¬S g:=fun e q=>(hS _ q).2 (by rw[e]);obtain⟨Q,q1,q2,q3,q4⟩:=h.ins;obtain⟨⟨D,d1,d2,d3,d4⟩,o2⟩:=h.outs;exact{
  Us:=h.Us.jD hc he fun k q=>(hS k q).1
  root:=h.root.ch hc (ns1 h.iP)
  iP:=by rw[he _ h.root.lt];exact h.iP
  Fz:=h.Fz
  ins:=⟨Q,q1,fO q2 hc fun g hg=>ns1 (q4 g hg),fun x hx=>(q3 x hx).jD hc he fun k q=>by rw[(hS k q).1];decide,fun g hg=>by rw[he _ (q2.lt g hg).2];exact q4 g hg⟩
  outs:=⟨⟨D,d1,fO d2 hc fun g hg=>ns1 (o2 g hg),fun x hx=>(d3 x hx).jD hc he fun k q=>by rw[(hS k q).1];decide,fun g hg=>by rw[he _ (d2.lt g hg).2];exact d4 g hg⟩,fun g hg=>by rw[he _ (d2.lt g hg).2];exact o2 g hg⟩}
theorem pg.below(h:pg B0 Z w g0 b ns cs L vi vo tm s)(k:aN w.heap.size w w'):pg B0 (fr Z w.heap.size) w' g0 b ns cs L vi vo tm s:=h.jD (S:=fun _=>False) (Ch.bY k) (fun _ hk=>gL hk) (fun _ q=>q.elim)
theorem pg.call(h:pg B0 Z w g0 b ns cs L vi vo tm s){f':dx}(m:gy dN w' b ns cs f' L')(n:qo Z w dN w')(hk:f'.aX=s.f.aX):pg B0 dN w' g0 b ns cs L' vi vo tm ⟨f',s.ins,s.outs⟩:=by
 have ns1:∀{g},(Z g).1=0->¬2<=(Z g).1:=fun e q=>by rw[e]at q;exact absurd q (by decide)
 have ns2:∀{g},Z g=(0,1,0,0)->¬2<=(Z g).1:=fun e=>ns1 (by rw[e]);obtain⟨Q,q1,q2,q3,q4⟩:=h.ins;exact{
  Us:=m
  root:=h.root.ch n.ch (ns2 h.iP)
  iP:=by rw[n.ext _ h.root.lt];exact h.iP
  Fz:=h.Fz
  ins:=⟨Q,q1,by show w'.ownsRow B0 63 5 vi Q.length (Q.flatMap (cSn f'.aX));rw[hk];exact fO q2 n.ch fun g hg=>ns2 (q4 g hg),fun x hx=>(q3 x hx).jD n.ch n.ext fun k q=>by omega,fun g hg=>by rw[n.ext _ (q2.lt g hg).2];exact q4 g hg⟩
  outs:=⟨h.outs.1.fnx n,fun g hg=>by obtain⟨D,_,d2,_⟩:=h.outs.1;rw[n.ext _ (d2.lt g hg).2];exact h.outs.2 g hg⟩}
theorem pg.afu(h:pg B0 Z w g0 b ns cs L vi vo tm s):vi.ownBlock≠az g0:=by obtain⟨Q,_,q2,_⟩:=h.ins;exact xy q2 h.root (by decide)
theorem pg.Ua(h:pg B0 Z w g0 b ns cs L vi vo tm s):vo.ownBlock≠az g0:=by obtain⟨Q,_,q2,_⟩:=h.outs.1;exact xy q2 h.root (by decide)
theorem Oa{g j:Nat}{v:aI}:Ch (· =g) w (w.setCell ⟨g,j,aj⟩ v):=(Ch.refl (fun k=>k=g) w).setCell (p:=⟨g,j,aj⟩) (.inl rfl) v
theorem pg.acG(h:pg B0 Z w g0 b ns cs L vi vo tm s)(t:Nat):pg B0 Z (w.setCell ⟨g0,3,aj⟩ (ah ag (t:Int))) g0 b ns cs L vi vo t s/\MG Z w Z (w.setCell ⟨g0,3,aj⟩ (ah ag (t:Int))):=by
 have hc:Ch (· =g0) w (w.setCell ⟨g0,3,aj⟩ (ah ag (t:Int))):=Oa;have hT:=h.iP;obtain⟨Q,q1,q2,q3,q4⟩:=h.ins;obtain⟨D,d1,d2,d3,d4⟩:=h.outs.1;refine⟨{
  Us:=h.Us.jD hc (fun _ _=>rfl) fun k q=>by have q:k=g0:=q;rw[q,hT]
  root:=by have:=h.root.jd 3 (ah ag (t:Int));exact this
  iP:=hT
  Fz:=h.Fz
  ins:=⟨Q,q1,fO q2 hc fun g hg q=>h.afu (by rw[hg];exact congrArg az q),fun x hx=>(q3 x hx).jD hc (fun _ _=>rfl) fun k q=>by have q:k=g0:=q;rw[q,hT];decide,q4⟩
  outs:=⟨⟨D,d1,fO d2 hc fun g hg q=>h.Ua (by rw[hg];exact congrArg az q),fun x hx=>(d3 x hx).jD hc (fun _ _=>rfl) fun k q=>by have q:k=g0:=q;rw[q,hT];decide,d4⟩,h.outs.2⟩},⟨hc.mono fun k _ q=>.inr (by have q:k=g0:=q;rw[q,hT]),fun _ _=>rfl⟩⟩
theorem pg.ait(h:pg B0 Z w g0 b ns cs L vi vo tm s):pg B0 Z (w.setCell ⟨g0,4,aj⟩ (.bool true)) g0 b ns cs L vi vo tm s/\w.setCell ⟨g0,4,aj⟩ (.bool true)=w:=by have e:=h.root.rJ (i:=4) (u:=.bool true) rfl;rw[e];exact⟨h,rfl⟩
theorem pg.amE(h:pg B0 Z w g0 b ns cs L vi vo tm s){Q:List (Dl×aI)}(hQ:Q.map (·.1)=s.outs)(hdq:∀x∈Q,iQ Z w x.1.2.2.data x.2){d:Dl}{dv v:aI}(hd:iQ Z w d.2.2.data dv){wA:aG}(hA:aN w.heap.size w wA)(gr:wA.grownBy w2 vo.ownBlock)(own:w2.ownsRow B0 61 8 v (Q.length+1) (Q.flatMap Xa++Xa (d,dv)))(loc:v.ownBlock=vo.ownBlock\/∃g,v.ownBlock=az g/\w.heap.size<=g):pg B0 (qm Z w.heap.size (0,1,0,0)) (w2.setCell ⟨g0,2,aj⟩ v) g0 b ns cs L vi v tm ⟨s.f,s.ins,s.outs++[d]⟩/\MG Z w (qm Z w.heap.size (0,1,0,0)) (w2.setCell ⟨g0,2,aj⟩ v)/\w2.frozen? ⟨g0,2,aj⟩=false/\w2.cell? ⟨g0,2,aj⟩=az vo/\Ch (fun k=>vo.ownBlock=az k\/k=g0) w (w2.setCell ⟨g0,2,aj⟩ v):=by
 obtain⟨D,d1,d2,d3,d4⟩:=h.outs.1;obtain⟨P,p1,p2,p3,p4⟩:=h.ins;have hT:=h.iP;have oT:=h.outs.2;have c1:Ch (fun k=>vo.ownBlock=az k) w w2:=(Ch.bY hA).grown gr fun g e=>.inl e;have hc:Ch (fun k=>vo.ownBlock=az k\/k=g0) w (w2.setCell ⟨g0,2,aj⟩ v):=(c1.mono fun k _ q=>.inl q).setCell (.inl (.inr rfl)) v;have he:∀k,k<w.heap.size->qm Z w.heap.size (0,1,0,0) k=Z k:=fun k hk=>if_pos hk;have hS:∀k,(vo.ownBlock=az k\/k=g0)->Z k=(0,1,0,0):=fun k q=>by
  rcases q with q|q
  ·exact oT k q
  ·rw[q];exact hT
 have hS0:∀k,(vo.ownBlock=az k\/k=g0)->(Z k).1=0:=fun k q=>by rw[hS k q]
 have r2:dh w2 g0 56 #[pt b,vi,vo,ah ag (tm:Int),.bool true]:=h.root.ch c1 h.Ua;have gv:v.ownBlock≠az g0:=xy own r2 (by decide);refine⟨{
  Us:=h.Us.jD hc he hS0
  root:=by have:=r2.jd 2 v;exact this
  iP:=by rw[he _ h.root.lt];exact hT
  Fz:=h.Fz
  ins:=⟨P,p1,fO p2 hc fun g hg q=>?_,fun x hx=>(p3 x hx).jD hc he fun k q=>by rw[hS k q];decide,fun g hg=>by rw[he _ (p2.lt g hg).2];exact p4 g hg⟩
  outs:=⟨⟨Q++[(d,dv)],by rw[eY,hQ];rfl,?_,fun x hx=>?_,fun g hg=>?_⟩,fun g hg=>?_⟩},⟨hc.mono fun k _ q=>.inr (hS k q),he⟩,r2.frozen 2,by rw[r2.cell];rfl,hc⟩
 ·rcases q with q|q
  ·exact Jl p2 d2 (by decide) g hg q
  ·exact h.afu (by rw[hg,q])
 ·rw[fP,bV];simp only[eO,BJ,jF,eQ,jZ];exact fO own (Oa (g:=g0) (j:=2) (v:=v)) fun g hg q=>gv (by rw[hg];exact congrArg az q)
 ·rcases eZ.1 hx with hx|hx
  ·exact(hdq x hx).jD hc he fun k q=>by rw[hS k q];decide
  ·rw[dz]at hx;subst hx;exact hd.jD hc he fun k q=>by rw[hS k q];decide
 ·rcases loc with e|⟨g1,e,hg1⟩
  ·rw[e]at hg;rw[he _ (d2.lt g hg).2];exact d4 g hg
  ·rw[e]at hg;injection hg with hg;show(qm Z _ _ g).1=0;unfold qm;rw[if_neg (by omega)]
 ·rcases loc with e|⟨g1,e,hg1⟩
  ·rw[e]at hg;rw[he _ (d2.lt g hg).2];exact oT g hg
  ·rw[e]at hg;injection hg with hg;show qm Z _ _ g=_;unfold qm;rw[if_neg (by omega)]
theorem pg.arz(h:pg B0 Z w g0 b ns cs L vi vo tm s){Q:List (Fm×aI)}(hQ:Q.map (·.1)=s.ins)(hdq:∀x∈Q,iQ Z w x.1.data x.2){x:Fm}{dv v:aI}(hd:iQ Z w x.data dv){wA:aG}(hA:aN w.heap.size w wA)(gr:wA.grownBy w2 vi.ownBlock)(own:w2.ownsRow B0 63 5 v (Q.length+1) (Q.flatMap (cSn s.f.aX)++cSn s.f.aX (x,dv)))(loc:v.ownBlock=vi.ownBlock\/∃g,v.ownBlock=az g/\w.heap.size<=g):pg B0 (qm Z w.heap.size (0,1,0,0)) (w2.setCell ⟨g0,1,aj⟩ v) g0 b ns cs L v vo tm ⟨s.f,s.ins++[x],s.outs⟩/\MG Z w (qm Z w.heap.size (0,1,0,0)) (w2.setCell ⟨g0,1,aj⟩ v)/\w2.frozen? ⟨g0,1,aj⟩=false/\w2.cell? ⟨g0,1,aj⟩=az vi:=by
 obtain⟨D,d1,d2,d3,d4⟩:=h.outs.1;obtain⟨P,p1,p2,p3,p4⟩:=h.ins;have hT:=h.iP;have oT:=h.outs.2;have c1:Ch (fun k=>vi.ownBlock=az k) w w2:=(Ch.bY hA).grown gr fun g e=>.inl e;have hc:Ch (fun k=>vi.ownBlock=az k\/k=g0) w (w2.setCell ⟨g0,1,aj⟩ v):=(c1.mono fun k _ q=>.inl q).setCell (.inl (.inr rfl)) v;have he:∀k,k<w.heap.size->qm Z w.heap.size (0,1,0,0) k=Z k:=fun k hk=>if_pos hk;have hS:∀k,(vi.ownBlock=az k\/k=g0)->Z k=(0,1,0,0):=fun k q=>by
  rcases q with q|q
  ·exact p4 k q
  ·rw[q];exact hT
 have hS0:∀k,(vi.ownBlock=az k\/k=g0)->(Z k).1=0:=fun k q=>by rw[hS k q]
 have r2:dh w2 g0 56 #[pt b,vi,vo,ah ag (tm:Int),.bool true]:=h.root.ch c1 h.afu;have gv:v.ownBlock≠az g0:=xy own r2 (by decide);refine⟨{
  Us:=h.Us.jD hc he hS0
  root:=by have:=r2.jd 1 v;exact this
  iP:=by rw[he _ h.root.lt];exact hT
  Fz:=h.Fz
  outs:=⟨⟨D,d1,fO d2 hc fun g hg q=>?_,fun x hx=>(d3 x hx).jD hc he fun k q=>by rw[hS k q];decide,fun g hg=>by rw[he _ (d2.lt g hg).2];exact d4 g hg⟩,fun g hg=>by rw[he _ (d2.lt g hg).2];exact oT g hg⟩
  ins:=⟨Q++[(x,dv)],by rw[eY,hQ];rfl,?_,fun y hy=>?_,fun g hg=>?_⟩},⟨hc.mono fun k _ q=>.inr (hS k q),he⟩,r2.frozen 1,by rw[r2.cell];rfl⟩
 ·rw[fP,bV];simp only[eO,BJ,jF,eQ,jZ];exact fO own (Oa (g:=g0) (j:=1) (v:=v)) fun g hg q=>gv (by rw[hg];exact congrArg az q)
 ·rcases eZ.1 hy with hy|hy
  ·exact(hdq y hy).jD hc he fun k q=>by rw[hS k q];decide
  ·rw[dz]at hy;subst hy;exact hd.jD hc he fun k q=>by rw[hS k q];decide
 ·rcases loc with e|⟨g1,e,hg1⟩
  ·rw[e]at hg;rw[he _ (p2.lt g hg).2];exact p4 g hg
  ·rw[e]at hg;injection hg with hg;show qm Z _ _ g=_;unfold qm;rw[if_neg (by omega)]
 ·rcases q with q|q
  ·exact Jl d2 p2 (by decide) g hg q
  ·exact h.Ua (by rw[hg,q])
end
theorem XW(a:Option Addr)(cp:Nat)(l:List Int)(w:aG)(hl:l.length<=1000000)(h:gI 1 Rq 0 w a l.length l):bZ aH 75 #[ay a l.length cp] w (pE 5 1 Rq l w):=by
 have hnil:∀(w:aG) (a:Option Addr) (n c n' c':Nat),(binOp .eql 27 (ay a n c) (ay aj n' c')).run aH w=.ok (.bool a.isNone) w:=fun w a n c n' c'=>Lib.run_eql_slice_nil w 27 5 a n c n' c' underlying27;cases a with
 |none=>
  obtain rfl:l=[]:=by
   rcases Nat.eq_zero_or_pos l.length with q|q
   ·exact List.eq_nil_of_length_eq_zero q
   ·obtain⟨b,off,e,_⟩:=h.2 q;cases e
  have F:aY (pE 5 1 Rq [] w (ax (ay aj 0 0)) w):=⟨_,rfl,World.ownsRow_nil _ _ _ _,aQ _ _⟩;clear h;go_enter func75,ntmps75;go_wp2_with fail;go_ret;exact F.o
 |some ad=>
  have RA:=aA ((tY (c:=Rq) (m:=1) (fun _=>rfl) h).alloc (aC _) (af #[] 5));have fo:=aA (ZI l);clear h;obtain⟨i0,hi0,wC,uX,wK⟩:=dX afd;go_enter func75,ntmps75;go_wp2_with (at_builtin;refine gW _ rfl (.tmp 5) (.tmp 6) 27 rfl w.heap.size 5 i0 _ 1 1 underlying27 hi0 wC uX wK rfl (by decide) _ 0 [] rfl (Jk w 5 1) w.heap.size _ l.length cp (l.flatMap Rq) rfl RA.o fo.out ?c3 ?c4 ?c5 ?_);case c3=>unfold maxLen;omega
  case c4=>omega
  case c5=>simp
  intro v1 w1 nV yo _;try simp only[Nat.zero_add,List.nil_append]at nV
  have gm:aY (aN w.heap.size w w1):=((aQ _ _).alloc (aC _) _).grown yo (by simp) (by intro g e;simp[Value.ownBlock]at e;omega);have F:aY (pE 5 1 Rq l w (ax v1) w1):=⟨v1,rfl,nV,gm.out⟩;clear nV yo;go_wp2_with fail;go_ret;exact F.o
end
section
section
variable{ns:List Nd}{cs:List Cb}{f g:dx}{N:Nat}
theorem Rk:∀(l:List (Nat×Fm)) (s:dx×List Dl),(∀d∈s.2,d.1=s.1.now)->∀d∈(l.foldl (dx.gV ns cs) s).2,d.1=s.1.now
 |[],_,h=>h
 |x::l,s,h=>by
  have e:=(uA.gV (ns:=ns) (cs:=cs) s x).nw;intro d hd;rw[<-e];refine Rk l (dx.gV ns cs s x) (fun y hy=>?_) d hd;rw[e];unfold dx.gV at hy;simp only at hy;split at hy
  ·exact h y hy
  ·rcases eZ.1 hy with hy|hy
   ·exact h y hy
   ·rw[dz]at hy;rw[hy]
theorem ZF(f:dx)(nr:Rt):(f.mh nr).now=f.now+1/\(f.mh nr).aX=f.aX:=by
 unfold dx.mh;split
 ·unfold dx.Ak;split<;>exact⟨rfl,rfl⟩
 ·exact⟨rfl,rfl⟩
theorem aiB(f:dx)(nr:Rt):(f.tick ns cs nr).1.now=f.now+1/\(f.tick ns cs nr).1.aX=f.aX:=by have h:=uA.tick (ns:=ns) (cs:=cs) f nr;have k:=ZF f nr;exact⟨h.nw.trans k.1,h.c.trans k.2⟩
theorem Zg(f:dx)(nr:Rt):∀d∈(f.tick ns cs nr).2,d.1=f.now+1:=by
 intro d hd;rw[KH]at hd;have h1:(((f.mh nr).mF cs).yR).now=f.now+1:=by have:((f.mh nr).mF cs).now=(f.mh nr).now:=(uA.fold (dx.ma cs) (fun f x=>⟨rfl,rfl,rfl,rfl,rfl,rfl,rfl,rfl,rfl⟩) _ _).nw;show((f.mh nr).mF cs).now=_;rw[this,(ZF f nr).1]
 rw[<-h1];exact Rk _ ({((f.mh nr).mF cs).yR with fl:=fun t=>if t=(((f.mh nr).mF cs).yR).now then[]else(((f.mh nr).mF cs).yR).fl t},[]) (fun y hy=>by cases hy) d hd
theorem ahQ(ok:dK ns cs f N)(jR kU cls:Int)(data:List Int):(f.iL ns jR kU cls data).1.aX=f.aX:=by
 rcases Gf ok jR kU cls data with⟨e,he,q⟩|⟨_,_,_,_,_,q⟩|⟨_,_,_,_,_,_,_,_,_,_,q⟩
 ·rw[q]
 ·rw[q]
 ·rw[q];show(f.iC f.dm 1).aX=f.aX;unfold dx.iC;split<;>rfl
theorem ahW(f:dx)(i:Int):(f.yE i).1.aX=f.aX/\(f.yE i).1.now=f.now:=by
 unfold dx.yE;split
 ·exact⟨rfl,rfl⟩
 ·split<;>exact⟨rfl,rfl⟩
theorem ahs{i:Int}(h:aku f i g):g.aX=f.aX/\g.now=f.now:=by
 rcases h with⟨_,rfl⟩|⟨_,dead,_,rfl⟩
 ·exact⟨rfl,rfl⟩
 ·have k:=uA.fold dx.jh uA.jh dead (f.Ty i.toNat);exact⟨k.c,k.nw⟩
end
end
section
open Go.RowKit Go.Maps
attribute [local go_sem ↓] fJ fH
def vP(a:nY)(aD:Option Addr)(cD:Nat):Array aI:=#[ah ag a.k,ah ag a.a,ah ag a.b,ah ag a.c,ah ag a.i,ay aD a.data.length cD]
def tL(B0:Nat)(Z:Own)(w:aG)(g0 b:Nat)(ns:List Nd)(cs:List Cb)(s:Iz)(a:nY)(e:Ending)(w':aG):Prop:=
 e=ax (.tuple #[])/\∃t dN L' vi' vo',UO ns cs s a t/\pg B0 dN w' g0 b ns cs L' vi' vo' t.f.now t/\MG Z w dN w'
theorem pg.begun{B0:Nat}{Z:Own}{w:aG}{g0 b:Nat}{ns:List Nd}{cs:List Cb}{L:rY}{vi vo:aI}{s:Iz}(h:pg B0 Z w g0 b ns cs L vi vo s.f.now s)(o:Obj):pg B0 (fr Z w.heap.size) (w.alloc o) g0 b ns cs L vi vo s.f.now s/\MG Z w (fr Z w.heap.size) (w.alloc o):=
 have hb:aN w.heap.size w (w.alloc o):=(aQ _ _).alloc (aC _) _
 ⟨h.below hb,(qo.bY hb).w⟩
theorem pg.drew{B0:Nat}{Z:Own}{w:aG}{g0 b:Nat}{ns:List Nd}{cs:List Cb}{L:rY}{vi vo:aI}{tm:Nat}{s:Iz}(h:pg B0 Z w g0 b ns cs L vi vo tm s):pg B0 Z w.drew g0 b ns cs L vi vo tm s:=
 h.jD (S:=fun _=>False) (Ch.refl _ w).drew (fun _ _=>rfl) (fun _ q=>q.elim)
theorem MG.drew{Z dN:Own}{w w':aG}(h:MG Z w dN w'):MG Z w dN w'.drew:=⟨h.ch.drew,h.ext⟩
section
variable(B0:Nat)(Z:Own)(w:aG)(g0 b:Nat)(ns:List Nd)(cs:List Cb)(L:rY)(vi vo:aI)(s:Iz)(a:nY)(aD:Option Addr)(cD:Nat)
theorem aeg(h:pg B0 Z w g0 b ns cs L vi vo s.f.now s)(h0:a.k≠0)(h1:a.k≠1)(h2:a.k≠2)(h3:a.k≠3):bZ aH 27 #[pt g0,.agg (vP a aD cD)] w (tL B0 Z w g0 b ns cs s a):=by obtain⟨m1,n1⟩:=h.begun (af (vP a aD cD) 29);have P1:=dh.new w 29 (vP a aD cD);have F:aY (tL B0 Z w g0 b ns cs s a (ax (.tuple #[])) (w.alloc (af (vP a aD cD) 29))):=⟨rfl,s,_,L,vi,vo,.inr (.inr (.inr (.inr ⟨⟨h0,h1,h2,h3⟩,rfl⟩))),m1,n1⟩;obtain⟨w1,gK⟩:∃w1:aG,w.alloc (af (vP a aD cD) 29)=w1:=⟨_,rfl⟩;rw[gK]at F P1;have c0:=P1.cell 0;unfold vP at gK c0|-;clear m1 n1 h P1;unfold pt;obtain⟨ak,aa,ab,ac,ai,ad⟩:=a;simp only at h0 h1 h2 h3 gK c0 F|-;go_enter func27,ntmps27;go_wp2_with fail;exact bodyPost_end (results_none rfl _ _ _) rfl F.o
theorem aef(h:pg B0 Z w g0 b ns cs L vi vo s.f.now s)(yD:s.f.up.length<=32)(h3:a.k=3):bZ aH 27 #[pt g0,.agg (vP a aD cD)] w (tL B0 Z w g0 b ns cs s a):=by
 obtain⟨m1,n1⟩:=h.begun (af (vP a aD cD) 29);have P1:=dh.new w 29 (vP a aD cD);obtain⟨w1,gK⟩:∃w1:aG,w.alloc (af (vP a aD cD) 29)=w1:=⟨_,rfl⟩;rw[gK]at m1 n1 P1;have MEND:=aA (abB a.i m1.drew.Us yD);have F:aY (∀w',jW (fr Z w.heap.size) w1.drew b ns cs L (s.f.yE a.i).1 w'->tL B0 Z w g0 b ns cs s a (ax (.tuple #[])) w'):=fun w' ⟨dN,m',n'⟩=>by have k:=ahW s.f a.i;refine⟨rfl,⟨(s.f.yE a.i).1,s.ins,s.outs⟩,dN,L,vi,vo,.inr (.inr (.inr (.inl ⟨h3,rfl⟩))),?_,n1.drew.trans n'.w⟩;have:=m1.drew.call m' n' k.1;rw[<-k.2]at this;exact this
 have c0:=P1.cell 0;have c4:=P1.cell 4;have r0:w1.cell? ⟨g0,0,aj⟩=az (au (az ⟨b,0,aj⟩)):=m1.root.cell 0;have HK:aY (∀dN w',qo (fr Z w.heap.size) w1.drew dN w'->w'.cell? ⟨g0,0,aj⟩=az (au (az ⟨b,0,aj⟩))/\w'.cell? ⟨w.heap.size,4,aj⟩=az (ah ag a.i)):=fun dN w' n=>by
  have q0:¬2<=(fr Z w.heap.size g0).1:=by rw[m1.iP];decide
  have q1:¬2<=(fr Z w.heap.size w.heap.size).1:=by rw[lL (aC _)];decide
  exact⟨(n.ch.cell (p:=⟨g0,0,aj⟩) m1.root.lt q0).trans r0,(n.ch.cell (p:=⟨w.heap.size,4,aj⟩) P1.lt q1).trans c4⟩
 unfold vP at gK c0 c4|-;obtain⟨ak,aa,ab,ac,ai,ad⟩:=a;simp only at h3 gK c0 c4 F MEND HK|-;subst h3;clear m1 n1 h P1;unfold pt at *;go_enter func27,ntmps27;go_wp2_with fail;go_region_held3 (fun wq=>wq.cell? ⟨g0,0,aj⟩=az (au (az ⟨b,0,aj⟩))/\wq.cell? ⟨w.heap.size,4,aj⟩=az (ah ag ai))
  (first|exact⟨r0,c4⟩|exact G2)
  (first|(go_at_call 17;(with_reducible refine MEND.o.mono ?_);rintro e w7 ⟨rfl,hf⟩;have G:=aA (F.o w7 hf);obtain⟨Qy,m7,n7⟩:=hf;have G2:=HK.o _ _ n7;clear m7 n7))
 go_wp2_with fail;exact bodyPost_end (results_none rfl _ _ _) rfl G.o
theorem aha(h:pg B0 Z w g0 b ns cs L vi vo s.f.now s)(hp:sS ns cs)(N:Nat)(rR:dK ns cs s.f N)(hfl:Be cs s.f)(hN:N<=700000000)(B:Nat)(hB:s.f.now+101<=B)(hgo:(Cf B s.f.fl a.i.toNat).length<=1000000)(h2:a.k=2):bZ aH 27 #[pt g0,.agg (vP a aD cD)] w (tL B0 Z w g0 b ns cs s a):=by
 obtain⟨m1,n1⟩:=h.begun (af (vP a aD cD) 29);have P1:=dh.new w 29 (vP a aD cD);obtain⟨w1,gK⟩:∃w1:aG,w.alloc (af (vP a aD cD) 29)=w1:=⟨_,rfl⟩;rw[gK]at m1 n1 P1;have CUT:=aA (aeG s.f N a.i b ns cs L _ _ m1.drew.Us hp rR hfl hN B hB hgo);have F:aY (∀e w',Cy (fr Z w.heap.size) w1.drew b ns cs s.f a.i e w'->tL B0 Z w g0 b ns cs s a (ax (.tuple #[])) w'):=fun e w' ⟨_,g,hr,dN,L',m',n'⟩=>by have k:=ahs hr;refine⟨rfl,⟨g,s.ins,s.outs⟩,dN,L',vi,vo,.inr (.inr (.inl ⟨h2,hr,rfl,rfl⟩)),?_,n1.drew.trans n'.w⟩;have:=m1.drew.call m' n' k.1;rw[<-k.2]at this;exact this
 have c0:=P1.cell 0;have c4:=P1.cell 4;have r0:w1.cell? ⟨g0,0,aj⟩=az (au (az ⟨b,0,aj⟩)):=m1.root.cell 0;have HK:aY (∀dN w',qo (fr Z w.heap.size) w1.drew dN w'->w'.cell? ⟨g0,0,aj⟩=az (au (az ⟨b,0,aj⟩))/\w'.cell? ⟨w.heap.size,4,aj⟩=az (ah ag a.i)):=fun dN w' n=>by
  have q0:¬2<=(fr Z w.heap.size g0).1:=by rw[m1.iP];decide
  have q1:¬2<=(fr Z w.heap.size w.heap.size).1:=by rw[lL (aC _)];decide
  exact⟨(n.ch.cell (p:=⟨g0,0,aj⟩) m1.root.lt q0).trans r0,(n.ch.cell (p:=⟨w.heap.size,4,aj⟩) P1.lt q1).trans c4⟩
 unfold vP at gK c0 c4|-;obtain⟨ak,aa,ab,ac,ai,ad⟩:=a;simp only at h2 gK c0 c4 F CUT HK|-;subst h2;clear m1 n1 h P1 rR hfl hp hgo;unfold pt at *;go_enter func27,ntmps27;go_wp2_with fail;go_region_held3 (fun wq=>wq.cell? ⟨g0,0,aj⟩=az (au (az ⟨b,0,aj⟩))/\wq.cell? ⟨w.heap.size,4,aj⟩=az (ah ag ai))
  (first|exact⟨r0,c4⟩|exact G2)
  (first|(go_at_call 16;(with_reducible refine CUT.o.mono ?_);rintro e w7 hf;have G:=aA (F.o e w7 hf);obtain⟨rfl,g7,hr7,Qy,L7,m7,n7⟩:=hf;have G2:=HK.o _ _ n7;clear m7 n7 hr7))
 go_wp2_with fail;exact bodyPost_end (results_none rfl _ _ _) rfl G.o
end
def adV(B0:Nat)(xL:Own)(w3:aG)(lo hi g0 b:Nat)(ns:List Nd)(cs:List Cb)(L3:rY)(vi:aI)(tm:Nat)(f3:dx)(ins:List Fm)(outs D:List Dl)(i:aI)(wr:aG):Prop:=
 ∃k:Nat,k<=D.length/\i=ah ag k/\∃dN vo',pg B0 dN wr g0 b ns cs L3 vi vo' tm ⟨f3,ins,outs++D.take k⟩/\MG xL w3 dN wr/\Ch (fun k=>k<lo) w3 wr/\∀g,vo'.ownBlock=az g->g<lo\/hi<=g
theorem aeh(B0:Nat)(Z:Own)(w:aG)(g0 b:Nat)(ns:List Nd)(cs:List Cb)(L:rY)(vi vo:aI)(s:Iz)(a:nY)(aD:Option Addr)(cD:Nat)(h:pg B0 Z w g0 b ns cs L vi vo s.f.now s)(hb0:B0<=w.heap.size)(hp:sS ns cs)(h8:ns.length<=8)(LY:cs.length<=10)(hv:fT ⟨ns,cs⟩=0)(tu:QI ⟨ns,cs⟩){B n:Nat}(hk:NY ns cs B n s)(hB:n+102<=B)(hn:n<=14000)(h0:a.k=0):bZ aH 27 #[pt g0,.agg (vP a aD cD)] w (tL B0 Z w g0 b ns cs s a):=by
 obtain⟨m1,n1⟩:=h.begun (af (vP a aD cD) 29);have P1:=dh.new w 29 (vP a aD cD);have hs1:(w.alloc (af (vP a aD cD) 29)).heap.size=w.heap.size+1:=by simp
 obtain⟨w1,gK⟩:∃w1:aG,w.alloc (af (vP a aD cD) 29)=w1:=⟨_,rfl⟩;rw[gK]at m1 n1 P1 hs1;have ayt:s.f.now<=14000:=by have:=hk.nw;omega
 have hwr:wrap64 ((s.f.now:Int)+1)=(s.f.now:Int)+1:=by unfold wrap64;omega
 have c0:=P1.cell 0;have r3:w1.cell? ⟨g0,3,aj⟩=az (ah ag (s.f.now:Int)):=m1.root.cell 3;have f3:=m1.root.frozen 3;obtain⟨m2,n2⟩:=m1.acG (s.f.now+1);rw[show(((s.f.now+1:Nat):Int))=(s.f.now:Int)+1 from rfl]at m2 n2;obtain⟨w2,Ld⟩:∃w2:aG,w1.setCell ⟨g0,3,aj⟩ (ah ag ((s.f.now:Int)+1))=w2:=⟨_,rfl⟩;rw[Ld]at m2 n2;have hs2:w2.heap.size=w1.heap.size:=by rw[<-Ld];simp
 have r0:w2.cell? ⟨g0,0,aj⟩=az (au (az ⟨b,0,aj⟩)):=m2.root.cell 0;have apT:=aA (Rz s.f (n*42000) b ns cs L _ w2 m2.Us hp hk.ok hk.fl LY hv tu hk.ok.up (by omega));have N2:=aA (n1.trans n2);have M2:=aA m2;have aGH:=aA h.outs;have HWK:=aA hk;have HPL:=aA hp;have TI:=aA (fun nr=>Zg (ns:=ns) (cs:=cs) s.f nr);have TN:=aA (fun nr=>aiB (ns:=ns) (cs:=cs) s.f nr);have G0:aY (g0<w.heap.size/\w.heap.size+1=w2.heap.size/\B0<=w.heap.size):=⟨h.root.lt,by omega,hb0⟩;have OL:aY (∀g,vo.ownBlock=az g->g<w.heap.size):=fun g hg=>by obtain⟨Q,_,d2,_⟩:=h.outs.1;exact(d2.lt g hg).2
 obtain⟨i0,hi0,zb,Ad,Ae⟩:=dX ZP;obtain⟨nw0,ahL⟩:∃nw0,s.f.now=nw0:=⟨_,rfl⟩;unfold vP at gK c0|-;have HST:aY (∀e w',tL B0 Z w g0 b ns cs s a e w'->tL B0 Z w g0 b ns cs s a e w'):=fun _ _ q=>q;generalize Ej:tL B0 Z w g0 b ns cs s a=NW at *;have SK:=aA Ej;obtain⟨ak,aa,ab,ac,ai,ad⟩:=a;simp only at h0 gK c0|-;clear m1 n1 m2 n2 h P1 hk hp tu Ej HST;rw[ahL]at r3 hwr Ld;subst h0;unfold pt at *;go_enter func27,ntmps27;go_wp2_with (first|(go_at_call 15;(with_reducible refine apT.out.mono ?_);rintro e w3 ⟨nr,hr1,hr2,vD,rfl,xL,L3,m3,n3,d3⟩;have NR:=aA hr1;have NR2:=aA hr2;have M3:=aA m3;have N3:=aA n3;obtain⟨Q3,q1,Jh,aqE,tg3⟩:=d3;have Q1:=aA q1;have OW3:=aA Jh;have DT3:=aA aqE;obtain⟨dA,dC,eD⟩:=dO Jh;subst eD;clear m3 n3 hr1 hr2 q1 Jh aqE tg3));have OKT:=aA (HWK.o.step HPL.o h8 (a:=⟨0,aa,ab,ac,ai,ad⟩) (t:=⟨(s.f.tick ns cs nr).1,s.ins,s.outs++(s.f.tick ns cs nr).2⟩) (.inl ⟨rfl,nr,NR.o,NR2.o,rfl⟩) hB hn);have W3:=aA (M2.o.call M3.o N3.o (TN.o nr).2);have TKS:=aA (TI.o nr);have F:aY (∀dN vo' w',pg B0 dN w' g0 b ns cs L3 vi vo' (nw0+1) ⟨(s.f.tick ns cs nr).1,s.ins,s.outs++(s.f.tick ns cs nr).2⟩->MG xL w3 dN w'->NW (ax (.tuple #[])) w'):=fun dN vo' w' m' n'=>by rw[<-SK.o];refine⟨rfl,⟨(s.f.tick ns cs nr).1,s.ins,s.outs++(s.f.tick ns cs nr).2⟩,dN,L3,vi,vo',.inl ⟨rfl,nr,NR.o,NR2.o,rfl⟩,?_,(N2.o.trans N3.o.w).trans n'⟩;rw[show(s.f.tick ns cs nr).1.now=nw0+1 by rw[(TN.o nr).1,ahL]];exact m'
 have LEN:aY ((s.outs++(s.f.tick ns cs nr).2).length<=14001):=by have h1:=OKT.o.ac.len;have h2:=OKT.o.il;have h3:=OKT.o.la;rw[dE]at h1;show(s.outs++(s.f.tick ns cs nr).2).length<=14001;have h1':Gd (fun _=>1) B (s.f.tick ns cs nr).1 []+(s.outs++(s.f.tick ns cs nr).2).length+(s.f.tick ns cs nr).1.lost.length=s.ins.length:=h1;have h2':s.ins.length=(s.f.tick ns cs nr).1.last:=h2;have h3':(s.f.tick ns cs nr).1.last<=n+1:=h3;omega
 rw[ahL]at TKS;clear OKT TI TN apT M2 NR NR2 M3 HWK HPL;obtain⟨f3',hf3⟩:∃f3',(s.f.tick ns cs nr).1=f3':=⟨_,rfl⟩;obtain⟨D,hD⟩:∃D,(s.f.tick ns cs nr).2=D:=⟨_,rfl⟩;rw[hf3]at W3 F;rw[hD]at F LEN TKS Q1;rw[ahL]at W3;clear hf3 hD;obtain⟨tm,htm⟩:∃tm,nw0+1=tm:=⟨_,rfl⟩;rw[htm]at W3 F TKS;have lQ:aY (Q3.length=D.length):=by rw[aY,<-Q1.o,dE]
 obtain⟨lo,hlo⟩:∃lo,w2.heap.size=lo:=⟨_,rfl⟩;obtain⟨hi,hhi⟩:∃hi,w3.heap.size=hi:=⟨_,rfl⟩;have GL:aY (g0<lo/\lo<=hi/\w3.heap.size=hi/\B0<=lo/\w.heap.size<lo):=by have h1:=G0.o;have h2:=N3.o.ch.size;rw[aY];omega
 have ROW:aY (∀wr,Ch (fun k=>k<lo) w3 wr->∀k,k<Q3.length->∃g,dA=az ⟨g,0,aj⟩/\∀j,j<8->wr.cell? ⟨g,k*8+j,aj⟩=(Xa (Q3.getD k ((0,0,default),undef)))[j]?):=fun wr hc k hk=>by obtain⟨g,cap,e1,_,hl,ho,hcl⟩:=nH (d:=(((0,0,default):Dl),undef)) OZ OW3.o rfl hk;injection e1 with e1;refine⟨g,e1,fun j hj=>?_⟩;rw[hc.cell (p:=⟨g,k*8+j,aj⟩) hl fun s=>by have h1:=(OW3.o.lt g ho).1;have s:g<lo:=s;omega];exact hcl k hk j hj
 have ST:aY (adV B0 xL w3 lo hi g0 b ns cs L3 vi tm f3' s.ins s.outs D (ah ag 0) w3):=⟨0,Nat.zero_le _,rfl,xL,vo,by rw[List.take_zero,jF];exact W3.o,MG.refl _ _,Ch.refl _ _,fun g hg=>.inl (by have h1:=OL.o g hg;have h2:=GL.o;omega)⟩;have lD:D.length<=14001:=by have:=LEN.o;rw[bV]at this;omega
 have DTD:aY (∀x∈Q3,∃va c,x.2=ay va x.1.2.2.data.length c):=fun x hx=>by obtain⟨va,c,e,_⟩:=DT3.o x hx;exact⟨va,c,e⟩
 clear N2 OW3 hlo hhi r0 r3 hwr N3 W3 G0;go_loopw [5,26] (fun _ i wr=>adV B0 xL w3 lo hi g0 b ns cs L3 vi tm f3' s.ins s.outs D i wr) (fun _ i _=>D.length-(aJ i).toNat);case atStart=>exact ST.o
 case round=>
  clear ST;obtain⟨k,hk,rfl,τr,vr,mr,nr',cr,lr⟩:=hrel;by_cases yY:k<D.length
  ·have hkq:k<Q3.length:=by have:=lQ.out;omega
   obtain⟨g,eg,cg⟩:=ROW.o wr cr k hkq;subst eg;have hm:Q3.getD k ((0,0,default),undef)∈Q3:=(by simp[bJ,hkq]);have hx1:D.getD k (0,0,default)=(Q3.getD k ((0,0,default),undef)).1:=(by rw[<-Q1.o];simp[bJ,hkq]);have hxt:(D.getD k (0,0,default)).1=tm:=TKS.o _ (by simp[bJ,yY]);have TK:=aA (ji (0,0,default) D k yY);rw[hx1]at TK hxt;obtain⟨va,vk,eV⟩:=DTD.o _ hm;have DX:=aA (DT3.o _ hm);generalize Q3.getD k ((0,0,default),undef)=x at *;obtain⟨⟨dt,du,⟨xi,xf,xt,xl,xe,xd⟩⟩,xv⟩:=x;simp only at eV hxt;subst eV;have hxt:=hxt.symm;subst hxt;have m0:=cg 0 (by omega);have m1:=cg 1 (by omega);have m2:=cg 2 (by omega);have m3:=cg 3 (by omega);have m4:=cg 4 (by omega);have m5:=cg 5 (by omega);have m6:=cg 6 (by omega);have m7:=cg 7 (by omega);simp only[Xa,Cx,Nat.add_zero,List.getElem?_cons_zero,List.getElem?_cons_succ]at m0 m1 m2 m3 m4 m5 m6 m7;clear cg;have kq0:(0:Int)<=(k:Int):=(by omega);have kq1:(k:Int)<(Q3.length:Int):=(by omega);obtain⟨wb,Nb⟩:∃wb:aG,wr.alloc (af #[ah ag (tm:Int),ah ag (du:Int),ah ag xi,ah ag xf,ah ag xt,ah ag xl,ah ag xe,ay va xd.length vk] 61)=wb:=⟨_,rfl⟩;have BB:aN wr.heap.size wr wb:=(by rw[<-Nb];exact(aQ _ _).alloc (aC _) _);have VB:dh wb wr.heap.size 61 #[ah ag (tm:Int),ah ag (du:Int),ah ag xi,ah ag xf,ah ag xt,ah ag xl,ah ag xe,ay va xd.length vk]:=(by rw[<-Nb];exact dh.new wr _ _);obtain⟨bX,hbX⟩:∃bX,wr.heap.size=bX:=⟨_,rfl⟩;rw[hbX]at VB;have mb:=mr.below BB;have SET:=mb.drew.ait;obtain⟨w7,hw7⟩:∃w7,wb.drew=w7:=⟨_,rfl⟩;have z7:=mb.drew;have VB7:=VB.drew;rw[hw7]at z7 VB7 SET;have k4:w7.cell? ⟨g0,4,aj⟩=az (.bool true):=z7.root.cell 4;have k3:w7.cell? ⟨g0,3,aj⟩=az (ah ag (tm:Int)):=z7.root.cell 3;have kx0:w7.cell? ⟨bX,0,aj⟩=az (ah ag (tm:Int)):=VB7.cell 0;have f4:=z7.root.frozen 4;have M7:=aA z7;have NR7:aY (MG xL w3 (fr τr wr.heap.size) w7):=(by rw[aY,<-hw7];exact(nr'.trans (qo.bY BB).w).drew);have CR7:aY (Ch (fun k=>k<lo) w3 w7):=(by rw[aY,<-hw7];exact(cr.rW BB).drew);obtain⟨Q7,q7,Ku,aeD,tg7⟩:=z7.outs.1;have HQ7:=aA q7;have OW7:=aA Ku;have DT7:=aA aeD;obtain⟨a3,c3,eV⟩:=dO Ku;subst eV;have k2:w7.cell? ⟨g0,2,aj⟩=az (ay a3 Q7.length c3):=z7.root.cell 2;have DX7:aY (iQ (fr τr wr.heap.size) w7 xd (ay va xd.length vk)):=by
    have h1:iQ τr wr xd (ay va xd.length vk):=by
     refine DX.o.jD nr'.ch nr'.ext fun k s=>?_;rcases s with s|s
     ·omega
     ·rw[s];decide
    have h2:iQ (fr τr wr.heap.size) wb xd (ay va xd.length vk):=h1.jD (S:=fun _=>False) (Ch.bY BB) (fun _ hk=>gL hk) fun _ s=>s.elim;rw[aY,<-hw7];exact h2.jD (S:=fun _=>False) (Ch.refl _ wb).drew (fun _ _=>rfl) fun _ s=>s.elim
   have VX7:aY (dh w7 bX 61 #[ah ag (tm:Int),ah ag (du:Int),ah ag xi,ah ag xf,ah ag xt,ah ag xl,ah ag xe,ay va xd.length vk]):=VB7;have agW:=aA SET.2;have SZ:aY (hi<=w7.heap.size/\B0<=w7.heap.size):=(by have h1:=CR7.o.size;have h2:=GL.o;rw[aY];omega);have L7:aY (Q7.length<=14001):=(by have h1:Q7.length=(s.outs++D.take k).length:=(by have:=congrArg List.length HQ7.o;rw[dE]at this;exact this);have h2:=LEN.o;rw[bV,List.length_take]at h1;rw[bV]at h2;rw[aY];omega);have LR:=aA lr;have KU:aY (bX≠g0/\∀q,(ay a3 Q7.length c3).ownBlock=az q->bX≠q):=⟨dh.sU VB7 z7.root (by decide),fun q hq e=>by have h1:(mr.outs.1).choose_spec=(mr.outs.1).choose_spec:=rfl;obtain⟨Qr,_,d2,_⟩:=mr.outs.1;have:=(d2.lt q hq).2;omega⟩;clear z7 mr mb BB VB VB7 SET nr' cr Ku aeD tg7 q7 lr DX;go_wp2_with fail;refine fQ 16 (fun wq=>wq.cell? ⟨g0,4,aj⟩=az (.bool true)/\wq.cell? ⟨bX,0,aj⟩=az (ah ag (tm:Int))/\wq.cell? ⟨g0,3,aj⟩=az (ah ag (tm:Int))) (by kernel_rfl) (by rw[hw7];exact⟨k4,kx0,k3⟩) (fun aW=>?_);rw[hw7]at aW|-;refine bH.tk 0 aW ?_;try simp only[bI]
   refine bH.tk 1 aW ?_;try simp only[bI]
   refine bH.tk 2 aW ?_;try simp only[bI]
   refine bH.tk 3 aW ?_;try simp only[bI]
   refine bH.tk 4 aW ?_;try simp only[bI]
   refine bH.tk 5 aW ?_;try simp only[bI]
   refine bH.tk 6 aW ?_;try simp only[bI]
   refine bH.tk 7 aW ?_;try simp only[bI]
   refine bH.tk 8 aW ?_;try simp only[bI]
   refine bH.tk 9 aW ?_;try simp only[bI]
   refine bH.tk 10 aW ?_;try simp only[bI]
   refine bH.tk 11 aW ?_;try simp only[bI]
   refine bH.tk 12 aW ?_;try simp only[bI]
   refine bH.tk 13 aW ?_;try simp only[bI]
   refine bH.tk 14 aW ?_;try simp only[bI]
   refine bH.tk 15 aW ?_;try simp only[bI]
   refine bH.one (i:=16) (by kernel_rfl) rfl (fun K hK=>?_);go_simp;refine hK.out _ _ (fun h=>absurd rfl h) (fun _=>?_);clear hK;refine bH.done (by kernel_rfl) ?_ _;try simp only[bI]
   rw[agW.out];have RN:aY (Reads (w7.alloc (af #[ah ag (tm:Int),ah ag (du:Int),ah ag xi,ah ag xf,ah ag xt,ah ag xl,ah ag xe,ay va xd.length vk] 61)).drew (w7.heap.size+1) 8 (az ⟨w7.heap.size,0,aj⟩) 1 [ah ag (tm:Int),ah ag (du:Int),ah ag xi,ah ag xf,ah ag xt,ah ag xl,ah ag xe,ay va xd.length vk]):=(iB w7 61 [ah ag (tm:Int),ah ag (du:Int),ah ag xi,ah ag xf,ah ag xt,ah ag xl,ah ag xe,ay va xd.length vk] (n:=1) (size:=8) rfl).drew;have OW:aY ((w7.alloc (af #[ah ag (tm:Int),ah ag (du:Int),ah ag xi,ah ag xf,ah ag xt,ah ag xl,ah ag xe,ay va xd.length vk] 61)).drew.ownsRow B0 61 8 (ay a3 Q7.length c3) Q7.length (Q7.flatMap Xa)):=OW7.o.alloc (af #[ah ag (tm:Int),ah ag (du:Int),ah ag xi,ah ag xf,ah ag xt,ah ag xl,ah ag xe,ay va xd.length vk] 61);have KS:aY (∀wq,Ch (fun k=>(ay a3 Q7.length c3).ownBlock=az k) w7 wq->(fun wq=>wq.cell? ⟨g0,2,aj⟩=az (ay a3 Q7.length c3)/\wq.cell? ⟨bX,0,aj⟩=az (ah ag (tm:Int))/\wq.cell? ⟨bX,1,aj⟩=az (ah ag (du:Int))/\wq.cell? ⟨bX,2,aj⟩=az (ah ag xi)/\wq.cell? ⟨bX,3,aj⟩=az (ah ag xf)/\wq.cell? ⟨bX,4,aj⟩=az (ah ag xt)/\wq.cell? ⟨bX,5,aj⟩=az (ah ag xl)/\wq.cell? ⟨bX,6,aj⟩=az (ah ag xe)/\wq.cell? ⟨bX,7,aj⟩=az (ay va xd.length vk)) wq):=fun wq hq=>by
    have nb:∀{q:Nat} {z:aI},w7.cell? ⟨bX,q,aj⟩=az z->wq.cell? ⟨bX,q,aj⟩=az z:=fun{q z} hz=>
     (hq.cell (p:=⟨bX,q,aj⟩) (World.block_lt_of_cell? w7 _ hz) fun s=>KU.o.2 _ s rfl).trans hz
    have e2:wq.cell? ⟨g0,2,aj⟩=az (ay a3 Q7.length c3):=(hq.cell (p:=⟨g0,2,aj⟩) M7.o.root.lt fun s=>M7.o.Ua s).trans k2;have v:=VX7.o;exact⟨e2,nb (v.cell 0),nb (v.cell 1),nb (v.cell 2),nb (v.cell 3),nb (v.cell 4),nb (v.cell 5),nb (v.cell 6),nb (v.cell 7)⟩
   have iZ:aY (∀v8 w8,w8.ownsRow B0 61 8 v8 (Q7.length+1) (Q7.flatMap Xa++[ah ag (tm:Int),ah ag (du:Int),ah ag xi,ah ag xf,ah ag xt,ah ag xl,ah ag xe,ay va xd.length vk])->(w7.alloc (af #[ah ag (tm:Int),ah ag (du:Int),ah ag xi,ah ag xf,ah ag xt,ah ag xl,ah ag xe,ay va xd.length vk] 61)).grownBy w8 (ay a3 Q7.length c3).ownBlock->(v8.ownBlock=(ay a3 Q7.length c3).ownBlock\/v8.ownBlock=az (w7.heap.size+1))->adV B0 xL w3 lo hi g0 b ns cs L3 vi tm f3' s.ins s.outs D (ah ag ((k:Int)+1)) (w8.setCell ⟨g0,2,aj⟩ v8)/\w8.frozen? ⟨g0,2,aj⟩=false/\w8.cell? ⟨g0,2,aj⟩=az (ay a3 Q7.length c3)):=fun v8 w8 ho hg hl=>by
    obtain⟨o1,o2,o3,o4,o5⟩:=M7.o.amE HQ7.o DT7.o (d:=(tm,du,⟨xi,xf,xt,xl,xe,xd⟩)) (dv:=ay va xd.length vk) DX7.o ((aQ _ _).alloc (aC _) _) hg (by simpa[Xa,Cx]using ho) (hl.elim .inl fun e=>.inr ⟨_,e,by omega⟩);refine⟨⟨k+1,by omega,by congr 1,_,v8,by rw[TK.o,<-List.append_assoc];exact o1,NR7.o.trans o2,CR7.o.trans o5 fun i hi' s=>?_,fun q hq=>?_⟩,o3,o4⟩
    ·have h1:=GL.o;rcases s with s|s
     ·have:=LR.o i s;show i<lo;omega
     ·show i<lo;omega
    ·rcases hl with e|e
     ·rw[e]at hq;exact LR.o q hq
     ·rw[e]at hq;injection hq with hq;have:=SZ.o;omega
   have k8:=KS.o w7.drew (Ch.refl _ w7).drew;clear k4 kx0 k3 f4 k2 M7 NR7 CR7 HQ7 DT7 DX7 VX7 agW LR KU TK;go_wp2_with fail;refine fQ 10 (fun wq=>wq.cell? ⟨g0,2,aj⟩=az (ay a3 Q7.length c3)/\wq.cell? ⟨bX,0,aj⟩=az (ah ag (tm:Int))/\wq.cell? ⟨bX,1,aj⟩=az (ah ag (du:Int))/\wq.cell? ⟨bX,2,aj⟩=az (ah ag xi)/\wq.cell? ⟨bX,3,aj⟩=az (ah ag xf)/\wq.cell? ⟨bX,4,aj⟩=az (ah ag xt)/\wq.cell? ⟨bX,5,aj⟩=az (ah ag xl)/\wq.cell? ⟨bX,6,aj⟩=az (ah ag xe)/\wq.cell? ⟨bX,7,aj⟩=az (ay va xd.length vk)) (by kernel_rfl) k8 (fun aW=>?_);refine bH.tk 0 aW ?_;try simp only[bI]
   refine bH.tk 1 aW ?_;try simp only[bI]
   refine bH.tk 2 aW ?_;try simp only[bI]
   refine bH.tk 3 aW ?_;try simp only[bI]
   refine bH.tk 4 aW ?_;try simp only[bI]
   refine bH.tk 5 aW ?_;try simp only[bI]
   refine bH.one (i:=6) (by kernel_rfl) rfl (fun K hK=>?_);go_simp;refine hK.out _ _ (fun _=>KS.o _ ((Ch.refl _ _).alloc _).drew) (fun bU=>?_);have aW:=bU (by decide);clear hK bU;try simp only[bI]
   refine bH.one (i:=7) (by kernel_rfl) rfl (fun K hK=>?_);refine fV _ (by rfl) (.tmp 50) (.tmp 52) 39 (by rfl) B0 61 i0 _ 8 80 underlying39 hi0 zb Ad Ae rfl (by decide) _ _ _ (by rfl) OW.o _ (az ⟨w7.heap.size,0,aj⟩) 1 1 [ah ag (tm:Int),ah ag (du:Int),ah ag xi,ah ag xf,ah ag xt,ah ag xl,ah ag xe,ay va xd.length vk] (by rfl) RN.o ?_ ?_ ?_ ?_ ?_
   ·intro u hu;simp only[dG,dP,or_false]at hu;rcases hu with rfl|rfl|rfl|rfl|rfl|rfl|rfl|rfl<;>rfl
   ·have:=L7.o;unfold maxLen;omega
   ·have:=L7.o;omega
   ·exact dZ SZ.o.2 ((Ch.refl (fun _=>False) w7).alloc _).drew.size
   intro v8 w8 Jj AX Me;obtain⟨a8,c8,eV8⟩:=dO Jj;subst eV8;have RR:=iZ.out _ w8 Jj ⟨AX.os,AX.tape,AX.output,AX.size,AX.block⟩ (by simpa using Me);have R:=aA RR.1;have fz:=RR.2.1;have cz:=RR.2.2;have k15:=KS.o w8 (((Ch.refl _ w7).alloc _).grown ⟨AX.os,AX.tape,AX.output,AX.size,AX.block⟩ fun g hg=>.inl hg);clear Jj AX Me RR iZ;refine hK.out _ _ (fun _=>k15) (fun bU=>?_);have aW:=bU (by decide);clear hK bU;try simp only[bI]
   clear k15;refine bH.tk 8 aW ?_;try simp only[bI]
   refine bH.tk 9 aW ?_;try simp only[bI]
   refine bH.one (i:=10) (by kernel_rfl) rfl (fun K hK=>?_);go_simp;refine hK.out _ _ (fun h=>absurd rfl h) (fun _=>?_);clear hK;refine bH.done (by kernel_rfl) ?_ _;try simp only[bI]
   go_wp2_with fail;exact⟨R.o,by simp[aJ];omega⟩
  ·obtain rfl:k=D.length:=by omega
   rw[List.take_length]at mr;have FF:=aA (F.o _ _ _ mr nr');clear mr nr' cr lr;have hq:¬(D.length:Int)<(Q3.length:Int):=by have:=lQ.out;omega
   go_wp2_with fail;exact bodyPost_end (results_none rfl _ _ _) rfl FF.o
theorem afc:(Tryz.prog.info? 63).map (fun i=>(i.zero,i.size,i.bytes))=az (az (.agg #[ah ag 0,ah ag 0,ah ag 0,ah ag 0,ay aj 0 0]),5,56):=by kernel_rfl
theorem abe{P:Program}{a:Act}{w:aG}{o:Oper}{x1 x2 x3 x4 x5:Operand}{f:FuncId}{ts:Array TypeId}{v1 v2 v3 v4 v5:aI}(hE:∀args w,(callFunc f args).run P w=.ok (.enter f args) w)(ho:o.op=Op.call {callee:=kv (kz f),args:=#[x1,x2,x3,x4,x5],argTypes:=ts})(h1:a.eval x1=v1)(h2:a.eval x2=v2)(h3:a.eval x3=v3)(h4:a.eval x4=v4)(h5:a.eval x5=v5):(execOp a.eval o).run P w=.ok (.enter f #[v1,v2,v3,v4,v5]) w:=by subst h1;subst h2;subst h3;subst h4;subst h5;simp[execOp,ho,resolve,invoke,hE,go_sem]
theorem Qt{P:Program}{ops:Array Oper}{o:Oper}{a:Act}{w:aG}{K:Act->aG->Prop}{Q:Exit->Act->aG->Prop}{E:Prop}(hg:o.guard=aj){x1 x2 x3 x4 x5:Operand}{f:FuncId}{ts:Array TypeId}{v1 v2 v3 v4 v5:aI}(hE:∀args w,(callFunc f args).run P w=.ok (.enter f args) w)(ho:o.op=Op.call {callee:=kv (kz f),args:=#[x1,x2,x3,x4,x5],argTypes:=ts})(h1:a.eval x1=v1)(h2:a.eval x2=v2)(h3:a.eval x3=v3)(h4:a.eval x4=v4)(h5:a.eval x5=v5){Post:Ending->aG->Prop}(hc:bZ P f #[v1,v2,v3,v4,v5] w Post)(hK:∀e w',Post e w'->∃r,e=ax r/\K (a.put o.dst r) w'):if eH o (yielded ops a.tmps)=true then Oper.wp P o a w K Q else E:=by
 have hw:eH o (yielded ops a.tmps)=true:=by simp[eH,hg]
 rw[if_pos hw];unfold Oper.wp;rw[abe hE ho h1 h2 h3 h4 h5];exact hc.mono fun e w' h=>by obtain⟨r,rfl,hk⟩:=hK e w' h;exact hk
theorem ahR{ns:List Nd}{cs:List Cb}{f:dx}{N:Nat}(ok:dK ns cs f N){jR kU cls:Int}{data:List Int}(h:(f.iL ns jR kU cls data).2.2=0):0<=cls/\data.length<=64/\(f.iL ns jR kU cls data).2.1=(f.last:Int)+1:=by
 rcases Gf ok jR kU cls data with⟨e,he,q⟩|⟨_,_,_,_,_,q⟩|⟨_,_,_,_,_,_,q1,_,_,q2,q⟩
 ·rw[q]at h;exact absurd h he
 ·rw[q]at h;exact absurd (show(5:Int)=0 from h) (by decide)
 ·rw[q];exact⟨q1,q2.d,rfl⟩
theorem afe(f:dx)(jR kU cls:Int)(data:List Int)(v:aI)(h:0<=cls):cSn f.aX (wQ f jR kU cls data,v)=[ah ag jR,ah ag kU,ah ag cls,ah ag (f.dm:Int),v]:=by
 unfold cSn wQ;simp only[List.cons.injEq,Value.int.injEq,true_and,and_true];have e:((cls.toNat+f.aX*(f.dm%2):Nat):Int)=cls+(f.aX:Int)*((f.dm:Int)%2):=by push_cast;rw[Int.toNat_of_nonneg h]
 rw[e];exact Int.add_sub_cancel _ _
theorem Xx(B0:Nat)(Z:Own)(w:aG)(g0 b:Nat)(ns:List Nd)(cs:List Cb)(L:rY)(vi vo:aI)(s:Iz)(a:nY)(aD:Option Addr)(cD:Nat)(h:pg B0 Z w g0 b ns cs L vi vo s.f.now s)(hb0:B0<=w.heap.size)(hp:sS ns cs){B n:Nat}(hk:NY ns cs B n s)(hn:n<=14000)(hdl:a.data.length<=1000000)(IV:a.data.length<=64->iQ Z w a.data (ay aD a.data.length cD))(h1:a.k=1):bZ aH 27 #[pt g0,.agg (vP a aD cD)] w (tL B0 Z w g0 b ns cs s a):=by
 obtain⟨m1,n1⟩:=h.begun (af (vP a aD cD) 29);have P1:=dh.new w 29 (vP a aD cD);have BL:aN w.heap.size w (w.alloc (af (vP a aD cD) 29)):=(aQ _ _).alloc (aC _) _;obtain⟨w1,gK⟩:∃w1:aG,w.alloc (af (vP a aD cD) 29)=w1:=⟨_,rfl⟩;rw[gK]at m1 n1 P1 BL;obtain⟨bA,hbA⟩:∃bA,w.heap.size=bA:=⟨_,rfl⟩;have OKH:=aA hk.ok;have lsm:s.f.last<=14000:=by have:=hk.la;omega
 obtain⟨n0,hn0⟩:∃n0,s.ins.length=n0:=⟨_,rfl⟩;have hil:s.f.last=n0:=by rw[<-hn0];exact hk.il.symm
 have EP:=aA (IG m1.Us);have DW1:aY (a.data.length<=64->iQ (fr Z w.heap.size) w1 a.data (ay aD a.data.length cD)):=fun hl=>(IV hl).jD (S:=fun _=>False) (Ch.bY BL) (fun _ hk=>gL hk) fun _ q=>q.elim;have DWD:aY (a.data.length<=64->iQ (fr Z w.heap.size) w1.drew a.data (ay aD a.data.length cD)):=fun hl=>(DW1.o hl).jD (S:=fun _=>False) (Ch.refl _ w1).drew (fun _ _=>rfl) fun _ q=>q.elim;have INJ:=aA (MR s.f (n*42000) a.a a.b a.c a.data b ns cs L (fr Z w.heap.size) w1.drew m1.drew.Us hp hk.ok (by omega) aD cD (by omega) DWD.o);have c0:=P1.cell 0;have c1:=P1.cell 1;have c2:=P1.cell 2;have c3:=P1.cell 3;have c5:=P1.cell 5;have r0:w1.cell? ⟨g0,0,aj⟩=az (au (az ⟨b,0,aj⟩)):=m1.root.cell 0;have rT:¬2<=(fr Z w.heap.size g0).1:=by rw[m1.iP];decide
 have aT:fr Z w.heap.size w.heap.size=(0,0,0,0):=lL (aC _);have M1:=aA m1;have N1:=aA n1;have PA:=aA P1;have IC:=aA (ahQ (ns:=ns) hk.ok a.a a.b a.c a.data);have IS:=aA (Pz (ns:=ns) hk.ok a.a a.b a.c a.data);have HB0:=aA hb0;have NE:aY (g0≠bA):=by have:=h.root.lt;rw[aY];omega
 obtain⟨bn,hbn⟩:∃bn,s.f.dm=bn:=⟨_,rfl⟩;rw[hbn]at EP;generalize Ej:tL B0 Z w g0 b ns cs s a=NW at *;have SK:=aA Ej;unfold vP at gK c0 c1 c2 c3 c5 PA|-;obtain⟨ak,aa,ab,ac,ai,ad⟩:=a;simp only at h1 gK c0 c1 c2 c3 c5 PA INJ DWD IC IS hdl|-;subst h1;rw[hbA]at c0 c1 c2 c3 c5 PA;clear m1 n1 h P1 BL hk hp IV Ej hb0 DW1;unfold pt at *;have KA:aY (∀dN w',qo (fr Z w.heap.size) w1.drew dN w'->(fun wq=>wq.cell? ⟨g0,0,aj⟩=az (au (az ⟨b,0,aj⟩))/\wq.cell? ⟨bA,1,aj⟩=az (ah ag aa)/\wq.cell? ⟨bA,2,aj⟩=az (ah ag ab)/\wq.cell? ⟨bA,3,aj⟩=az (ah ag ac)/\wq.cell? ⟨bA,5,aj⟩=az (ay aD ad.length cD)) w'/\dh w' bA 29 #[ah ag 1,ah ag aa,ah ag ab,ah ag ac,ah ag ai,ay aD ad.length cD]/\dN bA=(0,0,0,0)):=fun dN w' n=>by have q:dh w' bA 29 #[ah ag 1,ah ag aa,ah ag ab,ah ag ac,ah ag ai,ay aD ad.length cD]:=PA.o.drew.ch n.ch (by show ¬2<=(fr Z w.heap.size bA).1;rw[<-hbA,aT];decide);exact⟨⟨(n.ch.cell (p:=⟨g0,0,aj⟩) M1.o.root.lt rT).trans r0,q.cell 1,q.cell 2,q.cell 3,q.cell 5⟩,q,by rw[n.ext bA PA.o.lt,<-hbA];exact aT⟩
 obtain⟨⟨F',rid,rer⟩,hR⟩:∃r,s.f.iL ns aa ab ac ad=r:=⟨_,rfl⟩;have HR:=aA hR;rw[hR]at INJ IC IS;unfold JD at INJ;simp only at INJ IC IS;by_cases hz:rer=0
 ·subst hz;have IY:=ahR (ns:=ns) OKH.o (jR:=aa) (kU:=ab) (cls:=ac) (data:=ad) (by rw[hR]);rw[hR]at IY;obtain⟨i1,i2,i3⟩:=IY;simp only at i3;rw[hil]at i3;subst i3;clear hR;have DW:aY (iQ (fr Z w.heap.size) w1.drew ad (ay aD ad.length cD)):=DWD.o i2;have CL:=aA (afe s.f aa ab ac ad · i1);have F1:aY (∀dN L' v' w',pg B0 dN w' g0 b ns cs L' v' vo s.f.now ⟨F',s.ins++[wQ s.f aa ab ac ad],s.outs⟩->MG Z w dN w'->NW (ax (.tuple #[])) w'):=fun dN L' v' w' m' n'=>by
   rw[<-SK.o];refine⟨rfl,⟨F',s.ins++[wQ s.f aa ab ac ad],s.outs⟩,dN,L',v',vo,.inr (.inl ⟨rfl,?_⟩),?_,n'⟩
   ·show _=(⟨(s.f.iL ns aa ab ac ad).1,if(s.f.iL ns aa ab ac ad).2.2=0 then _ else _,_⟩:Iz);rw[HR.o];show _=(⟨F',if(0:Int)=0 then _ else _,_⟩:Iz);rw[if_pos rfl]
   ·rw[show F'.now=s.f.now from IS.o.2.1];exact m'
  obtain⟨i0,hi0,zb,Ad,Ae⟩:=dX afc;clear DWD OKH IS;go_enter func27,ntmps27;go_wp2_with (first|(go_at_call 22;(with_reducible refine EP.o.mono ?_);rintro e w2 ⟨rfl,rfl⟩));refine fQ 17 (fun wq=>wq.cell? ⟨g0,0,aj⟩=az (au (az ⟨b,0,aj⟩))/\wq.cell? ⟨bA,1,aj⟩=az (ah ag aa)/\wq.cell? ⟨bA,2,aj⟩=az (ah ag ab)/\wq.cell? ⟨bA,3,aj⟩=az (ah ag ac)/\wq.cell? ⟨bA,5,aj⟩=az (ay aD ad.length cD)) (by kernel_rfl) ⟨r0,c1,c2,c3,c5⟩ (fun aW=>?_);refine bH.tk 0 aW ?_;try simp only[bI]
  refine bH.tk 1 aW ?_;try simp only[bI]
  refine bH.tk 2 aW ?_;try simp only[bI]
  refine bH.tk 3 aW ?_;try simp only[bI]
  refine bH.tk 4 aW ?_;try simp only[bI]
  refine bH.tk 5 aW ?_;try simp only[bI]
  refine bH.tk 6 aW ?_;try simp only[bI]
  refine bH.tk 7 aW ?_;try simp only[bI]
  refine bH.tk 8 aW ?_;try simp only[bI]
  refine bH.tk 9 aW ?_;try simp only[bI]
  refine bH.tk 10 aW ?_;try simp only[bI]
  refine bH.tk 11 aW ?_;try simp only[bI]
  refine bH.one (i:=12) (by kernel_rfl) rfl (fun K hK=>?_);refine Qt (by rfl) (enters_of (P:=aH) func14 (by kernel_rfl) rfl) (by rfl) (by rfl) (by rfl) (by rfl) (by rfl) (by rfl) INJ.o ?_;rintro e w3 ⟨rfl,xL,L3,m3,n3⟩;obtain⟨k3,pa3,tA3⟩:=KA.o xL w3 n3;have PA3:=aA pa3;have M3:=aA (M1.o.drew.call m3 n3 IC.o);have N3:=aA (N1.o.drew.trans n3.w);have D3:=aA (DW.o.jD n3.ch n3.ext fun k s=>by omega);clear m3 n3 pa3 KA INJ;refine⟨_,rfl,?_⟩;refine hK.out _ _ (fun _=>k3) (fun bU=>?_);have aW:=bU (by decide);clear hK bU;try simp only[bI]
  clear k3;refine bH.tk 13 aW ?_;try simp only[bI]
  refine bH.tk 14 aW ?_;try simp only[bI]
  refine bH.tk 16 aW ?_;try simp only[bI]
  refine bH.tk 15 aW ?_;try simp only[bI]
  refine bH.one (i:=17) (by kernel_rfl) rfl (fun K hK=>?_);go_simp;refine hK.out _ _ (fun h=>absurd rfl h) (fun _=>?_);clear hK;refine bH.done (by kernel_rfl) ?_ _;try simp only[bI]
  obtain⟨w4,Ie⟩:∃w4,w3.drew=w4:=⟨_,rfl⟩;have m4:=M3.o.drew;have n4:=N3.o.drew;have d4:=D3.o.jD (S:=fun _=>False) (Ch.refl _ w3).drew (fun _ _=>rfl) fun _ q=>q.elim;have pa4:=PA3.o.drew;rw[Ie]at m4 n4 d4 pa4;obtain⟨ad',cd',ed,dr4,_,_⟩:=d4;have ed:=(Value.slice.inj ed).1;subst ed;have CLN:=aA (XW aD cD ad w4 hdl dr4);obtain⟨Q7,q7,Ku,aeD,tg7⟩:=m4.ins;have lQ:Q7.length=n0:=by rw[<-hn0,<-q7,dE]
  obtain⟨a7,c7,eV⟩:=dO Ku;subst eV;have k1:w4.cell? ⟨g0,1,aj⟩=az (ay a7 Q7.length c7):=m4.root.cell 1;rw[lQ]at k1;have KC:aY (∀w',aN w4.heap.size w4 w'->(fun wq=>wq.cell? ⟨g0,1,aj⟩=az (ay a7 n0 c7)/\wq.cell? ⟨bA,1,aj⟩=az (ah ag aa)/\wq.cell? ⟨bA,2,aj⟩=az (ah ag ab)/\wq.cell? ⟨bA,3,aj⟩=az (ah ag ac)/\wq.cell? ⟨bA,5,aj⟩=az (ay aD ad.length cD)) w'):=fun w' hb=>
   ⟨(hb.cell (p:=⟨g0,1,aj⟩) m4.root.lt).trans k1,(hb.cell (p:=⟨bA,1,aj⟩) pa4.lt).trans (pa4.cell 1),(hb.cell (p:=⟨bA,2,aj⟩) pa4.lt).trans (pa4.cell 2),(hb.cell (p:=⟨bA,3,aj⟩) pa4.lt).trans (pa4.cell 3),(hb.cell (p:=⟨bA,5,aj⟩) pa4.lt).trans (pa4.cell 5)⟩
  have HQ7:=aA q7;have DT7:=aA aeD;have OW7:=aA Ku;have LQ:=aA lQ;have M4:=aA m4;have N4:=aA n4;have PA4:=aA pa4;have k4:=KC.o w4 (aQ _ _);clear m4 n4 pa4 q7 Ku aeD tg7 lQ k1 dr4 M3 N3 D3 PA3;go_wp2_with fail;refine fQ 20 (fun wq=>wq.cell? ⟨g0,1,aj⟩=az (ay a7 n0 c7)/\wq.cell? ⟨bA,1,aj⟩=az (ah ag aa)/\wq.cell? ⟨bA,2,aj⟩=az (ah ag ab)/\wq.cell? ⟨bA,3,aj⟩=az (ah ag ac)/\wq.cell? ⟨bA,5,aj⟩=az (ay aD ad.length cD)) (by kernel_rfl) (by rw[Ie];exact k4) (fun aW=>?_);rw[Ie]at aW|-;refine bH.tk 0 aW ?_;try simp only[bI]
  refine bH.tk 1 aW ?_;try simp only[bI]
  refine bH.tk 2 aW ?_;try simp only[bI]
  refine bH.tk 3 aW ?_;try simp only[bI]
  refine bH.tk 4 aW ?_;try simp only[bI]
  refine bH.tk 5 aW ?_;try simp only[bI]
  refine bH.tk 6 aW ?_;try simp only[bI]
  refine bH.tk 7 aW ?_;try simp only[bI]
  refine bH.tk 8 aW ?_;try simp only[bI]
  refine bH.tk 9 aW ?_;try simp only[bI]
  refine bH.tk 10 aW ?_;try simp only[bI]
  refine bH.tk 11 aW ?_;try simp only[bI]
  refine bH.tk 12 aW ?_;try simp only[bI]
  refine bH.tk 13 aW ?_;try simp only[bI]
  refine bH.one (i:=14) (by kernel_rfl) rfl (fun K hK=>?_);refine xC (by rfl) (enters_of (P:=aH) func75 (by kernel_rfl) rfl) (by rfl) (by rfl) CLN.o ?_;rintro e w5 ⟨v5,rfl,uI,hb5⟩;have k5:=KC.o w5 hb5;have he5:∀k,k<w4.heap.size->qm xL w4.heap.size (1,0,0,0) k=xL k:=fun k hk=>if_pos hk;have M5:=aA (M4.o.jD (S:=fun _=>False) (Ch.bY hb5) he5 fun _ q=>q.elim);have N5:aY (MG Z w (qm xL w4.heap.size (1,0,0,0)) w5):=N4.o.trans ⟨Ch.bY hb5,he5⟩;have D5:aY (iQ (qm xL w4.heap.size (1,0,0,0)) w5 ad v5):=iQ.Jf uI i2 fun g hg=>by have h1:=(uI.lt g hg).1;unfold qm;rw[if_neg (by omega)]
  have OW5:=aA (fO OW7.o (Ch.bY (S:=fun _=>False) hb5) fun _ _ q=>q);have DT5:aY (∀x∈Q7,iQ (qm xL w4.heap.size (1,0,0,0)) w5 x.1.data x.2):=fun x hx=>(DT7.o x hx).jD (S:=fun _=>False) (Ch.bY hb5) he5 fun _ q=>q.elim;have PA5:=aA (PA4.o.below hb5 PA4.o.lt);have SZ:aY (B0<=w5.heap.size):=by have h1:=N5.o.ch.size;have h2:=HB0.o;rw[aY];omega
  obtain⟨a5,c5',eV5⟩:=dO uI;subst eV5;rw[LQ.o,show(⟨F',s.ins,s.outs⟩:Iz).f.aX=s.f.aX from IC.o]at OW5;have KD:aY (∀wq,Ch (fun k=>(ay a7 n0 c7).ownBlock=az k) w5 wq->(fun wq=>wq.cell? ⟨g0,1,aj⟩=az (ay a7 n0 c7)/\wq.cell? ⟨bA,1,aj⟩=az (ah ag aa)/\wq.cell? ⟨bA,2,aj⟩=az (ah ag ab)/\wq.cell? ⟨bA,3,aj⟩=az (ah ag ac)/\wq.cell? ⟨bA,5,aj⟩=az (ay aD ad.length cD)) wq):=fun wq hq=>by
   have o7:=OW5.o;have nb:∀{q:Nat} {z:aI},w5.cell? ⟨bA,q,aj⟩=az z->wq.cell? ⟨bA,q,aj⟩=az z:=fun{q z} hz=>
    (hq.cell (p:=⟨bA,q,aj⟩) PA5.o.lt fun s=>xy o7 PA5.o (by decide) s).trans hz
   exact⟨(hq.cell (p:=⟨g0,1,aj⟩) M5.o.root.lt fun s=>xy o7 M5.o.root (by decide) s).trans k5.1,nb k5.2.1,nb k5.2.2.1,nb k5.2.2.2.1,nb k5.2.2.2.2⟩
  have RN:aY (Reads (w5.alloc (af #[ah ag aa,ah ag ab,ah ag ac,ah ag (bn:Int),ay a5 ad.length c5'] 63)) (w5.heap.size+1) 5 (az ⟨w5.heap.size,0,aj⟩) 1 [ah ag aa,ah ag ab,ah ag ac,ah ag (bn:Int),ay a5 ad.length c5']):=iB w5 63 [ah ag aa,ah ag ab,ah ag ac,ah ag (bn:Int),ay a5 ad.length c5'] (n:=1) (size:=5) rfl;have OW:aY ((w5.alloc (af #[ah ag aa,ah ag ab,ah ag ac,ah ag (bn:Int),ay a5 ad.length c5'] 63)).ownsRow B0 63 5 (ay a7 n0 c7) n0 (Q7.flatMap (cSn s.f.aX))):=OW5.o.alloc (af #[ah ag aa,ah ag ab,ah ag ac,ah ag (bn:Int),ay a5 ad.length c5'] 63);have iZ:aY (∀v8 w8,w8.ownsRow B0 63 5 v8 (n0+1) (Q7.flatMap (cSn s.f.aX)++[ah ag aa,ah ag ab,ah ag ac,ah ag (bn:Int),ay a5 ad.length c5'])->(w5.alloc (af #[ah ag aa,ah ag ab,ah ag ac,ah ag (bn:Int),ay a5 ad.length c5'] 63)).grownBy w8 (ay a7 n0 c7).ownBlock->(v8.ownBlock=(ay a7 n0 c7).ownBlock\/v8.ownBlock=az (w5.heap.size+1))->∃τ9,pg B0 τ9 (w8.setCell ⟨g0,1,aj⟩ v8) g0 b ns cs L3 v8 vo s.f.now ⟨F',s.ins++[wQ s.f aa ab ac ad],s.outs⟩/\MG Z w τ9 (w8.setCell ⟨g0,1,aj⟩ v8)/\w8.frozen? ⟨g0,1,aj⟩=false/\w8.cell? ⟨g0,1,aj⟩=az (ay a7 n0 c7)):=fun v8 w8 ho hg hl=>by have ho':w8.ownsRow B0 63 5 v8 (Q7.length+1) (Q7.flatMap (cSn s.f.aX)++cSn s.f.aX (wQ s.f aa ab ac ad,ay a5 ad.length c5')):=(by rw[LQ.o,CL.o,hbn];exact ho);have m5:pg B0 (qm xL w4.heap.size (1,0,0,0)) w5 g0 b ns cs L3 (ay a7 n0 c7) vo s.f.now ⟨F',s.ins,s.outs⟩:=(by have:=M5.o;rw[LQ.o]at this;exact this);have e8:(⟨F',s.ins,s.outs⟩:Iz).f.aX=s.f.aX:=IC.o;obtain⟨o1,o2,o3,o4⟩:=m5.arz (x:=wQ s.f aa ab ac ad) (dv:=ay a5 ad.length c5') HQ7.o DT5.o D5.o ((aQ _ _).alloc (aC _) _) hg (by rw[e8];exact ho') (hl.elim .inl fun e=>.inr ⟨_,e,by omega⟩);exact⟨_,o1,N5.o.trans o2,o3,o4⟩
  clear CLN k4 KC M4 N4 PA4 DT7 OW7 M5 N5 D5 OW5 DT5 hb5 uI he5;refine⟨_,rfl,?_⟩;refine hK.out _ _ (fun _=>k5) (fun bU=>?_);have aW:=bU (by decide);clear hK bU;try simp only[bI]
  clear k5;refine bH.tk 15 aW ?_;try simp only[bI]
  refine bH.one (i:=16) (by kernel_rfl) rfl (fun K hK=>?_);go_simp;refine hK.out _ _ (fun _=>KD.o _ ((Ch.refl _ _).alloc _)) (fun bU=>?_);have aW:=bU (by decide);clear hK bU;try simp only[bI]
  refine bH.one (i:=17) (by kernel_rfl) rfl (fun K hK=>?_);refine fV _ (by rfl) (.tmp 86) (.tmp 98) 54 (by rfl) B0 63 i0 _ 5 56 underlying54 hi0 zb Ad Ae rfl (by decide) _ _ _ (by rfl) OW.o _ (az ⟨w5.heap.size,0,aj⟩) 1 1 [ah ag aa,ah ag ab,ah ag ac,ah ag (bn:Int),ay a5 ad.length c5'] (by rfl) RN.o ?_ ?_ ?_ ?_ ?_
  ·intro u hu;simp only[dG,dP,or_false]at hu;rcases hu with rfl|rfl|rfl|rfl|rfl<;>rfl
  ·unfold maxLen;omega
  ·omega
  ·exact dZ SZ.o ((Ch.refl (fun _=>False) w5).alloc _).size
  intro v8 w8 Jj AX Me;obtain⟨a8,c8,eV8⟩:=dO Jj;subst eV8;obtain⟨τ9,m9,n9,fz,cz⟩:=iZ.out _ w8 Jj ⟨AX.os,AX.tape,AX.output,AX.size,AX.block⟩ (by simpa using Me);have k15:=KD.o w8 (((Ch.refl _ w5).alloc _).grown ⟨AX.os,AX.tape,AX.output,AX.size,AX.block⟩ fun g hg=>.inl hg);have G:=aA (F1.o _ _ _ _ m9 n9);obtain⟨w9,hw9⟩:∃w9,w8.setCell ⟨g0,1,aj⟩ (ay a8 (n0+1) c8)=w9:=⟨_,rfl⟩;rw[hw9]at m9 G;have z4:w9.cell? ⟨g0,4,aj⟩=az (.bool true):=m9.root.cell 4;have z1:w9.cell? ⟨g0,1,aj⟩=az (ay a8 (n0+1) c8):=m9.root.cell 1;have f4:=m9.root.frozen 4;have agW:=aA m9.ait.2;clear Jj AX Me iZ m9 n9;refine hK.out _ _ (fun _=>k15) (fun bU=>?_);have aW:=bU (by decide);clear hK bU;try simp only[bI]
  clear k15;refine bH.tk 18 aW ?_;try simp only[bI]
  refine bH.tk 19 aW ?_;try simp only[bI]
  refine bH.one (i:=20) (by kernel_rfl) rfl (fun K hK=>?_);go_simp;refine hK.out _ _ (fun h=>absurd rfl h) (fun _=>?_);clear hK;refine bH.done (by kernel_rfl) ?_ _;try simp only[bI]
  go_wp2_with fail;exact bodyPost_end (results_none rfl _ _ _) rfl (by rw[agW.out];exact G.o)
 ·have F0:aY (∀w',FP (fr Z w.heap.size) w1.drew b ns cs F' w'->NW (ax (.tuple #[])) w'):=fun w' ⟨dN,L',m',n'⟩=>by
   rw[<-SK.o];have k:=M1.o.drew.call m' n' IC.o;refine⟨rfl,⟨F',s.ins,s.outs⟩,dN,L',vi,vo,.inr (.inl ⟨rfl,?_⟩),?_,N1.o.drew.trans n'.w⟩
   ·show _=(⟨(s.f.iL ns aa ab ac ad).1,if(s.f.iL ns aa ab ac ad).2.2=0 then _ else _,_⟩:Iz);rw[HR.o];show _=(⟨F',if rer=0 then _ else _,_⟩:Iz);rw[if_neg hz]
   ·rw[show F'.now=s.f.now from IS.o.2.1];exact k
  clear hR M1 N1 PA IS IC DWD;go_enter func27,ntmps27;go_wp2_with (first|(go_at_call 22;(with_reducible refine EP.o.mono ?_);rintro e w2 ⟨rfl,rfl⟩));refine fQ 17 (fun wq=>wq.cell? ⟨g0,0,aj⟩=az (au (az ⟨b,0,aj⟩))/\wq.cell? ⟨bA,1,aj⟩=az (ah ag aa)/\wq.cell? ⟨bA,2,aj⟩=az (ah ag ab)/\wq.cell? ⟨bA,3,aj⟩=az (ah ag ac)/\wq.cell? ⟨bA,5,aj⟩=az (ay aD ad.length cD)) (by kernel_rfl) ⟨r0,c1,c2,c3,c5⟩ (fun aW=>?_);refine bH.tk 0 aW ?_;try simp only[bI]
  refine bH.tk 1 aW ?_;try simp only[bI]
  refine bH.tk 2 aW ?_;try simp only[bI]
  refine bH.tk 3 aW ?_;try simp only[bI]
  refine bH.tk 4 aW ?_;try simp only[bI]
  refine bH.tk 5 aW ?_;try simp only[bI]
  refine bH.tk 6 aW ?_;try simp only[bI]
  refine bH.tk 7 aW ?_;try simp only[bI]
  refine bH.tk 8 aW ?_;try simp only[bI]
  refine bH.tk 9 aW ?_;try simp only[bI]
  refine bH.tk 10 aW ?_;try simp only[bI]
  refine bH.tk 11 aW ?_;try simp only[bI]
  refine bH.one (i:=12) (by kernel_rfl) rfl (fun K hK=>?_);refine Qt (by rfl) (enters_of (P:=aH) func14 (by kernel_rfl) rfl) (by rfl) (by rfl) (by rfl) (by rfl) (by rfl) (by rfl) INJ.o ?_;rintro e w3 ⟨rfl,hf⟩;have G:=aA (F0.o w3 hf);obtain⟨xL,L3,m3,n3⟩:=hf;have k3:=(KA.o xL w3 n3).1;clear m3 n3;refine⟨_,rfl,?_⟩;refine hK.out _ _ (fun _=>k3) (fun bU=>?_);have aW:=bU (by decide);clear hK bU;try simp only[bI]
  clear k3;refine bH.tk 13 aW ?_;try simp only[bI]
  refine bH.tk 14 aW ?_;try simp only[bI]
  refine bH.tk 16 aW ?_;try simp only[bI]
  refine bH.tk 15 aW ?_;try simp only[bI]
  refine bH.one (i:=17) (by kernel_rfl) rfl (fun K hK=>?_);go_simp;refine hK.out _ _ (fun h=>absurd rfl h) (fun _=>?_);clear hK;refine bH.done (by kernel_rfl) ?_ _;try simp only[bI]
  go_wp2_with fail;exact bodyPost_end (results_none rfl _ _ _) rfl G.o
end
end Go.Proofs.YtnjjkgjdhljfnaaGreat
