/- Part 27. -/
import Derived.Test.YtnjjkgjdhljfnaaGreatPk22
import Derived.Test.YtnjjkgjdhljfnaaGreatPk26
open Go.Proofs.Tryz
open Go renaming Calls->di,Value->aJ,World->aG,info_parts->eQ,wp_at_succ->fK,wp_at_zero->fM
open Go.Callee renaming value->kU
open Go.Ending renaming returned->ax
open Go.IntKind renaming i64->ag
open Go.Lib renaming hid->aA
open Go.Obj renaming cells->af
open Go.Operand renaming func->kW
open Go.Proofs.Tryz renaming prog->aH
open Go.Region renaming wanted->eZ
open Go.RowKit renaming Below->aO,Hid->aZ,intOf->aK
open Go.RowKit.Below renaming refl->aS
open Go.Value renaming int->ah,pointer->au,slice->ay
open List renaming append_nil->jr,flatMap_append->fU,flatMap_cons->dY,flatMap_nil->Cm,getD->bS,length_append->bW,length_cons->fw,length_map->dW,length_nil->kJ,map_append->fF,mem_append->dU,mem_cons->dM,mem_singleton->dh,not_mem_nil->dZ
open Nat renaming le_refl->aC,le_trans->eY
open Option renaming none->aj,some->az
set_option maxRecDepth 100000
set_option maxHeartbeats 16000000
set_option linter.unusedVariables false
set_option linter.unusedSimpArgs false
namespace Go.Proofs.YtnjjkgjdhljfnaaGreat
section
open Go.RowKit Go.Maps
attribute [local go_sem ↓] fM fK
def cSn(k:Nat)(x:Fm×aJ):List aJ:=[ah ag x.1.iN,ah ag x.1.jl,ah ag (x.1.cls-(k:Int)*(x.1.ep%2)),ah ag x.1.ep,x.2]
def WS(Z:Own)(k:Nat):Prop:=2<=(Z k).1\/Z k=(0,1,0,0)
structure NK(Z:Own)(w:aG)(dV:Own)(w':aG):Prop where
 ch:Ch (WS Z) w w'
 ext:∀k,k<w.heap.size->dV k=Z k
theorem NK.refl(Z:Own)(w:aG):NK Z w Z w:=⟨Ch.refl _ _,fun _ _=>rfl⟩
theorem NK.trans{Z dV Gf:Own}{w w' w'':aG}(h:NK Z w dV w')(k:NK dV w' Gf w''):NK Z w Gf w'':=
 ⟨h.ch.trans k.ch fun i hi s=>by unfold WS at s|-;rw[h.ext i hi]at s;exact s,fun i hi=>(k.ext i (Nat.lt_of_lt_of_le hi h.ch.size)).trans (h.ext i hi)⟩
theorem qA.w{Z dV:Own}{w w':aG}(h:qA Z w dV w'):NK Z w dV w':=⟨h.ch.mono fun k _ s=>.inl s,h.ext⟩
structure pE(B0:Nat)(Z:Own)(w:aG)(g0 b:Nat)(ns:List Nd)(cs:List Cb)(L:rY)(vi vo:aJ)(tm:Nat)(s:Oa):Prop where
 TU:gz Z w b ns cs s.f L
 root:dG w g0 56 #[pt b,vi,vo,ah ag (tm:Int),.bool true]
 iO:Z g0=(0,1,0,0)
 FZ:B0<=g0
 ins:∃Q:List (Fm×aJ),Q.map (·.1)=s.ins/\w.ownsRow B0 63 5 vi Q.length (Q.flatMap (cSn s.f.aX))/\(∀x∈Q,iX Z w x.1.data x.2)/\∀g,vi.ownBlock=az g->Z g=(0,1,0,0)
 outs:Aw Z B0 w vo s.outs/\∀g,vo.ownBlock=az g->Z g=(0,1,0,0)
section
variable{B0:Nat}{Z dV:Own}{w w' w2:aG}{g0 b:Nat}{ns:List Nd}{cs:List Cb}{L L':rY}{vi vo:aJ}{tm:Nat}{s:Oa}
theorem pE.jM{S:Nat->Prop}(h:pE B0 Z w g0 b ns cs L vi vo tm s)(hc:Ch S w w')(he:∀k,k<w.heap.size->dV k=Z k)(hS:∀k,S k->(Z k).1=0/\(Z k).2.1≠1):pE B0 dV w' g0 b ns cs L vi vo tm s:=by
 have ns1:∀{g},Z g=(0,1,0,0)->¬S g:=fun e q=>(hS _ q).2 (by rw[e]);obtain⟨Q,q1,q2,q3,q4⟩:=h.ins;obtain⟨⟨D,d1,d2,d3,d4⟩,o2⟩:=h.outs;exact{
  TU:=h.TU.jM hc he fun k q=>(hS k q).1
  root:=h.root.ch hc (ns1 h.iO)
  iO:=by rw[he _ h.root.lt];exact h.iO
  FZ:=h.FZ
  ins:=⟨Q,q1,fT q2 hc fun g hg=>ns1 (q4 g hg),fun x hx=>(q3 x hx).jM hc he fun k q=>by rw[(hS k q).1];decide,fun g hg=>by rw[he _ (q2.lt g hg).2];exact q4 g hg⟩
  outs:=⟨⟨D,d1,fT d2 hc fun g hg=>ns1 (o2 g hg),fun x hx=>(d3 x hx).jM hc he fun k q=>by rw[(hS k q).1];decide,fun g hg=>by rw[he _ (d2.lt g hg).2];exact d4 g hg⟩,fun g hg=>by rw[he _ (d2.lt g hg).2];exact o2 g hg⟩}
theorem pE.below(h:pE B0 Z w g0 b ns cs L vi vo tm s)(k:aO w.heap.size w w'):pE B0 (fr Z w.heap.size) w' g0 b ns cs L vi vo tm s:=h.jM (S:=fun _=>False) (Ch.dw k) (fun _ hk=>iD hk) (fun _ q=>q.elim)
theorem pE.call(h:pE B0 Z w g0 b ns cs L vi vo tm s){f':dB}(m:gz dV w' b ns cs f' L')(n:qA Z w dV w')(hk:f'.aX=s.f.aX):pE B0 dV w' g0 b ns cs L' vi vo tm ⟨f',s.ins,s.outs⟩:=by
 have ns1:∀{g},(Z g).1=0->¬2<=(Z g).1:=fun e q=>by rw[e]at q;exact absurd q (by decide)
 have ns2:∀{g},Z g=(0,1,0,0)->¬2<=(Z g).1:=fun e=>ns1 (by rw[e]);obtain⟨Q,q1,q2,q3,q4⟩:=h.ins;exact{
  TU:=m
  root:=h.root.ch n.ch (ns2 h.iO)
  iO:=by rw[n.ext _ h.root.lt];exact h.iO
  FZ:=h.FZ
  ins:=⟨Q,q1,by show w'.ownsRow B0 63 5 vi Q.length (Q.flatMap (cSn f'.aX));rw[hk];exact fT q2 n.ch fun g hg=>ns2 (q4 g hg),fun x hx=>(q3 x hx).jM n.ch n.ext fun k q=>by omega,fun g hg=>by rw[n.ext _ (q2.lt g hg).2];exact q4 g hg⟩
  outs:=⟨h.outs.1.fnx n,fun g hg=>by obtain⟨D,_,d2,_⟩:=h.outs.1;rw[n.ext _ (d2.lt g hg).2];exact h.outs.2 g hg⟩}
theorem pE.afv(h:pE B0 Z w g0 b ns cs L vi vo tm s):vi.ownBlock≠az g0:=by obtain⟨Q,_,q2,_⟩:=h.ins;exact xJ q2 h.root (by decide)
theorem pE.Uh(h:pE B0 Z w g0 b ns cs L vi vo tm s):vo.ownBlock≠az g0:=by obtain⟨Q,_,q2,_⟩:=h.outs.1;exact xJ q2 h.root (by decide)
theorem TP{g j:Nat}{v:aJ}:Ch (· =g) w (w.setCell ⟨g,j,aj⟩ v):=(Ch.refl (fun k=>k=g) w).setCell (p:=⟨g,j,aj⟩) (.inl rfl) v
theorem pE.acH(h:pE B0 Z w g0 b ns cs L vi vo tm s)(t:Nat):pE B0 Z (w.setCell ⟨g0,3,aj⟩ (ah ag (t:Int))) g0 b ns cs L vi vo t s/\NK Z w Z (w.setCell ⟨g0,3,aj⟩ (ah ag (t:Int))):=by
 have hc:Ch (· =g0) w (w.setCell ⟨g0,3,aj⟩ (ah ag (t:Int))):=TP;have hT:=h.iO;obtain⟨Q,q1,q2,q3,q4⟩:=h.ins;obtain⟨D,d1,d2,d3,d4⟩:=h.outs.1;refine⟨{
  TU:=h.TU.jM hc (fun _ _=>rfl) fun k q=>by have q:k=g0:=q;rw[q,hT]
  root:=by have:=h.root.jy 3 (ah ag (t:Int));exact this
  iO:=hT
  FZ:=h.FZ
  ins:=⟨Q,q1,fT q2 hc fun g hg q=>h.afv (by rw[hg];exact congrArg az q),fun x hx=>(q3 x hx).jM hc (fun _ _=>rfl) fun k q=>by have q:k=g0:=q;rw[q,hT];decide,q4⟩
  outs:=⟨⟨D,d1,fT d2 hc fun g hg q=>h.Uh (by rw[hg];exact congrArg az q),fun x hx=>(d3 x hx).jM hc (fun _ _=>rfl) fun k q=>by have q:k=g0:=q;rw[q,hT];decide,d4⟩,h.outs.2⟩},⟨hc.mono fun k _ q=>.inr (by have q:k=g0:=q;rw[q,hT]),fun _ _=>rfl⟩⟩
theorem pE.aix(h:pE B0 Z w g0 b ns cs L vi vo tm s):pE B0 Z (w.setCell ⟨g0,4,aj⟩ (.bool true)) g0 b ns cs L vi vo tm s/\w.setCell ⟨g0,4,aj⟩ (.bool true)=w:=by have e:=h.root.rU (i:=4) (u:=.bool true) rfl;rw[e];exact⟨h,rfl⟩
theorem pE.amF(h:pE B0 Z w g0 b ns cs L vi vo tm s){Q:List (Dl×aJ)}(hQ:Q.map (·.1)=s.outs)(hdq:∀x∈Q,iX Z w x.1.2.2.data x.2){d:Dl}{dv v:aJ}(hd:iX Z w d.2.2.data dv){wA:aG}(hA:aO w.heap.size w wA)(gr:wA.grownBy w2 vo.ownBlock)(own:w2.ownsRow B0 61 8 v (Q.length+1) (Q.flatMap ZH++ZH (d,dv)))(loc:v.ownBlock=vo.ownBlock\/∃g,v.ownBlock=az g/\w.heap.size<=g):pE B0 (qz Z w.heap.size (0,1,0,0)) (w2.setCell ⟨g0,2,aj⟩ v) g0 b ns cs L vi v tm ⟨s.f,s.ins,s.outs++[d]⟩/\NK Z w (qz Z w.heap.size (0,1,0,0)) (w2.setCell ⟨g0,2,aj⟩ v)/\w2.frozen? ⟨g0,2,aj⟩=false/\w2.cell? ⟨g0,2,aj⟩=az vo/\Ch (fun k=>vo.ownBlock=az k\/k=g0) w (w2.setCell ⟨g0,2,aj⟩ v):=by
 obtain⟨D,d1,d2,d3,d4⟩:=h.outs.1;obtain⟨P,p1,p2,p3,p4⟩:=h.ins;have hT:=h.iO;have oT:=h.outs.2;have c1:Ch (fun k=>vo.ownBlock=az k) w w2:=(Ch.dw hA).grown gr fun g e=>.inl e;have hc:Ch (fun k=>vo.ownBlock=az k\/k=g0) w (w2.setCell ⟨g0,2,aj⟩ v):=(c1.mono fun k _ q=>.inl q).setCell (.inl (.inr rfl)) v;have he:∀k,k<w.heap.size->qz Z w.heap.size (0,1,0,0) k=Z k:=fun k hk=>if_pos hk;have hS:∀k,(vo.ownBlock=az k\/k=g0)->Z k=(0,1,0,0):=fun k q=>by
  rcases q with q|q
  ·exact oT k q
  ·rw[q];exact hT
 have hS0:∀k,(vo.ownBlock=az k\/k=g0)->(Z k).1=0:=fun k q=>by rw[hS k q]
 have r2:dG w2 g0 56 #[pt b,vi,vo,ah ag (tm:Int),.bool true]:=h.root.ch c1 h.Uh;have gv:v.ownBlock≠az g0:=xJ own r2 (by decide);refine⟨{
  TU:=h.TU.jM hc he hS0
  root:=by have:=r2.jy 2 v;exact this
  iO:=by rw[he _ h.root.lt];exact hT
  FZ:=h.FZ
  ins:=⟨P,p1,fT p2 hc fun g hg q=>?_,fun x hx=>(p3 x hx).jM hc he fun k q=>by rw[hS k q];decide,fun g hg=>by rw[he _ (p2.lt g hg).2];exact p4 g hg⟩
  outs:=⟨⟨Q++[(d,dv)],by rw[fF,hQ];rfl,?_,fun x hx=>?_,fun g hg=>?_⟩,fun g hg=>?_⟩},⟨hc.mono fun k _ q=>.inr (hS k q),he⟩,r2.frozen 2,by rw[r2.cell];rfl,hc⟩
 ·rcases q with q|q
  ·exact Jr p2 d2 (by decide) g hg q
  ·exact h.afv (by rw[hg,q])
 ·rw[fU,bW];simp only[dY,Cm,jr,fw,kJ];exact fT own (TP (g:=g0) (j:=2) (v:=v)) fun g hg q=>gv (by rw[hg];exact congrArg az q)
 ·rcases dU.1 hx with hx|hx
  ·exact(hdq x hx).jM hc he fun k q=>by rw[hS k q];decide
  ·rw[dh]at hx;subst hx;exact hd.jM hc he fun k q=>by rw[hS k q];decide
 ·rcases loc with e|⟨g1,e,hg1⟩
  ·rw[e]at hg;rw[he _ (d2.lt g hg).2];exact d4 g hg
  ·rw[e]at hg;injection hg with hg;show(qz Z _ _ g).1=0;unfold qz;rw[if_neg (by omega)]
 ·rcases loc with e|⟨g1,e,hg1⟩
  ·rw[e]at hg;rw[he _ (d2.lt g hg).2];exact oT g hg
  ·rw[e]at hg;injection hg with hg;show qz Z _ _ g=_;unfold qz;rw[if_neg (by omega)]
theorem pE.arq(h:pE B0 Z w g0 b ns cs L vi vo tm s){Q:List (Fm×aJ)}(hQ:Q.map (·.1)=s.ins)(hdq:∀x∈Q,iX Z w x.1.data x.2){x:Fm}{dv v:aJ}(hd:iX Z w x.data dv){wA:aG}(hA:aO w.heap.size w wA)(gr:wA.grownBy w2 vi.ownBlock)(own:w2.ownsRow B0 63 5 v (Q.length+1) (Q.flatMap (cSn s.f.aX)++cSn s.f.aX (x,dv)))(loc:v.ownBlock=vi.ownBlock\/∃g,v.ownBlock=az g/\w.heap.size<=g):pE B0 (qz Z w.heap.size (0,1,0,0)) (w2.setCell ⟨g0,1,aj⟩ v) g0 b ns cs L v vo tm ⟨s.f,s.ins++[x],s.outs⟩/\NK Z w (qz Z w.heap.size (0,1,0,0)) (w2.setCell ⟨g0,1,aj⟩ v)/\w2.frozen? ⟨g0,1,aj⟩=false/\w2.cell? ⟨g0,1,aj⟩=az vi:=by
 obtain⟨D,d1,d2,d3,d4⟩:=h.outs.1;obtain⟨P,p1,p2,p3,p4⟩:=h.ins;have hT:=h.iO;have oT:=h.outs.2;have c1:Ch (fun k=>vi.ownBlock=az k) w w2:=(Ch.dw hA).grown gr fun g e=>.inl e;have hc:Ch (fun k=>vi.ownBlock=az k\/k=g0) w (w2.setCell ⟨g0,1,aj⟩ v):=(c1.mono fun k _ q=>.inl q).setCell (.inl (.inr rfl)) v;have he:∀k,k<w.heap.size->qz Z w.heap.size (0,1,0,0) k=Z k:=fun k hk=>if_pos hk;have hS:∀k,(vi.ownBlock=az k\/k=g0)->Z k=(0,1,0,0):=fun k q=>by
  rcases q with q|q
  ·exact p4 k q
  ·rw[q];exact hT
 have hS0:∀k,(vi.ownBlock=az k\/k=g0)->(Z k).1=0:=fun k q=>by rw[hS k q]
 have r2:dG w2 g0 56 #[pt b,vi,vo,ah ag (tm:Int),.bool true]:=h.root.ch c1 h.afv;have gv:v.ownBlock≠az g0:=xJ own r2 (by decide);refine⟨{
  TU:=h.TU.jM hc he hS0
  root:=by have:=r2.jy 1 v;exact this
  iO:=by rw[he _ h.root.lt];exact hT
  FZ:=h.FZ
  outs:=⟨⟨D,d1,fT d2 hc fun g hg q=>?_,fun x hx=>(d3 x hx).jM hc he fun k q=>by rw[hS k q];decide,fun g hg=>by rw[he _ (d2.lt g hg).2];exact d4 g hg⟩,fun g hg=>by rw[he _ (d2.lt g hg).2];exact oT g hg⟩
  ins:=⟨Q++[(x,dv)],by rw[fF,hQ];rfl,?_,fun y hy=>?_,fun g hg=>?_⟩},⟨hc.mono fun k _ q=>.inr (hS k q),he⟩,r2.frozen 1,by rw[r2.cell];rfl⟩
 ·rw[fU,bW];simp only[dY,Cm,jr,fw,kJ];exact fT own (TP (g:=g0) (j:=1) (v:=v)) fun g hg q=>gv (by rw[hg];exact congrArg az q)
 ·rcases dU.1 hy with hy|hy
  ·exact(hdq y hy).jM hc he fun k q=>by rw[hS k q];decide
  ·rw[dh]at hy;subst hy;exact hd.jM hc he fun k q=>by rw[hS k q];decide
 ·rcases loc with e|⟨g1,e,hg1⟩
  ·rw[e]at hg;rw[he _ (p2.lt g hg).2];exact p4 g hg
  ·rw[e]at hg;injection hg with hg;show qz Z _ _ g=_;unfold qz;rw[if_neg (by omega)]
 ·rcases q with q|q
  ·exact Jr d2 p2 (by decide) g hg q
  ·exact h.Uh (by rw[hg,q])
end
theorem XT(a:Option Addr)(cp:Nat)(l:List Int)(w:aG)(hl:l.length<=1000000)(h:gH 1 Ry 0 w a l.length l):di aH 75 #[ay a l.length cp] w (pz 5 1 Ry l w):=by
 have hnil:∀(w:aG) (a:Option Addr) (n c n' c':Nat),(binOp .eql 27 (ay a n c) (ay aj n' c')).run aH w=.ok (.bool a.isNone) w:=fun w a n c n' c'=>Lib.run_eql_slice_nil w 27 5 a n c n' c' underlying27;cases a with
 |none=>
  obtain rfl:l=[]:=by
   rcases Nat.eq_zero_or_pos l.length with q|q
   ·exact List.eq_nil_of_length_eq_zero q
   ·obtain⟨b,off,e,_⟩:=h.2 q;cases e
  have F:aZ (pz 5 1 Ry [] w (ax (ay aj 0 0)) w):=⟨_,rfl,World.ownsRow_nil _ _ _ _,aS _ _⟩;clear h;go_enter func75,ntmps75;go_wp2_with fail;go_ret;exact F.o
 |some ad=>
  have RA:=aA ((uf (c:=Ry) (m:=1) (fun _=>rfl) h).alloc (aC _) (af #[] 5));have fo:=aA (ZJ l);clear h;obtain⟨i0,hi0,wE,uY,wN⟩:=eQ afd;go_enter func75,ntmps75;go_wp2_with (at_builtin;refine gY _ rfl (.tmp 5) (.tmp 6) 27 rfl w.heap.size 5 i0 _ 1 1 underlying27 hi0 wE uY wN rfl (by decide) _ 0 [] rfl (Jq w 5 1) w.heap.size _ l.length cp (l.flatMap Ry) rfl RA.o fo.out ?c3 ?c4 ?c5 ?_);case c3=>unfold maxLen;omega
  case c4=>omega
  case c5=>simp
  intro v1 w1 nR yG _;try simp only[Nat.zero_add,List.nil_append]at nR
  have gB:aZ (aO w.heap.size w w1):=((aS _ _).alloc (aC _) _).grown yG (by simp) (by intro g e;simp[Value.ownBlock]at e;omega);have F:aZ (pz 5 1 Ry l w (ax v1) w1):=⟨v1,rfl,nR,gB.out⟩;clear nR yG;go_wp2_with fail;go_ret;exact F.o
end
section
section
variable{ns:List Nd}{cs:List Cb}{f g:dB}{N:Nat}
theorem Rq:∀(l:List (Nat×Fm)) (s:dB×List Dl),(∀d∈s.2,d.1=s.1.now)->∀d∈(l.foldl (dB.fO ns cs) s).2,d.1=s.1.now
 |[],_,h=>h
 |x::l,s,h=>by
  have e:=(sW.fO (ns:=ns) (cs:=cs) s x).nw;intro d hd;rw[<-e];refine Rq l (dB.fO ns cs s x) (fun y hy=>?_) d hd;rw[e];unfold dB.fO at hy;simp only at hy;split at hy
  ·exact h y hy
  ·rcases dU.1 hy with hy|hy
   ·exact h y hy
   ·rw[dh]at hy;rw[hy]
theorem ZF(f:dB)(nr:Rt):(f.jk nr).now=f.now+1/\(f.jk nr).aX=f.aX:=by
 unfold dB.jk;split
 ·unfold dB.uG;split<;>exact⟨rfl,rfl⟩
 ·exact⟨rfl,rfl⟩
theorem aiF(f:dB)(nr:Rt):(f.tick ns cs nr).1.now=f.now+1/\(f.tick ns cs nr).1.aX=f.aX:=by have h:=sW.tick (ns:=ns) (cs:=cs) f nr;have k:=ZF f nr;exact⟨h.nw.trans k.1,h.c.trans k.2⟩
theorem Zg(f:dB)(nr:Rt):∀d∈(f.tick ns cs nr).2,d.1=f.now+1:=by
 intro d hd;rw[Bt]at hd;have h1:(((f.jk nr).iM cs).uA).now=f.now+1:=by have:((f.jk nr).iM cs).now=(f.jk nr).now:=(sW.fold (dB.jh cs) (fun f x=>⟨rfl,rfl,rfl,rfl,rfl,rfl,rfl,rfl,rfl⟩) _ _).nw;show((f.jk nr).iM cs).now=_;rw[this,(ZF f nr).1]
 rw[<-h1];exact Rq _ ({((f.jk nr).iM cs).uA with fl:=fun t=>if t=(((f.jk nr).iM cs).uA).now then[]else(((f.jk nr).iM cs).uA).fl t},[]) (fun y hy=>by cases hy) d hd
theorem ahT(ok:dH ns cs f N)(iN jl cls:Int)(data:List Int):(f.iF ns iN jl cls data).1.aX=f.aX:=by
 rcases zD ok iN jl cls data with⟨e,he,q⟩|⟨_,_,_,_,_,q⟩|⟨_,_,_,_,_,_,_,_,_,_,q⟩
 ·rw[q]
 ·rw[q]
 ·rw[q];show(f.gQ f.dE 1).aX=f.aX;unfold dB.gQ;split<;>rfl
theorem ahZ(f:dB)(i:Int):(f.tZ i).1.aX=f.aX/\(f.tZ i).1.now=f.now:=by
 unfold dB.tZ;split
 ·exact⟨rfl,rfl⟩
 ·split<;>exact⟨rfl,rfl⟩
theorem ahx{i:Int}(h:akw f i g):g.aX=f.aX/\g.now=f.now:=by
 rcases h with⟨_,rfl⟩|⟨_,dead,_,rfl⟩
 ·exact⟨rfl,rfl⟩
 ·have k:=sW.fold dB.iV sW.iV dead (f.Pg i.toNat);exact⟨k.c,k.nw⟩
end
end
section
open Go.RowKit Go.Maps
attribute [local go_sem ↓] fM fK
def vQ(a:qg)(aD:Option Addr)(cD:Nat):Array aJ:=#[ah ag a.k,ah ag a.a,ah ag a.b,ah ag a.c,ah ag a.i,ay aD a.data.length cD]
def tN(B0:Nat)(Z:Own)(w:aG)(g0 b:Nat)(ns:List Nd)(cs:List Cb)(s:Oa)(a:qg)(e:Ending)(w':aG):Prop:=
 e=ax (.tuple #[])/\∃t dV L' vi' vo',Rp ns cs s a t/\pE B0 dV w' g0 b ns cs L' vi' vo' t.f.now t/\NK Z w dV w'
theorem pE.begun{B0:Nat}{Z:Own}{w:aG}{g0 b:Nat}{ns:List Nd}{cs:List Cb}{L:rY}{vi vo:aJ}{s:Oa}(h:pE B0 Z w g0 b ns cs L vi vo s.f.now s)(o:Obj):pE B0 (fr Z w.heap.size) (w.alloc o) g0 b ns cs L vi vo s.f.now s/\NK Z w (fr Z w.heap.size) (w.alloc o):=
 have hb:aO w.heap.size w (w.alloc o):=(aS _ _).alloc (aC _) _
 ⟨h.below hb,(qA.dw hb).w⟩
theorem pE.drew{B0:Nat}{Z:Own}{w:aG}{g0 b:Nat}{ns:List Nd}{cs:List Cb}{L:rY}{vi vo:aJ}{tm:Nat}{s:Oa}(h:pE B0 Z w g0 b ns cs L vi vo tm s):pE B0 Z w.drew g0 b ns cs L vi vo tm s:=
 h.jM (S:=fun _=>False) (Ch.refl _ w).drew (fun _ _=>rfl) (fun _ q=>q.elim)
theorem NK.drew{Z dV:Own}{w w':aG}(h:NK Z w dV w'):NK Z w dV w'.drew:=⟨h.ch.drew,h.ext⟩
section
variable(B0:Nat)(Z:Own)(w:aG)(g0 b:Nat)(ns:List Nd)(cs:List Cb)(L:rY)(vi vo:aJ)(s:Oa)(a:qg)(aD:Option Addr)(cD:Nat)
theorem aeh(h:pE B0 Z w g0 b ns cs L vi vo s.f.now s)(h0:a.k≠0)(h1:a.k≠1)(h2:a.k≠2)(h3:a.k≠3):di aH 27 #[pt g0,.agg (vQ a aD cD)] w (tN B0 Z w g0 b ns cs s a):=by obtain⟨m1,n1⟩:=h.begun (af (vQ a aD cD) 29);have P1:=dG.new w 29 (vQ a aD cD);have F:aZ (tN B0 Z w g0 b ns cs s a (ax (.tuple #[])) (w.alloc (af (vQ a aD cD) 29))):=⟨rfl,s,_,L,vi,vo,.inr (.inr (.inr (.inr ⟨⟨h0,h1,h2,h3⟩,rfl⟩))),m1,n1⟩;obtain⟨w1,gK⟩:∃w1:aG,w.alloc (af (vQ a aD cD) 29)=w1:=⟨_,rfl⟩;rw[gK]at F P1;have c0:=P1.cell 0;unfold vQ at gK c0|-;clear m1 n1 h P1;unfold pt;obtain⟨ak,aa,ab,ac,ai,ad⟩:=a;simp only at h0 h1 h2 h3 gK c0 F|-;go_enter func27,ntmps27;go_wp2_with fail;exact bodyPost_end (results_none rfl _ _ _) rfl F.o
theorem aeg(h:pE B0 Z w g0 b ns cs L vi vo s.f.now s)(yS:s.f.up.length<=32)(h3:a.k=3):di aH 27 #[pt g0,.agg (vQ a aD cD)] w (tN B0 Z w g0 b ns cs s a):=by
 obtain⟨m1,n1⟩:=h.begun (af (vQ a aD cD) 29);have P1:=dG.new w 29 (vQ a aD cD);obtain⟨w1,gK⟩:∃w1:aG,w.alloc (af (vQ a aD cD) 29)=w1:=⟨_,rfl⟩;rw[gK]at m1 n1 P1;have MEND:=aA (abE a.i m1.drew.TU yS);have F:aZ (∀w',ko (fr Z w.heap.size) w1.drew b ns cs L (s.f.tZ a.i).1 w'->tN B0 Z w g0 b ns cs s a (ax (.tuple #[])) w'):=fun w' ⟨dV,m',n'⟩=>by have k:=ahZ s.f a.i;refine⟨rfl,⟨(s.f.tZ a.i).1,s.ins,s.outs⟩,dV,L,vi,vo,.inr (.inr (.inr (.inl ⟨h3,rfl⟩))),?_,n1.drew.trans n'.w⟩;have:=m1.drew.call m' n' k.1;rw[<-k.2]at this;exact this
 have c0:=P1.cell 0;have c4:=P1.cell 4;have r0:w1.cell? ⟨g0,0,aj⟩=az (au (az ⟨b,0,aj⟩)):=m1.root.cell 0;have HK:aZ (∀dV w',qA (fr Z w.heap.size) w1.drew dV w'->w'.cell? ⟨g0,0,aj⟩=az (au (az ⟨b,0,aj⟩))/\w'.cell? ⟨w.heap.size,4,aj⟩=az (ah ag a.i)):=fun dV w' n=>by
  have q0:¬2<=(fr Z w.heap.size g0).1:=by rw[m1.iO];decide
  have q1:¬2<=(fr Z w.heap.size w.heap.size).1:=by rw[mH (aC _)];decide
  exact⟨(n.ch.cell (p:=⟨g0,0,aj⟩) m1.root.lt q0).trans r0,(n.ch.cell (p:=⟨w.heap.size,4,aj⟩) P1.lt q1).trans c4⟩
 unfold vQ at gK c0 c4|-;obtain⟨ak,aa,ab,ac,ai,ad⟩:=a;simp only at h3 gK c0 c4 F MEND HK|-;subst h3;clear m1 n1 h P1;unfold pt at *;go_enter func27,ntmps27;go_wp2_with fail;go_region_held3 (fun wq=>wq.cell? ⟨g0,0,aj⟩=az (au (az ⟨b,0,aj⟩))/\wq.cell? ⟨w.heap.size,4,aj⟩=az (ah ag ai))
  (first|exact⟨r0,c4⟩|exact G2)
  (first|(go_at_call 17;(with_reducible refine MEND.o.mono ?_);rintro e w7 ⟨rfl,hf⟩;have G:=aA (F.o w7 hf);obtain⟨QI,m7,n7⟩:=hf;have G2:=HK.o _ _ n7;clear m7 n7))
 go_wp2_with fail;exact bodyPost_end (results_none rfl _ _ _) rfl G.o
theorem ahf(h:pE B0 Z w g0 b ns cs L vi vo s.f.now s)(hp:nW ns cs)(N:Nat)(qX:dH ns cs s.f N)(hfl:yJ cs s.f)(hN:N<=700000000)(B:Nat)(hB:s.f.now+101<=B)(hgo:(yw B s.f.fl a.i.toNat).length<=1000000)(h2:a.k=2):di aH 27 #[pt g0,.agg (vQ a aD cD)] w (tN B0 Z w g0 b ns cs s a):=by
 obtain⟨m1,n1⟩:=h.begun (af (vQ a aD cD) 29);have P1:=dG.new w 29 (vQ a aD cD);obtain⟨w1,gK⟩:∃w1:aG,w.alloc (af (vQ a aD cD) 29)=w1:=⟨_,rfl⟩;rw[gK]at m1 n1 P1;have CUT:=aA (aeG s.f N a.i b ns cs L _ _ m1.drew.TU hp qX hfl hN B hB hgo);have F:aZ (∀e w',De (fr Z w.heap.size) w1.drew b ns cs s.f a.i e w'->tN B0 Z w g0 b ns cs s a (ax (.tuple #[])) w'):=fun e w' ⟨_,g,hr,dV,L',m',n'⟩=>by have k:=ahx hr;refine⟨rfl,⟨g,s.ins,s.outs⟩,dV,L',vi,vo,.inr (.inr (.inl ⟨h2,hr,rfl,rfl⟩)),?_,n1.drew.trans n'.w⟩;have:=m1.drew.call m' n' k.1;rw[<-k.2]at this;exact this
 have c0:=P1.cell 0;have c4:=P1.cell 4;have r0:w1.cell? ⟨g0,0,aj⟩=az (au (az ⟨b,0,aj⟩)):=m1.root.cell 0;have HK:aZ (∀dV w',qA (fr Z w.heap.size) w1.drew dV w'->w'.cell? ⟨g0,0,aj⟩=az (au (az ⟨b,0,aj⟩))/\w'.cell? ⟨w.heap.size,4,aj⟩=az (ah ag a.i)):=fun dV w' n=>by
  have q0:¬2<=(fr Z w.heap.size g0).1:=by rw[m1.iO];decide
  have q1:¬2<=(fr Z w.heap.size w.heap.size).1:=by rw[mH (aC _)];decide
  exact⟨(n.ch.cell (p:=⟨g0,0,aj⟩) m1.root.lt q0).trans r0,(n.ch.cell (p:=⟨w.heap.size,4,aj⟩) P1.lt q1).trans c4⟩
 unfold vQ at gK c0 c4|-;obtain⟨ak,aa,ab,ac,ai,ad⟩:=a;simp only at h2 gK c0 c4 F CUT HK|-;subst h2;clear m1 n1 h P1 qX hfl hp hgo;unfold pt at *;go_enter func27,ntmps27;go_wp2_with fail;go_region_held3 (fun wq=>wq.cell? ⟨g0,0,aj⟩=az (au (az ⟨b,0,aj⟩))/\wq.cell? ⟨w.heap.size,4,aj⟩=az (ah ag ai))
  (first|exact⟨r0,c4⟩|exact G2)
  (first|(go_at_call 16;(with_reducible refine CUT.o.mono ?_);rintro e w7 hf;have G:=aA (F.o e w7 hf);obtain⟨rfl,g7,hr7,QI,L7,m7,n7⟩:=hf;have G2:=HK.o _ _ n7;clear m7 n7 hr7))
 go_wp2_with fail;exact bodyPost_end (results_none rfl _ _ _) rfl G.o
end
def adW(B0:Nat)(xV:Own)(w3:aG)(lo hi g0 b:Nat)(ns:List Nd)(cs:List Cb)(L3:rY)(vi:aJ)(tm:Nat)(f3:dB)(ins:List Fm)(outs D:List Dl)(i:aJ)(wr:aG):Prop:=
 ∃k:Nat,k<=D.length/\i=ah ag k/\∃dV vo',pE B0 dV wr g0 b ns cs L3 vi vo' tm ⟨f3,ins,outs++D.take k⟩/\NK xV w3 dV wr/\Ch (fun k=>k<lo) w3 wr/\∀g,vo'.ownBlock=az g->g<lo\/hi<=g
theorem aei(B0:Nat)(Z:Own)(w:aG)(g0 b:Nat)(ns:List Nd)(cs:List Cb)(L:rY)(vi vo:aJ)(s:Oa)(a:qg)(aD:Option Addr)(cD:Nat)(h:pE B0 Z w g0 b ns cs L vi vo s.f.now s)(hb0:B0<=w.heap.size)(hp:nW ns cs)(h8:ns.length<=8)(Mf:cs.length<=10)(hv:fQ ⟨ns,cs⟩=0)(sN:QJ ⟨ns,cs⟩){B n:Nat}(hk:WOk ns cs B n s)(hB:n+102<=B)(hn:n<=14000)(h0:a.k=0):di aH 27 #[pt g0,.agg (vQ a aD cD)] w (tN B0 Z w g0 b ns cs s a):=by
 obtain⟨m1,n1⟩:=h.begun (af (vQ a aD cD) 29);have P1:=dG.new w 29 (vQ a aD cD);have hs1:(w.alloc (af (vQ a aD cD) 29)).heap.size=w.heap.size+1:=by simp
 obtain⟨w1,gK⟩:∃w1:aG,w.alloc (af (vQ a aD cD) 29)=w1:=⟨_,rfl⟩;rw[gK]at m1 n1 P1 hs1;have ayg:s.f.now<=14000:=by have:=hk.nw;omega
 have hwr:wrap64 ((s.f.now:Int)+1)=(s.f.now:Int)+1:=by unfold wrap64;omega
 have c0:=P1.cell 0;have r3:w1.cell? ⟨g0,3,aj⟩=az (ah ag (s.f.now:Int)):=m1.root.cell 3;have f3:=m1.root.frozen 3;obtain⟨m2,n2⟩:=m1.acH (s.f.now+1);rw[show(((s.f.now+1:Nat):Int))=(s.f.now:Int)+1 from rfl]at m2 n2;obtain⟨w2,Lp⟩:∃w2:aG,w1.setCell ⟨g0,3,aj⟩ (ah ag ((s.f.now:Int)+1))=w2:=⟨_,rfl⟩;rw[Lp]at m2 n2;have hs2:w2.heap.size=w1.heap.size:=by rw[<-Lp];simp
 have r0:w2.cell? ⟨g0,0,aj⟩=az (au (az ⟨b,0,aj⟩)):=m2.root.cell 0;have apN:=aA (RZ s.f (n*42000) b ns cs L _ w2 m2.TU hp hk.ok hk.fl Mf hv sN hk.ok.up (by omega));have N2:=aA (n1.trans n2);have M2:=aA m2;have aGa:=aA h.outs;have HWK:=aA hk;have HPL:=aA hp;have TI:=aA (fun nr=>Zg (ns:=ns) (cs:=cs) s.f nr);have TN:=aA (fun nr=>aiF (ns:=ns) (cs:=cs) s.f nr);have G0:aZ (g0<w.heap.size/\w.heap.size+1=w2.heap.size/\B0<=w.heap.size):=⟨h.root.lt,by omega,hb0⟩;have OL:aZ (∀g,vo.ownBlock=az g->g<w.heap.size):=fun g hg=>by obtain⟨Q,_,d2,_⟩:=h.outs.1;exact(d2.lt g hg).2
 obtain⟨i0,hi0,zC,Aq,Av⟩:=eQ ZT;obtain⟨nw0,ahO⟩:∃nw0,s.f.now=nw0:=⟨_,rfl⟩;unfold vQ at gK c0|-;have HST:aZ (∀e w',tN B0 Z w g0 b ns cs s a e w'->tN B0 Z w g0 b ns cs s a e w'):=fun _ _ q=>q;generalize Ex:tN B0 Z w g0 b ns cs s a=NZ at *;have Tf:=aA Ex;obtain⟨ak,aa,ab,ac,ai,ad⟩:=a;simp only at h0 gK c0|-;clear m1 n1 m2 n2 h P1 hk hp sN Ex HST;rw[ahO]at r3 hwr Lp;subst h0;unfold pt at *;go_enter func27,ntmps27;go_wp2_with (first|(go_at_call 15;(with_reducible refine apN.out.mono ?_);rintro e w3 ⟨nr,hr1,hr2,vD,rfl,xV,L3,m3,n3,d3⟩;have NR:=aA hr1;have NR2:=aA hr2;have M3:=aA m3;have N3:=aA n3;obtain⟨Q3,q1,Ra,aqw,tg3⟩:=d3;have Q1:=aA q1;have OW3:=aA Ra;have DT3:=aA aqw;obtain⟨dA,dC,eD⟩:=dX Ra;subst eD;clear m3 n3 hr1 hr2 q1 Ra aqw tg3));have OKT:=aA (HWK.o.step HPL.o h8 (a:=⟨0,aa,ab,ac,ai,ad⟩) (t:=⟨(s.f.tick ns cs nr).1,s.ins,s.outs++(s.f.tick ns cs nr).2⟩) (.inl ⟨rfl,nr,NR.o,NR2.o,rfl⟩) hB hn);have W3:=aA (M2.o.call M3.o N3.o (TN.o nr).2);have TKS:=aA (TI.o nr);have F:aZ (∀dV vo' w',pE B0 dV w' g0 b ns cs L3 vi vo' (nw0+1) ⟨(s.f.tick ns cs nr).1,s.ins,s.outs++(s.f.tick ns cs nr).2⟩->NK xV w3 dV w'->NZ (ax (.tuple #[])) w'):=fun dV vo' w' m' n'=>by rw[<-Tf.o];refine⟨rfl,⟨(s.f.tick ns cs nr).1,s.ins,s.outs++(s.f.tick ns cs nr).2⟩,dV,L3,vi,vo',.inl ⟨rfl,nr,NR.o,NR2.o,rfl⟩,?_,(N2.o.trans N3.o.w).trans n'⟩;rw[show(s.f.tick ns cs nr).1.now=nw0+1 by rw[(TN.o nr).1,ahO]];exact m'
 have LEN:aZ ((s.outs++(s.f.tick ns cs nr).2).length<=14001):=by have h1:=OKT.o.ac.len;have h2:=OKT.o.il;have h3:=OKT.o.la;rw[dW]at h1;show(s.outs++(s.f.tick ns cs nr).2).length<=14001;have h1':Ey (fun _=>1) B (s.f.tick ns cs nr).1 []+(s.outs++(s.f.tick ns cs nr).2).length+(s.f.tick ns cs nr).1.lost.length=s.ins.length:=h1;have h2':s.ins.length=(s.f.tick ns cs nr).1.last:=h2;have h3':(s.f.tick ns cs nr).1.last<=n+1:=h3;omega
 rw[ahO]at TKS;clear OKT TI TN apN M2 NR NR2 M3 HWK HPL;obtain⟨f3',hf3⟩:∃f3',(s.f.tick ns cs nr).1=f3':=⟨_,rfl⟩;obtain⟨D,hD⟩:∃D,(s.f.tick ns cs nr).2=D:=⟨_,rfl⟩;rw[hf3]at W3 F;rw[hD]at F LEN TKS Q1;rw[ahO]at W3;clear hf3 hD;obtain⟨tm,htm⟩:∃tm,nw0+1=tm:=⟨_,rfl⟩;rw[htm]at W3 F TKS;have lQ:aZ (Q3.length=D.length):=by rw[aZ,<-Q1.o,dW]
 obtain⟨lo,hlo⟩:∃lo,w2.heap.size=lo:=⟨_,rfl⟩;obtain⟨hi,hhi⟩:∃hi,w3.heap.size=hi:=⟨_,rfl⟩;have GL:aZ (g0<lo/\lo<=hi/\w3.heap.size=hi/\B0<=lo/\w.heap.size<lo):=by have h1:=G0.o;have h2:=N3.o.ch.size;rw[aZ];omega
 have ROW:aZ (∀wr,Ch (fun k=>k<lo) w3 wr->∀k,k<Q3.length->∃g,dA=az ⟨g,0,aj⟩/\∀j,j<8->wr.cell? ⟨g,k*8+j,aj⟩=(ZH (Q3.getD k ((0,0,default),undef)))[j]?):=fun wr hc k hk=>by obtain⟨g,cap,e1,_,hl,ho,hcl⟩:=qf (d:=(((0,0,default):Dl),undef)) XO OW3.o rfl hk;injection e1 with e1;refine⟨g,e1,fun j hj=>?_⟩;rw[hc.cell (p:=⟨g,k*8+j,aj⟩) hl fun s=>by have h1:=(OW3.o.lt g ho).1;have s:g<lo:=s;omega];exact hcl k hk j hj
 have ST:aZ (adW B0 xV w3 lo hi g0 b ns cs L3 vi tm f3' s.ins s.outs D (ah ag 0) w3):=⟨0,Nat.zero_le _,rfl,xV,vo,by rw[List.take_zero,jr];exact W3.o,NK.refl _ _,Ch.refl _ _,fun g hg=>.inl (by have h1:=OL.o g hg;have h2:=GL.o;omega)⟩;have lD:D.length<=14001:=by have:=LEN.o;rw[bW]at this;omega
 have DTD:aZ (∀x∈Q3,∃va c,x.2=ay va x.1.2.2.data.length c):=fun x hx=>by obtain⟨va,c,e,_⟩:=DT3.o x hx;exact⟨va,c,e⟩
 clear N2 OW3 hlo hhi r0 r3 hwr N3 W3 G0;go_loopw [5,26] (fun _ i wr=>adW B0 xV w3 lo hi g0 b ns cs L3 vi tm f3' s.ins s.outs D i wr) (fun _ i _=>D.length-(aK i).toNat);case atStart=>exact ST.o
 case round=>
  clear ST;obtain⟨k,hk,rfl,τr,vr,mr,nr',cr,lr⟩:=hrel;by_cases yH:k<D.length
  ·have hkq:k<Q3.length:=by have:=lQ.out;omega
   obtain⟨g,eg,cg⟩:=ROW.o wr cr k hkq;subst eg;have hm:Q3.getD k ((0,0,default),undef)∈Q3:=(by simp[bS,hkq]);have hx1:D.getD k (0,0,default)=(Q3.getD k ((0,0,default),undef)).1:=(by rw[<-Q1.o];simp[bS,hkq]);have hxt:(D.getD k (0,0,default)).1=tm:=TKS.o _ (by simp[bS,yH]);have TK:=aA (jU (0,0,default) D k yH);rw[hx1]at TK hxt;obtain⟨va,vk,eV⟩:=DTD.o _ hm;have DX:=aA (DT3.o _ hm);generalize Q3.getD k ((0,0,default),undef)=x at *;obtain⟨⟨dt,du,⟨xi,xf,xt,xl,xe,xd⟩⟩,xv⟩:=x;simp only at eV hxt;subst eV;have hxt:=hxt.symm;subst hxt;have m0:=cg 0 (by omega);have m1:=cg 1 (by omega);have m2:=cg 2 (by omega);have m3:=cg 3 (by omega);have m4:=cg 4 (by omega);have m5:=cg 5 (by omega);have m6:=cg 6 (by omega);have m7:=cg 7 (by omega);simp only[ZH,Dm,Nat.add_zero,List.getElem?_cons_zero,List.getElem?_cons_succ]at m0 m1 m2 m3 m4 m5 m6 m7;clear cg;have kq0:(0:Int)<=(k:Int):=(by omega);have kq1:(k:Int)<(Q3.length:Int):=(by omega);obtain⟨wb,Og⟩:∃wb:aG,wr.alloc (af #[ah ag (tm:Int),ah ag (du:Int),ah ag xi,ah ag xf,ah ag xt,ah ag xl,ah ag xe,ay va xd.length vk] 61)=wb:=⟨_,rfl⟩;have BB:aO wr.heap.size wr wb:=(by rw[<-Og];exact(aS _ _).alloc (aC _) _);have VB:dG wb wr.heap.size 61 #[ah ag (tm:Int),ah ag (du:Int),ah ag xi,ah ag xf,ah ag xt,ah ag xl,ah ag xe,ay va xd.length vk]:=(by rw[<-Og];exact dG.new wr _ _);obtain⟨bX,hbX⟩:∃bX,wr.heap.size=bX:=⟨_,rfl⟩;rw[hbX]at VB;have mb:=mr.below BB;have SET:=mb.drew.aix;obtain⟨w7,hw7⟩:∃w7,wb.drew=w7:=⟨_,rfl⟩;have z7:=mb.drew;have VB7:=VB.drew;rw[hw7]at z7 VB7 SET;have k4:w7.cell? ⟨g0,4,aj⟩=az (.bool true):=z7.root.cell 4;have k3:w7.cell? ⟨g0,3,aj⟩=az (ah ag (tm:Int)):=z7.root.cell 3;have kx0:w7.cell? ⟨bX,0,aj⟩=az (ah ag (tm:Int)):=VB7.cell 0;have f4:=z7.root.frozen 4;have M7:=aA z7;have NR7:aZ (NK xV w3 (fr τr wr.heap.size) w7):=(by rw[aZ,<-hw7];exact(nr'.trans (qA.dw BB).w).drew);have CR7:aZ (Ch (fun k=>k<lo) w3 w7):=(by rw[aZ,<-hw7];exact(cr.sH BB).drew);obtain⟨Q7,q7,Rc,aeD,tg7⟩:=z7.outs.1;have HQ7:=aA q7;have OW7:=aA Rc;have DT7:=aA aeD;obtain⟨a3,c3,eV⟩:=dX Rc;subst eV;have k2:w7.cell? ⟨g0,2,aj⟩=az (ay a3 Q7.length c3):=z7.root.cell 2;have DX7:aZ (iX (fr τr wr.heap.size) w7 xd (ay va xd.length vk)):=by
    have h1:iX τr wr xd (ay va xd.length vk):=by
     refine DX.o.jM nr'.ch nr'.ext fun k s=>?_;rcases s with s|s
     ·omega
     ·rw[s];decide
    have h2:iX (fr τr wr.heap.size) wb xd (ay va xd.length vk):=h1.jM (S:=fun _=>False) (Ch.dw BB) (fun _ hk=>iD hk) fun _ s=>s.elim;rw[aZ,<-hw7];exact h2.jM (S:=fun _=>False) (Ch.refl _ wb).drew (fun _ _=>rfl) fun _ s=>s.elim
   have VX7:aZ (dG w7 bX 61 #[ah ag (tm:Int),ah ag (du:Int),ah ag xi,ah ag xf,ah ag xt,ah ag xl,ah ag xe,ay va xd.length vk]):=VB7;have ahc:=aA SET.2;have SZ:aZ (hi<=w7.heap.size/\B0<=w7.heap.size):=(by have h1:=CR7.o.size;have h2:=GL.o;rw[aZ];omega);have L7:aZ (Q7.length<=14001):=(by have h1:Q7.length=(s.outs++D.take k).length:=(by have:=congrArg List.length HQ7.o;rw[dW]at this;exact this);have h2:=LEN.o;rw[bW,List.length_take]at h1;rw[bW]at h2;rw[aZ];omega);have LR:=aA lr;have Lh:aZ (bX≠g0/\∀q,(ay a3 Q7.length c3).ownBlock=az q->bX≠q):=⟨dG.sZ VB7 z7.root (by decide),fun q hq e=>by have h1:(mr.outs.1).choose_spec=(mr.outs.1).choose_spec:=rfl;obtain⟨Qr,_,d2,_⟩:=mr.outs.1;have:=(d2.lt q hq).2;omega⟩;clear z7 mr mb BB VB VB7 SET nr' cr Rc aeD tg7 q7 lr DX;go_wp2_with fail;refine fZ 16 (fun wq=>wq.cell? ⟨g0,4,aj⟩=az (.bool true)/\wq.cell? ⟨bX,0,aj⟩=az (ah ag (tm:Int))/\wq.cell? ⟨g0,3,aj⟩=az (ah ag (tm:Int))) (by kernel_rfl) (by rw[hw7];exact⟨k4,kx0,k3⟩) (fun aW=>?_);rw[hw7]at aW|-;refine bH.tk 0 aW ?_;try simp only[bI]
   refine bH.tk 1 aW ?_;try simp only[bI]
   refine bH.tk 2 aW ?_;try simp only[bI]
   refine bH.tk 3 aW ?_;try simp only[bI]
   refine bH.tk 4 aW ?_;try simp only[bI]
   refine bH.tk 5 aW ?_;try simp only[bI]
   refine bH.tk 6 aW ?_;try simp only[bI]
   refine bH.tk 7 aW ?_;try simp only[bI]
   refine bH.tk 8 aW ?_;try simp only[bI]
   refine bH.tk 9 aW ?_;try simp only[bI]
   refine bH.tk 10 aW ?_;try simp only[bI]
   refine bH.tk 11 aW ?_;try simp only[bI]
   refine bH.tk 12 aW ?_;try simp only[bI]
   refine bH.tk 13 aW ?_;try simp only[bI]
   refine bH.tk 14 aW ?_;try simp only[bI]
   refine bH.tk 15 aW ?_;try simp only[bI]
   refine bH.one (i:=16) (by kernel_rfl) rfl (fun K hK=>?_);go_simp;refine hK.out _ _ (fun h=>absurd rfl h) (fun _=>?_);clear hK;refine bH.done (by kernel_rfl) ?_ _;try simp only[bI]
   rw[ahc.out];have RN:aZ (Reads (w7.alloc (af #[ah ag (tm:Int),ah ag (du:Int),ah ag xi,ah ag xf,ah ag xt,ah ag xl,ah ag xe,ay va xd.length vk] 61)).drew (w7.heap.size+1) 8 (az ⟨w7.heap.size,0,aj⟩) 1 [ah ag (tm:Int),ah ag (du:Int),ah ag xi,ah ag xf,ah ag xt,ah ag xl,ah ag xe,ay va xd.length vk]):=(iE w7 61 [ah ag (tm:Int),ah ag (du:Int),ah ag xi,ah ag xf,ah ag xt,ah ag xl,ah ag xe,ay va xd.length vk] (n:=1) (size:=8) rfl).drew;have OW:aZ ((w7.alloc (af #[ah ag (tm:Int),ah ag (du:Int),ah ag xi,ah ag xf,ah ag xt,ah ag xl,ah ag xe,ay va xd.length vk] 61)).drew.ownsRow B0 61 8 (ay a3 Q7.length c3) Q7.length (Q7.flatMap ZH)):=OW7.o.alloc (af #[ah ag (tm:Int),ah ag (du:Int),ah ag xi,ah ag xf,ah ag xt,ah ag xl,ah ag xe,ay va xd.length vk] 61);have KS:aZ (∀wq,Ch (fun k=>(ay a3 Q7.length c3).ownBlock=az k) w7 wq->(fun wq=>wq.cell? ⟨g0,2,aj⟩=az (ay a3 Q7.length c3)/\wq.cell? ⟨bX,0,aj⟩=az (ah ag (tm:Int))/\wq.cell? ⟨bX,1,aj⟩=az (ah ag (du:Int))/\wq.cell? ⟨bX,2,aj⟩=az (ah ag xi)/\wq.cell? ⟨bX,3,aj⟩=az (ah ag xf)/\wq.cell? ⟨bX,4,aj⟩=az (ah ag xt)/\wq.cell? ⟨bX,5,aj⟩=az (ah ag xl)/\wq.cell? ⟨bX,6,aj⟩=az (ah ag xe)/\wq.cell? ⟨bX,7,aj⟩=az (ay va xd.length vk)) wq):=fun wq hq=>by
    have nb:∀{q:Nat} {z:aJ},w7.cell? ⟨bX,q,aj⟩=az z->wq.cell? ⟨bX,q,aj⟩=az z:=fun{q z} hz=>
     (hq.cell (p:=⟨bX,q,aj⟩) (World.block_lt_of_cell? w7 _ hz) fun s=>Lh.o.2 _ s rfl).trans hz
    have e2:wq.cell? ⟨g0,2,aj⟩=az (ay a3 Q7.length c3):=(hq.cell (p:=⟨g0,2,aj⟩) M7.o.root.lt fun s=>M7.o.Uh s).trans k2;have v:=VX7.o;exact⟨e2,nb (v.cell 0),nb (v.cell 1),nb (v.cell 2),nb (v.cell 3),nb (v.cell 4),nb (v.cell 5),nb (v.cell 6),nb (v.cell 7)⟩
   have jm:aZ (∀v8 w8,w8.ownsRow B0 61 8 v8 (Q7.length+1) (Q7.flatMap ZH++[ah ag (tm:Int),ah ag (du:Int),ah ag xi,ah ag xf,ah ag xt,ah ag xl,ah ag xe,ay va xd.length vk])->(w7.alloc (af #[ah ag (tm:Int),ah ag (du:Int),ah ag xi,ah ag xf,ah ag xt,ah ag xl,ah ag xe,ay va xd.length vk] 61)).grownBy w8 (ay a3 Q7.length c3).ownBlock->(v8.ownBlock=(ay a3 Q7.length c3).ownBlock\/v8.ownBlock=az (w7.heap.size+1))->adW B0 xV w3 lo hi g0 b ns cs L3 vi tm f3' s.ins s.outs D (ah ag ((k:Int)+1)) (w8.setCell ⟨g0,2,aj⟩ v8)/\w8.frozen? ⟨g0,2,aj⟩=false/\w8.cell? ⟨g0,2,aj⟩=az (ay a3 Q7.length c3)):=fun v8 w8 ho hg hl=>by
    obtain⟨o1,o2,o3,o4,o5⟩:=M7.o.amF HQ7.o DT7.o (d:=(tm,du,⟨xi,xf,xt,xl,xe,xd⟩)) (dv:=ay va xd.length vk) DX7.o ((aS _ _).alloc (aC _) _) hg (by simpa[ZH,Dm]using ho) (hl.elim .inl fun e=>.inr ⟨_,e,by omega⟩);refine⟨⟨k+1,by omega,by congr 1,_,v8,by rw[TK.o,<-List.append_assoc];exact o1,NR7.o.trans o2,CR7.o.trans o5 fun i hi' s=>?_,fun q hq=>?_⟩,o3,o4⟩
    ·have h1:=GL.o;rcases s with s|s
     ·have:=LR.o i s;show i<lo;omega
     ·show i<lo;omega
    ·rcases hl with e|e
     ·rw[e]at hq;exact LR.o q hq
     ·rw[e]at hq;injection hq with hq;have:=SZ.o;omega
   have k8:=KS.o w7.drew (Ch.refl _ w7).drew;clear k4 kx0 k3 f4 k2 M7 NR7 CR7 HQ7 DT7 DX7 VX7 ahc LR Lh TK;go_wp2_with fail;refine fZ 10 (fun wq=>wq.cell? ⟨g0,2,aj⟩=az (ay a3 Q7.length c3)/\wq.cell? ⟨bX,0,aj⟩=az (ah ag (tm:Int))/\wq.cell? ⟨bX,1,aj⟩=az (ah ag (du:Int))/\wq.cell? ⟨bX,2,aj⟩=az (ah ag xi)/\wq.cell? ⟨bX,3,aj⟩=az (ah ag xf)/\wq.cell? ⟨bX,4,aj⟩=az (ah ag xt)/\wq.cell? ⟨bX,5,aj⟩=az (ah ag xl)/\wq.cell? ⟨bX,6,aj⟩=az (ah ag xe)/\wq.cell? ⟨bX,7,aj⟩=az (ay va xd.length vk)) (by kernel_rfl) k8 (fun aW=>?_);refine bH.tk 0 aW ?_;try simp only[bI]
   refine bH.tk 1 aW ?_;try simp only[bI]
   refine bH.tk 2 aW ?_;try simp only[bI]
   refine bH.tk 3 aW ?_;try simp only[bI]
   refine bH.tk 4 aW ?_;try simp only[bI]
   refine bH.tk 5 aW ?_;try simp only[bI]
   refine bH.one (i:=6) (by kernel_rfl) rfl (fun K hK=>?_);go_simp;refine hK.out _ _ (fun _=>KS.o _ ((Ch.refl _ _).alloc _).drew) (fun bU=>?_);have aW:=bU (by decide);clear hK bU;try simp only[bI]
   refine bH.one (i:=7) (by kernel_rfl) rfl (fun K hK=>?_);refine gy _ (by rfl) (.tmp 50) (.tmp 52) 39 (by rfl) B0 61 i0 _ 8 80 underlying39 hi0 zC Aq Av rfl (by decide) _ _ _ (by rfl) OW.o _ (az ⟨w7.heap.size,0,aj⟩) 1 1 [ah ag (tm:Int),ah ag (du:Int),ah ag xi,ah ag xf,ah ag xt,ah ag xl,ah ag xe,ay va xd.length vk] (by rfl) RN.o ?_ ?_ ?_ ?_ ?_
   ·intro u hu;simp only[dM,dZ,or_false]at hu;rcases hu with rfl|rfl|rfl|rfl|rfl|rfl|rfl|rfl<;>rfl
   ·have:=L7.o;unfold maxLen;omega
   ·have:=L7.o;omega
   ·exact eY SZ.o.2 ((Ch.refl (fun _=>False) w7).alloc _).drew.size
   intro v8 w8 Jp Bl Mm;obtain⟨a8,c8,eV8⟩:=dX Jp;subst eV8;have RR:=jm.out _ w8 Jp ⟨Bl.os,Bl.tape,Bl.output,Bl.size,Bl.block⟩ (by simpa using Mm);have R:=aA RR.1;have fz:=RR.2.1;have cz:=RR.2.2;have k15:=KS.o w8 (((Ch.refl _ w7).alloc _).grown ⟨Bl.os,Bl.tape,Bl.output,Bl.size,Bl.block⟩ fun g hg=>.inl hg);clear Jp Bl Mm RR jm;refine hK.out _ _ (fun _=>k15) (fun bU=>?_);have aW:=bU (by decide);clear hK bU;try simp only[bI]
   clear k15;refine bH.tk 8 aW ?_;try simp only[bI]
   refine bH.tk 9 aW ?_;try simp only[bI]
   refine bH.one (i:=10) (by kernel_rfl) rfl (fun K hK=>?_);go_simp;refine hK.out _ _ (fun h=>absurd rfl h) (fun _=>?_);clear hK;refine bH.done (by kernel_rfl) ?_ _;try simp only[bI]
   go_wp2_with fail;exact⟨R.o,by simp[aK];omega⟩
  ·obtain rfl:k=D.length:=by omega
   rw[List.take_length]at mr;have FF:=aA (F.o _ _ _ mr nr');clear mr nr' cr lr;have hq:¬(D.length:Int)<(Q3.length:Int):=by have:=lQ.out;omega
   go_wp2_with fail;exact bodyPost_end (results_none rfl _ _ _) rfl FF.o
theorem afc:(Tryz.prog.info? 63).map (fun i=>(i.zero,i.size,i.bytes))=az (az (.agg #[ah ag 0,ah ag 0,ah ag 0,ah ag 0,ay aj 0 0]),5,56):=by kernel_rfl
theorem abh{P:Program}{a:Act}{w:aG}{o:Oper}{x1 x2 x3 x4 x5:Operand}{f:FuncId}{ts:Array TypeId}{v1 v2 v3 v4 v5:aJ}(hE:∀args w,(callFunc f args).run P w=.ok (.enter f args) w)(ho:o.op=Op.call {callee:=kU (kW f),args:=#[x1,x2,x3,x4,x5],argTypes:=ts})(h1:a.eval x1=v1)(h2:a.eval x2=v2)(h3:a.eval x3=v3)(h4:a.eval x4=v4)(h5:a.eval x5=v5):(execOp a.eval o).run P w=.ok (.enter f #[v1,v2,v3,v4,v5]) w:=by subst h1;subst h2;subst h3;subst h4;subst h5;simp[execOp,ho,resolve,invoke,hE,go_sem]
theorem Qz{P:Program}{ops:Array Oper}{o:Oper}{a:Act}{w:aG}{K:Act->aG->Prop}{Q:Exit->Act->aG->Prop}{E:Prop}(hg:o.guard=aj){x1 x2 x3 x4 x5:Operand}{f:FuncId}{ts:Array TypeId}{v1 v2 v3 v4 v5:aJ}(hE:∀args w,(callFunc f args).run P w=.ok (.enter f args) w)(ho:o.op=Op.call {callee:=kU (kW f),args:=#[x1,x2,x3,x4,x5],argTypes:=ts})(h1:a.eval x1=v1)(h2:a.eval x2=v2)(h3:a.eval x3=v3)(h4:a.eval x4=v4)(h5:a.eval x5=v5){Post:Ending->aG->Prop}(hc:di P f #[v1,v2,v3,v4,v5] w Post)(hK:∀e w',Post e w'->∃r,e=ax r/\K (a.put o.dst r) w'):if eZ o (yielded ops a.tmps)=true then Oper.wp P o a w K Q else E:=by
 have hw:eZ o (yielded ops a.tmps)=true:=by simp[eZ,hg]
 rw[if_pos hw];unfold Oper.wp;rw[abh hE ho h1 h2 h3 h4 h5];exact hc.mono fun e w' h=>by obtain⟨r,rfl,hk⟩:=hK e w' h;exact hk
theorem ahU{ns:List Nd}{cs:List Cb}{f:dB}{N:Nat}(ok:dH ns cs f N){iN jl cls:Int}{data:List Int}(h:(f.iF ns iN jl cls data).2.2=0):0<=cls/\data.length<=64/\(f.iF ns iN jl cls data).2.1=(f.last:Int)+1:=by
 rcases zD ok iN jl cls data with⟨e,he,q⟩|⟨_,_,_,_,_,q⟩|⟨_,_,_,_,_,_,q1,_,_,q2,q⟩
 ·rw[q]at h;exact absurd h he
 ·rw[q]at h;exact absurd (show(5:Int)=0 from h) (by decide)
 ·rw[q];exact⟨q1,q2.d,rfl⟩
theorem afe(f:dB)(iN jl cls:Int)(data:List Int)(v:aJ)(h:0<=cls):cSn f.aX (qO f iN jl cls data,v)=[ah ag iN,ah ag jl,ah ag cls,ah ag (f.dE:Int),v]:=by
 unfold cSn qO;simp only[List.cons.injEq,Value.int.injEq,true_and,and_true];have e:((cls.toNat+f.aX*(f.dE%2):Nat):Int)=cls+(f.aX:Int)*((f.dE:Int)%2):=by push_cast;rw[Int.toNat_of_nonneg h]
 rw[e];exact Int.add_sub_cancel _ _
theorem Xu(B0:Nat)(Z:Own)(w:aG)(g0 b:Nat)(ns:List Nd)(cs:List Cb)(L:rY)(vi vo:aJ)(s:Oa)(a:qg)(aD:Option Addr)(cD:Nat)(h:pE B0 Z w g0 b ns cs L vi vo s.f.now s)(hb0:B0<=w.heap.size)(hp:nW ns cs){B n:Nat}(hk:WOk ns cs B n s)(hn:n<=14000)(hdl:a.data.length<=1000000)(Je:a.data.length<=64->iX Z w a.data (ay aD a.data.length cD))(h1:a.k=1):di aH 27 #[pt g0,.agg (vQ a aD cD)] w (tN B0 Z w g0 b ns cs s a):=by
 obtain⟨m1,n1⟩:=h.begun (af (vQ a aD cD) 29);have P1:=dG.new w 29 (vQ a aD cD);have BL:aO w.heap.size w (w.alloc (af (vQ a aD cD) 29)):=(aS _ _).alloc (aC _) _;obtain⟨w1,gK⟩:∃w1:aG,w.alloc (af (vQ a aD cD) 29)=w1:=⟨_,rfl⟩;rw[gK]at m1 n1 P1 BL;obtain⟨bA,hbA⟩:∃bA,w.heap.size=bA:=⟨_,rfl⟩;have OKH:=aA hk.ok;have lsm:s.f.last<=14000:=by have:=hk.la;omega
 obtain⟨n0,hn0⟩:∃n0,s.ins.length=n0:=⟨_,rfl⟩;have hil:s.f.last=n0:=by rw[<-hn0];exact hk.il.symm
 have EP:=aA (Yc m1.TU);have DW1:aZ (a.data.length<=64->iX (fr Z w.heap.size) w1 a.data (ay aD a.data.length cD)):=fun hl=>(Je hl).jM (S:=fun _=>False) (Ch.dw BL) (fun _ hk=>iD hk) fun _ q=>q.elim;have DWD:aZ (a.data.length<=64->iX (fr Z w.heap.size) w1.drew a.data (ay aD a.data.length cD)):=fun hl=>(DW1.o hl).jM (S:=fun _=>False) (Ch.refl _ w1).drew (fun _ _=>rfl) fun _ q=>q.elim;have INJ:=aA (Na s.f (n*42000) a.a a.b a.c a.data b ns cs L (fr Z w.heap.size) w1.drew m1.drew.TU hp hk.ok (by omega) aD cD (by omega) DWD.o);have c0:=P1.cell 0;have c1:=P1.cell 1;have c2:=P1.cell 2;have c3:=P1.cell 3;have c5:=P1.cell 5;have r0:w1.cell? ⟨g0,0,aj⟩=az (au (az ⟨b,0,aj⟩)):=m1.root.cell 0;have rT:¬2<=(fr Z w.heap.size g0).1:=by rw[m1.iO];decide
 have aT:fr Z w.heap.size w.heap.size=(0,0,0,0):=mH (aC _);have M1:=aA m1;have N1:=aA n1;have PA:=aA P1;have IC:=aA (ahT (ns:=ns) hk.ok a.a a.b a.c a.data);have IS:=aA (PQ (ns:=ns) hk.ok a.a a.b a.c a.data);have HB0:=aA hb0;have NE:aZ (g0≠bA):=by have:=h.root.lt;rw[aZ];omega
 obtain⟨bn,hbn⟩:∃bn,s.f.dE=bn:=⟨_,rfl⟩;rw[hbn]at EP;generalize Ex:tN B0 Z w g0 b ns cs s a=NZ at *;have Tf:=aA Ex;unfold vQ at gK c0 c1 c2 c3 c5 PA|-;obtain⟨ak,aa,ab,ac,ai,ad⟩:=a;simp only at h1 gK c0 c1 c2 c3 c5 PA INJ DWD IC IS hdl|-;subst h1;rw[hbA]at c0 c1 c2 c3 c5 PA;clear m1 n1 h P1 BL hk hp Je Ex hb0 DW1;unfold pt at *;have KA:aZ (∀dV w',qA (fr Z w.heap.size) w1.drew dV w'->(fun wq=>wq.cell? ⟨g0,0,aj⟩=az (au (az ⟨b,0,aj⟩))/\wq.cell? ⟨bA,1,aj⟩=az (ah ag aa)/\wq.cell? ⟨bA,2,aj⟩=az (ah ag ab)/\wq.cell? ⟨bA,3,aj⟩=az (ah ag ac)/\wq.cell? ⟨bA,5,aj⟩=az (ay aD ad.length cD)) w'/\dG w' bA 29 #[ah ag 1,ah ag aa,ah ag ab,ah ag ac,ah ag ai,ay aD ad.length cD]/\dV bA=(0,0,0,0)):=fun dV w' n=>by have q:dG w' bA 29 #[ah ag 1,ah ag aa,ah ag ab,ah ag ac,ah ag ai,ay aD ad.length cD]:=PA.o.drew.ch n.ch (by show ¬2<=(fr Z w.heap.size bA).1;rw[<-hbA,aT];decide);exact⟨⟨(n.ch.cell (p:=⟨g0,0,aj⟩) M1.o.root.lt rT).trans r0,q.cell 1,q.cell 2,q.cell 3,q.cell 5⟩,q,by rw[n.ext bA PA.o.lt,<-hbA];exact aT⟩
 obtain⟨⟨F',rid,rer⟩,hR⟩:∃r,s.f.iF ns aa ab ac ad=r:=⟨_,rfl⟩;have HR:=aA hR;rw[hR]at INJ IC IS;unfold JJ at INJ;simp only at INJ IC IS;by_cases hz:rer=0
 ·subst hz;have IY:=ahU (ns:=ns) OKH.o (iN:=aa) (jl:=ab) (cls:=ac) (data:=ad) (by rw[hR]);rw[hR]at IY;obtain⟨i1,i2,i3⟩:=IY;simp only at i3;rw[hil]at i3;subst i3;clear hR;have DW:aZ (iX (fr Z w.heap.size) w1.drew ad (ay aD ad.length cD)):=DWD.o i2;have CL:=aA (afe s.f aa ab ac ad · i1);have F1:aZ (∀dV L' v' w',pE B0 dV w' g0 b ns cs L' v' vo s.f.now ⟨F',s.ins++[qO s.f aa ab ac ad],s.outs⟩->NK Z w dV w'->NZ (ax (.tuple #[])) w'):=fun dV L' v' w' m' n'=>by
   rw[<-Tf.o];refine⟨rfl,⟨F',s.ins++[qO s.f aa ab ac ad],s.outs⟩,dV,L',v',vo,.inr (.inl ⟨rfl,?_⟩),?_,n'⟩
   ·show _=(⟨(s.f.iF ns aa ab ac ad).1,if(s.f.iF ns aa ab ac ad).2.2=0 then _ else _,_⟩:Oa);rw[HR.o];show _=(⟨F',if(0:Int)=0 then _ else _,_⟩:Oa);rw[if_pos rfl]
   ·rw[show F'.now=s.f.now from IS.o.2.1];exact m'
  obtain⟨i0,hi0,zC,Aq,Av⟩:=eQ afc;clear DWD OKH IS;go_enter func27,ntmps27;go_wp2_with (first|(go_at_call 22;(with_reducible refine EP.o.mono ?_);rintro e w2 ⟨rfl,rfl⟩));refine fZ 17 (fun wq=>wq.cell? ⟨g0,0,aj⟩=az (au (az ⟨b,0,aj⟩))/\wq.cell? ⟨bA,1,aj⟩=az (ah ag aa)/\wq.cell? ⟨bA,2,aj⟩=az (ah ag ab)/\wq.cell? ⟨bA,3,aj⟩=az (ah ag ac)/\wq.cell? ⟨bA,5,aj⟩=az (ay aD ad.length cD)) (by kernel_rfl) ⟨r0,c1,c2,c3,c5⟩ (fun aW=>?_);refine bH.tk 0 aW ?_;try simp only[bI]
  refine bH.tk 1 aW ?_;try simp only[bI]
  refine bH.tk 2 aW ?_;try simp only[bI]
  refine bH.tk 3 aW ?_;try simp only[bI]
  refine bH.tk 4 aW ?_;try simp only[bI]
  refine bH.tk 5 aW ?_;try simp only[bI]
  refine bH.tk 6 aW ?_;try simp only[bI]
  refine bH.tk 7 aW ?_;try simp only[bI]
  refine bH.tk 8 aW ?_;try simp only[bI]
  refine bH.tk 9 aW ?_;try simp only[bI]
  refine bH.tk 10 aW ?_;try simp only[bI]
  refine bH.tk 11 aW ?_;try simp only[bI]
  refine bH.one (i:=12) (by kernel_rfl) rfl (fun K hK=>?_);refine Qz (by rfl) (enters_of (P:=aH) func14 (by kernel_rfl) rfl) (by rfl) (by rfl) (by rfl) (by rfl) (by rfl) (by rfl) INJ.o ?_;rintro e w3 ⟨rfl,xV,L3,m3,n3⟩;obtain⟨k3,pa3,tA3⟩:=KA.o xV w3 n3;have PA3:=aA pa3;have M3:=aA (M1.o.drew.call m3 n3 IC.o);have N3:=aA (N1.o.drew.trans n3.w);have D3:=aA (DW.o.jM n3.ch n3.ext fun k s=>by omega);clear m3 n3 pa3 KA INJ;refine⟨_,rfl,?_⟩;refine hK.out _ _ (fun _=>k3) (fun bU=>?_);have aW:=bU (by decide);clear hK bU;try simp only[bI]
  clear k3;refine bH.tk 13 aW ?_;try simp only[bI]
  refine bH.tk 14 aW ?_;try simp only[bI]
  refine bH.tk 16 aW ?_;try simp only[bI]
  refine bH.tk 15 aW ?_;try simp only[bI]
  refine bH.one (i:=17) (by kernel_rfl) rfl (fun K hK=>?_);go_simp;refine hK.out _ _ (fun h=>absurd rfl h) (fun _=>?_);clear hK;refine bH.done (by kernel_rfl) ?_ _;try simp only[bI]
  obtain⟨w4,Ir⟩:∃w4,w3.drew=w4:=⟨_,rfl⟩;have m4:=M3.o.drew;have n4:=N3.o.drew;have d4:=D3.o.jM (S:=fun _=>False) (Ch.refl _ w3).drew (fun _ _=>rfl) fun _ q=>q.elim;have pa4:=PA3.o.drew;rw[Ir]at m4 n4 d4 pa4;obtain⟨ad',cd',ed,dr4,_,_⟩:=d4;have ed:=(Value.slice.inj ed).1;subst ed;have CLN:=aA (XT aD cD ad w4 hdl dr4);obtain⟨Q7,q7,Rc,aeD,tg7⟩:=m4.ins;have lQ:Q7.length=n0:=by rw[<-hn0,<-q7,dW]
  obtain⟨a7,c7,eV⟩:=dX Rc;subst eV;have k1:w4.cell? ⟨g0,1,aj⟩=az (ay a7 Q7.length c7):=m4.root.cell 1;rw[lQ]at k1;have KC:aZ (∀w',aO w4.heap.size w4 w'->(fun wq=>wq.cell? ⟨g0,1,aj⟩=az (ay a7 n0 c7)/\wq.cell? ⟨bA,1,aj⟩=az (ah ag aa)/\wq.cell? ⟨bA,2,aj⟩=az (ah ag ab)/\wq.cell? ⟨bA,3,aj⟩=az (ah ag ac)/\wq.cell? ⟨bA,5,aj⟩=az (ay aD ad.length cD)) w'):=fun w' hb=>
   ⟨(hb.cell (p:=⟨g0,1,aj⟩) m4.root.lt).trans k1,(hb.cell (p:=⟨bA,1,aj⟩) pa4.lt).trans (pa4.cell 1),(hb.cell (p:=⟨bA,2,aj⟩) pa4.lt).trans (pa4.cell 2),(hb.cell (p:=⟨bA,3,aj⟩) pa4.lt).trans (pa4.cell 3),(hb.cell (p:=⟨bA,5,aj⟩) pa4.lt).trans (pa4.cell 5)⟩
  have HQ7:=aA q7;have DT7:=aA aeD;have OW7:=aA Rc;have LQ:=aA lQ;have M4:=aA m4;have N4:=aA n4;have PA4:=aA pa4;have k4:=KC.o w4 (aS _ _);clear m4 n4 pa4 q7 Rc aeD tg7 lQ k1 dr4 M3 N3 D3 PA3;go_wp2_with fail;refine fZ 20 (fun wq=>wq.cell? ⟨g0,1,aj⟩=az (ay a7 n0 c7)/\wq.cell? ⟨bA,1,aj⟩=az (ah ag aa)/\wq.cell? ⟨bA,2,aj⟩=az (ah ag ab)/\wq.cell? ⟨bA,3,aj⟩=az (ah ag ac)/\wq.cell? ⟨bA,5,aj⟩=az (ay aD ad.length cD)) (by kernel_rfl) (by rw[Ir];exact k4) (fun aW=>?_);rw[Ir]at aW|-;refine bH.tk 0 aW ?_;try simp only[bI]
  refine bH.tk 1 aW ?_;try simp only[bI]
  refine bH.tk 2 aW ?_;try simp only[bI]
  refine bH.tk 3 aW ?_;try simp only[bI]
  refine bH.tk 4 aW ?_;try simp only[bI]
  refine bH.tk 5 aW ?_;try simp only[bI]
  refine bH.tk 6 aW ?_;try simp only[bI]
  refine bH.tk 7 aW ?_;try simp only[bI]
  refine bH.tk 8 aW ?_;try simp only[bI]
  refine bH.tk 9 aW ?_;try simp only[bI]
  refine bH.tk 10 aW ?_;try simp only[bI]
  refine bH.tk 11 aW ?_;try simp only[bI]
  refine bH.tk 12 aW ?_;try simp only[bI]
  refine bH.tk 13 aW ?_;try simp only[bI]
  refine bH.one (i:=14) (by kernel_rfl) rfl (fun K hK=>?_);refine xM (by rfl) (enters_of (P:=aH) func75 (by kernel_rfl) rfl) (by rfl) (by rfl) CLN.o ?_;rintro e w5 ⟨v5,rfl,uL,hb5⟩;have k5:=KC.o w5 hb5;have he5:∀k,k<w4.heap.size->qz xV w4.heap.size (1,0,0,0) k=xV k:=fun k hk=>if_pos hk;have M5:=aA (M4.o.jM (S:=fun _=>False) (Ch.dw hb5) he5 fun _ q=>q.elim);have N5:aZ (NK Z w (qz xV w4.heap.size (1,0,0,0)) w5):=N4.o.trans ⟨Ch.dw hb5,he5⟩;have D5:aZ (iX (qz xV w4.heap.size (1,0,0,0)) w5 ad v5):=iX.Jl uL i2 fun g hg=>by have h1:=(uL.lt g hg).1;unfold qz;rw[if_neg (by omega)]
  have OW5:=aA (fT OW7.o (Ch.dw (S:=fun _=>False) hb5) fun _ _ q=>q);have DT5:aZ (∀x∈Q7,iX (qz xV w4.heap.size (1,0,0,0)) w5 x.1.data x.2):=fun x hx=>(DT7.o x hx).jM (S:=fun _=>False) (Ch.dw hb5) he5 fun _ q=>q.elim;have PA5:=aA (PA4.o.below hb5 PA4.o.lt);have SZ:aZ (B0<=w5.heap.size):=by have h1:=N5.o.ch.size;have h2:=HB0.o;rw[aZ];omega
  obtain⟨a5,c5',eV5⟩:=dX uL;subst eV5;rw[LQ.o,show(⟨F',s.ins,s.outs⟩:Oa).f.aX=s.f.aX from IC.o]at OW5;have KD:aZ (∀wq,Ch (fun k=>(ay a7 n0 c7).ownBlock=az k) w5 wq->(fun wq=>wq.cell? ⟨g0,1,aj⟩=az (ay a7 n0 c7)/\wq.cell? ⟨bA,1,aj⟩=az (ah ag aa)/\wq.cell? ⟨bA,2,aj⟩=az (ah ag ab)/\wq.cell? ⟨bA,3,aj⟩=az (ah ag ac)/\wq.cell? ⟨bA,5,aj⟩=az (ay aD ad.length cD)) wq):=fun wq hq=>by
   have o7:=OW5.o;have nb:∀{q:Nat} {z:aJ},w5.cell? ⟨bA,q,aj⟩=az z->wq.cell? ⟨bA,q,aj⟩=az z:=fun{q z} hz=>
    (hq.cell (p:=⟨bA,q,aj⟩) PA5.o.lt fun s=>xJ o7 PA5.o (by decide) s).trans hz
   exact⟨(hq.cell (p:=⟨g0,1,aj⟩) M5.o.root.lt fun s=>xJ o7 M5.o.root (by decide) s).trans k5.1,nb k5.2.1,nb k5.2.2.1,nb k5.2.2.2.1,nb k5.2.2.2.2⟩
  have RN:aZ (Reads (w5.alloc (af #[ah ag aa,ah ag ab,ah ag ac,ah ag (bn:Int),ay a5 ad.length c5'] 63)) (w5.heap.size+1) 5 (az ⟨w5.heap.size,0,aj⟩) 1 [ah ag aa,ah ag ab,ah ag ac,ah ag (bn:Int),ay a5 ad.length c5']):=iE w5 63 [ah ag aa,ah ag ab,ah ag ac,ah ag (bn:Int),ay a5 ad.length c5'] (n:=1) (size:=5) rfl;have OW:aZ ((w5.alloc (af #[ah ag aa,ah ag ab,ah ag ac,ah ag (bn:Int),ay a5 ad.length c5'] 63)).ownsRow B0 63 5 (ay a7 n0 c7) n0 (Q7.flatMap (cSn s.f.aX))):=OW5.o.alloc (af #[ah ag aa,ah ag ab,ah ag ac,ah ag (bn:Int),ay a5 ad.length c5'] 63);have jm:aZ (∀v8 w8,w8.ownsRow B0 63 5 v8 (n0+1) (Q7.flatMap (cSn s.f.aX)++[ah ag aa,ah ag ab,ah ag ac,ah ag (bn:Int),ay a5 ad.length c5'])->(w5.alloc (af #[ah ag aa,ah ag ab,ah ag ac,ah ag (bn:Int),ay a5 ad.length c5'] 63)).grownBy w8 (ay a7 n0 c7).ownBlock->(v8.ownBlock=(ay a7 n0 c7).ownBlock\/v8.ownBlock=az (w5.heap.size+1))->∃τ9,pE B0 τ9 (w8.setCell ⟨g0,1,aj⟩ v8) g0 b ns cs L3 v8 vo s.f.now ⟨F',s.ins++[qO s.f aa ab ac ad],s.outs⟩/\NK Z w τ9 (w8.setCell ⟨g0,1,aj⟩ v8)/\w8.frozen? ⟨g0,1,aj⟩=false/\w8.cell? ⟨g0,1,aj⟩=az (ay a7 n0 c7)):=fun v8 w8 ho hg hl=>by have ho':w8.ownsRow B0 63 5 v8 (Q7.length+1) (Q7.flatMap (cSn s.f.aX)++cSn s.f.aX (qO s.f aa ab ac ad,ay a5 ad.length c5')):=(by rw[LQ.o,CL.o,hbn];exact ho);have m5:pE B0 (qz xV w4.heap.size (1,0,0,0)) w5 g0 b ns cs L3 (ay a7 n0 c7) vo s.f.now ⟨F',s.ins,s.outs⟩:=(by have:=M5.o;rw[LQ.o]at this;exact this);have e8:(⟨F',s.ins,s.outs⟩:Oa).f.aX=s.f.aX:=IC.o;obtain⟨o1,o2,o3,o4⟩:=m5.arq (x:=qO s.f aa ab ac ad) (dv:=ay a5 ad.length c5') HQ7.o DT5.o D5.o ((aS _ _).alloc (aC _) _) hg (by rw[e8];exact ho') (hl.elim .inl fun e=>.inr ⟨_,e,by omega⟩);exact⟨_,o1,N5.o.trans o2,o3,o4⟩
  clear CLN k4 KC M4 N4 PA4 DT7 OW7 M5 N5 D5 OW5 DT5 hb5 uL he5;refine⟨_,rfl,?_⟩;refine hK.out _ _ (fun _=>k5) (fun bU=>?_);have aW:=bU (by decide);clear hK bU;try simp only[bI]
  clear k5;refine bH.tk 15 aW ?_;try simp only[bI]
  refine bH.one (i:=16) (by kernel_rfl) rfl (fun K hK=>?_);go_simp;refine hK.out _ _ (fun _=>KD.o _ ((Ch.refl _ _).alloc _)) (fun bU=>?_);have aW:=bU (by decide);clear hK bU;try simp only[bI]
  refine bH.one (i:=17) (by kernel_rfl) rfl (fun K hK=>?_);refine gy _ (by rfl) (.tmp 86) (.tmp 98) 54 (by rfl) B0 63 i0 _ 5 56 underlying54 hi0 zC Aq Av rfl (by decide) _ _ _ (by rfl) OW.o _ (az ⟨w5.heap.size,0,aj⟩) 1 1 [ah ag aa,ah ag ab,ah ag ac,ah ag (bn:Int),ay a5 ad.length c5'] (by rfl) RN.o ?_ ?_ ?_ ?_ ?_
  ·intro u hu;simp only[dM,dZ,or_false]at hu;rcases hu with rfl|rfl|rfl|rfl|rfl<;>rfl
  ·unfold maxLen;omega
  ·omega
  ·exact eY SZ.o ((Ch.refl (fun _=>False) w5).alloc _).size
  intro v8 w8 Jp Bl Mm;obtain⟨a8,c8,eV8⟩:=dX Jp;subst eV8;obtain⟨τ9,m9,n9,fz,cz⟩:=jm.out _ w8 Jp ⟨Bl.os,Bl.tape,Bl.output,Bl.size,Bl.block⟩ (by simpa using Mm);have k15:=KD.o w8 (((Ch.refl _ w5).alloc _).grown ⟨Bl.os,Bl.tape,Bl.output,Bl.size,Bl.block⟩ fun g hg=>.inl hg);have G:=aA (F1.o _ _ _ _ m9 n9);obtain⟨w9,hw9⟩:∃w9,w8.setCell ⟨g0,1,aj⟩ (ay a8 (n0+1) c8)=w9:=⟨_,rfl⟩;rw[hw9]at m9 G;have z4:w9.cell? ⟨g0,4,aj⟩=az (.bool true):=m9.root.cell 4;have z1:w9.cell? ⟨g0,1,aj⟩=az (ay a8 (n0+1) c8):=m9.root.cell 1;have f4:=m9.root.frozen 4;have ahc:=aA m9.aix.2;clear Jp Bl Mm jm m9 n9;refine hK.out _ _ (fun _=>k15) (fun bU=>?_);have aW:=bU (by decide);clear hK bU;try simp only[bI]
  clear k15;refine bH.tk 18 aW ?_;try simp only[bI]
  refine bH.tk 19 aW ?_;try simp only[bI]
  refine bH.one (i:=20) (by kernel_rfl) rfl (fun K hK=>?_);go_simp;refine hK.out _ _ (fun h=>absurd rfl h) (fun _=>?_);clear hK;refine bH.done (by kernel_rfl) ?_ _;try simp only[bI]
  go_wp2_with fail;exact bodyPost_end (results_none rfl _ _ _) rfl (by rw[ahc.out];exact G.o)
 ·have F0:aZ (∀w',Gh (fr Z w.heap.size) w1.drew b ns cs F' w'->NZ (ax (.tuple #[])) w'):=fun w' ⟨dV,L',m',n'⟩=>by
   rw[<-Tf.o];have k:=M1.o.drew.call m' n' IC.o;refine⟨rfl,⟨F',s.ins,s.outs⟩,dV,L',vi,vo,.inr (.inl ⟨rfl,?_⟩),?_,N1.o.drew.trans n'.w⟩
   ·show _=(⟨(s.f.iF ns aa ab ac ad).1,if(s.f.iF ns aa ab ac ad).2.2=0 then _ else _,_⟩:Oa);rw[HR.o];show _=(⟨F',if rer=0 then _ else _,_⟩:Oa);rw[if_neg hz]
   ·rw[show F'.now=s.f.now from IS.o.2.1];exact k
  clear hR M1 N1 PA IS IC DWD;go_enter func27,ntmps27;go_wp2_with (first|(go_at_call 22;(with_reducible refine EP.o.mono ?_);rintro e w2 ⟨rfl,rfl⟩));refine fZ 17 (fun wq=>wq.cell? ⟨g0,0,aj⟩=az (au (az ⟨b,0,aj⟩))/\wq.cell? ⟨bA,1,aj⟩=az (ah ag aa)/\wq.cell? ⟨bA,2,aj⟩=az (ah ag ab)/\wq.cell? ⟨bA,3,aj⟩=az (ah ag ac)/\wq.cell? ⟨bA,5,aj⟩=az (ay aD ad.length cD)) (by kernel_rfl) ⟨r0,c1,c2,c3,c5⟩ (fun aW=>?_);refine bH.tk 0 aW ?_;try simp only[bI]
  refine bH.tk 1 aW ?_;try simp only[bI]
  refine bH.tk 2 aW ?_;try simp only[bI]
  refine bH.tk 3 aW ?_;try simp only[bI]
  refine bH.tk 4 aW ?_;try simp only[bI]
  refine bH.tk 5 aW ?_;try simp only[bI]
  refine bH.tk 6 aW ?_;try simp only[bI]
  refine bH.tk 7 aW ?_;try simp only[bI]
  refine bH.tk 8 aW ?_;try simp only[bI]
  refine bH.tk 9 aW ?_;try simp only[bI]
  refine bH.tk 10 aW ?_;try simp only[bI]
  refine bH.tk 11 aW ?_;try simp only[bI]
  refine bH.one (i:=12) (by kernel_rfl) rfl (fun K hK=>?_);refine Qz (by rfl) (enters_of (P:=aH) func14 (by kernel_rfl) rfl) (by rfl) (by rfl) (by rfl) (by rfl) (by rfl) (by rfl) INJ.o ?_;rintro e w3 ⟨rfl,hf⟩;have G:=aA (F0.o w3 hf);obtain⟨xV,L3,m3,n3⟩:=hf;have k3:=(KA.o xV w3 n3).1;clear m3 n3;refine⟨_,rfl,?_⟩;refine hK.out _ _ (fun _=>k3) (fun bU=>?_);have aW:=bU (by decide);clear hK bU;try simp only[bI]
  clear k3;refine bH.tk 13 aW ?_;try simp only[bI]
  refine bH.tk 14 aW ?_;try simp only[bI]
  refine bH.tk 16 aW ?_;try simp only[bI]
  refine bH.tk 15 aW ?_;try simp only[bI]
  refine bH.one (i:=17) (by kernel_rfl) rfl (fun K hK=>?_);go_simp;refine hK.out _ _ (fun h=>absurd rfl h) (fun _=>?_);clear hK;refine bH.done (by kernel_rfl) ?_ _;try simp only[bI]
  go_wp2_with fail;exact bodyPost_end (results_none rfl _ _ _) rfl G.o
end
end Go.Proofs.YtnjjkgjdhljfnaaGreat
