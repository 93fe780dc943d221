/- Part 15. -/
import Derived.Test.YtnjjkgjdhljfnaaGreatPk13
import Derived.Test.YtnjjkgjdhljfnaaGreatPk14
open Go.Proofs.Tryz
open Bool renaming false_eq_true->jU
open Go renaming Value->aI,World->aG
open Go.Ending renaming returned->ax
open Go.IntKind renaming i64->ag
open Go.Lib renaming hid->aA
open Go.Obj renaming cells->af
open Go.Proofs.Tryz renaming prog->aH
open Go.RowKit renaming Below->aN,Hid->aY,intOf->aJ
open Go.Value renaming int->ah,ownBlock->dV,pointer->au,slice->ay
open Go.World renaming block_lt_of_cell?->aZ,ownsRow_nil->dM
open List renaming getD->bJ,length_map->dE,length_take->ik,mem_map->gH
open Nat renaming le_refl->aC,le_trans->dZ
open Option renaming none->aj,some->az
open Option.some renaming inj->je
set_option maxRecDepth 100000
set_option maxHeartbeats 16000000
set_option linter.unusedVariables false
set_option linter.unusedSimpArgs false
namespace Go.Proofs.YtnjjkgjdhljfnaaGreat
open Go.RowKit Go.Maps
section
section
variable{Z:Own}{w:aG}{b:Nat}{ns:List Nd}{cs:List Cb}{f:dx}{L:rY}
theorem gy.alE(h:gy Z w b ns cs f L)(now:Nat)(hn:now<=900000000)(ty:TypeId):∃(v:aI) (Q:List Fw) (w':aG),(∀wq,Ch (fun _=>False) w wq->(Instr.lookup 90 (.map (az L.mf)) (ah ag now) false).run aH wq=.ok v wq)/\Q.map (·.1)=f.fl now/\(∀x∈Q,iQ Z w x.1.2.data x.2)/\(∀g,v.ownBlock=az g->Z g=(2,4,now,0))/\(Builtin.delete_ #[90,3] ty #[.map (az L.mf),ah ag now]).run aH w=.ok (.tuple #[]) w'/\Ch (· =L.mf) w w'/\w'.ownsRow 0 122 7 v Q.length (Q.flatMap Hy)/\∀w3,Ch (fun k=>v.ownBlock=az k) w' w3->gy Z w3 b ns cs {f with fl:=fun t=>if t=now then[]else f.fl t} L:=by
 obtain⟨⟨n,M,m1,m2,m3,m4,m5⟩,mT⟩:=h.fl;have YN:NC Z w (pJ M now) (f.fl now)/\∀g,(pJ M now).ownBlock=az g->Z g=(2,4,now,0):=by
  unfold pJ;cases hm:M (.int .i64 (now:Nat))with
  |none=>rw[m4 now hm];exact⟨⟨[],rfl,dM w 0 _ _,fun x hx=>by cases hx⟩,fun g e=>by simp[dV]at e⟩
  |some v=>exact m5 now v hm
 obtain⟨⟨Q,q1,i1,q3⟩,i2⟩:=YN;have look:=fun wq (hq:Ch (fun _=>False) w wq)=>(ni m1 hq id).look (t:=90) (int_keyed underlying3) underlying90 (Nu _) (keyOf_int_mk underlying3 (ny (now:Int) (by omega) (by omega)));obtain⟨w',hrun,om,g3⟩:=m1.drop (int_keyed underlying3) underlying90 (keyOf_int_mk underlying3 (ny (now:Int) (by omega) (by omega))) ty;have hc:Ch (fun k=>k=L.mf) w w':=(Ch.refl (fun k=>k=L.mf) w).grown g3 fun g hg=>.inl (je hg).symm;refine⟨pJ M now,Q,w',look,q1,q3,i2,hrun,hc,fO i1 hc fun g hg s=>?_,fun w3 h3=>?_⟩
 ·have:=i2 g hg;rw[s,mT]at this;simp at this
 ·have hc3:Ch (fun k=>k=L.mf\/(pJ M now).ownBlock=az k) w w3:=(hc.mono fun k _ q=>.inl q).trans h3 fun i _ s=>.inr s;have g:=h.Ra (fun k=>k=3\/k=4) (dN:=Z) hc3 (fun _ _=>rfl) fun k s=>.inr (by
   rcases s with s|s
   ·rw[s,mT];exact⟨rfl,.inl rfl⟩
   ·rw[i2 k s];exact⟨rfl,.inr rfl⟩)
  refine⟨⟨g.root (by decide),g.iP.1⟩,g.plan,g.aK,g.xH,g.La,g.bx,g.up (by decide),g.r0,g.r1,⟨g.bk (by decide),g.IE⟩,⟨?_,mT⟩,⟨g.lim (by decide) (by decide),g.Kl⟩,g.came (by decide),g.gone (by decide),g.lost (by decide)⟩;have om3:jo w3 aH 3 L.mf n (Vo M (.int .i64 now)):=ni om h3 fun s=>by have:=i2 _ s;rw[mT]at this;simp at this
  refine vG.del (M:=M) m2 m3 m4 om3 fun t v e hv=>?_;obtain⟨a1,a2⟩:=m5 t v hv;refine⟨a1.jD hc3 (fun _ _=>rfl) (fun k s=>?_) fun k hk s=>?_,fun k hk=>a2 k hk⟩
  ·rcases s with s|s
   ·rw[s,mT];decide
   ·rw[i2 k s];simp
  ·have q1:=a2 k hk;rcases s with s|s
   ·rw[s,mT]at q1;simp at q1
   ·rw[i2 k s]at q1;simp at q1;exact e q1.symm
end
def Xa(x:Dl×aI):List aI:=ah ag (x.1.1:Int)::ah ag (x.1.2.1:Int)::Cx (x.1.2.2,x.2)
theorem OZ(x:Dl×aI):(Xa x).length=8:=rfl
def Af(Z:Own)(base:Nat)(w:aG)(v:aI)(D:List Dl):Prop:=
 ∃Q:List (Dl×aI),Q.map (·.1)=D/\w.ownsRow base 61 8 v Q.length (Q.flatMap Xa)/\(∀x∈Q,iQ Z w x.1.2.2.data x.2)/\∀g,v.ownBlock=az g->(Z g).1=0
theorem Af.jD{Z dN:Own}{S:Nat->Prop}{base:Nat}{w w':aG}{v:aI}{D:List Dl}(h:Af Z base w v D)(hc:Ch S w w')(he:∀k,k<w.heap.size->dN k=Z k)(hS:∀k,S k->2<=(Z k).1):Af dN base w' v D:=by obtain⟨Q,h1,h2,h3,h4⟩:=h;exact⟨Q,h1,fO h2 hc fun g hg s=>by have:=hS g s;have:=h4 g hg;omega,fun x hx=>(h3 x hx).jD hc he fun k s=>by have:=hS k s;omega,fun g hg=>by rw[he g (h2.lt g hg).2];exact h4 g hg⟩
theorem Af.fnx{Z dN:Own}{base:Nat}{w w':aG}{v:aI}{D:List Dl}(h:Af Z base w v D)(n:qo Z w dN w'):Af dN base w' v D:=h.jD n.ch n.ext fun k s=>s
theorem rQ{base wU:Nat}{w:aG}{e:TypeId}{m n:Nat}{v:aI}{xs:List aI}(h:w.ownsRow base e m v n xs)(hb:wU<=base):w.ownsRow wU e m v n xs:=by
 refine⟨h.1,?_⟩;rcases h.2 with q|⟨g,cap,cur,e1,h2,h3⟩
 ·exact .inl q
 ·exact .inr ⟨g,cap,cur,e1,by omega,h3⟩
theorem Af.base{Z:Own}{base wU:Nat}{w:aG}{v:aI}{D:List Dl}(h:Af Z base w v D)(hb:wU<=base):Af Z wU w v D:=by obtain⟨Q,h1,h2,h3,h4⟩:=h;exact⟨Q,h1,rQ h2 hb,h3,h4⟩
theorem acJ{n:Nat}{D0 S:List Fw}(hl:∀x∈D0.map (·.1),x.1<n)(hs:rA kC S)(hb:vS kC D0 S):S.map (·.1)=oJ n (D0.map (·.1)):=by
 refine aaU hl ?_ fun k=>?_
 ·unfold rA at hs|-;rw[List.pairwise_map];exact hs
 ·have:=hb k;have e:∀l:List Fw,(l.map (·.1)).filter (fun x=>De x==k)=(l.filter (fun x=>kC x==k)).map (·.1):=fun l=>by rw[List.filter_map];rfl
  rw[e,e,this]
theorem abh{n:Nat}{l:List (Nat×Fm)}(hd:(l.map (·.1)).Nodup)(hl:∀x∈l,x.1<n):l.length<=n:=by
 have:=Di (S:=List.range n) hd fun x hx=>by obtain⟨y,hy,rfl⟩:=gH.1 hx;exact List.mem_range.2 (hl y hy)
 simpa using this
end
section
attribute [local go_sem ↓] Go.wp_at_zero Go.wp_at_succ
theorem ZP:(Tryz.prog.info? 61).map (fun i=>(i.zero,i.size,i.bytes))=az (az (.agg #[ah ag 0,ah ag 0,ah ag 0,ah ag 0,ah ag 0,ah ag 0,ah ag 0,ay aj 0 0]),8,80):=by kernel_rfl
def adX(Z:Own)(w:aG)(base b:Nat)(ns:List Nd)(cs:List Cb)(L:rY)(f1:dx)(l:List (Nat×Fm))(v i:aI)(wr:aG):Prop:=
 ∃k:Nat,k<=l.length/\i=ah ag k/\∃dN L',gy dN wr b ns cs (zG ns cs f1 l k).1 L'/\Bw Z w dN wr/\KV L L'/\Af dN base wr v (zG ns cs f1 l k).2
def Zo(Z:Own)(w:aG)(b:Nat)(ns:List Nd)(cs:List Cb)(r:dx×List Dl)(e:Ending)(w':aG):Prop:=
 ∃v,e=ax v/\∃dN L',gy dN w' b ns cs r.1 L'/\qo Z w dN w'/\Af dN w.heap.size w' v r.2
theorem Vu(f:dx)(N:Nat)(b:Nat)(ns:List Nd)(cs:List Cb)(L:rY)(Z:Own)(w:aG)(h:gy Z w b ns cs f L)(hp:sS ns cs)(rR:dK ns cs f N)(hnd:((f.fl f.now).map (·.1)).Nodup)(LY:cs.length<=10)(hN:N<=700000000):Calls aH 55 #[pt b] w (Zo Z w b ns cs (f.jS ns cs)):=by
 have nw:=rR.now;have tK:∀x∈f.fl f.now,x.1<2*cs.length:=fun x hx=>(rR.fl _ x hx).1;have hlen:(f.fl f.now).length<=20:=by have:=abh hnd tK;omega
 obtain⟨v,Q,w2,look,q1,q3,i2,hdel,hcd,uz,m3⟩:=(h.drew.drew).alE f.now (by omega) 0;have aeS:=look w.drew ⟨rfl,rfl,rfl,aC _,fun _ _ _=>rfl⟩;have c15:w.cell? ⟨b,15,aj⟩=az (.map (az L.mf)):=h.xA;have c13:w.cell? ⟨b,13,aj⟩=az (ah ag f.now):=h.xA;have lq:Q.length<=20:=by rw[<-q1,dE]at hlen;exact hlen
 have SRT:=aA (WA w2 v Q lq (fun x hx=>by obtain⟨a,c,e,_⟩:=q3 x hx;exact⟨a,_,c,e⟩) uz);unfold Ce at SRT;obtain⟨la,lc,eV⟩:=dO uz;obtain⟨f1,hf1⟩:∃f1:dx,{f with fl:=fun t=>if t=f.now then[]else f.fl t}=f1:=⟨_,rfl⟩;rw[hf1]at m3;have AF:=XG ns cs f;rw[hf1]at AF;obtain⟨lb,hlb⟩:∃lb,oJ (2*cs.length) (f.fl f.now)=lb:=⟨_,rfl⟩;rw[hlb]at AF;have apQ:aY (∀S:List Fw,rA kC S->vS kC Q S->S.map (·.1)=lb):=fun S h1 h2=>by rw[<-hlb,<-q1];exact acJ (by rw[q1];exact tK) h1 h2
 have Uo:aY (dK ns cs f1 N):=by rw[aY,<-hf1];exact rR.aeH f.now
 have E1:f1.aK=f.aK/\f1.dm=f.dm/\f1.now=f.now:=by rw[<-hf1];exact⟨rfl,rfl,rfl⟩
 have LB:aY (∀x∈lb,x.1<2*cs.length/\vK ns f1 x.2):=fun x hx=>by rw[<-hlb]at hx;have hx:=(xu hx).1;exact⟨tK x hx,(rR.fl _ x hx).2.yl E1.1 (by rw[E1.2.1];exact aC _)⟩
 have FXB:aY (∀x∈lb,x.1<2*cs.length/\vK ns f1 x.2):=LB;have NX2:aY (qo Z w Z w2):=⟨((Ch.refl _ w).drew.drew).trans hcd fun i hi s=>by have s:i=L.mf:=s;rw[s,h.fl.2];exact aC 2,fun _ _=>rfl⟩;have M3:=aA m3;have I2:=aA i2;have QD:=aA q3;have PL:=aA hp;have HN:=aA hN;have E1H:=aA E1;have DQ:aY (∀x∈Q,iQ Z w2 x.1.2.data x.2):=fun x hx=>(q3 x hx).jD hcd (fun _ _=>rfl) fun k s=>by have s:k=L.mf:=s;rw[s,h.fl.2];decide
 obtain⟨base0,oV⟩:∃base,w.heap.size=base:=⟨_,rfl⟩;have BS:aY (w.heap.size=base0/\base0<=w2.heap.size):=⟨oV,by rw[<-oV];exact NX2.o.ch.size⟩;have HLB:aY (lb.length=Q.length):=by
  rw[aY,<-hlb];have e1:vS De (f.fl f.now) (oJ (2*cs.length) (f.fl f.now)):=fun k=>by rw[Bj];exact List.filter_congr fun x hx=>by simp[tK x hx]
  rw[e1.length,<-q1,dE]
 rw[AF];subst eV;generalize Ej:Zo Z w b ns cs (zG ns cs f1 lb lb.length)=NW;have SK:=aA Ej;clear h hp rR hnd hN hcd uz q3 i2 q1 m3 hf1 hlb AF E1 tK hlen look oV Ej nw;unfold pt at *;go_enter func55,ntmps55;go_wp2_with fail;go_region;go_wp2_with fail;go_region;go_wp2_with (first|(go_at_call 95;(with_reducible refine SRT.o.mono ?_);rintro e w3 ⟨rfl,S,hS1,hS2,Jh,hc3⟩;have HS1:=aA hS1;have HS2:=aA hS2;have OWN:=aA Jh;have HC3:=aA hc3;clear hS1 hS2 Jh hc3));have m4:gy Z w3 b ns cs f1 L:=M3.o w3 HC3.o;have IS:=apQ.out S HS1.o HS2.o;have lS:S.length=Q.length:=HS2.o.length;have NX3:aY (qo Z w Z w3):=NX2.o.trans ⟨HC3.o.mono fun k _ s=>by rw[I2.o k s];exact aC 2,fun _ _=>rfl⟩;have DS:aY (∀x∈S,iQ Z w3 x.1.2.data x.2):=fun x hx=>(DQ.o x (HS2.o.mem.1 hx)).jD HC3.o (fun _ _=>rfl) fun k s=>by rw[I2.o k s];simp
 have agO:aY (∀dN wq,Bw Z w3 dN wq->∀k,k<Q.length->∃g,la=az ⟨g,0,aj⟩/\g<w3.heap.size/\∀j,j<7->wq.cell? ⟨g,k*7+j,aj⟩=(Hy (S.getD k Pn))[j]?):=fun dN wq n k hk=>by obtain⟨g,cap,e1,_,hl,ho,hc⟩:=nH (d:=Pn) CX OWN.o lS hk;injection e1 with e1;refine⟨g,e1,hl,fun j hj=>?_⟩;rw[n.ch.cell (p:=⟨g,k*7+j,aj⟩) hl fun s=>s.2 (by rw[I2.o g ho];simp)];exact hc k hk j hj
 have BB:aY (base0<=w3.heap.size):=dZ BS.o.2 HC3.o.size;obtain⟨base,Pp⟩:∃base,w3.heap.size=base:=⟨_,rfl⟩;have HB3:=aA Pp;have ST:aY (adX Z w3 base b ns cs L f1 lb (ay aj 0 0) (ah ag 0) w3):=⟨0,Nat.zero_le _,rfl,Z,L,m4,Bw.refl _ _,KV.refl _,[],rfl,dM w3 base _ _,(fun x hx=>by cases hx),(fun g hg=>by simp[dV]at hg)⟩;have LEN:=aA lS;have ISH:=aA IS;have LX:aY (∀k,k<Q.length->lb.getD k (0,default)=(S.getD k Pn).1):=fun k hk=>by
  have h1:k<S.length:=by rw[LEN.o];exact hk
  rw[<-ISH.o];simp[bJ,h1]
 have ARB:aY (∀k,k<=lb.length->dK ns cs (zG ns cs f1 lb k).1 (N+40)/\(zG ns cs f1 lb k).1.aK=f1.aK/\(zG ns cs f1 lb k).1.dm=f1.dm/\(zG ns cs f1 lb k).1.now=f1.now):=fun k hk=>by
  have r:=dK.Tt PL.o (lb.take k) (s:=(f1,[])) Uo.o fun x hx=>LB.o x (List.mem_of_mem_take hx);have l20:lb.length<=20:=by rw[HLB.o];exact lq
  exact⟨r.1.mono (by rw[ik];omega),r.2⟩
 have avt:aY (∀v' dN L' wq,gy dN wq b ns cs (zG ns cs f1 lb lb.length).1 L'->Bw Z w3 dN wq->Af dN base wq v' (zG ns cs f1 lb lb.length).2->NW (ax v') wq):=fun v' dN L' wq h1 h2 h3=>by rw[<-SK.o];exact⟨v',rfl,dN,L',h1,NX3.o.trans h2.x,by rw[BS.o.1];exact h3.base (by rw[<-HB3.o];exact BB.o)⟩
 clear Pp m4 IS lS NX3 NX2 HC3 OWN HS1 HS2 apQ M3 DQ QD SK I2 hdel aeS c15 c13 BS SRT LB Uo;go_loopw [3,6,7,8,9,10,32] (fun v _ _ _ _ _ i wr=>adX Z w3 base b ns cs L f1 lb v i wr) (fun _ _ _ _ _ _ i _=>lb.length-(aJ i).toNat);case atStart=>exact ST.o
 case round=>
  clear ST;obtain⟨k,hk,rfl,Ik,L4,m4,n4,s4,d4⟩:=hrel;have M4:=aA m4;have N4:=aA n4;have S4:=aA s4;have D4:=aA d4;by_cases yY:k<lb.length
  ·have hkq:k<Q.length:=by rw[<-HLB.o];exact yY
   have OG:=aA (ARB.o k (by omega));have NX:=aA (XE ns cs f1 lb yY);obtain⟨g,eg,lg,cg⟩:=agO.out Ik wr n4 k hkq;have ex:=LX.o k hkq;have hm:S.getD k Pn∈S:=(by have:k<S.length:=(by rw[LEN.o];exact hkq);simp[bJ,this]);have DX:=DS.o _ hm;have LBX:=ISH.o;rw[ex]at NX;have mE:(S.getD k Pn).1∈lb:=(by rw[<-LBX];exact gH.2 ⟨_,hm,rfl⟩);have FX:=FXB.o _ mE;generalize S.getD k Pn=x at *;obtain⟨⟨c,xi,xf,xt,xl,xe,xd⟩,xv⟩:=x;have DAT:=aA DX;obtain⟨va,vk,eV,_⟩:=DX;have eV:xv=ay va xd.length vk:=eV;subst eV;have m0:=cg 0 (by omega);have m1:=cg 1 (by omega);have m2:=cg 2 (by omega);have m3:=cg 3 (by omega);have m4':=cg 4 (by omega);have m5:=cg 5 (by omega);have m6:=cg 6 (by omega);simp only[Hy,Cx,Nat.add_zero,List.getElem?_cons_zero,List.getElem?_cons_succ]at m0 m1 m2 m3 m4' m5 m6;simp only at NX FX;have hc:=FX.1;have FM:=FX.2;obtain⟨⟨G,D⟩,hG⟩:∃GD,zG ns cs f1 lb k=GD:=⟨_,rfl⟩;have HGD:aY ((lb.take k).foldl (dx.gV ns cs) (f1,[])=(G,D)):=hG;rw[hG]at NX OG M4 D4;simp only at OG M4 D4;have NXG:aY (∀X,dx.gV ns cs (G,D) (c,⟨xi,xf,xt,xl,xe,xd⟩)=X->∀dN L' wq v,gy dN wq b ns cs X.1 L'->Bw Ik wr dN wq->KV L4 L'->Af dN base wq v X.2->adX Z w3 base b ns cs L f1 lb v (ah ag ((k:Int)+1)) wq):=fun X e dN L' wq v h1 h2 h3 h4=>
    ⟨k+1,by omega,by congr 1,dN,L',by rw[NX.o,e];exact h1,N4.o.trans h2,S4.o.trans h3,by rw[NX.o,e];exact h4⟩
   have kq0:(0:Int)<=(k:Int):=(by omega);have kq1:(k:Int)<(Q.length:Int):=(by omega);obtain⟨wb,Nb⟩:∃wb:aG,wr.alloc (af #[ah ag (c:Int),ah ag xi,ah ag xf,ah ag xt,ah ag xl,ah ag xe,ay va xd.length vk] 122)=wb:=⟨_,rfl⟩;have WU:aY (aN wr.heap.size wr wb):=(by rw[<-Nb];exact(Below.refl _ _).alloc (aC _) _);have VB:aY (dh wb wr.heap.size 122 #[ah ag (c:Int),ah ag xi,ah ag xf,ah ag xt,ah ag xl,ah ag xe,ay va xd.length vk]):=(by rw[<-Nb];exact dh.new wr _ _);have LX1:aY (wb.heap.size=wr.heap.size+1):=(by rw[<-Nb,aY];simp);obtain⟨An,Ac,cn,cc,S0⟩:=M4.o.toS;have EC:aY (∀w',aN wr.heap.size wr w'->Calls aH 53 #[au (az ⟨b,0,aj⟩),ah ag c] w' (uB cs c w')):=fun w' hb=>Ci c b ns cs An Ac cn cc w' (S0.below hb) PL.o hc;have EN:=PL.o.ends hc;have PT:aY (∀X:Bx,X.bE=kQ (ns.getD (fM cs c).2.2.1 jk)->(fM cs c).2.2.2<X.bE):=fun X hX=>(by rw[hX];exact PL.o.Br EN.2.1 EN.2.2.2.1);have FZ:=EN.2.1;obtain⟨⟨ea,eb,u,p⟩,hE⟩:∃e,fM cs c=e:=⟨_,rfl⟩;unfold uB at EC;rw[hE]at PT EC FZ;simp only at PT EC FZ;have HE:=aA hE;obtain⟨bX,hbX⟩:∃bX,wr.heap.size=bX:=⟨_,rfl⟩;rw[hbX]at VB;have vb0:wb.cell? ⟨bX,0,aj⟩=az (ah ag (c:Int)):=VB.o.cell 0;have n16:=PL.o.n16;obtain⟨bn,on,hbn,_,_,_,e7,_⟩:=uQ S0.plan.1 u (by simpa using FZ);have c0w:=S0.c0;rw[hbn]at c0w;simp only at e7;obtain⟨gb,cb,eB,c5,Tv,tgb,lgb⟩:=M4.o.aex FZ;unfold pt at Tv;have u0:(0:Int)<=(u:Int):=(by omega);have u1:(u:Int)<(ns.length:Int):=(by omega);have K5:aY (∀w',aN wr.heap.size wr w'->w'.cell? ⟨b,0,aj⟩=az (ay (az ⟨bn,on,aj⟩) ns.length cn)/\w'.cell? ⟨bn,on+u*3+1,aj⟩=az (.bool (ns.getD u jk).sw)/\w'.cell? ⟨b,5,aj⟩=az (ay (az ⟨gb,0,aj⟩) ns.length cb)/\w'.cell? ⟨gb,u,aj⟩=az (au (az ⟨L4.bx u,0,aj⟩))):=fun w' hb=>(by have t:∀{p:Addr} {z:aI},wr.cell? p=az z->w'.cell? p=az z:=fun{p z} hz=>(hb.cell (aZ _ _ hz)).trans hz;exact⟨t c0w,t e7,t c5,t Tv⟩);have VX:aY (∀w',aN wb.heap.size wb w'->w'.cell? ⟨bX,0,aj⟩=az (ah ag (c:Int))/\w'.cell? ⟨bX,1,aj⟩=az (ah ag xi)/\w'.cell? ⟨bX,2,aj⟩=az (ah ag xf)/\w'.cell? ⟨bX,3,aj⟩=az (ah ag xt)/\w'.cell? ⟨bX,4,aj⟩=az (ah ag xl)/\w'.cell? ⟨bX,5,aj⟩=az (ah ag xe)/\w'.cell? ⟨bX,6,aj⟩=az (ay va xd.length vk)):=fun w' hb=>(by have k:=VB.o.below hb VB.o.lt;exact⟨k.cell 0,k.cell 1,k.cell 2,k.cell 3,k.cell 4,k.cell 5,k.cell 6⟩);subst eg;have NX':=aA NX.o;clear hE hG EN hbn m4 n4 s4 d4 lg cg ex hm LBX mE FX S0 c0w e7 c5 Tv eB agO NX;have NXB:aY (∀w',aN wr.heap.size wr w'->Bw Ik wr (fr Ik wr.heap.size) w'.drew):=fun w' hb=>(Bw.bY hb).drew;have BXT:aY (∀q,(fr Ik wr.heap.size bX).1=q->q=0):=fun q e=>(by rw[<-hbX,lL (aC _)]at e;exact e.symm);have TGB:aY (Ik b=(2,0,0,0)/\(Ik gb).1=1/\b<wr.heap.size/\gb<wr.heap.size):=⟨M4.o.root.2,tgb,M4.o.root.1.lt,lgb⟩;have aoC:aY (∀w',aN wr.heap.size wr w'->iQ (fr Ik wr.heap.size) w'.drew xd (ay va xd.length vk)):=fun w' hb=>by have n:=(N4.o.x.trans (qo.bY hb)).drew;exact DAT.o.jD n.ch n.ext fun k s=>by omega
   obtain⟨yV,Kj⟩:∃yV,fr Ik wr.heap.size=yV:=⟨_,rfl⟩;have T5:aY (∀i,i<wr.heap.size->yV i=Ik i):=fun i hi=>(by rw[<-Kj];exact gL hi);have M5:aY (∀w',aN wr.heap.size wr w'->gy yV w'.drew b ns cs G L4):=fun w' hb=>(by rw[<-Kj];exact(M4.o.below hb).drew);rw[Kj]at NXB BXT aoC;cases hsw:(ns.getD u jk).sw with
   |true=>
    simp only[hsw]at K5;go_wp2_with (first|(go_at_call 53;(with_reducible refine(EC.o _ WU.o).mono ?_);rintro e w5 ⟨rfl,hb⟩;have BE:=aA hb;have B5:aY (aN wr.heap.size wr w5):=WU.o.trans (hb.mono WU.o.size);obtain⟨k1,k2,k3,k4⟩:=K5.o w5 B5.o;obtain⟨x0,x1,x2,x3,x4,x5,x6⟩:=VX.o w5 hb;clear hb));have mb:=M5.o w5 B5.o;have MB:=aA mb;have KU:=OG.o.1.box u FZ;have hpb:=PT.o _ KU.2.1;have ba:=Fa p (N+40) ⟨xi,xf,xt,xl,xe,xd⟩ (ay va xd.length vk) yV (3+u) w5.drew (L4.bx u) (G.boxes.getD u default) (L4.Hw u) (mb.bx u FZ) (by omega) KU.1 (by have:=HN.o;omega) hpb FM.c0 (by rw[KU.2.2,OG.o.2.1];exact FM.c1) (aoC.out _ B5.o);have OK7:=OG.o.1.iR FZ (p:=p) (by have:=KU.2.1;rw[<-this];exact hpb) (FM.yl OG.o.2.1 (by rw[OG.o.2.2.1];exact aC _));have EA:dx.gV ns cs (G,D) (c,⟨xi,xf,xt,xl,xe,xd⟩)=(if((G.boxes.getD u default).iR p ⟨xi,xf,xt,xl,xe,xd⟩).2 then({G with boxes:=G.boxes.set u ((G.boxes.getD u default).iR p ⟨xi,xf,xt,xl,xe,xd⟩).1}:dx)else dx.qQ {G with boxes:=G.boxes.set u ((G.boxes.getD u default).iR p ⟨xi,xf,xt,xl,xe,xd⟩).1} ⟨xi,xf,xt,xl,xe,xd⟩,D):=by unfold dx.gV;simp only[HE.o];unfold Am;rw[hsw];simp only[if_true]
    obtain⟨⟨r1,r2⟩,hr⟩:∃r,(G.boxes.getD u default).iR p ⟨xi,xf,xt,xl,xe,xd⟩=r:=⟨_,rfl⟩;rw[hr]at ba OK7 EA;simp only at OK7 EA;have bl:=OG.o.1.bl;have RES:aY (∀Qy L7 w7,pO Qy (3+u) w7 (L4.bx u) r1 L7->Nx yV (3+u) w5.drew Qy w7->∃L',gy Qy w7 b ns cs {G with boxes:=G.boxes.set u r1} L'/\Bw Ik wr Qy w7/\KV L4 L'):=fun Qy L7 w7 h1 h2=>
     ⟨_,MB.o.box FZ bl h2 h1,(NXB.o _ B5.o).trans (Bw.Kq h2 (by omega)),⟨rfl⟩⟩
    have K7:aY (∀Qy w7,Nx yV (3+u) w5.drew Qy w7->(fun wq=>wq.cell? ⟨b,5,aj⟩=az (ay (az ⟨gb,0,aj⟩) ns.length cb)/\wq.cell? ⟨gb,u,aj⟩=az (au (az ⟨L4.bx u,0,aj⟩))/\wq.cell? ⟨bX,1,aj⟩=az (ah ag xi)/\wq.cell? ⟨bX,2,aj⟩=az (ah ag xf)/\wq.cell? ⟨bX,3,aj⟩=az (ah ag xt)/\wq.cell? ⟨bX,4,aj⟩=az (ah ag xl)/\wq.cell? ⟨bX,5,aj⟩=az (ah ag xe)/\wq.cell? ⟨bX,6,aj⟩=az (ay va xd.length vk)) w7):=fun Qy w7 n=>(by have t:∀{q:Addr} {z:aI},w5.cell? q=az z->(yV q.block).1≠3+u->w7.cell? q=az z:=fun{q z} hz ht=>(n.ch.cell (aZ w5 _ hz) ht).trans hz;have tb:(yV b).1≠3+u:=(by rw[T5.o _ TGB.o.2.2.1,TGB.o.1];show 2≠3+u;omega);have tg:(yV gb).1≠3+u:=(by rw[T5.o _ TGB.o.2.2.2,TGB.o.2.1];omega);have tx:(yV bX).1≠3+u:=(by rw[BXT.o _ rfl];omega);exact⟨t k3 tb,t k4 tg,t x1 tx,t x2 tx,t x3 tx,t x4 tx,t x5 tx,t x6 tx⟩);have OKH:=aA OK7;have FMH:=aA FM;clear hr mb KU hpb bl hsw FM OK7 m0 m1 m2 m3 m4' m5 m6 k1 k2;cases r2 with
    |true=>
     simp only[if_true]at EA;have BA:aY (Calls aH 50 #[au (az ⟨L4.bx u,0,aj⟩),ah ag p,.agg #[ah ag xi,ah ag xf,ah ag xt,ah ag xl,ah ag xe,ay va xd.length vk]] w5.drew fun e w7=>e=ax (ah ag 0)/\yt yV (3+u) w5.drew (L4.bx u) r1 (L4.Hw u) w7):=ba.mono fun e w' h=>⟨h.1,h.2⟩;have EAH:=aA EA;clear ba EA;go_region_held3 (fun wq=>wq.cell? ⟨b,5,aj⟩=az (ay (az ⟨gb,0,aj⟩) ns.length cb)/\wq.cell? ⟨gb,u,aj⟩=az (au (az ⟨L4.bx u,0,aj⟩))/\wq.cell? ⟨bX,1,aj⟩=az (ah ag xi)/\wq.cell? ⟨bX,2,aj⟩=az (ah ag xf)/\wq.cell? ⟨bX,3,aj⟩=az (ah ag xt)/\wq.cell? ⟨bX,4,aj⟩=az (ah ag xl)/\wq.cell? ⟨bX,5,aj⟩=az (ah ag xe)/\wq.cell? ⟨bX,6,aj⟩=az (ay va xd.length vk))
      (first|exact⟨k3,k4,x1,x2,x3,x4,x5,x6⟩|exact K7.o _ _ NX7.o)
      (first|(go_at_call 50;(with_reducible refine BA.o.mono ?_);rintro e w7 ⟨rfl,Qy,L7,VJ,hn7⟩;have HB7:=aA VJ;have NX7:=aA hn7;clear VJ hn7))
     obtain⟨L',e1,e2,e3⟩:=RES.o _ _ _ HB7.o NX7.o;have R:=aA (NXG.o _ EAH.o _ _ _ _ e1 e2 e3 (D4.o.fnx e2.x));clear e1 e2 e3 K7 RES BA HB7 NX7;go_wp2_with fail;exact⟨R.o,by simp[aJ];omega⟩
    |false=>
     simp only[jU,if_false]at EA;have BA:aY (Calls aH 50 #[au (az ⟨L4.bx u,0,aj⟩),ah ag p,.agg #[ah ag xi,ah ag xf,ah ag xt,ah ag xl,ah ag xe,ay va xd.length vk]] w5.drew fun e w7=>e=ax (ah ag 5)/\yt yV (3+u) w5.drew (L4.bx u) r1 (L4.Hw u) w7):=ba.mono fun e w' h=>⟨h.1,h.2⟩;have EAH:=aA EA;clear ba EA;go_region_held3 (fun wq=>wq.cell? ⟨b,5,aj⟩=az (ay (az ⟨gb,0,aj⟩) ns.length cb)/\wq.cell? ⟨gb,u,aj⟩=az (au (az ⟨L4.bx u,0,aj⟩))/\wq.cell? ⟨bX,1,aj⟩=az (ah ag xi)/\wq.cell? ⟨bX,2,aj⟩=az (ah ag xf)/\wq.cell? ⟨bX,3,aj⟩=az (ah ag xt)/\wq.cell? ⟨bX,4,aj⟩=az (ah ag xl)/\wq.cell? ⟨bX,5,aj⟩=az (ah ag xe)/\wq.cell? ⟨bX,6,aj⟩=az (ay va xd.length vk))
      (first|exact⟨k3,k4,x1,x2,x3,x4,x5,x6⟩|exact K7.o _ _ NX7.o)
      (first|(go_at_call 50;(with_reducible refine BA.o.mono ?_);rintro e w7 ⟨rfl,Qy,L7,VJ,hn7⟩;have HB7:=aA VJ;have NX7:=aA hn7;clear VJ hn7))
     obtain⟨L',e1,e2,e3⟩:=RES.o _ _ _ HB7.o NX7.o;obtain⟨_,_,y1,y2,y3,y4,y5,y6⟩:=K7.o _ _ NX7.o;have LS:=aA (II {G with boxes:=G.boxes.set u r1} ⟨xi,xf,xt,xl,xe,xd⟩ (ay va xd.length vk) b ns cs L' Qy w7 e1 (OKH.o.afQ (by have:=HN.o;omega)) FMH.o.e0 (by have h1:xe<=f1.dm:=FMH.o.e1;have h2:=OG.o.2.2.1;show xe<=G.dm;omega) ⟨_,_,_,rfl⟩);have E2:=aA e2;have E3:=aA e3;unfold MU pt at LS;clear e1 e2 e3 K7 RES BA HB7;go_wp2_with (first|(go_at_call 58;(with_reducible refine LS.o.mono ?_);rintro e w8 ⟨rfl,Om,L8,hm8,hn8,hs8⟩;have R:=aA (NXG.o _ EAH.o _ _ _ _ hm8 (E2.o.trans hn8) (E3.o.trans hs8) ((D4.o.fnx E2.o.x).fnx hn8.x));clear hm8 hn8 hs8));exact⟨R.o,by simp[aJ];omega⟩
   |false=>
    simp only[hsw]at K5;go_wp2_with (first|(go_at_call 53;(with_reducible refine(EC.o _ WU.o).mono ?_);rintro e w5 ⟨rfl,hb⟩;have BE:=aA hb;have B5:aY (aN wr.heap.size wr w5):=WU.o.trans (hb.mono WU.o.size);obtain⟨k1,k2,k3,k4⟩:=K5.o w5 B5.o;obtain⟨x0,x1,x2,x3,x4,x5,x6⟩:=VX.o w5 hb;clear hb));have mb:=M5.o w5 B5.o;obtain⟨cl,hcl⟩:∃cl:Nat,xl=(cl:Int):=⟨xl.toNat,by have h0:0<=xl:=FM.c0;omega⟩;subst hcl;have hcr:cl<G.aK.length:=by have h0:(cl:Int).toNat<f1.aK.length:=FM.c1;rw[OG.o.2.1];omega
    have NI:(G.came.getD u []).length=G.aK.length:=OG.o.1.cm.row u FZ;obtain⟨gc,cc2,eC,kC,_,lC,tC⟩:=mb.came.1.at_ (i:=u) (by simpa using FZ);obtain⟨gd,cd,eD,kD,fD,lD,tD⟩:=(mb.came.2 u FZ).at_ (i:=cl) (by rw[dE];omega);rw[NI]at eD;have kC':w5.drew.cell? ⟨gc,u,aj⟩=az (ay (az ⟨gd,0,aj⟩) G.aK.length cd):=(by rw[kC,List.getElem?_map,List.getElem?_range FZ,<-eD];rfl);have kD':w5.drew.cell? ⟨gd,cl,aj⟩=az (ah ag (dR G.came u cl)):=(by rw[kD];exact Ga G.came u cl (by omega));have kV:w5.drew.cell? ⟨b,17,aj⟩=az (ay (az ⟨gc,0,aj⟩) ns.length cc2):=(by rw[<-eC];exact mb.xA);have cvb:=OG.o.1.cv u cl FZ hcr;have OK6:=OG.o.1.came FZ hcr;have SF:=mb.ahp (i:=u) (j:=cl) (g:=gd) (c:=cd) FZ OG.o.1.cm.len (by rw[NI];exact hcr) NI eD (dR G.came u cl+1);unfold PK at tD;have EA:dx.gV ns cs (G,D) (c,⟨xi,xf,xt,(cl:Int),xe,xd⟩)=(dx.rem {G with came:=mW G.came u cl (dR G.came u cl+1)} xe,D++[(G.now,u,⟨xi,xf,xt,(cl:Int),xe,xd⟩)]):=(by unfold dx.gV;simp only[HE.o];unfold Am;rw[hsw];simp only[jU,if_false,Int.toNat_natCast]);have EAH:=aA EA;obtain⟨G6,hG6⟩:∃G6:dx,{G with came:=mW G.came u cl (dR G.came u cl+1)}=G6:=⟨_,rfl⟩;have E6:G6.dm=G.dm/\G6.now=G.now:=(by rw[<-hG6];exact⟨rfl,rfl⟩);rw[hG6]at SF OK6 EAH;obtain⟨Q4,hq4,QY,aqF,tg4⟩:=D4.o;obtain⟨a3,c3,e3⟩:=dO QY;subst e3;have OW4:=aA QY;have DT4:=aA aqF;have TG4:=aA tg4;have HQ4:=aA hq4;obtain⟨cv,hcv⟩:∃cv,dR G.came u cl=cv:=⟨_,rfl⟩;rw[hcv]at kD' cvb SF;obtain⟨w6,Yu⟩:∃w6:aG,w5.drew.setCell ⟨gd,cl,aj⟩ (ah ag (cv+1))=w6:=⟨_,rfl⟩;have C6:aY (Ch (· =gd) w5.drew w6):=(by rw[<-Yu];exact(Ch.refl (fun i=>i=gd) w5.drew).setCell (p:=⟨gd,cl,aj⟩) (.inl rfl) _);rw[Yu]at SF;obtain⟨xD,m6',n6⟩:=SF;have M6:=aA m6';have N6:aY (Bw yV w5.drew xD w6):=⟨C6.o.mono fun i _ e=>by have e:i=gd:=e;unfold Ta;rw[e,tD];simp,n6.ext⟩;have SN6:=aA (OK6.afQ (by have:=HN.o;omega));have RMV:=aA (MW G6 xe L4.bk w6.drew m6'.drew.bk.1 SN6.o FM.e0 (by have h1:xe<=f1.dm:=FM.e1;have h2:=OG.o.2.2.1;have:=E6.1;omega));have GDX:aY (¬b=gd/\¬bX=gd):=by
     refine⟨fun e=>?_,fun e=>?_⟩
     ·have h1:=T5.o _ TGB.o.2.2.1;rw[TGB.o.1,e,tD]at h1;simp at h1
     ·have h1:=BXT.o _ rfl;rw[e,tD]at h1;simp at h1
    have VX6:aY (w6.drew.cell? ⟨bX,1,aj⟩=az (ah ag xi)/\w6.drew.cell? ⟨bX,2,aj⟩=az (ah ag xf)/\w6.drew.cell? ⟨bX,3,aj⟩=az (ah ag xt)/\w6.drew.cell? ⟨bX,4,aj⟩=az (ah ag (cl:Int))/\w6.drew.cell? ⟨bX,5,aj⟩=az (ah ag xe)/\w6.drew.cell? ⟨bX,6,aj⟩=az (ay va xd.length vk)):=(by have t:∀{q:Nat} {z:aI},w5.cell? ⟨bX,q,aj⟩=az z->w6.drew.cell? ⟨bX,q,aj⟩=az z:=fun{q z} hz=>(C6.o.cell (p:=⟨bX,q,aj⟩) (aZ w5 _ hz) GDX.o.2).trans hz;exact⟨t x1,t x2,t x3,t x4,t x5,t x6⟩);have l6:w6.cell? ⟨b,11,aj⟩=az (au (az ⟨L4.bk,0,aj⟩)):=m6'.xA;have IE:aY (xD L4.bk=(2,2,0,0)/\xD b=(2,0,0,0)/\(xD bX).1=0):=(by refine⟨m6'.bk.2,m6'.root.2,?_⟩;rw[n6.ext bX (aZ w5 _ x1)];exact BXT.o _ rfl);have VX7:aY (∀w7,Ch (· =L4.bk) w6.drew w7->dh w7 bX 122 #[ah ag (c:Int),ah ag xi,ah ag xf,ah ag xt,ah ag (cl:Int),ah ag xe,ay va xd.length vk]):=fun w7 h7=>by have h1:dh w5.drew bX 122 _:=VB.o.below BE.o.drew VB.o.lt;have h2:dh w6.drew bX 122 _:=dh.ch (S:=fun i=>i=gd) (w':=w6) h1 C6.o GDX.o.2;exact dh.ch (S:=fun i=>i=L4.bk) h2 h7 fun e=>by have h1:=IE.o.2.2;rw[e,IE.o.1]at h1;simp at h1
    have K13:aY (∀w7,Ch (· =L4.bk) w6.drew w7->(w7.cell? ⟨b,11,aj⟩=az (au (az ⟨L4.bk,0,aj⟩))/\w7.cell? ⟨bX,5,aj⟩=az (ah ag xe))/\(w7.cell? ⟨bX,1,aj⟩=az (ah ag xi)/\w7.cell? ⟨bX,2,aj⟩=az (ah ag xf)/\w7.cell? ⟨bX,3,aj⟩=az (ah ag xt)/\w7.cell? ⟨bX,4,aj⟩=az (ah ag (cl:Int))/\w7.cell? ⟨bX,5,aj⟩=az (ah ag xe)/\w7.cell? ⟨bX,6,aj⟩=az (ay va xd.length vk))):=fun w7 h7=>(by have nb:¬b=L4.bk:=fun e=>(by have h1:=IE.o.1;rw[<-e,IE.o.2.1]at h1;simp at h1);have nx:¬bX=L4.bk:=fun e=>(by have h1:=IE.o.2.2;rw[e,IE.o.1]at h1;simp at h1);have t:∀{q:Nat} {z:aI},w6.drew.cell? ⟨bX,q,aj⟩=az z->w7.cell? ⟨bX,q,aj⟩=az z:=fun{q z} hz=>(h7.cell (p:=⟨bX,q,aj⟩) (aZ w6.drew _ hz) nx).trans hz;obtain⟨z1,z2,z3,z4,z5,z6⟩:=VX6.o;exact⟨⟨(h7.cell (p:=⟨b,11,aj⟩) (aZ w6.drew _ l6) nb).trans l6,t z5⟩,t z1,t z2,t z3,t z4,t z5,t z6⟩);have M7:aY (∀w7,Ch (· =L4.bk) w6.drew w7->Bk w7 L4.bk (G6.rem xe).dm (G6.rem xe).wM (G6.rem xe).vH->gy xD w7 b ns cs (G6.rem xe) L4/\Bw Ik wr xD w7):=fun w7 h7 hb=>
     ⟨(M6.o.drew.book h7 (fun _ _=>rfl) hb (afL G6 xe)),(((NXB.o _ B5.o).trans N6.o).drew.trans ⟨h7.mono fun i _ e=>by have e:i=L4.bk:=e;unfold Ta;rw[e,IE.o.1];decide,fun _ _=>rfl⟩)⟩
    have awn:aY ((G6.rem xe).now=G.now):=(by rw[aY,(Kv G6 xe).2.2.2.2.2.2.2.2.1,E6.2]);have k12:(fun wq=>wq.cell? ⟨b,17,aj⟩=az (ay (az ⟨gc,0,aj⟩) ns.length cc2)/\wq.cell? ⟨gc,u,aj⟩=az (ay (az ⟨gd,0,aj⟩) G.aK.length cd)/\wq.cell? ⟨bX,4,aj⟩=az (ah ag (cl:Int))/\wq.cell? ⟨gd,cl,aj⟩=az (ah ag cv)) w5.drew:=⟨kV,kC',x4,kD'⟩;have q6:IntKind.i64.wrap (cv+1)=cv+1:=IntWalk.i64_in _ (by have:=HN.o;omega);have cl0:(0:Int)<=(cl:Int):=(by omega);have cl1:(cl:Int)<(G.aK.length:Int):=(by omega);have z5:=VX6.o.2.2.2.2.1;obtain⟨i0,hi0,zb,Ad,Ae⟩:=info_parts ZP;have api:aY (∀dN wq v,gy dN wq b ns cs (G6.rem xe) L4->Bw Z w3 dN wq->Af dN base wq v (D++[(G.now,u,⟨xi,xf,xt,(cl:Int),xe,xd⟩)])->adX Z w3 base b ns cs L f1 lb v (ah ag ((k:Int)+1)) wq):=fun dN wq v h1 h2 h4=>
     ⟨k+1,by omega,by congr 1,dN,L4,by rw[NX'.o,EAH.o];exact h1,h2,S4.o,by rw[NX'.o,EAH.o];exact h4⟩
    clear mb NI eC kC lC tC eD kD kV kC' kD' cvb OK6 EA hG6 E6 hq4 QY aqF tg4 hcv m6' n6 tD lD FM hcr m0 m1 m2 m3 m4' m5 m6 k1 k2 k3 k4 hsw NXG TGB tgb lgb;refine fQ 14 (fun wq=>wq.cell? ⟨b,17,aj⟩=az (ay (az ⟨gc,0,aj⟩) ns.length cc2)/\wq.cell? ⟨gc,u,aj⟩=az (ay (az ⟨gd,0,aj⟩) G.aK.length cd)/\wq.cell? ⟨bX,4,aj⟩=az (ah ag (cl:Int))/\wq.cell? ⟨gd,cl,aj⟩=az (ah ag cv)) (by kernel_rfl) k12 (fun aW=>?_);refine bH.tk 0 aW ?_;try simp only[bI]
    refine bH.tk 1 aW ?_;try simp only[bI]
    refine bH.tk 2 aW ?_;try simp only[bI]
    refine bH.tk 3 aW ?_;try simp only[bI]
    refine bH.tk 4 aW ?_;try simp only[bI]
    refine bH.tk 5 aW ?_;try simp only[bI]
    refine bH.tk 6 aW ?_;try simp only[bI]
    refine bH.tk 7 aW ?_;try simp only[bI]
    refine bH.tk 8 aW ?_;try simp only[bI]
    refine bH.tk 9 aW ?_;try simp only[bI]
    refine bH.tk 10 aW ?_;try simp only[bI]
    refine bH.tk 11 aW ?_;try simp only[bI]
    refine bH.tk 12 aW ?_;try simp only[bI]
    refine bH.tk 13 aW ?_;try simp only[bI]
    refine bH.one (i:=14) (by kernel_rfl) rfl (fun K hK=>?_);go_simp;refine hK.out _ _ (fun h=>absurd rfl h) (fun _=>?_);clear hK;refine bH.done (by kernel_rfl) ?_ _;try simp only[bI]
    clear Yu k12;go_wp2_with fail;go_region_held3 (fun wq=>wq.cell? ⟨b,11,aj⟩=az (au (az ⟨L4.bk,0,aj⟩))/\wq.cell? ⟨bX,5,aj⟩=az (ah ag xe))
     (first|exact⟨l6,z5⟩|exact(K13.o _ CB7.o).1)
     (first|(go_at_call 97;(with_reducible refine RMV.o.mono ?_);rintro e w7 ⟨⟨rc,rfl⟩,VJ,hc7⟩;have HB7:=aA VJ;have CB7:aY (Ch (· =L4.bk) w6.drew w7):=(show Ch (· =L4.bk) w6.drew w7 from⟨hc7.os,hc7.tape,hc7.output,hc7.size,hc7.block⟩);clear VJ hc7))
    obtain⟨m7,n7⟩:=M7.o w7 CB7.o HB7.o;have MM7:=aA m7;have NN7:=aA n7;have k13:w7.cell? ⟨b,13,aj⟩=az (ah ag G.now):=(by rw[m7.xA];show az (ah .i64 ((G6.rem xe).now:Int))=_;rw[awn.out]);obtain⟨_,z1,z2,z3,z4,z5',z6⟩:=K13.o w7 CB7.o;have OW7:aY (w7.ownsRow base 61 8 (ay a3 Q4.length c3) Q4.length (Q4.flatMap Xa)):=fO OW4.o n7.ch fun g hg s=>(by have:=TG4.o g hg;have:=s.1;omega);have TG7:aY (∀g,(ay a3 Q4.length c3).ownBlock=az g->(xD g).1=0):=fun g hg=>(by rw[n7.ext g (OW4.o.lt g hg).2];exact TG4.o g hg);have DT7:aY (∀x∈Q4,iQ xD w7 x.1.2.2.data x.2):=fun x hx=>(DT4.o x hx).jD n7.ch n7.ext fun k s=>(by have:=s.1;omega);have avi:aY (iQ xD w7 xd (ay va xd.length vk)):=by have n:=N4.o.x.trans n7.x;exact DAT.o.jD n.ch n.ext fun k s=>by omega
    have QL:aY (Q4.length<=40):=by
     have h1:=congrArg List.length HQ4.o;rw[dE]at h1;have h2:∀(l:List (Nat×Fm)) (s:dx×List Dl),(l.foldl (dx.gV ns cs) s).2.length<=s.2.length+l.length:=fun l=>by
      induction l with
      |nil=>intro s;simp
      |cons x l ih=>
       intro s;rw[List.foldl_cons,List.length_cons];refine dZ (ih _) ?_;have:(dx.gV ns cs s x).2.length<=s.2.length+1:=by
        unfold dx.gV;dsimp only;split
        ·simp
        ·simp
       omega
     have h3:=h2 (lb.take k) (f1,[]);have e3:(lb.take k).foldl (dx.gV ns cs) (f1,[])=(G,D):=HGD.o;rw[e3]at h3;simp only[List.length_nil,ik]at h3;have:=HLB.o;rw[aY];omega
    have RN:aY (Reads (w7.alloc (af #[ah ag (G.now:Int),ah ag (u:Int),ah ag xi,ah ag xf,ah ag xt,ah ag (cl:Int),ah ag xe,ay va xd.length vk] 61)).drew (w7.heap.size+1) 8 (az ⟨w7.heap.size,0,aj⟩) 1 [ah ag (G.now:Int),ah ag (u:Int),ah ag xi,ah ag xf,ah ag xt,ah ag (cl:Int),ah ag xe,ay va xd.length vk]):=(iB w7 61 [ah ag (G.now:Int),ah ag (u:Int),ah ag xi,ah ag xf,ah ag xt,ah ag (cl:Int),ah ag xe,ay va xd.length vk] (n:=1) (size:=8) rfl).drew;have OW:aY ((w7.alloc (af #[ah ag (G.now:Int),ah ag (u:Int),ah ag xi,ah ag xf,ah ag xt,ah ag (cl:Int),ah ag xe,ay va xd.length vk] 61)).drew.ownsRow base 61 8 (ay a3 Q4.length c3) Q4.length (Q4.flatMap Xa)):=OW7.o.alloc (af #[ah ag (G.now:Int),ah ag (u:Int),ah ag xi,ah ag xf,ah ag xt,ah ag (cl:Int),ah ag xe,ay va xd.length vk] 61);have akI:aY (∀wq,Ch (fun k=>(ay a3 Q4.length c3).ownBlock=az k) w7 wq->(fun wq=>wq.cell? ⟨b,13,aj⟩=az (ah ag G.now)/\wq.cell? ⟨bX,1,aj⟩=az (ah ag xi)/\wq.cell? ⟨bX,2,aj⟩=az (ah ag xf)/\wq.cell? ⟨bX,3,aj⟩=az (ah ag xt)/\wq.cell? ⟨bX,4,aj⟩=az (ah ag (cl:Int))/\wq.cell? ⟨bX,5,aj⟩=az (ah ag xe)/\wq.cell? ⟨bX,6,aj⟩=az (ay va xd.length vk)) wq):=fun wq hq=>by
     have nb:∀{i q:Nat} {z:aI},w7.cell? ⟨i,q,aj⟩=az z->(i=b\/i=bX)->wq.cell? ⟨i,q,aj⟩=az z:=fun{i q z} hz hi=>by
      refine(hq.cell (p:=⟨i,q,aj⟩) (aZ w7 _ hz) fun s=>?_).trans hz;obtain⟨cs',hbk⟩:=kH OW7.o _ s;rcases hi with hi|hi
      ·subst hi;exact dh.sU MM7.o.root.1 hbk (by decide) rfl
      ·subst hi;exact dh.sU (VX7.o w7 CB7.o) hbk (by decide) rfl
     exact⟨nb k13 (.inl rfl),nb z1 (.inr rfl),nb z2 (.inr rfl),nb z3 (.inr rfl),nb z4 (.inr rfl),nb z5' (.inr rfl),nb z6 (.inr rfl)⟩
    have avr:aY (∀v8 w8,w8.ownsRow base 61 8 v8 (Q4.length+1) (Q4.flatMap Xa++[ah ag (G.now:Int),ah ag (u:Int),ah ag xi,ah ag xf,ah ag xt,ah ag (cl:Int),ah ag xe,ay va xd.length vk])->(w7.alloc (af #[ah ag (G.now:Int),ah ag (u:Int),ah ag xi,ah ag xf,ah ag xt,ah ag (cl:Int),ah ag xe,ay va xd.length vk] 61)).grownBy w8 (ay a3 Q4.length c3).ownBlock->(v8.ownBlock=(ay a3 Q4.length c3).ownBlock\/v8.ownBlock=az (w7.heap.size+1))->adX Z w3 base b ns cs L f1 lb v8 (ah ag ((k:Int)+1)) w8):=fun v8 w8 ho hg hl=>by
     have hc:Ch (fun k=>(ay a3 Q4.length c3).ownBlock=az k) w7 w8:=((Ch.refl _ w7).alloc _).grown hg fun g e=>.inl e;have m8:=MM7.o.jD (dN:=fr xD w7.heap.size) hc (fun i hi=>gL hi) fun i s=>TG7.o i s;refine api.out _ w8 v8 m8 ⟨(N4.o.trans NN7.o).ch.trans hc fun i hi s=>?_,fun i hi=>?_⟩ ⟨Q4++[((G.now,u,⟨xi,xf,xt,(cl:Int),xe,xd⟩),ay va xd.length vk)],by rw[List.map_append,HQ4.o];rfl,by simpa[Xa,Cx]using ho,fun y hy=>?_,fun g uy=>?_⟩
     ·have:=(OW7.o.lt i s).1;have:=HB3.o;omega
     ·rw[gL (Nat.lt_of_lt_of_le hi (N4.o.trans NN7.o).ch.size)];exact(N4.o.trans NN7.o).ext i hi
     ·rcases List.mem_append.1 hy with hy|hy
      ·exact(DT7.o y hy).jD hc (fun i hi=>gL hi) fun i s=>by rw[TG7.o i s];decide
      ·rw[List.mem_singleton]at hy;subst hy;exact avi.out.jD hc (fun i hi=>gL hi) fun i s=>by rw[TG7.o i s];decide
     ·rcases hl with e|e
      ·rw[e]at uy;rw[gL (OW7.o.lt g uy).2];exact TG7.o g uy
      ·rw[e]at uy;injection uy with uy;rw[lL (by omega)]
    have k14:=akI.out w7.drew (Ch.refl _ w7).drew;clear m7 n7 k13 z1 z2 z3 z4 z5' z6 z5 l6 M7 K13 VX6 RMV api DT7 OW4 DT4 TG4;go_wp2_with fail;refine fQ 11 (fun wq=>wq.cell? ⟨b,13,aj⟩=az (ah ag G.now)/\wq.cell? ⟨bX,1,aj⟩=az (ah ag xi)/\wq.cell? ⟨bX,2,aj⟩=az (ah ag xf)/\wq.cell? ⟨bX,3,aj⟩=az (ah ag xt)/\wq.cell? ⟨bX,4,aj⟩=az (ah ag (cl:Int))/\wq.cell? ⟨bX,5,aj⟩=az (ah ag xe)/\wq.cell? ⟨bX,6,aj⟩=az (ay va xd.length vk)) (by kernel_rfl) k14 (fun aW=>?_);refine bH.tk 0 aW ?_;try simp only[bI]
    refine bH.tk 1 aW ?_;try simp only[bI]
    refine bH.tk 2 aW ?_;try simp only[bI]
    refine bH.tk 3 aW ?_;try simp only[bI]
    refine bH.tk 4 aW ?_;try simp only[bI]
    refine bH.tk 5 aW ?_;try simp only[bI]
    refine bH.tk 6 aW ?_;try simp only[bI]
    refine bH.tk 7 aW ?_;try simp only[bI]
    refine bH.tk 8 aW ?_;try simp only[bI]
    refine bH.one (i:=9) (by kernel_rfl) rfl (fun K hK=>?_);go_simp;refine hK.out _ _ (fun _=>akI.out _ ((Ch.refl _ _).alloc _).drew) (fun bU=>?_);have aW:=bU (by decide);clear hK bU;try simp only[bI]
    refine bH.one (i:=10) (by kernel_rfl) rfl (fun K hK=>?_);refine fV _ (by rfl) (.tmp 92) (.tmp 101) 39 (by rfl) base 61 i0 _ 8 80 underlying39 hi0 zb Ad Ae rfl (by decide) _ _ _ (by rfl) OW.o _ (az ⟨w7.heap.size,0,aj⟩) 1 1 [ah ag (G.now:Int),ah ag (u:Int),ah ag xi,ah ag xf,ah ag xt,ah ag (cl:Int),ah ag xe,ay va xd.length vk] (by rfl) RN.o ?_ ?_ ?_ ?_ ?_
    ·intro u hu;simp only[List.mem_cons,List.not_mem_nil,or_false]at hu;rcases hu with rfl|rfl|rfl|rfl|rfl|rfl|rfl|rfl<;>rfl
    ·have:=QL.o;unfold maxLen;omega
    ·have:=QL.o;omega
    ·have h1:=(N4.o.trans NN7.o).ch.size;have h2:=HB3.o;exact dZ (show base<=w7.heap.size by omega) ((Ch.refl (fun _=>False) w7).alloc _).drew.size
    intro v8 w8 Jj AX Me;have R:=aA (avr.out v8 w8 Jj ⟨AX.os,AX.tape,AX.output,AX.size,AX.block⟩ (by simpa using Me));have k15:=akI.out w8 (((Ch.refl _ w7).alloc _).grown ⟨AX.os,AX.tape,AX.output,AX.size,AX.block⟩ fun g hg=>.inl hg);clear Jj AX Me;refine hK.out _ _ (fun _=>k15) (fun bU=>?_);have aW:=bU (by decide);clear hK bU;try simp only[bI]
    clear k15;refine bH.one (i:=11) (by kernel_rfl) rfl (fun K hK=>?_);go_simp;refine hK.out _ _ (fun h=>absurd rfl h) (fun _=>?_);clear hK;refine bH.done (by kernel_rfl) ?_ _;try simp only[bI]
    go_wp2_with fail;exact⟨R.o,by simp[aJ];omega⟩
  ·have hke:k=lb.length:=by omega
   have F:=aA (avt.out _ _ _ _ (by rw[<-hke];exact m4) n4 (by rw[<-hke];exact d4));have hq:¬(k:Int)<(Q.length:Int):=(by rw[hke,HLB.o];omega);clear m4 n4 s4 d4 hke;go_wp2_with fail;exact F.o
end
end Go.Proofs.YtnjjkgjdhljfnaaGreat
