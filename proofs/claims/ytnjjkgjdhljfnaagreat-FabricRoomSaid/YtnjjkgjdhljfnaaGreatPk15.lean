/- Part 15. -/
import Derived.Test.YtnjjkgjdhljfnaaGreatPk13
import Derived.Test.YtnjjkgjdhljfnaaGreatPk14
open Go.Proofs.Tryz
open Bool renaming false_eq_true->mh
open Go renaming Value->aJ,World->aG
open Go.Ending renaming returned->ax
open Go.IntKind renaming i64->ag
open Go.Lib renaming hid->aA
open Go.Obj renaming cells->af
open Go.Proofs.Tryz renaming prog->aH
open Go.RowKit renaming Below->aO,Hid->aZ,intOf->aK
open Go.Value renaming int->ah,ownBlock->eO,pointer->au,slice->ay
open Go.World renaming block_lt_of_cell?->aY,ownsRow_nil->dR
open List renaming getD->bS,length_map->dW,length_take->iG,mem_map->iU
open Nat renaming le_refl->aC,le_trans->eY
open Option renaming none->aj,some->az
open Option.some renaming inj->mg
set_option maxRecDepth 100000
set_option maxHeartbeats 16000000
set_option linter.unusedVariables false
set_option linter.unusedSimpArgs false
namespace Go.Proofs.YtnjjkgjdhljfnaaGreat
open Go.RowKit Go.Maps
section
section
variable{Z:Own}{w:aG}{b:Nat}{ns:List Nd}{cs:List Cb}{f:dB}{L:rY}
theorem gz.alF(h:gz Z w b ns cs f L)(now:Nat)(hn:now<=900000000)(ty:TypeId):∃(v:aJ) (Q:List Fw) (w':aG),(∀wq,Ch (fun _=>False) w wq->(Instr.lookup 90 (.map (az L.mf)) (ah ag now) false).run aH wq=.ok v wq)/\Q.map (·.1)=f.fl now/\(∀x∈Q,iX Z w x.1.2.data x.2)/\(∀g,v.ownBlock=az g->Z g=(2,4,now,0))/\(Builtin.delete_ #[90,3] ty #[.map (az L.mf),ah ag now]).run aH w=.ok (.tuple #[]) w'/\Ch (· =L.mf) w w'/\w'.ownsRow 0 122 7 v Q.length (Q.flatMap Il)/\∀w3,Ch (fun k=>v.ownBlock=az k) w' w3->gz Z w3 b ns cs {f with fl:=fun t=>if t=now then[]else f.fl t} L:=by
 obtain⟨⟨n,M,m1,m2,m3,m4,m5⟩,mT⟩:=h.fl;have YL:NH Z w (pM M now) (f.fl now)/\∀g,(pM M now).ownBlock=az g->Z g=(2,4,now,0):=by
  unfold pM;cases hm:M (.int .i64 (now:Nat))with
  |none=>rw[m4 now hm];exact⟨⟨[],rfl,dR w 0 _ _,fun x hx=>by cases hx⟩,fun g e=>by simp[eO]at e⟩
  |some v=>exact m5 now v hm
 obtain⟨⟨Q,q1,i1,q3⟩,i2⟩:=YL;have look:=fun wq (hq:Ch (fun _=>False) w wq)=>(ny m1 hq id).look (t:=90) (int_keyed underlying3) underlying90 (Ny _) (keyOf_int_mk underlying3 (pO (now:Int) (by omega) (by omega)));obtain⟨w',hrun,om,g3⟩:=m1.drop (int_keyed underlying3) underlying90 (keyOf_int_mk underlying3 (pO (now:Int) (by omega) (by omega))) ty;have hc:Ch (fun k=>k=L.mf) w w':=(Ch.refl (fun k=>k=L.mf) w).grown g3 fun g hg=>.inl (mg hg).symm;refine⟨pM M now,Q,w',look,q1,q3,i2,hrun,hc,fT i1 hc fun g hg s=>?_,fun w3 h3=>?_⟩
 ·have:=i2 g hg;rw[s,mT]at this;simp at this
 ·have hc3:Ch (fun k=>k=L.mf\/(pM M now).ownBlock=az k) w w3:=(hc.mono fun k _ q=>.inl q).trans h3 fun i _ s=>.inr s;have g:=h.Rf (fun k=>k=3\/k=4) (dV:=Z) hc3 (fun _ _=>rfl) fun k s=>.inr (by
   rcases s with s|s
   ·rw[s,mT];exact⟨rfl,.inl rfl⟩
   ·rw[i2 k s];exact⟨rfl,.inr rfl⟩)
  refine⟨⟨g.root (by decide),g.iO.1⟩,g.plan,g.aI,g.xP,g.Kc,g.bx,g.up (by decide),g.r0,g.r1,⟨g.bk (by decide),g.IZ⟩,⟨?_,mT⟩,⟨g.lim (by decide) (by decide),g.Kw⟩,g.came (by decide),g.gone (by decide),g.lost (by decide)⟩;have om3:jL w3 aH 3 L.mf n (Vo M (.int .i64 now)):=ny om h3 fun s=>by have:=i2 _ s;rw[mT]at this;simp at this
  refine vH.del (M:=M) m2 m3 m4 om3 fun t v e hv=>?_;obtain⟨a1,a2⟩:=m5 t v hv;refine⟨a1.jM hc3 (fun _ _=>rfl) (fun k s=>?_) fun k hk s=>?_,fun k hk=>a2 k hk⟩
  ·rcases s with s|s
   ·rw[s,mT];decide
   ·rw[i2 k s];simp
  ·have q1:=a2 k hk;rcases s with s|s
   ·rw[s,mT]at q1;simp at q1
   ·rw[i2 k s]at q1;simp at q1;exact e q1.symm
end
def ZH(x:Dl×aJ):List aJ:=ah ag (x.1.1:Int)::ah ag (x.1.2.1:Int)::Dm (x.1.2.2,x.2)
theorem XO(x:Dl×aJ):(ZH x).length=8:=rfl
def Aw(Z:Own)(base:Nat)(w:aG)(v:aJ)(D:List Dl):Prop:=
 ∃Q:List (Dl×aJ),Q.map (·.1)=D/\w.ownsRow base 61 8 v Q.length (Q.flatMap ZH)/\(∀x∈Q,iX Z w x.1.2.2.data x.2)/\∀g,v.ownBlock=az g->(Z g).1=0
theorem Aw.jM{Z dV:Own}{S:Nat->Prop}{base:Nat}{w w':aG}{v:aJ}{D:List Dl}(h:Aw Z base w v D)(hc:Ch S w w')(he:∀k,k<w.heap.size->dV k=Z k)(hS:∀k,S k->2<=(Z k).1):Aw dV base w' v D:=by obtain⟨Q,h1,h2,h3,h4⟩:=h;exact⟨Q,h1,fT h2 hc fun g hg s=>by have:=hS g s;have:=h4 g hg;omega,fun x hx=>(h3 x hx).jM hc he fun k s=>by have:=hS k s;omega,fun g hg=>by rw[he g (h2.lt g hg).2];exact h4 g hg⟩
theorem Aw.fnx{Z dV:Own}{base:Nat}{w w':aG}{v:aJ}{D:List Dl}(h:Aw Z base w v D)(n:qA Z w dV w'):Aw dV base w' v D:=h.jM n.ch n.ext fun k s=>s
theorem rX{base wY:Nat}{w:aG}{e:TypeId}{m n:Nat}{v:aJ}{xs:List aJ}(h:w.ownsRow base e m v n xs)(hb:wY<=base):w.ownsRow wY e m v n xs:=by
 refine⟨h.1,?_⟩;rcases h.2 with q|⟨g,cap,cur,e1,h2,h3⟩
 ·exact .inl q
 ·exact .inr ⟨g,cap,cur,e1,by omega,h3⟩
theorem Aw.base{Z:Own}{base wY:Nat}{w:aG}{v:aJ}{D:List Dl}(h:Aw Z base w v D)(hb:wY<=base):Aw Z wY w v D:=by obtain⟨Q,h1,h2,h3,h4⟩:=h;exact⟨Q,h1,rX h2 hb,h3,h4⟩
theorem acJ{n:Nat}{D0 S:List Fw}(hl:∀x∈D0.map (·.1),x.1<n)(hs:rJ kC S)(hb:vT kC D0 S):S.map (·.1)=mG n (D0.map (·.1)):=by
 refine aaY hl ?_ fun k=>?_
 ·unfold rJ at hs|-;rw[List.pairwise_map];exact hs
 ·have:=hb k;have e:∀l:List Fw,(l.map (·.1)).filter (fun x=>Dv x==k)=(l.filter (fun x=>kC x==k)).map (·.1):=fun l=>by rw[List.filter_map];rfl
  rw[e,e,this]
theorem abl{n:Nat}{l:List (Nat×Fm)}(hd:(l.map (·.1)).Nodup)(hl:∀x∈l,x.1<n):l.length<=n:=by
 have:=Dy (S:=List.range n) hd fun x hx=>by obtain⟨y,hy,rfl⟩:=iU.1 hx;exact List.mem_range.2 (hl y hy)
 simpa using this
end
section
attribute [local go_sem ↓] Go.wp_at_zero Go.wp_at_succ
theorem ZT:(Tryz.prog.info? 61).map (fun i=>(i.zero,i.size,i.bytes))=az (az (.agg #[ah ag 0,ah ag 0,ah ag 0,ah ag 0,ah ag 0,ah ag 0,ah ag 0,ay aj 0 0]),8,80):=by kernel_rfl
def adY(Z:Own)(w:aG)(base b:Nat)(ns:List Nd)(cs:List Cb)(L:rY)(f1:dB)(l:List (Nat×Fm))(v i:aJ)(wr:aG):Prop:=
 ∃k:Nat,k<=l.length/\i=ah ag k/\∃dV L',gz dV wr b ns cs (zT ns cs f1 l k).1 L'/\Ck Z w dV wr/\Li L L'/\Aw dV base wr v (zT ns cs f1 l k).2
def Zo(Z:Own)(w:aG)(b:Nat)(ns:List Nd)(cs:List Cb)(r:dB×List Dl)(e:Ending)(w':aG):Prop:=
 ∃v,e=ax v/\∃dV L',gz dV w' b ns cs r.1 L'/\qA Z w dV w'/\Aw dV w.heap.size w' v r.2
theorem Vu(f:dB)(N:Nat)(b:Nat)(ns:List Nd)(cs:List Cb)(L:rY)(Z:Own)(w:aG)(h:gz Z w b ns cs f L)(hp:nW ns cs)(qX:dH ns cs f N)(hnd:((f.fl f.now).map (·.1)).Nodup)(Mf:cs.length<=10)(hN:N<=700000000):Calls aH 55 #[pt b] w (Zo Z w b ns cs (f.jf ns cs)):=by
 have nw:=qX.now;have tL:∀x∈f.fl f.now,x.1<2*cs.length:=fun x hx=>(qX.fl _ x hx).1;have hlen:(f.fl f.now).length<=20:=by have:=abl hnd tL;omega
 obtain⟨v,Q,w2,look,q1,q3,i2,hdel,hcd,uB,m3⟩:=(h.drew.drew).alF f.now (by omega) 0;have aeR:=look w.drew ⟨rfl,rfl,rfl,aC _,fun _ _ _=>rfl⟩;have c15:w.cell? ⟨b,15,aj⟩=az (.map (az L.mf)):=h.xu;have c13:w.cell? ⟨b,13,aj⟩=az (ah ag f.now):=h.xu;have lq:Q.length<=20:=by rw[<-q1,dW]at hlen;exact hlen
 have SRT:=aA (Wy w2 v Q lq (fun x hx=>by obtain⟨a,c,e,_⟩:=q3 x hx;exact⟨a,_,c,e⟩) uB);unfold Cs at SRT;obtain⟨la,lc,eV⟩:=dX uB;obtain⟨f1,hf1⟩:∃f1:dB,{f with fl:=fun t=>if t=f.now then[]else f.fl t}=f1:=⟨_,rfl⟩;rw[hf1]at m3;have AF:=XD ns cs f;rw[hf1]at AF;obtain⟨lb,hlb⟩:∃lb,mG (2*cs.length) (f.fl f.now)=lb:=⟨_,rfl⟩;rw[hlb]at AF;have apK:aZ (∀S:List Fw,rJ kC S->vT kC Q S->S.map (·.1)=lb):=fun S h1 h2=>by rw[<-hlb,<-q1];exact acJ (by rw[q1];exact tL) h1 h2
 have OK1:aZ (dH ns cs f1 N):=by rw[aZ,<-hf1];exact qX.Pp f.now
 have E1:f1.aI=f.aI/\f1.dE=f.dE/\f1.now=f.now:=by rw[<-hf1];exact⟨rfl,rfl,rfl⟩
 have LB:aZ (∀x∈lb,x.1<2*cs.length/\qR ns f1 x.2):=fun x hx=>by rw[<-hlb]at hx;have hx:=(mU hx).1;exact⟨tL x hx,(qX.fl _ x hx).2.qY E1.1 (by rw[E1.2.1];exact aC _)⟩
 have FXB:aZ (∀x∈lb,x.1<2*cs.length/\qR ns f1 x.2):=LB;have NX2:aZ (qA Z w Z w2):=⟨((Ch.refl _ w).drew.drew).trans hcd fun i hi s=>by have s:i=L.mf:=s;rw[s,h.fl.2];exact aC 2,fun _ _=>rfl⟩;have M3:=aA m3;have I2:=aA i2;have QD:=aA q3;have PL:=aA hp;have HN:=aA hN;have E1H:=aA E1;have DQ:aZ (∀x∈Q,iX Z w2 x.1.2.data x.2):=fun x hx=>(q3 x hx).jM hcd (fun _ _=>rfl) fun k s=>by have s:k=L.mf:=s;rw[s,h.fl.2];decide
 obtain⟨base0,oW⟩:∃base,w.heap.size=base:=⟨_,rfl⟩;have BS:aZ (w.heap.size=base0/\base0<=w2.heap.size):=⟨oW,by rw[<-oW];exact NX2.o.ch.size⟩;have HLB:aZ (lb.length=Q.length):=by
  rw[aZ,<-hlb];have e1:vT Dv (f.fl f.now) (mG (2*cs.length) (f.fl f.now)):=fun k=>by rw[BN];exact List.filter_congr fun x hx=>by simp[tL x hx]
  rw[e1.length,<-q1,dW]
 rw[AF];subst eV;generalize Ex:Zo Z w b ns cs (zT ns cs f1 lb lb.length)=NZ;have Tf:=aA Ex;clear h hp qX hnd hN hcd uB q3 i2 q1 m3 hf1 hlb AF E1 tL hlen look oW Ex nw;unfold pt at *;go_enter func55,ntmps55;go_wp2_with fail;go_region;go_wp2_with fail;go_region;go_wp2_with (first|(go_at_call 95;(with_reducible refine SRT.o.mono ?_);rintro e w3 ⟨rfl,S,hS1,hS2,Ra,hc3⟩;have HS1:=aA hS1;have HS2:=aA hS2;have OWN:=aA Ra;have HC3:=aA hc3;clear hS1 hS2 Ra hc3));have m4:gz Z w3 b ns cs f1 L:=M3.o w3 HC3.o;have IS:=apK.out S HS1.o HS2.o;have lS:S.length=Q.length:=HS2.o.length;have NX3:aZ (qA Z w Z w3):=NX2.o.trans ⟨HC3.o.mono fun k _ s=>by rw[I2.o k s];exact aC 2,fun _ _=>rfl⟩;have DS:aZ (∀x∈S,iX Z w3 x.1.2.data x.2):=fun x hx=>(DQ.o x (HS2.o.mem.1 hx)).jM HC3.o (fun _ _=>rfl) fun k s=>by rw[I2.o k s];simp
 have agT:aZ (∀dV wq,Ck Z w3 dV wq->∀k,k<Q.length->∃g,la=az ⟨g,0,aj⟩/\g<w3.heap.size/\∀j,j<7->wq.cell? ⟨g,k*7+j,aj⟩=(Il (S.getD k Pq))[j]?):=fun dV wq n k hk=>by obtain⟨g,cap,e1,_,hl,ho,hc⟩:=qf (d:=Pq) Dk OWN.o lS hk;injection e1 with e1;refine⟨g,e1,hl,fun j hj=>?_⟩;rw[n.ch.cell (p:=⟨g,k*7+j,aj⟩) hl fun s=>s.2 (by rw[I2.o g ho];simp)];exact hc k hk j hj
 have BB:aZ (base0<=w3.heap.size):=eY BS.o.2 HC3.o.size;obtain⟨base,Pt⟩:∃base,w3.heap.size=base:=⟨_,rfl⟩;have HB3:=aA Pt;have ST:aZ (adY Z w3 base b ns cs L f1 lb (ay aj 0 0) (ah ag 0) w3):=⟨0,Nat.zero_le _,rfl,Z,L,m4,Ck.refl _ _,Li.refl _,[],rfl,dR w3 base _ _,(fun x hx=>by cases hx),(fun g hg=>by simp[eO]at hg)⟩;have LEN:=aA lS;have ISH:=aA IS;have LX:aZ (∀k,k<Q.length->lb.getD k (0,default)=(S.getD k Pq).1):=fun k hk=>by
  have h1:k<S.length:=by rw[LEN.o];exact hk
  rw[<-ISH.o];simp[bS,h1]
 have ARB:aZ (∀k,k<=lb.length->dH ns cs (zT ns cs f1 lb k).1 (N+40)/\(zT ns cs f1 lb k).1.aI=f1.aI/\(zT ns cs f1 lb k).1.dE=f1.dE/\(zT ns cs f1 lb k).1.now=f1.now):=fun k hk=>by
  have r:=dH.Es PL.o (lb.take k) (s:=(f1,[])) OK1.o fun x hx=>LB.o x (List.mem_of_mem_take hx);have l20:lb.length<=20:=by rw[HLB.o];exact lq
  exact⟨r.1.mono (by rw[iG];omega),r.2⟩
 have avl:aZ (∀v' dV L' wq,gz dV wq b ns cs (zT ns cs f1 lb lb.length).1 L'->Ck Z w3 dV wq->Aw dV base wq v' (zT ns cs f1 lb lb.length).2->NZ (ax v') wq):=fun v' dV L' wq h1 h2 h3=>by rw[<-Tf.o];exact⟨v',rfl,dV,L',h1,NX3.o.trans h2.x,by rw[BS.o.1];exact h3.base (by rw[<-HB3.o];exact BB.o)⟩
 clear Pt m4 IS lS NX3 NX2 HC3 OWN HS1 HS2 apK M3 DQ QD Tf I2 hdel aeR c15 c13 BS SRT LB OK1;go_loopw [3,6,7,8,9,10,32] (fun v _ _ _ _ _ i wr=>adY Z w3 base b ns cs L f1 lb v i wr) (fun _ _ _ _ _ _ i _=>lb.length-(aK i).toNat);case atStart=>exact ST.o
 case round=>
  clear ST;obtain⟨k,hk,rfl,IB,L4,m4,n4,s4,d4⟩:=hrel;have M4:=aA m4;have N4:=aA n4;have S4:=aA s4;have D4:=aA d4;by_cases yH:k<lb.length
  ·have hkq:k<Q.length:=by rw[<-HLB.o];exact yH
   have OG:=aA (ARB.o k (by omega));have NX:=aA (XB ns cs f1 lb yH);obtain⟨g,eg,lg,cg⟩:=agT.out IB wr n4 k hkq;have ex:=LX.o k hkq;have hm:S.getD k Pq∈S:=(by have:k<S.length:=(by rw[LEN.o];exact hkq);simp[bS,this]);have DX:=DS.o _ hm;have LBX:=ISH.o;rw[ex]at NX;have mI:(S.getD k Pq).1∈lb:=(by rw[<-LBX];exact iU.2 ⟨_,hm,rfl⟩);have FX:=FXB.o _ mI;generalize S.getD k Pq=x at *;obtain⟨⟨c,xi,xf,xt,xl,xe,xd⟩,xv⟩:=x;have DAT:=aA DX;obtain⟨va,vk,eV,_⟩:=DX;have eV:xv=ay va xd.length vk:=eV;subst eV;have m0:=cg 0 (by omega);have m1:=cg 1 (by omega);have m2:=cg 2 (by omega);have m3:=cg 3 (by omega);have m4':=cg 4 (by omega);have m5:=cg 5 (by omega);have m6:=cg 6 (by omega);simp only[Il,Dm,Nat.add_zero,List.getElem?_cons_zero,List.getElem?_cons_succ]at m0 m1 m2 m3 m4' m5 m6;simp only at NX FX;have hc:=FX.1;have FM:=FX.2;obtain⟨⟨G,D⟩,hG⟩:∃GD,zT ns cs f1 lb k=GD:=⟨_,rfl⟩;have HGD:aZ ((lb.take k).foldl (dB.fO ns cs) (f1,[])=(G,D)):=hG;rw[hG]at NX OG M4 D4;simp only at OG M4 D4;have NXG:aZ (∀X,dB.fO ns cs (G,D) (c,⟨xi,xf,xt,xl,xe,xd⟩)=X->∀dV L' wq v,gz dV wq b ns cs X.1 L'->Ck IB wr dV wq->Li L4 L'->Aw dV base wq v X.2->adY Z w3 base b ns cs L f1 lb v (ah ag ((k:Int)+1)) wq):=fun X e dV L' wq v h1 h2 h3 h4=>
    ⟨k+1,by omega,by congr 1,dV,L',by rw[NX.o,e];exact h1,N4.o.trans h2,S4.o.trans h3,by rw[NX.o,e];exact h4⟩
   have kq0:(0:Int)<=(k:Int):=(by omega);have kq1:(k:Int)<(Q.length:Int):=(by omega);obtain⟨wb,Og⟩:∃wb:aG,wr.alloc (af #[ah ag (c:Int),ah ag xi,ah ag xf,ah ag xt,ah ag xl,ah ag xe,ay va xd.length vk] 122)=wb:=⟨_,rfl⟩;have WQ:aZ (aO wr.heap.size wr wb):=(by rw[<-Og];exact(Below.refl _ _).alloc (aC _) _);have VB:aZ (dG wb wr.heap.size 122 #[ah ag (c:Int),ah ag xi,ah ag xf,ah ag xt,ah ag xl,ah ag xe,ay va xd.length vk]):=(by rw[<-Og];exact dG.new wr _ _);have LX1:aZ (wb.heap.size=wr.heap.size+1):=(by rw[<-Og,aZ];simp);obtain⟨An,Ac,cn,cc,S0⟩:=M4.o.toS;have EC:aZ (∀w',aO wr.heap.size wr w'->Calls aH 53 #[au (az ⟨b,0,aj⟩),ah ag c] w' (uD cs c w')):=fun w' hb=>Ct c b ns cs An Ac cn cc w' (S0.below hb) PL.o hc;have EN:=PL.o.ends hc;have PT:aZ (∀X:Bx,X.bE=gJ (ns.getD (bV cs c).2.2.1 iZ)->(bV cs c).2.2.2<X.bE):=fun X hX=>(by rw[hX];exact PL.o.qP EN.2.1 EN.2.2.2.1);have Gp:=EN.2.1;obtain⟨⟨ea,eb,u,p⟩,hE⟩:∃e,bV cs c=e:=⟨_,rfl⟩;unfold uD at EC;rw[hE]at PT EC Gp;simp only at PT EC Gp;have HE:=aA hE;obtain⟨bX,hbX⟩:∃bX,wr.heap.size=bX:=⟨_,rfl⟩;rw[hbX]at VB;have vb0:wb.cell? ⟨bX,0,aj⟩=az (ah ag (c:Int)):=VB.o.cell 0;have n16:=PL.o.n16;obtain⟨bn,on,hbn,_,_,_,e7,_⟩:=uS S0.plan.1 u (by simpa using Gp);have c0w:=S0.c0;rw[hbn]at c0w;simp only at e7;obtain⟨gb,cb,eB,c5,TH,tgb,lgb⟩:=M4.o.aaU Gp;unfold pt at TH;have u0:(0:Int)<=(u:Int):=(by omega);have u1:(u:Int)<(ns.length:Int):=(by omega);have K5:aZ (∀w',aO wr.heap.size wr w'->w'.cell? ⟨b,0,aj⟩=az (ay (az ⟨bn,on,aj⟩) ns.length cn)/\w'.cell? ⟨bn,on+u*3+1,aj⟩=az (.bool (ns.getD u iZ).sw)/\w'.cell? ⟨b,5,aj⟩=az (ay (az ⟨gb,0,aj⟩) ns.length cb)/\w'.cell? ⟨gb,u,aj⟩=az (au (az ⟨L4.bx u,0,aj⟩))):=fun w' hb=>(by have t:∀{p:Addr} {z:aJ},wr.cell? p=az z->w'.cell? p=az z:=fun{p z} hz=>(hb.cell (aY _ _ hz)).trans hz;exact⟨t c0w,t e7,t c5,t TH⟩);have VX:aZ (∀w',aO wb.heap.size wb w'->w'.cell? ⟨bX,0,aj⟩=az (ah ag (c:Int))/\w'.cell? ⟨bX,1,aj⟩=az (ah ag xi)/\w'.cell? ⟨bX,2,aj⟩=az (ah ag xf)/\w'.cell? ⟨bX,3,aj⟩=az (ah ag xt)/\w'.cell? ⟨bX,4,aj⟩=az (ah ag xl)/\w'.cell? ⟨bX,5,aj⟩=az (ah ag xe)/\w'.cell? ⟨bX,6,aj⟩=az (ay va xd.length vk)):=fun w' hb=>(by have k:=VB.o.below hb VB.o.lt;exact⟨k.cell 0,k.cell 1,k.cell 2,k.cell 3,k.cell 4,k.cell 5,k.cell 6⟩);subst eg;have NX':=aA NX.o;clear hE hG EN hbn m4 n4 s4 d4 lg cg ex hm LBX mI FX S0 c0w e7 c5 TH eB agT NX;have NXB:aZ (∀w',aO wr.heap.size wr w'->Ck IB wr (fr IB wr.heap.size) w'.drew):=fun w' hb=>(Ck.dw hb).drew;have BXT:aZ (∀q,(fr IB wr.heap.size bX).1=q->q=0):=fun q e=>(by rw[<-hbX,mH (aC _)]at e;exact e.symm);have TGB:aZ (IB b=(2,0,0,0)/\(IB gb).1=1/\b<wr.heap.size/\gb<wr.heap.size):=⟨M4.o.root.2,tgb,M4.o.root.1.lt,lgb⟩;have aox:aZ (∀w',aO wr.heap.size wr w'->iX (fr IB wr.heap.size) w'.drew xd (ay va xd.length vk)):=fun w' hb=>by have n:=(N4.o.x.trans (qA.dw hb)).drew;exact DAT.o.jM n.ch n.ext fun k s=>by omega
   obtain⟨zz,Ku⟩:∃zz,fr IB wr.heap.size=zz:=⟨_,rfl⟩;have T5:aZ (∀i,i<wr.heap.size->zz i=IB i):=fun i hi=>(by rw[<-Ku];exact iD hi);have M5:aZ (∀w',aO wr.heap.size wr w'->gz zz w'.drew b ns cs G L4):=fun w' hb=>(by rw[<-Ku];exact(M4.o.below hb).drew);rw[Ku]at NXB BXT aox;cases hsw:(ns.getD u iZ).sw with
   |true=>
    simp only[hsw]at K5;go_wp2_with (first|(go_at_call 53;(with_reducible refine(EC.o _ WQ.o).mono ?_);rintro e w5 ⟨rfl,hb⟩;have BE:=aA hb;have B5:aZ (aO wr.heap.size wr w5):=WQ.o.trans (hb.mono WQ.o.size);obtain⟨k1,k2,k3,k4⟩:=K5.o w5 B5.o;obtain⟨x0,x1,x2,x3,x4,x5,x6⟩:=VX.o w5 hb;clear hb));have mb:=M5.o w5 B5.o;have MB:=aA mb;have Lh:=OG.o.1.box u Gp;have hpb:=PT.o _ Lh.2.1;have ba:=Fx p (N+40) ⟨xi,xf,xt,xl,xe,xd⟩ (ay va xd.length vk) zz (3+u) w5.drew (L4.bx u) (G.boxes.getD u default) (L4.Ik u) (mb.bx u Gp) (by omega) Lh.1 (by have:=HN.o;omega) hpb FM.c0 (by rw[Lh.2.2,OG.o.2.1];exact FM.c1) (aox.out _ B5.o);have OK7:=OG.o.1.gT Gp (p:=p) (by have:=Lh.2.1;rw[<-this];exact hpb) (FM.qY OG.o.2.1 (by rw[OG.o.2.2.1];exact aC _));have EA:dB.fO ns cs (G,D) (c,⟨xi,xf,xt,xl,xe,xd⟩)=(if((G.boxes.getD u default).gT p ⟨xi,xf,xt,xl,xe,xd⟩).2 then({G with boxes:=G.boxes.set u ((G.boxes.getD u default).gT p ⟨xi,xf,xt,xl,xe,xd⟩).1}:dB)else dB.oG {G with boxes:=G.boxes.set u ((G.boxes.getD u default).gT p ⟨xi,xf,xt,xl,xe,xd⟩).1} ⟨xi,xf,xt,xl,xe,xd⟩,D):=by unfold dB.fO;simp only[HE.o];unfold qE;rw[hsw];simp only[if_true]
    obtain⟨⟨r1,r2⟩,hr⟩:∃r,(G.boxes.getD u default).gT p ⟨xi,xf,xt,xl,xe,xd⟩=r:=⟨_,rfl⟩;rw[hr]at ba OK7 EA;simp only at OK7 EA;have bl:=OG.o.1.bl;have RES:aZ (∀QI L7 w7,pW QI (3+u) w7 (L4.bx u) r1 L7->Nx zz (3+u) w5.drew QI w7->∃L',gz QI w7 b ns cs {G with boxes:=G.boxes.set u r1} L'/\Ck IB wr QI w7/\Li L4 L'):=fun QI L7 w7 h1 h2=>
     ⟨_,MB.o.box Gp bl h2 h1,(NXB.o _ B5.o).trans (Ck.KE h2 (by omega)),⟨rfl⟩⟩
    have K7:aZ (∀QI w7,Nx zz (3+u) w5.drew QI w7->(fun wq=>wq.cell? ⟨b,5,aj⟩=az (ay (az ⟨gb,0,aj⟩) ns.length cb)/\wq.cell? ⟨gb,u,aj⟩=az (au (az ⟨L4.bx u,0,aj⟩))/\wq.cell? ⟨bX,1,aj⟩=az (ah ag xi)/\wq.cell? ⟨bX,2,aj⟩=az (ah ag xf)/\wq.cell? ⟨bX,3,aj⟩=az (ah ag xt)/\wq.cell? ⟨bX,4,aj⟩=az (ah ag xl)/\wq.cell? ⟨bX,5,aj⟩=az (ah ag xe)/\wq.cell? ⟨bX,6,aj⟩=az (ay va xd.length vk)) w7):=fun QI w7 n=>(by have t:∀{q:Addr} {z:aJ},w5.cell? q=az z->(zz q.block).1≠3+u->w7.cell? q=az z:=fun{q z} hz ht=>(n.ch.cell (aY w5 _ hz) ht).trans hz;have tb:(zz b).1≠3+u:=(by rw[T5.o _ TGB.o.2.2.1,TGB.o.1];show 2≠3+u;omega);have tg:(zz gb).1≠3+u:=(by rw[T5.o _ TGB.o.2.2.2,TGB.o.2.1];omega);have tx:(zz bX).1≠3+u:=(by rw[BXT.o _ rfl];omega);exact⟨t k3 tb,t k4 tg,t x1 tx,t x2 tx,t x3 tx,t x4 tx,t x5 tx,t x6 tx⟩);have OKH:=aA OK7;have FMH:=aA FM;clear hr mb Lh hpb bl hsw FM OK7 m0 m1 m2 m3 m4' m5 m6 k1 k2;cases r2 with
    |true=>
     simp only[if_true]at EA;have BA:aZ (Calls aH 50 #[au (az ⟨L4.bx u,0,aj⟩),ah ag p,.agg #[ah ag xi,ah ag xf,ah ag xt,ah ag xl,ah ag xe,ay va xd.length vk]] w5.drew fun e w7=>e=ax (ah ag 0)/\yI zz (3+u) w5.drew (L4.bx u) r1 (L4.Ik u) w7):=ba.mono fun e w' h=>⟨h.1,h.2⟩;have EAH:=aA EA;clear ba EA;go_region_held3 (fun wq=>wq.cell? ⟨b,5,aj⟩=az (ay (az ⟨gb,0,aj⟩) ns.length cb)/\wq.cell? ⟨gb,u,aj⟩=az (au (az ⟨L4.bx u,0,aj⟩))/\wq.cell? ⟨bX,1,aj⟩=az (ah ag xi)/\wq.cell? ⟨bX,2,aj⟩=az (ah ag xf)/\wq.cell? ⟨bX,3,aj⟩=az (ah ag xt)/\wq.cell? ⟨bX,4,aj⟩=az (ah ag xl)/\wq.cell? ⟨bX,5,aj⟩=az (ah ag xe)/\wq.cell? ⟨bX,6,aj⟩=az (ay va xd.length vk))
      (first|exact⟨k3,k4,x1,x2,x3,x4,x5,x6⟩|exact K7.o _ _ NX7.o)
      (first|(go_at_call 50;(with_reducible refine BA.o.mono ?_);rintro e w7 ⟨rfl,QI,L7,Uy,hn7⟩;have HB7:=aA Uy;have NX7:=aA hn7;clear Uy hn7))
     obtain⟨L',e1,e2,e3⟩:=RES.o _ _ _ HB7.o NX7.o;have R:=aA (NXG.o _ EAH.o _ _ _ _ e1 e2 e3 (D4.o.fnx e2.x));clear e1 e2 e3 K7 RES BA HB7 NX7;go_wp2_with fail;exact⟨R.o,by simp[aK];omega⟩
    |false=>
     simp only[mh,if_false]at EA;have BA:aZ (Calls aH 50 #[au (az ⟨L4.bx u,0,aj⟩),ah ag p,.agg #[ah ag xi,ah ag xf,ah ag xt,ah ag xl,ah ag xe,ay va xd.length vk]] w5.drew fun e w7=>e=ax (ah ag 5)/\yI zz (3+u) w5.drew (L4.bx u) r1 (L4.Ik u) w7):=ba.mono fun e w' h=>⟨h.1,h.2⟩;have EAH:=aA EA;clear ba EA;go_region_held3 (fun wq=>wq.cell? ⟨b,5,aj⟩=az (ay (az ⟨gb,0,aj⟩) ns.length cb)/\wq.cell? ⟨gb,u,aj⟩=az (au (az ⟨L4.bx u,0,aj⟩))/\wq.cell? ⟨bX,1,aj⟩=az (ah ag xi)/\wq.cell? ⟨bX,2,aj⟩=az (ah ag xf)/\wq.cell? ⟨bX,3,aj⟩=az (ah ag xt)/\wq.cell? ⟨bX,4,aj⟩=az (ah ag xl)/\wq.cell? ⟨bX,5,aj⟩=az (ah ag xe)/\wq.cell? ⟨bX,6,aj⟩=az (ay va xd.length vk))
      (first|exact⟨k3,k4,x1,x2,x3,x4,x5,x6⟩|exact K7.o _ _ NX7.o)
      (first|(go_at_call 50;(with_reducible refine BA.o.mono ?_);rintro e w7 ⟨rfl,QI,L7,Uy,hn7⟩;have HB7:=aA Uy;have NX7:=aA hn7;clear Uy hn7))
     obtain⟨L',e1,e2,e3⟩:=RES.o _ _ _ HB7.o NX7.o;obtain⟨_,_,y1,y2,y3,y4,y5,y6⟩:=K7.o _ _ NX7.o;have LS:=aA (Ja {G with boxes:=G.boxes.set u r1} ⟨xi,xf,xt,xl,xe,xd⟩ (ay va xd.length vk) b ns cs L' QI w7 e1 (OKH.o.afR (by have:=HN.o;omega)) FMH.o.e0 (by have h1:xe<=f1.dE:=FMH.o.e1;have h2:=OG.o.2.2.1;show xe<=G.dE;omega) ⟨_,_,_,rfl⟩);have E2:=aA e2;have E3:=aA e3;unfold Nb pt at LS;clear e1 e2 e3 K7 RES BA HB7;go_wp2_with (first|(go_at_call 58;(with_reducible refine LS.o.mono ?_);rintro e w8 ⟨rfl,Oq,L8,hm8,hn8,hs8⟩;have R:=aA (NXG.o _ EAH.o _ _ _ _ hm8 (E2.o.trans hn8) (E3.o.trans hs8) ((D4.o.fnx E2.o.x).fnx hn8.x));clear hm8 hn8 hs8));exact⟨R.o,by simp[aK];omega⟩
   |false=>
    simp only[hsw]at K5;go_wp2_with (first|(go_at_call 53;(with_reducible refine(EC.o _ WQ.o).mono ?_);rintro e w5 ⟨rfl,hb⟩;have BE:=aA hb;have B5:aZ (aO wr.heap.size wr w5):=WQ.o.trans (hb.mono WQ.o.size);obtain⟨k1,k2,k3,k4⟩:=K5.o w5 B5.o;obtain⟨x0,x1,x2,x3,x4,x5,x6⟩:=VX.o w5 hb;clear hb));have mb:=M5.o w5 B5.o;obtain⟨cl,hcl⟩:∃cl:Nat,xl=(cl:Int):=⟨xl.toNat,by have h0:0<=xl:=FM.c0;omega⟩;subst hcl;have hcr:cl<G.aI.length:=by have h0:(cl:Int).toNat<f1.aI.length:=FM.c1;rw[OG.o.2.1];omega
    have NT:(G.came.getD u []).length=G.aI.length:=OG.o.1.cm.row u Gp;obtain⟨gc,cc2,eC,kC,_,lC,tC⟩:=mb.came.1.at_ (i:=u) (by simpa using Gp);obtain⟨gd,cd,eD,kD,fD,lD,tD⟩:=(mb.came.2 u Gp).at_ (i:=cl) (by rw[dW];omega);rw[NT]at eD;have kC':w5.drew.cell? ⟨gc,u,aj⟩=az (ay (az ⟨gd,0,aj⟩) G.aI.length cd):=(by rw[kC,List.getElem?_map,List.getElem?_range Gp,<-eD];rfl);have kD':w5.drew.cell? ⟨gd,cl,aj⟩=az (ah ag (dz G.came u cl)):=(by rw[kD];exact Gq G.came u cl (by omega));have kV:w5.drew.cell? ⟨b,17,aj⟩=az (ay (az ⟨gc,0,aj⟩) ns.length cc2):=(by rw[<-eC];exact mb.xu);have cvb:=OG.o.1.cv u cl Gp hcr;have OK6:=OG.o.1.came Gp hcr;have Td:=mb.ahu (i:=u) (j:=cl) (g:=gd) (c:=cd) Gp OG.o.1.cm.len (by rw[NT];exact hcr) NT eD (dz G.came u cl+1);unfold PW at tD;have EA:dB.fO ns cs (G,D) (c,⟨xi,xf,xt,(cl:Int),xe,xd⟩)=(dB.rem {G with came:=jA G.came u cl (dz G.came u cl+1)} xe,D++[(G.now,u,⟨xi,xf,xt,(cl:Int),xe,xd⟩)]):=(by unfold dB.fO;simp only[HE.o];unfold qE;rw[hsw];simp only[mh,if_false,Int.toNat_natCast]);have EAH:=aA EA;obtain⟨G6,hG6⟩:∃G6:dB,{G with came:=jA G.came u cl (dz G.came u cl+1)}=G6:=⟨_,rfl⟩;have E6:G6.dE=G.dE/\G6.now=G.now:=(by rw[<-hG6];exact⟨rfl,rfl⟩);rw[hG6]at Td OK6 EAH;obtain⟨Q4,hq4,Rb,aqx,tg4⟩:=D4.o;obtain⟨a3,c3,e3⟩:=dX Rb;subst e3;have OW4:=aA Rb;have DT4:=aA aqx;have TG4:=aA tg4;have HQ4:=aA hq4;obtain⟨cv,hcv⟩:∃cv,dz G.came u cl=cv:=⟨_,rfl⟩;rw[hcv]at kD' cvb Td;obtain⟨w6,Yr⟩:∃w6:aG,w5.drew.setCell ⟨gd,cl,aj⟩ (ah ag (cv+1))=w6:=⟨_,rfl⟩;have C6:aZ (Ch (· =gd) w5.drew w6):=(by rw[<-Yr];exact(Ch.refl (fun i=>i=gd) w5.drew).setCell (p:=⟨gd,cl,aj⟩) (.inl rfl) _);rw[Yr]at Td;obtain⟨xN,m6',n6⟩:=Td;have M6:=aA m6';have N6:aZ (Ck zz w5.drew xN w6):=⟨C6.o.mono fun i _ e=>by have e:i=gd:=e;unfold Tn;rw[e,tD];simp,n6.ext⟩;have SN6:=aA (OK6.afR (by have:=HN.o;omega));have RMV:=aA (Nc G6 xe L4.bk w6.drew m6'.drew.bk.1 SN6.o FM.e0 (by have h1:xe<=f1.dE:=FM.e1;have h2:=OG.o.2.2.1;have:=E6.1;omega));have GDX:aZ (¬b=gd/\¬bX=gd):=by
     refine⟨fun e=>?_,fun e=>?_⟩
     ·have h1:=T5.o _ TGB.o.2.2.1;rw[TGB.o.1,e,tD]at h1;simp at h1
     ·have h1:=BXT.o _ rfl;rw[e,tD]at h1;simp at h1
    have VX6:aZ (w6.drew.cell? ⟨bX,1,aj⟩=az (ah ag xi)/\w6.drew.cell? ⟨bX,2,aj⟩=az (ah ag xf)/\w6.drew.cell? ⟨bX,3,aj⟩=az (ah ag xt)/\w6.drew.cell? ⟨bX,4,aj⟩=az (ah ag (cl:Int))/\w6.drew.cell? ⟨bX,5,aj⟩=az (ah ag xe)/\w6.drew.cell? ⟨bX,6,aj⟩=az (ay va xd.length vk)):=(by have t:∀{q:Nat} {z:aJ},w5.cell? ⟨bX,q,aj⟩=az z->w6.drew.cell? ⟨bX,q,aj⟩=az z:=fun{q z} hz=>(C6.o.cell (p:=⟨bX,q,aj⟩) (aY w5 _ hz) GDX.o.2).trans hz;exact⟨t x1,t x2,t x3,t x4,t x5,t x6⟩);have l6:w6.cell? ⟨b,11,aj⟩=az (au (az ⟨L4.bk,0,aj⟩)):=m6'.xu;have IZ:aZ (xN L4.bk=(2,2,0,0)/\xN b=(2,0,0,0)/\(xN bX).1=0):=(by refine⟨m6'.bk.2,m6'.root.2,?_⟩;rw[n6.ext bX (aY w5 _ x1)];exact BXT.o _ rfl);have VX7:aZ (∀w7,Ch (· =L4.bk) w6.drew w7->dG w7 bX 122 #[ah ag (c:Int),ah ag xi,ah ag xf,ah ag xt,ah ag (cl:Int),ah ag xe,ay va xd.length vk]):=fun w7 h7=>by have h1:dG w5.drew bX 122 _:=VB.o.below BE.o.drew VB.o.lt;have h2:dG w6.drew bX 122 _:=dG.ch (S:=fun i=>i=gd) (w':=w6) h1 C6.o GDX.o.2;exact dG.ch (S:=fun i=>i=L4.bk) h2 h7 fun e=>by have h1:=IZ.o.2.2;rw[e,IZ.o.1]at h1;simp at h1
    have K13:aZ (∀w7,Ch (· =L4.bk) w6.drew w7->(w7.cell? ⟨b,11,aj⟩=az (au (az ⟨L4.bk,0,aj⟩))/\w7.cell? ⟨bX,5,aj⟩=az (ah ag xe))/\(w7.cell? ⟨bX,1,aj⟩=az (ah ag xi)/\w7.cell? ⟨bX,2,aj⟩=az (ah ag xf)/\w7.cell? ⟨bX,3,aj⟩=az (ah ag xt)/\w7.cell? ⟨bX,4,aj⟩=az (ah ag (cl:Int))/\w7.cell? ⟨bX,5,aj⟩=az (ah ag xe)/\w7.cell? ⟨bX,6,aj⟩=az (ay va xd.length vk))):=fun w7 h7=>(by have nb:¬b=L4.bk:=fun e=>(by have h1:=IZ.o.1;rw[<-e,IZ.o.2.1]at h1;simp at h1);have nx:¬bX=L4.bk:=fun e=>(by have h1:=IZ.o.2.2;rw[e,IZ.o.1]at h1;simp at h1);have t:∀{q:Nat} {z:aJ},w6.drew.cell? ⟨bX,q,aj⟩=az z->w7.cell? ⟨bX,q,aj⟩=az z:=fun{q z} hz=>(h7.cell (p:=⟨bX,q,aj⟩) (aY w6.drew _ hz) nx).trans hz;obtain⟨z1,z2,z3,z4,z5,z6⟩:=VX6.o;exact⟨⟨(h7.cell (p:=⟨b,11,aj⟩) (aY w6.drew _ l6) nb).trans l6,t z5⟩,t z1,t z2,t z3,t z4,t z5,t z6⟩);have M7:aZ (∀w7,Ch (· =L4.bk) w6.drew w7->Bk w7 L4.bk (G6.rem xe).dE (G6.rem xe).wQ (G6.rem xe).vJ->gz xN w7 b ns cs (G6.rem xe) L4/\Ck IB wr xN w7):=fun w7 h7 hb=>
     ⟨(M6.o.drew.book h7 (fun _ _=>rfl) hb (afL G6 xe)),(((NXB.o _ B5.o).trans N6.o).drew.trans ⟨h7.mono fun i _ e=>by have e:i=L4.bk:=e;unfold Tn;rw[e,IZ.o.1];decide,fun _ _=>rfl⟩)⟩
    have avZ:aZ ((G6.rem xe).now=G.now):=(by rw[aZ,(KJ G6 xe).2.2.2.2.2.2.2.2.1,E6.2]);have k12:(fun wq=>wq.cell? ⟨b,17,aj⟩=az (ay (az ⟨gc,0,aj⟩) ns.length cc2)/\wq.cell? ⟨gc,u,aj⟩=az (ay (az ⟨gd,0,aj⟩) G.aI.length cd)/\wq.cell? ⟨bX,4,aj⟩=az (ah ag (cl:Int))/\wq.cell? ⟨gd,cl,aj⟩=az (ah ag cv)) w5.drew:=⟨kV,kC',x4,kD'⟩;have q6:IntKind.i64.wrap (cv+1)=cv+1:=IntWalk.i64_in _ (by have:=HN.o;omega);have cl0:(0:Int)<=(cl:Int):=(by omega);have cl1:(cl:Int)<(G.aI.length:Int):=(by omega);have z5:=VX6.o.2.2.2.2.1;obtain⟨i0,hi0,zC,Aq,Av⟩:=info_parts ZT;have ape:aZ (∀dV wq v,gz dV wq b ns cs (G6.rem xe) L4->Ck Z w3 dV wq->Aw dV base wq v (D++[(G.now,u,⟨xi,xf,xt,(cl:Int),xe,xd⟩)])->adY Z w3 base b ns cs L f1 lb v (ah ag ((k:Int)+1)) wq):=fun dV wq v h1 h2 h4=>
     ⟨k+1,by omega,by congr 1,dV,L4,by rw[NX'.o,EAH.o];exact h1,h2,S4.o,by rw[NX'.o,EAH.o];exact h4⟩
    clear mb NT eC kC lC tC eD kD kV kC' kD' cvb OK6 EA hG6 E6 hq4 Rb aqx tg4 hcv m6' n6 tD lD FM hcr m0 m1 m2 m3 m4' m5 m6 k1 k2 k3 k4 hsw NXG TGB tgb lgb;refine fZ 14 (fun wq=>wq.cell? ⟨b,17,aj⟩=az (ay (az ⟨gc,0,aj⟩) ns.length cc2)/\wq.cell? ⟨gc,u,aj⟩=az (ay (az ⟨gd,0,aj⟩) G.aI.length cd)/\wq.cell? ⟨bX,4,aj⟩=az (ah ag (cl:Int))/\wq.cell? ⟨gd,cl,aj⟩=az (ah ag cv)) (by kernel_rfl) k12 (fun aW=>?_);refine bH.tk 0 aW ?_;try simp only[bI]
    refine bH.tk 1 aW ?_;try simp only[bI]
    refine bH.tk 2 aW ?_;try simp only[bI]
    refine bH.tk 3 aW ?_;try simp only[bI]
    refine bH.tk 4 aW ?_;try simp only[bI]
    refine bH.tk 5 aW ?_;try simp only[bI]
    refine bH.tk 6 aW ?_;try simp only[bI]
    refine bH.tk 7 aW ?_;try simp only[bI]
    refine bH.tk 8 aW ?_;try simp only[bI]
    refine bH.tk 9 aW ?_;try simp only[bI]
    refine bH.tk 10 aW ?_;try simp only[bI]
    refine bH.tk 11 aW ?_;try simp only[bI]
    refine bH.tk 12 aW ?_;try simp only[bI]
    refine bH.tk 13 aW ?_;try simp only[bI]
    refine bH.one (i:=14) (by kernel_rfl) rfl (fun K hK=>?_);go_simp;refine hK.out _ _ (fun h=>absurd rfl h) (fun _=>?_);clear hK;refine bH.done (by kernel_rfl) ?_ _;try simp only[bI]
    clear Yr k12;go_wp2_with fail;go_region_held3 (fun wq=>wq.cell? ⟨b,11,aj⟩=az (au (az ⟨L4.bk,0,aj⟩))/\wq.cell? ⟨bX,5,aj⟩=az (ah ag xe))
     (first|exact⟨l6,z5⟩|exact(K13.o _ CB7.o).1)
     (first|(go_at_call 97;(with_reducible refine RMV.o.mono ?_);rintro e w7 ⟨⟨rc,rfl⟩,Uy,hc7⟩;have HB7:=aA Uy;have CB7:aZ (Ch (· =L4.bk) w6.drew w7):=(show Ch (· =L4.bk) w6.drew w7 from⟨hc7.os,hc7.tape,hc7.output,hc7.size,hc7.block⟩);clear Uy hc7))
    obtain⟨m7,n7⟩:=M7.o w7 CB7.o HB7.o;have MM7:=aA m7;have NN7:=aA n7;have k13:w7.cell? ⟨b,13,aj⟩=az (ah ag G.now):=(by rw[m7.xu];show az (ah .i64 ((G6.rem xe).now:Int))=_;rw[avZ.out]);obtain⟨_,z1,z2,z3,z4,z5',z6⟩:=K13.o w7 CB7.o;have OW7:aZ (w7.ownsRow base 61 8 (ay a3 Q4.length c3) Q4.length (Q4.flatMap ZH)):=fT OW4.o n7.ch fun g hg s=>(by have:=TG4.o g hg;have:=s.1;omega);have TG7:aZ (∀g,(ay a3 Q4.length c3).ownBlock=az g->(xN g).1=0):=fun g hg=>(by rw[n7.ext g (OW4.o.lt g hg).2];exact TG4.o g hg);have DT7:aZ (∀x∈Q4,iX xN w7 x.1.2.2.data x.2):=fun x hx=>(DT4.o x hx).jM n7.ch n7.ext fun k s=>(by have:=s.1;omega);have ava:aZ (iX xN w7 xd (ay va xd.length vk)):=by have n:=N4.o.x.trans n7.x;exact DAT.o.jM n.ch n.ext fun k s=>by omega
    have QL:aZ (Q4.length<=40):=by
     have h1:=congrArg List.length HQ4.o;rw[dW]at h1;have h2:∀(l:List (Nat×Fm)) (s:dB×List Dl),(l.foldl (dB.fO ns cs) s).2.length<=s.2.length+l.length:=fun l=>by
      induction l with
      |nil=>intro s;simp
      |cons x l ih=>
       intro s;rw[List.foldl_cons,List.length_cons];refine eY (ih _) ?_;have:(dB.fO ns cs s x).2.length<=s.2.length+1:=by
        unfold dB.fO;dsimp only;split
        ·simp
        ·simp
       omega
     have h3:=h2 (lb.take k) (f1,[]);have e3:(lb.take k).foldl (dB.fO ns cs) (f1,[])=(G,D):=HGD.o;rw[e3]at h3;simp only[List.length_nil,iG]at h3;have:=HLB.o;rw[aZ];omega
    have RN:aZ (Reads (w7.alloc (af #[ah ag (G.now:Int),ah ag (u:Int),ah ag xi,ah ag xf,ah ag xt,ah ag (cl:Int),ah ag xe,ay va xd.length vk] 61)).drew (w7.heap.size+1) 8 (az ⟨w7.heap.size,0,aj⟩) 1 [ah ag (G.now:Int),ah ag (u:Int),ah ag xi,ah ag xf,ah ag xt,ah ag (cl:Int),ah ag xe,ay va xd.length vk]):=(iE w7 61 [ah ag (G.now:Int),ah ag (u:Int),ah ag xi,ah ag xf,ah ag xt,ah ag (cl:Int),ah ag xe,ay va xd.length vk] (n:=1) (size:=8) rfl).drew;have OW:aZ ((w7.alloc (af #[ah ag (G.now:Int),ah ag (u:Int),ah ag xi,ah ag xf,ah ag xt,ah ag (cl:Int),ah ag xe,ay va xd.length vk] 61)).drew.ownsRow base 61 8 (ay a3 Q4.length c3) Q4.length (Q4.flatMap ZH)):=OW7.o.alloc (af #[ah ag (G.now:Int),ah ag (u:Int),ah ag xi,ah ag xf,ah ag xt,ah ag (cl:Int),ah ag xe,ay va xd.length vk] 61);have akJ:aZ (∀wq,Ch (fun k=>(ay a3 Q4.length c3).ownBlock=az k) w7 wq->(fun wq=>wq.cell? ⟨b,13,aj⟩=az (ah ag G.now)/\wq.cell? ⟨bX,1,aj⟩=az (ah ag xi)/\wq.cell? ⟨bX,2,aj⟩=az (ah ag xf)/\wq.cell? ⟨bX,3,aj⟩=az (ah ag xt)/\wq.cell? ⟨bX,4,aj⟩=az (ah ag (cl:Int))/\wq.cell? ⟨bX,5,aj⟩=az (ah ag xe)/\wq.cell? ⟨bX,6,aj⟩=az (ay va xd.length vk)) wq):=fun wq hq=>by
     have nb:∀{i q:Nat} {z:aJ},w7.cell? ⟨i,q,aj⟩=az z->(i=b\/i=bX)->wq.cell? ⟨i,q,aj⟩=az z:=fun{i q z} hz hi=>by
      refine(hq.cell (p:=⟨i,q,aj⟩) (aY w7 _ hz) fun s=>?_).trans hz;obtain⟨cs',hbk⟩:=kY OW7.o _ s;rcases hi with hi|hi
      ·subst hi;exact dG.sZ MM7.o.root.1 hbk (by decide) rfl
      ·subst hi;exact dG.sZ (VX7.o w7 CB7.o) hbk (by decide) rfl
     exact⟨nb k13 (.inl rfl),nb z1 (.inr rfl),nb z2 (.inr rfl),nb z3 (.inr rfl),nb z4 (.inr rfl),nb z5' (.inr rfl),nb z6 (.inr rfl)⟩
    have avj:aZ (∀v8 w8,w8.ownsRow base 61 8 v8 (Q4.length+1) (Q4.flatMap ZH++[ah ag (G.now:Int),ah ag (u:Int),ah ag xi,ah ag xf,ah ag xt,ah ag (cl:Int),ah ag xe,ay va xd.length vk])->(w7.alloc (af #[ah ag (G.now:Int),ah ag (u:Int),ah ag xi,ah ag xf,ah ag xt,ah ag (cl:Int),ah ag xe,ay va xd.length vk] 61)).grownBy w8 (ay a3 Q4.length c3).ownBlock->(v8.ownBlock=(ay a3 Q4.length c3).ownBlock\/v8.ownBlock=az (w7.heap.size+1))->adY Z w3 base b ns cs L f1 lb v8 (ah ag ((k:Int)+1)) w8):=fun v8 w8 ho hg hl=>by
     have hc:Ch (fun k=>(ay a3 Q4.length c3).ownBlock=az k) w7 w8:=((Ch.refl _ w7).alloc _).grown hg fun g e=>.inl e;have m8:=MM7.o.jM (dV:=fr xN w7.heap.size) hc (fun i hi=>iD hi) fun i s=>TG7.o i s;refine ape.out _ w8 v8 m8 ⟨(N4.o.trans NN7.o).ch.trans hc fun i hi s=>?_,fun i hi=>?_⟩ ⟨Q4++[((G.now,u,⟨xi,xf,xt,(cl:Int),xe,xd⟩),ay va xd.length vk)],by rw[List.map_append,HQ4.o];rfl,by simpa[ZH,Dm]using ho,fun y hy=>?_,fun g uz=>?_⟩
     ·have:=(OW7.o.lt i s).1;have:=HB3.o;omega
     ·rw[iD (Nat.lt_of_lt_of_le hi (N4.o.trans NN7.o).ch.size)];exact(N4.o.trans NN7.o).ext i hi
     ·rcases List.mem_append.1 hy with hy|hy
      ·exact(DT7.o y hy).jM hc (fun i hi=>iD hi) fun i s=>by rw[TG7.o i s];decide
      ·rw[List.mem_singleton]at hy;subst hy;exact ava.out.jM hc (fun i hi=>iD hi) fun i s=>by rw[TG7.o i s];decide
     ·rcases hl with e|e
      ·rw[e]at uz;rw[iD (OW7.o.lt g uz).2];exact TG7.o g uz
      ·rw[e]at uz;injection uz with uz;rw[mH (by omega)]
    have k14:=akJ.out w7.drew (Ch.refl _ w7).drew;clear m7 n7 k13 z1 z2 z3 z4 z5' z6 z5 l6 M7 K13 VX6 RMV ape DT7 OW4 DT4 TG4;go_wp2_with fail;refine fZ 11 (fun wq=>wq.cell? ⟨b,13,aj⟩=az (ah ag G.now)/\wq.cell? ⟨bX,1,aj⟩=az (ah ag xi)/\wq.cell? ⟨bX,2,aj⟩=az (ah ag xf)/\wq.cell? ⟨bX,3,aj⟩=az (ah ag xt)/\wq.cell? ⟨bX,4,aj⟩=az (ah ag (cl:Int))/\wq.cell? ⟨bX,5,aj⟩=az (ah ag xe)/\wq.cell? ⟨bX,6,aj⟩=az (ay va xd.length vk)) (by kernel_rfl) k14 (fun aW=>?_);refine bH.tk 0 aW ?_;try simp only[bI]
    refine bH.tk 1 aW ?_;try simp only[bI]
    refine bH.tk 2 aW ?_;try simp only[bI]
    refine bH.tk 3 aW ?_;try simp only[bI]
    refine bH.tk 4 aW ?_;try simp only[bI]
    refine bH.tk 5 aW ?_;try simp only[bI]
    refine bH.tk 6 aW ?_;try simp only[bI]
    refine bH.tk 7 aW ?_;try simp only[bI]
    refine bH.tk 8 aW ?_;try simp only[bI]
    refine bH.one (i:=9) (by kernel_rfl) rfl (fun K hK=>?_);go_simp;refine hK.out _ _ (fun _=>akJ.out _ ((Ch.refl _ _).alloc _).drew) (fun bU=>?_);have aW:=bU (by decide);clear hK bU;try simp only[bI]
    refine bH.one (i:=10) (by kernel_rfl) rfl (fun K hK=>?_);refine gy _ (by rfl) (.tmp 92) (.tmp 101) 39 (by rfl) base 61 i0 _ 8 80 underlying39 hi0 zC Aq Av rfl (by decide) _ _ _ (by rfl) OW.o _ (az ⟨w7.heap.size,0,aj⟩) 1 1 [ah ag (G.now:Int),ah ag (u:Int),ah ag xi,ah ag xf,ah ag xt,ah ag (cl:Int),ah ag xe,ay va xd.length vk] (by rfl) RN.o ?_ ?_ ?_ ?_ ?_
    ·intro u hu;simp only[List.mem_cons,List.not_mem_nil,or_false]at hu;rcases hu with rfl|rfl|rfl|rfl|rfl|rfl|rfl|rfl<;>rfl
    ·have:=QL.o;unfold maxLen;omega
    ·have:=QL.o;omega
    ·have h1:=(N4.o.trans NN7.o).ch.size;have h2:=HB3.o;exact eY (show base<=w7.heap.size by omega) ((Ch.refl (fun _=>False) w7).alloc _).drew.size
    intro v8 w8 Jp Bl Mm;have R:=aA (avj.out v8 w8 Jp ⟨Bl.os,Bl.tape,Bl.output,Bl.size,Bl.block⟩ (by simpa using Mm));have k15:=akJ.out w8 (((Ch.refl _ w7).alloc _).grown ⟨Bl.os,Bl.tape,Bl.output,Bl.size,Bl.block⟩ fun g hg=>.inl hg);clear Jp Bl Mm;refine hK.out _ _ (fun _=>k15) (fun bU=>?_);have aW:=bU (by decide);clear hK bU;try simp only[bI]
    clear k15;refine bH.one (i:=11) (by kernel_rfl) rfl (fun K hK=>?_);go_simp;refine hK.out _ _ (fun h=>absurd rfl h) (fun _=>?_);clear hK;refine bH.done (by kernel_rfl) ?_ _;try simp only[bI]
    go_wp2_with fail;exact⟨R.o,by simp[aK];omega⟩
  ·have hke:k=lb.length:=by omega
   have F:=aA (avl.out _ _ _ _ (by rw[<-hke];exact m4) n4 (by rw[<-hke];exact d4));have hq:¬(k:Int)<(Q.length:Int):=(by rw[hke,HLB.o];omega);clear m4 n4 s4 d4 hke;go_wp2_with fail;exact F.o
end
end Go.Proofs.YtnjjkgjdhljfnaaGreat
