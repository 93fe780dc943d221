/- Part 13 of the proof of fabricErrors.proved: FbT2. Several texts in one, blanks struck, what is not used left out. -/
import Derived.Shelf.Abstract
import Derived.Test.YtnjjkgjdhljfnaaGreatPk12
set_option maxRecDepth 100000
set_option maxHeartbeats 16000000
set_option linter.unusedVariables false
set_option linter.unusedSimpArgs false
namespace Go.Proofs.YtnjjkgjdhljfnaaGreat
open Go.RowKit Go.Maps
attribute [local go_sem ↓] Go.wp_at_zero Go.wp_at_succ
theorem zeroFlights(w:World):(zeroValue 120).run Tryz.prog w=.ok (.slice none 0 0) w:=by kernel_rfl
theorem infoFlight:(Tryz.prog.info? 122).map (fun i=>(i.zero,i.size,i.bytes))=some (some (.agg #[.int .i64 0,.int .i64 0,.int .i64 0,.int .i64 0,.int .i64 0,.int .i64 0,.slice none 0 0]),7,72):=by kernel_rfl
def RelA1(τ:Own)(w:World)(b:Nat)(ns:List Nd)(cs:List Cb)(L:FbL)(f:Fab)(i:Value)(wr:World):Prop:=∃u:Nat,u≤ns.length∧i=.int .i64 u∧FabPostS τ w b ns cs L (stepsTo ns cs f u) wr
def RelA2(τ:Own)(w:World)(b:Nat)(ns:List Nd)(cs:List Cb)(L:FbL)(u:Nat)(F0:Fab)(ms:List Mv)(i:Value)(wr:World):Prop:=∃k:Nat,k≤ms.length∧i=.int .i64 k∧FabPostS τ w b ns cs L (movesTo cs u F0 ms k) wr
theorem fstep_any(f:Fab)(N:Nat)(b:Nat)(ns:List Nd)(cs:List Cb)(L:FbL)(τ:Own)(w:World)(h:FabM τ w b ns cs f L)(hp:PlF ns cs)(hok:FabOk ns cs f N)(hN:N≤700000000):Calls Tryz.prog 56 #[pt b] w fun e w'=>e=.returned (.tuple #[])∧FabPostS τ w b ns cs L (stepsTo ns cs f ns.length) w':=by
 obtain⟨w1,hw1⟩:∃w1:World,w.alloc (.cells #[pt b] 31)=w1:=⟨_,rfl⟩;have B1:Hid (Below w.heap.size w w1):=by rw[←hw1];exact(Below.refl _ _).alloc (Nat.le_refl _) _
 have V1:Hid (Blk w1 w.heap.size 31 #[pt b]):=by rw[←hw1];exact Blk.new w _ _
 have M1:=h.below B1.out;obtain⟨τ1,hτ1⟩:∃τ1,fr τ w.heap.size=τ1:=⟨_,rfl⟩;have T1:Hid ((τ1 w.heap.size).1=0):=by rw[Hid,←hτ1,fr_new (Nat.le_refl _)]
 have FIN:Hid (∀F w',FabPostS τ1 w1 b ns cs L F w'→FabPostS τ w b ns cs L F w'):=fun F w' k=>FabPostS.then (by rw[←hτ1];exact FNx.of_below B1.out) (SmL.refl L) k;rw[hτ1]at M1;have H0:Hid (FabPostS τ1 w1 b ns cs L (stepsTo ns cs f 0) w1):=⟨τ1,L,M1,FNx.refl _ _,SmL.refl _⟩;obtain⟨aB,cB,eB⟩:=h.bxs.form;have EB:=Lib.hid eB;have c4:w1.cell? ⟨b,5,none⟩=some (.slice aB ns.length cB):=by rw[M1.r19];show some L.vb=_;rw[eB]
 have k0:w1.cell? ⟨w.heap.size,0,none⟩=some (pt b):=V1.out.cell 0;have PL:=Lib.hid hp;have OK:=Lib.hid hok;have HN:=Lib.hid hN;have n16:=hp.n16;clear h hp hok hN M1 hτ1 eB;unfold pt at *
 go_enter Tryz.func56,Tryz.ntmps56
 go_wp2_with fail
 clear hw1;generalize w.heap.size=bF at *
 go_loopw [2,3,4,5,6,7,8,9,10,16,30] (fun _ _ _ _ _ _ _ _ _ i _ wr=>RelA1 τ1 w1 b ns cs L f i wr) (fun _ _ _ _ _ _ _ _ _ i _ _=>ns.length-(RowKit.intOf i).toNat)
 case atStart=>exact⟨0,Nat.zero_le _,rfl,H0.out⟩
 case round=>
  clear H0 c4;obtain⟨u,hu,rfl,hP⟩:=hrel;have HP:=Lib.hid hP;clear hP;by_cases hun:u<ns.length
  ·obtain⟨F,hFd⟩:∃F,stepsTo ns cs f u=F:=⟨_,rfl⟩;have NXT:=Lib.hid (stepsTo_succ ns cs f u);have OS:=FabOk.steps PL.out (List.range u) OK.out (fun x hx=>by have:=List.mem_range.1 hx;omega);rw[List.length_range]at OS;have OKF:Hid (FabOk ns cs F (N+80000)∧F.rooms=f.rooms∧F.bnow=f.bnow∧F.now=f.now):=by
    rw[Hid,←hFd];exact⟨OS.1.mono (by omega),OS.2⟩
   clear OS;rw[hFd]at HP NXT;rw[stepN_is]at NXT;obtain⟨τ2,L2,m2,n2,s2⟩:=HP.out;have M2:=Lib.hid m2;have N2:=Lib.hid n2;have S2:=Lib.hid s2;obtain⟨gb,cb,eB2,c5,cbx,tgb,lgb⟩:=m2.boxc hun;have eV:L2.vb=L.vb:=by rw[s2.e]
   have eX:L2.bx=L.bx:=(by rw[s2.e]);rw[eV,EB.out]at eB2;injection eB2 with eA _ eC;clear eC;have kb:wr.cell? ⟨bF,0,none⟩=some (.pointer (some ⟨b,0,none⟩)):=(n2.cell (p:=⟨bF,0,none⟩) V1.out.lt (by rw[T1.out];decide)).trans k0;have lF:Hid (bF<wr.heap.size∧(τ2 bF).1=0):=⟨Nat.lt_of_lt_of_le V1.out.lt n2.ch.size,by rw[n2.ext _ V1.out.lt];exact T1.out⟩;obtain⟨wa,hwa⟩:∃wa:World,wr.alloc (.cells #[.int .i64 (u:Int)] 3)=wa:=⟨_,rfl⟩;have BA:Hid (Below wr.heap.size wr wa):=(by rw[←hwa];exact(Below.refl _ _).alloc (Nat.le_refl _) _);have VA:Hid (Blk wa wr.heap.size 3 #[.int .i64 (u:Int)]):=(by rw[←hwa];exact Blk.new wr _ _);have MA:=Lib.hid (m2.below BA.out);have kFa:wa.cell? ⟨bF,0,none⟩=some (pt b):=(BA.out.cell (p:=⟨bF,0,none⟩) lF.out.1).trans kb;have SB:=Lib.hid (fstepB MA.out PL.out OKF.out.1 (by have:=HN.out;omega) hun kFa (VA.out.cell 0));have LA:Hid (wa.heap.size=wr.heap.size+1):=(by rw[←hwa,Hid];simp);obtain⟨bN,hbN⟩:∃bN,wr.heap.size=bN:=⟨_,rfl⟩;have u0:(0:Int)≤(u:Int):=(by omega);have u1:(u:Int)<(ns.length:Int):=(by omega);rw[eX]at cbx SB;unfold pt at cbx SB;rw[hbN]at SB VA LA MA;subst eA;clear m2 n2 s2 c5 eV kFa tgb lgb
   go_wp2_with (first|(go_at_call 99;((with_reducible refine SB.out.mono ?_);rintro e w3 ⟨aM,kM,aF,kF,rfl,τ3,L3,hm3,hn3,hs3,hr3⟩;have M3:=Lib.hid hm3;have N3:=Lib.hid hn3;have S3:=Lib.hid hs3;have R3:=Lib.hid hr3;clear hm3 hn3 hs3 hr3)))
   obtain⟨F0,hF0⟩:∃F0,boxF ns cs F u=F0:=⟨_,rfl⟩;obtain⟨ms,hms⟩:∃ms,msF ns cs F u=ms:=⟨_,rfl⟩;have BOX:=OKF.out.1.stepBox hun (routeF ns cs F u);have OK0:FabOk ns cs F0 (N+80008):=(by rw[←hF0];exact BOX.1.mono (by omega));have E0:F0.rooms=F.rooms∧F0.bnow=F.bnow∧F0.now=F.now:=(by rw[←hF0];exact⟨rfl,rfl,rfl⟩);have FMO:∀m∈ms,FmOk ns F0 m.2.2.2:=fun m hm=>(by rw[←hms]at hm;exact(BOX.2 m hm).to_ E0.1 (by rw[E0.2.1];exact Nat.le_refl _));have B:=OKF.out.1.box u hun;have TR:=step_tr (F.boxes.getD u default) (routeF ns cs F u) B.1;have OUT:Hid (∀m∈ms,∀k,m.2.2.1=some k→∃i,cableAt cs u k=some i∧i<cs.length∧((cs.getD i cb0).a=(u:Int)∨(cs.getD i cb0).b=(u:Int))∧k<portsOf (ns.getD u nd0)):=fun m hm k e=>(by rw[←hms]at hm;exact route_cable PL.out OKF.out.1 hun (BOX.2 m hm) (TR.1.outs m hm k e).2);have ML:ms.length≤64*64+8:=(by have:=(movesAt_ok (route:=routeF ns cs F u) B.1 (Nat.le_refl _)).2.2.2.1;rw[←step_is]at this;rw[←hms];exact this);have MLH:=Lib.hid ML;have MV:Hid (∀k,FabOk ns cs (movesTo cs u F0 ms k) (N+90000)∧(movesTo cs u F0 ms k).rooms=F0.rooms∧(movesTo cs u F0 ms k).bnow=F0.bnow∧(movesTo cs u F0 ms k).now=F0.now):=fun k=>(by have r:=FabOk.moves PL.out hun (ms.take k) OK0 fun m hm=>FMO m (List.mem_of_mem_take hm);exact⟨r.1.mono (by rw[List.length_take];omega),r.2⟩);have FMH:=Lib.hid FMO;have E0H:=Lib.hid E0;rw[hms,hF0]at NXT;rw[hF0]at M3;rw[hms]at R3⊢;have lN3:Hid (bN<w3.heap.size∧(τ3 bN).1=0):=(by have l:bN<wa.heap.size:=(by have:=LA.out;omega);exact⟨Nat.lt_of_lt_of_le l N3.out.ch.size,by rw[N3.out.ext _ l,fr_new (Nat.le_refl _)]⟩);have lF3:Hid (bF<w3.heap.size∧(τ3 bF).1=0):=(by have l1:=lF.out.1;have l:bF<wa.heap.size:=(by have:=LA.out;omega);exact⟨Nat.lt_of_lt_of_le l N3.out.ch.size,by rw[N3.out.ext _ l,fr_old (by omega)];exact lF.out.2⟩);have kN3:w3.cell? ⟨bN,0,none⟩=some (.int .i64 (u:Int)):=(N3.out.cell (p:=⟨bN,0,none⟩) (by have:=LA.out;show bN<_;omega) (by show(fr τ2 bN bN).1<2;rw[fr_new (Nat.le_refl _)];decide)).trans (VA.out.cell 0);have kF3:w3.cell? ⟨bF,0,none⟩=some (.pointer (some ⟨b,0,none⟩)):=(N3.out.cell (p:=⟨bF,0,none⟩) (by have:=LA.out;have:=lF.out.1;show bF<_;omega) (by have:=lF.out;show(fr τ2 bN bF).1<2;rw[fr_old (by omega)];omega)).trans ((BA.out.cell (p:=⟨bF,0,none⟩) lF.out.1).trans kb);have KNF:Hid (∀τ' w',FNx τ3 w3 τ' w'→w'.cell? ⟨bN,0,none⟩=some (.int .i64 (u:Int))∧w'.cell? ⟨bF,0,none⟩=some (.pointer (some ⟨b,0,none⟩))∧(τ' bN).1=0∧(τ' bF).1=0∧bN<w'.heap.size∧bF<w'.heap.size):=fun τ' w' n=>
    ⟨(n.cell (p:=⟨bN,0,none⟩) lN3.out.1 (by rw[lN3.out.2];decide)).trans kN3,(n.cell (p:=⟨bF,0,none⟩) lF3.out.1 (by rw[lF3.out.2];decide)).trans kF3,by rw[n.ext _ lN3.out.1];exact lN3.out.2,by rw[n.ext _ lF3.out.1];exact lF3.out.2,Nat.lt_of_lt_of_le lN3.out.1 n.ch.size,Nat.lt_of_lt_of_le lF3.out.1 n.ch.size⟩
   have FINA:Hid (∀G w',FabPostS τ3 w3 b ns cs L3 G w'→FabPostS τ1 w1 b ns cs L G w'):=fun G w' k=>
    FabPostS.then (((N2.out.trans (by have:=FNx.of_below (τ:=τ2) BA.out;rw[hbN]at this;exact this)).trans N3.out)) (S2.out.trans S3.out) k
   have ST:Hid (RelA2 τ3 w3 b ns cs L3 u F0 ms (.int .i64 0) w3):=⟨0,Nat.zero_le _,rfl,τ3,L3,M3.out,FNx.refl _ _,SmL.refl _⟩;clear BOX OK0 E0 FMO B TR hms hF0 VA LA lF BA kb MA SB M2 N2 S2 S3 N3 M3 kN3 kF3 lN3 lF3 hwa hbN eX cbx HP hFd k0
   go_loopw [7,8,9,10,30] (fun _ _ _ _ j wq=>RelA2 τ3 w3 b ns cs L3 u F0 ms j wq) (fun _ _ _ _ j _=>ms.length-(RowKit.intOf j).toNat)
   case atStart=>exact ST.out
   case round=>
    clear ST;obtain⟨k,hk,rfl,hP⟩:=hrel;have HP:=Lib.hid hP;clear hP;by_cases hkn:k<ms.length
    ·obtain⟨τ4,L4,m4,n4,s4⟩:=HP.out;have M4:=Lib.hid m4;have N4:=Lib.hid n4;have S4:=Lib.hid s4;have R4:=R3.out.fnx n4;have MVK:=MV.out k;have NX1:=Lib.hid (movesTo_succ cs u F0 ms hkn);obtain⟨kN,kF',tN4,tF4,lN4,lF4⟩:=KNF.out τ4 wr n4;obtain⟨gM,eM,tM,lM,cMv⟩:=R4.mv k hkn;obtain⟨gF,v,eF,tF,lF,dF,cFr⟩:=R4.fr k hkn;have hmem:ms.getD k mv0∈ms:=(by simp[List.getD,hkn]);have FMK:=Lib.hid (FMH.out _ hmem);have OUK:=Lib.hid (OUT.out _ hmem);generalize ms.getD k mv0=m at *;obtain⟨p,c,o,x⟩:=m;obtain⟨xi,xf,xt,xl,xe,xd⟩:=x;have FM1:=FMK.out;have DAT:=Lib.hid dF;obtain⟨va,vk,eV,_⟩:=dF;subst eV;have m0:=cMv 0 (by omega);have m1:=cMv 1 (by omega);have m2:=cMv 2 (by omega);have f0:=cFr 0 (by omega);have f1:=cFr 1 (by omega);have f2:=cFr 2 (by omega);have f3:=cFr 3 (by omega);have f4:=cFr 4 (by omega);have f5:=cFr 5 (by omega);simp only[cM,cFm,Nat.add_zero,List.getElem?_cons_zero,List.getElem?_cons_succ]at m0 m1 m2 f0 f1 f2 f3 f4 f5;obtain⟨G,hG⟩:∃G,movesTo cs u F0 ms k=G:=⟨_,rfl⟩;rw[hG]at MVK NX1 M4 HP;have OG:=Lib.hid MVK;have NXG:Hid (∀G',(Fab.move1 cs u G (p,c,o,⟨xi,xf,xt,xl,xe,xd⟩))=G'→∀τ' wq w',FNx τ4 wr τ' wq→FabPostS τ' wq b ns cs L4 G' w'→RelA2 τ3 w3 b ns cs L3 u F0 ms (.int .i64 ((k+1:Nat):Int)) w'):=fun G' e τ' wq w' n hq=>⟨k+1,by omega,rfl,by rw[NX1.out,e];exact FabPostS.then (N4.out.trans n) S4.out hq⟩;have SAN:=Lib.hid (OG.out.1.sane (by have:=HN.out;omega));have E0:=E0H.out;have KS:Hid (∀τ' wq,FNx τ4 wr τ' wq→wq.cell? ⟨bF,0,none⟩=some (.pointer (some ⟨b,0,none⟩))∧wq.cell? ⟨gF,k*6,none⟩=some (.int .i64 xi)∧wq.cell? ⟨gF,k*6+1,none⟩=some (.int .i64 xf)∧wq.cell? ⟨gF,k*6+2,none⟩=some (.int .i64 xt)∧wq.cell? ⟨gF,k*6+3,none⟩=some (.int .i64 xl)∧wq.cell? ⟨gF,k*6+4,none⟩=some (.int .i64 xe)∧wq.cell? ⟨gF,k*6+5,none⟩=some (.slice va xd.length vk)):=fun τ' wq n=>
      ⟨(KNF.out τ' wq (N4.out.trans n)).2.1,(n.cell (p:=⟨gF,k*6,none⟩) lF tF).trans f0,(n.cell (p:=⟨gF,k*6+1,none⟩) lF tF).trans f1,(n.cell (p:=⟨gF,k*6+2,none⟩) lF tF).trans f2,(n.cell (p:=⟨gF,k*6+3,none⟩) lF tF).trans f3,(n.cell (p:=⟨gF,k*6+4,none⟩) lF tF).trans f4,(n.cell (p:=⟨gF,k*6+5,none⟩) lF tF).trans f5⟩
     have k0i:(0:Int)≤(k:Int):=(by omega);have k1i:(k:Int)<(ms.length:Int):=(by omega);subst eM;subst eF;obtain⟨wb,hwb⟩:∃wb:World,wr.alloc (.cells #[.int .i64 (p:Int),.int .i64 (c:Int),.int .i64 (optI o)] 189)=wb:=⟨_,rfl⟩;have BB:Hid (Below wr.heap.size wr wb):=(by rw[←hwb];exact(Below.refl _ _).alloc (Nat.le_refl _) _);have VB:Hid (Blk wb wr.heap.size 189 #[.int .i64 (p:Int),.int .i64 (c:Int),.int .i64 (optI o)]):=(by rw[←hwb];exact Blk.new wr _ _);have vb2:wb.cell? ⟨wr.heap.size,2,none⟩=some (.int .i64 (optI o)):=VB.out.cell 2;clear m4 n4 s4 R4 MVK HP cMv cFr tM lM hmem FMH OUT R3 NX1 f0 f1 f2 f3 f4 f5 hG NXT;cases o with
     |none=>
      have oN:optI none=-1:=rfl;rw[oN]at hwb VB m2 vb2;have LOSE:Hid (∀wq,Below wr.heap.size wr wq→Calls Tryz.prog 58 #[.pointer (some ⟨b,0,none⟩),.agg #[.int .i64 xi,.int .i64 xf,.int .i64 xt,.int .i64 xl,.int .i64 xe,.slice va xd.length vk]] wq (fun e w'=>e=.returned (.tuple #[])∧FabPostS (fr τ4 wr.heap.size) wq b ns cs L4 (G.lose ⟨xi,xf,xt,xl,xe,xd⟩) w')):=fun wq hb=>
       flose_any G ⟨xi,xf,xt,xl,xe,xd⟩ (.slice va xd.length vk) b ns cs L4 _ wq (M4.out.below hb) SAN.out FM1.e0 (by have h1:xe≤F0.bnow:=FM1.e1;have h2:=OG.out.2.2.1;show xe≤G.bnow;omega) ⟨_,_,_,rfl⟩
      have NXL:Hid (∀wq w5,Below wr.heap.size wr wq→FabPostS (fr τ4 wr.heap.size) wq b ns cs L4 (G.lose ⟨xi,xf,xt,xl,xe,xd⟩) w5→RelA2 τ3 w3 b ns cs L3 u F0 ms (.int .i64 ((k:Int)+1)) w5):=fun wq w5 hb hq=>(by have:=NXG.out _ rfl _ _ _ (FNx.of_below hb) hq;rw[show((k+1:Nat):Int)=(k:Int)+1 by omega]at this;exact this);have KL:Hid (∀wq w5,Below wr.heap.size wr wq→FabPostS (fr τ4 wr.heap.size) wq b ns cs L4 (G.lose ⟨xi,xf,xt,xl,xe,xd⟩) w5→∃τ',FNx τ4 wr τ' w5):=fun wq w5 hb ⟨τ',L',h1,h2,h3⟩=>⟨τ',(FNx.of_below hb).trans h2⟩;have KB:=Lib.hid (KS.out _ _ ((FNx.of_below (τ:=τ4) BB.out).drew));clear NXG FM1 OUK FMK DAT kN
      go_wp2_with fail
      go_region_held3 (fun wq=>wq.cell? ⟨bF,0,none⟩=some (.pointer (some ⟨b,0,none⟩))∧wq.cell? ⟨gF,k*6,none⟩=some (.int .i64 xi)∧wq.cell? ⟨gF,k*6+1,none⟩=some (.int .i64 xf)∧wq.cell? ⟨gF,k*6+2,none⟩=some (.int .i64 xt)∧wq.cell? ⟨gF,k*6+3,none⟩=some (.int .i64 xl)∧wq.cell? ⟨gF,k*6+4,none⟩=some (.int .i64 xe)∧wq.cell? ⟨gF,k*6+5,none⟩=some (.slice va xd.length vk))
       (first|exact KB.out|exact KS.out _ _ (KL.out _ _ (BB.out.drew) HQ.out).choose_spec)
       (first|(go_at_call 58;((with_reducible refine(LOSE.out _ BB.out.drew).mono ?_);rintro e w5 ⟨rfl,hq⟩;have HQ:=Lib.hid hq;clear hq)))
      have R:=Lib.hid (NXL.out _ _ BB.out.drew HQ.out);clear NXL KL KS KB LOSE HQ BB VB
      go_wp2_with fail
      exact⟨R.out,by simp[RowKit.intOf];omega⟩
     |some kk=>
      have oS:optI (some kk)=(kk:Int):=rfl;rw[oS]at hwb VB m2 vb2;obtain⟨i,hcab,hi,htch,hkp⟩:=OUK.out kk rfl;have nk:¬(kk:Int)<0:=(by omega);have kk0:(0:Int)≤(kk:Int):=(by omega);obtain⟨gt,ct,eT,ct1,_,lT,tT⟩:=M4.out.cab.1.at_ (i:=u) (by simpa using hun);obtain⟨gr,cr,eRw,ct2,_,lR,tR⟩:=(M4.out.cab.2 u hun).at_ (i:=kk) (by simpa using hkp);have c4:wr.cell? ⟨b,4,none⟩=some (.slice (some ⟨gt,0,none⟩) ns.length ct):=(by rw[←eT];exact M4.out.r19);have ct1':wr.cell? ⟨gt,u,none⟩=some (.slice (some ⟨gr,0,none⟩) (portsOf (ns.getD u nd0)) cr):=(by rw[ct1,List.getElem?_map,List.getElem?_range hun,←eRw];rfl);have ct2':wr.cell? ⟨gr,kk,none⟩=some (.int .i64 (i:Int)):=(by rw[ct2,List.getElem?_map,List.getElem?_range hkp];show some (Value.int .i64 (cabI cs u kk))=_;rw[cabI_some hcab]);obtain⟨An,Ac,cn,cc,S⟩:=M4.out.toS;obtain⟨bc,oc,ha,hbc,_,_,_,_,_,e4,_⟩:=cable_at S.plan.2 i hi;have c13:wr.cell? ⟨b,13,none⟩=some (.int .i64 G.now):=M4.out.r19;have c15:wr.cell? ⟨b,15,none⟩=some (.map (some L4.mf)):=M4.out.r19;have c1w:=S.c1;rw[ha]at c1w;have CH:Hid (∀wq,Below wr.heap.size wr wq→Calls Tryz.prog 65 #[.pointer (some ⟨b,0,none⟩),.int .i64 i,.int .i64 u] wq fun e w'=>e=.returned (.int .i64 (chanF cs i u:Nat))∧wq=w'):=fun wq hb=>fchan_any i u b ns cs An Ac cn cc wq (S.below hb) PL.out hi hun;have c32:=PL.out.c32;have dl:=PL.out.dl _ hi;obtain⟨d,hd⟩:∃d:Nat,(cs.getD i cb0).dl=(d:Int):=⟨(cs.getD i cb0).dl.toNat,by omega⟩;have dT:(cs.getD i cb0).dl.toNat=d:=(by omega);simp only at e4;rw[hd]at e4 dl;obtain⟨due,hdue⟩:∃due:Nat,G.now+d=due:=⟨_,rfl⟩;have gnow:=OG.out.1.now;have hdI:(G.now:Int)+(d:Int)=(due:Int):=(by omega);have hNN:=HN.out;have q3:IntKind.i64.wrap (due:Int)=(due:Int):=IntWalk.i64_in _ (by omega);have dueb:due≤810000000:=(by omega);obtain⟨n,M,Q,om,hn,hQ,ownQ,dQ,tg,push⟩:=M4.out.flAt due;have OM:=Lib.hid om;have HNM:=Lib.hid hn;have NM:=Lib.hid ownQ;have TG:=Lib.hid tg;have PU:=Lib.hid push;have MT:Hid (τ4 L4.mf=(2,3,0,0)):=M4.out.fl.2;have LL:Hid (Q.length≤810000000):=(by have l1:=OG.out.1.fll due;rw[←hQ,List.length_map]at l1;rw[Hid];omega);have NX13:Hid (∀w6,FabPostL τ4 wr b ns cs L4 {G with fl:=fun t=>if t=due then G.fl t++[(chanF cs i u,⟨xi,xf,xt,xl,xe,xd⟩)]else G.fl t} w6→RelA2 τ3 w3 b ns cs L3 u F0 ms (.int .i64 ((k:Int)+1)) w6):=fun w6 ⟨τ',hm,hx⟩=>(by have:=NXG.out _ (by unfold Fab.move1;simp only[hcab,dT,hdue]) τ4 wr w6 (FNx.refl _ _) ⟨τ',L4,hm,hx,SmL.refl _⟩;rw[show((k+1:Nat):Int)=(k:Int)+1 by omega]at this;exact this);have kk1:(kk:Int)<(portsOf (ns.getD u nd0):Int):=(by omega);have i0:(0:Int)≤(i:Int):=(by omega);have i1:(i:Int)<(cs.length:Int):=(by omega);have u0:(0:Int)≤(u:Int):=(by omega);have u1:(u:Int)<(ns.length:Int):=(by omega);have TB:Hid (τ4 b=(2,0,0,0)∧(τ4 gF).1<2∧b<wr.heap.size∧gF<wr.heap.size):=⟨M4.out.root.2,tF,M4.out.root.1.lt,lF⟩;generalize portsOf (ns.getD u nd0)=np at *;have KW:Hid (∀wq,Below wr.heap.size wr wq→(wq.cell? ⟨bF,0,none⟩=some (.pointer (some ⟨b,0,none⟩))∧wq.cell? ⟨b,4,none⟩=some (.slice (some ⟨gt,0,none⟩) ns.length ct)∧wq.cell? ⟨bN,0,none⟩=some (.int .i64 (u:Int))∧wq.cell? ⟨gt,u,none⟩=some (.slice (some ⟨gr,0,none⟩) np cr)∧wq.cell? ⟨gr,kk,none⟩=some (.int .i64 (i:Int)))
       ∧(wq.cell? ⟨bF,0,none⟩=some (.pointer (some ⟨b,0,none⟩))∧wq.cell? ⟨b,13,none⟩=some (.int .i64 G.now)∧wq.cell? ⟨b,0+1,none⟩=some (.slice (some ⟨bc,oc,none⟩) cs.length cc)∧wq.cell? ⟨bc,oc+i*6+4,none⟩=some (.int .i64 (d:Int)))):=fun wq hb=>by
       have t:∀{p:Addr} {z:Value},wr.cell? p=some z→wq.cell? p=some z:=fun{p z} hz=>(hb.cell (World.block_lt_of_cell? _ _ hz)).trans hz;exact⟨⟨t kF',t c4,t kN,t ct1',t ct2'⟩,t kF',t c13,t c1w,t e4⟩
      have K1:=Lib.hid (KW.out wb BB.out).1;have K2:=Lib.hid (KW.out _ BB.out.drew).2;have VB2:Hid (∀wq,Below wb.heap.size wb wq→wq.cell? ⟨wr.heap.size,2,none⟩=some (.int .i64 (kk:Int))):=fun wq hb=>(hb.cell (p:=⟨wr.heap.size,2,none⟩) VB.out.lt).trans vb2;clear eT ct1 lT tT eRw ct2 lR tR c4 ct1' ct2' S ha hbc e4 c13 c1w om hn ownQ tg push hd dT gnow dl NXG FM1 FMK OUK hcab htch hkp
      go_wp2_with fail
      go_region_held3 (fun wq=>(wq.cell? ⟨bF,0,none⟩=some (.pointer (some ⟨b,0,none⟩))∧wq.cell? ⟨b,4,none⟩=some (.slice (some ⟨gt,0,none⟩) ns.length ct)∧wq.cell? ⟨bN,0,none⟩=some (.int .i64 (u:Int))∧wq.cell? ⟨gt,u,none⟩=some (.slice (some ⟨gr,0,none⟩) np cr)∧wq.cell? ⟨gr,kk,none⟩=some (.int .i64 (i:Int)))∧wq.cell? ⟨wr.heap.size,2,none⟩=some (.int .i64 (kk:Int)))
       (first|exact⟨K1.out,VB2.out _ ((Below.refl _ _).drew)⟩)
       (fail)
      go_wp2_with fail
      go_region_held3 (fun wq=>wq.cell? ⟨bF,0,none⟩=some (.pointer (some ⟨b,0,none⟩))∧wq.cell? ⟨b,13,none⟩=some (.int .i64 G.now)∧wq.cell? ⟨b,0+1,none⟩=some (.slice (some ⟨bc,oc,none⟩) cs.length cc)∧wq.cell? ⟨bc,oc+i*6+4,none⟩=some (.int .i64 (d:Int)))
       (first|exact K2.out)
       (fail)
      go_wp2_with fail
      obtain⟨wx,hwx⟩:∃wx:World,wb.drew.drew=wx:=⟨_,rfl⟩;have B3:Hid (Below wr.heap.size wr wx):=(by rw[←hwx];exact BB.out.drew.drew);rw[hwx];clear hwx hQ;obtain⟨f0,f1,f2,f3,f4,f5⟩:=(KS.out τ4 wr (FNx.refl _ _)).2;have OM3:Hid (OMap wx Tryz.prog 3 L4.mf n M):=omap_ch OM.out (Ch.of_below (S:=fun _=>False) B3.out) (fun q=>q);obtain⟨la,lc,eL⟩:=own_formN NM.out;have EL:=Lib.hid eL;clear eL;have KX:Hid (∀wq,Ch (fun k=>(tickV M due).ownBlock=some k) wx wq→(fun wq=>wq.cell? ⟨bF,0,none⟩=some (.pointer (some ⟨b,0,none⟩))∧wq.cell? ⟨b,15,none⟩=some (.map (some L4.mf))∧wq.cell? ⟨bN,0,none⟩=some (.int .i64 (u:Int))∧wq.cell? ⟨gF,k*6,none⟩=some (.int .i64 xi)∧wq.cell? ⟨gF,k*6+1,none⟩=some (.int .i64 xf)∧wq.cell? ⟨gF,k*6+2,none⟩=some (.int .i64 xt)∧wq.cell? ⟨gF,k*6+3,none⟩=some (.int .i64 xl)∧wq.cell? ⟨gF,k*6+4,none⟩=some (.int .i64 xe)∧wq.cell? ⟨gF,k*6+5,none⟩=some (.slice va xd.length vk)∧(Instr.lookup 90 (.map (some L4.mf)) (.int .i64 due) false).run Tryz.prog wq=.ok (.slice la Q.length lc) wq) wq):=fun wq hc'=>by
       have t:∀{p:Addr} {z:Value},wr.cell? p=some z→(τ4 p.block).1<2∨τ4 p.block=(2,0,0,0)→wq.cell? p=some z:=fun{p z} hz ht=>by
        have l:=World.block_lt_of_cell? _ _ hz;refine(hc'.cell (Nat.lt_of_lt_of_le l B3.out.size) fun q=>?_).trans ((B3.out.cell l).trans hz);have q1:=TG.out _ q;rcases ht with h|h
        ·rw[q1]at h;simp at h
        ·rw[h]at q1;simp at q1
       refine⟨t kF' (.inl (by rw[tF4];decide)),t c15 (.inr TB.out.1),t kN (.inl (by rw[tN4];decide)),t f0 (.inl TB.out.2.1),t f1 (.inl TB.out.2.1),t f2 (.inl TB.out.2.1),t f3 (.inl TB.out.2.1),t f4 (.inl TB.out.2.1),t f5 (.inl TB.out.2.1),?_⟩;have o:=omap_ch OM3.out hc' (fun q=>by have q1:=TG.out _ q;rw[MT.out]at q1;simp at q1);rw[←EL.out];exact o.look (int_keyed Tryz.underlying3) Tryz.underlying90 (zeroFlights _) (keyOf_int_mk Tryz.underlying3 (wf_small (due:Int) (by omega) (by omega)))
      have OW3:Hid (wx.ownsRow 0 122 7 (.slice la Q.length lc) Q.length (Q.flatMap cFl)):=(by rw[←EL.out];exact own_ch NM.out (Ch.of_below (S:=fun _=>False) B3.out) (fun _ _ q=>q));clear f0 f1 f2 f3 f4 f5 c15 kF' kN K1 K2 KW vb2 VB2 hwb m0 m1 m2;generalize chanF cs i u=ch at *;obtain⟨j0,hj0,hy0,hy1,hy2⟩:=info_parts infoFlight;have RN:Hid (Reads (wx.alloc (.cells #[.int .i64 (ch:Int),.int .i64 xi,.int .i64 xf,.int .i64 xt,.int .i64 xl,.int .i64 xe,.slice va xd.length vk] 122)).drew (wx.heap.size+1) 7 (some ⟨wx.heap.size,0,none⟩) 1 [.int .i64 (ch:Int),.int .i64 xi,.int .i64 xf,.int .i64 xt,.int .i64 xl,.int .i64 xe,.slice va xd.length vk]):=(reads_newN wx 122 [.int .i64 (ch:Int),.int .i64 xi,.int .i64 xf,.int .i64 xt,.int .i64 xl,.int .i64 xe,.slice va xd.length vk] (n:=1) (size:=7) rfl).drew;have OW:Hid ((wx.alloc (.cells #[.int .i64 (ch:Int),.int .i64 xi,.int .i64 xf,.int .i64 xt,.int .i64 xl,.int .i64 xe,.slice va xd.length vk] 122)).drew.ownsRow 0 122 7 (.slice la Q.length lc) Q.length (Q.flatMap cFl)):=OW3.out.alloc (.cells #[.int .i64 (ch:Int),.int .i64 xi,.int .i64 xf,.int .i64 xt,.int .i64 xl,.int .i64 xe,.slice va xd.length vk] 122);have ENT:=enters_of (P:=Tryz.prog) Tryz.func65 (by kernel_rfl) rfl;refine wp_region_L 22 (fun wq=>wq.cell? ⟨bF,0,none⟩=some (.pointer (some ⟨b,0,none⟩))∧wq.cell? ⟨b,15,none⟩=some (.map (some L4.mf))∧wq.cell? ⟨bN,0,none⟩=some (.int .i64 (u:Int))∧wq.cell? ⟨gF,k*6,none⟩=some (.int .i64 xi)∧wq.cell? ⟨gF,k*6+1,none⟩=some (.int .i64 xf)∧wq.cell? ⟨gF,k*6+2,none⟩=some (.int .i64 xt)∧wq.cell? ⟨gF,k*6+3,none⟩=some (.int .i64 xl)∧wq.cell? ⟨gF,k*6+4,none⟩=some (.int .i64 xe)∧wq.cell? ⟨gF,k*6+5,none⟩=some (.slice va xd.length vk)∧(Instr.lookup 90 (.map (some L4.mf)) (.int .i64 due) false).run Tryz.prog wq=.ok (.slice la Q.length lc) wq) (by kernel_rfl) (KX.out _ (Ch.refl _ _).drew) (fun hHeld=>?_);refine AnyL.tk 0 hHeld ?_
      try simp only[puts]
      refine AnyL.tk 1 hHeld ?_
      try simp only[puts]
      refine AnyL.tk 2 hHeld ?_
      try simp only[puts]
      refine AnyL.tk 3 hHeld ?_
      try simp only[puts]
      refine AnyL.tk 4 hHeld ?_
      try simp only[puts]
      refine AnyL.tk 5 hHeld ?_
      try simp only[puts]
      refine AnyL.tk 6 hHeld ?_
      try simp only[puts]
      refine AnyL.tk 7 hHeld ?_
      try simp only[puts]
      refine AnyL.tk 8 hHeld ?_
      try simp only[puts]
      refine AnyL.tk 9 hHeld ?_
      try simp only[puts]
      refine AnyL.tk 10 hHeld ?_
      try simp only[puts]
      refine AnyL.tk 11 hHeld ?_
      try simp only[puts]
      refine AnyL.tk 12 hHeld ?_
      try simp only[puts]
      refine AnyL.tk 13 hHeld ?_
      try simp only[puts]
      refine AnyL.tk 15 hHeld ?_
      try simp only[puts]
      refine AnyL.tk 16 hHeld ?_
      try simp only[puts]
      refine AnyL.tk 17 hHeld ?_
      try simp only[puts]
      refine AnyL.tk 18 hHeld ?_
      try simp only[puts]
      refine AnyL.one (i:=14) (by kernel_rfl) rfl (fun K hK=>?_);refine step_call3 (by rfl) ENT (by rfl) (by rfl) (by rfl) (by rfl) (CH.out _ B3.out.drew) ?_;rintro e ws ⟨rfl,rfl⟩;refine⟨_,rfl,?_⟩;refine hK.out _ _ (fun _=>KX.out _ (Ch.refl _ _).drew) (fun hHeld0=>?_);have hHeld:=hHeld0 (by decide);clear hK hHeld0
      try simp only[puts]
      refine AnyL.tk 19 hHeld ?_
      try simp only[puts]
      refine AnyL.one (i:=20) (by kernel_rfl) rfl (fun K hK=>?_);go_simp;refine hK.out _ _ (fun _=>KX.out _ ((Ch.refl _ _).alloc _).drew) (fun hHeld0=>?_);have hHeld:=hHeld0 (by decide);clear hK hHeld0
      try simp only[puts]
      refine AnyL.one (i:=21) (by kernel_rfl) rfl (fun K hK=>?_);refine step_append_any _ (by rfl) (.tmp 79) (.tmp 89) 120 (by rfl) 0 122 j0 _ 7 72 Tryz.underlying120 hj0 hy0 hy1 hy2 rfl (by decide) _ _ _ (by rfl) OW.out _ (some ⟨wx.heap.size,0,none⟩) 1 1 [.int .i64 (ch:Int),.int .i64 xi,.int .i64 xf,.int .i64 xt,.int .i64 xl,.int .i64 xe,.slice va xd.length vk] (by rfl) RN.out ?_ ?_ ?_ ?_ ?_
      ·intro u hu;simp only[List.mem_cons,List.not_mem_nil,or_false]at hu;rcases hu with rfl|rfl|rfl|rfl|rfl|rfl|rfl<;>rfl
      ·have:=LL.out;unfold maxLen;omega
      ·have:=LL.out;omega
      ·exact Nat.zero_le _
      intro v5 w5 own5 gr5 loc5;have gr5':(wx.alloc (.cells #[.int .i64 (ch:Int),.int .i64 xi,.int .i64 xf,.int .i64 xt,.int .i64 xl,.int .i64 xe,.slice va xd.length vk] 122)).grownBy w5 (tickV M due).ownBlock:=by rw[EL.out];exact⟨gr5.os,gr5.tape,gr5.output,gr5.size,gr5.block⟩
      have om5:OMap w5 Tryz.prog 3 L4.mf n M:=(OM3.out.alloc _).kept gr5' fun e=>(by have q1:=TG.out _ e.symm;rw[MT.out]at q1;simp at q1);obtain⟨w6,hrun,om6,g6⟩:=om5.store (t:=90) (int_keyed Tryz.underlying3) Tryz.underlying90 (by unfold maxLen;have:=HNM.out;omega) (keyOf_int_mk Tryz.underlying3 (wf_small (due:Int) (by omega) (by omega))) v5;have R:=Lib.hid (NX13.out w6 (PU.out wx w5 w6 _ (ch,⟨xi,xf,xt,xl,xe,xd⟩) (.slice va xd.length vk) v5 (by omega) DAT.out B3.out (by simpa[cFl,cFm]using own5) gr5' (by rw[EL.out];simpa using loc5) om6 g6));have k16:=KX.out w5 ((((Ch.refl _ wx).alloc _).grown gr5' fun g hg=>.inl hg));clear own5 gr5 gr5' loc5 om5 om6 g6;refine hK.out _ _ (fun _=>k16) (fun hHeld0=>?_);have hHeld:=hHeld0 (by decide);clear hK hHeld0
      try simp only[puts]
      clear k16;refine AnyL.one (i:=22) (by kernel_rfl) rfl (fun K hK=>?_);go_simp;refine hK.out _ _ (fun h=>absurd rfl h) (fun _=>?_);clear hK;refine AnyL.done (by kernel_rfl) ?_ _
      try simp only[puts]
      go_wp2_with fail
      exact⟨R.out,by simp[RowKit.intOf];omega⟩
    ·obtain rfl:ms.length=k:=by omega
     have R:Hid (RelA1 τ1 w1 b ns cs L f (.int .i64 ((u:Int)+1)) wr):=⟨u+1,by omega,by congr 1,by rw[NXT.out];exact FINA.out _ _ HP.out⟩
     go_wp2_with fail
     exact⟨R.out,by simp[RowKit.intOf];omega⟩
  ·obtain rfl:ns.length=u:=by omega
   go_wp2_with fail
   exact bodyPost_end (results_none rfl _ _ _) rfl ⟨rfl,FIN.out _ _ HP.out⟩
end Go.Proofs.YtnjjkgjdhljfnaaGreat
