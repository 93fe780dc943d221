/- Part 15 of the proof of fabricErrors.proved: FbT3 FbT4. Several texts in one, blanks struck, what is not used left out. -/
import Derived.Test.YtnjjkgjdhljfnaaGreatPk12
import Derived.Test.YtnjjkgjdhljfnaaGreatPk13
import Derived.Test.YtnjjkgjdhljfnaaGreatPk14
set_option maxRecDepth 100000
set_option maxHeartbeats 16000000
set_option linter.unusedVariables false
set_option linter.unusedSimpArgs false
namespace Go.Proofs.YtnjjkgjdhljfnaaGreat
open Go.RowKit Go.Maps
section
variable{τ:Own}{w:World}{b:Nat}{ns:List Nd}{cs:List Cb}{f:Fab}{L:FbL}
theorem FabM.flTake(h:FabM τ w b ns cs f L)(now:Nat)(hn:now≤900000000)(ty:TypeId):∃(v:Value) (Q:List Fw) (w':World),(∀wq,Ch (fun _=>False) w wq→(Instr.lookup 90 (.map (some L.mf)) (.int .i64 now) false).run Tryz.prog wq=.ok v wq)∧Q.map (·.1)=f.fl now∧(∀x∈Q,IsDat τ w x.1.2.data x.2)∧(∀g,v.ownBlock=some g→τ g=(2,4,now,0))∧(Builtin.delete_ #[90,3] ty #[.map (some L.mf),.int .i64 now]).run Tryz.prog w=.ok (.tuple #[]) w'∧Ch (· =L.mf) w w'∧w'.ownsRow 0 122 7 v Q.length (Q.flatMap cFl)∧∀w3,Ch (fun k=>v.ownBlock=some k) w' w3→FabM τ w3 b ns cs {f with fl:=fun t=>if t=now then[]else f.fl t} L:=by
 obtain⟨⟨n,M,m1,m2,m3,m4,m5⟩,mT⟩:=h.fl;have own0:FliM τ w (tickV M now) (f.fl now)∧∀g,(tickV M now).ownBlock=some g→τ g=(2,4,now,0):=by
  unfold tickV;cases hm:M (.int .i64 (now:Nat))with
  |none=>rw[m4 now hm];exact⟨⟨[],rfl,World.ownsRow_nil w 0 _ _,fun x hx=>by cases hx⟩,fun g e=>by simp[Value.ownBlock]at e⟩
  |some v=>exact m5 now v hm
 obtain⟨⟨Q,q1,i1,q3⟩,i2⟩:=own0;have look:=fun wq (hq:Ch (fun _=>False) w wq)=>(omap_ch m1 hq id).look (t:=90) (int_keyed Tryz.underlying3) Tryz.underlying90 (zeroFlights _) (keyOf_int_mk Tryz.underlying3 (wf_small (now:Int) (by omega) (by omega)));obtain⟨w',hrun,om,g3⟩:=m1.drop (int_keyed Tryz.underlying3) Tryz.underlying90 (keyOf_int_mk Tryz.underlying3 (wf_small (now:Int) (by omega) (by omega))) ty;have hc:Ch (fun k=>k=L.mf) w w':=(Ch.refl (fun k=>k=L.mf) w).grown g3 fun g hg=>.inl (Option.some.inj hg).symm;refine⟨tickV M now,Q,w',look,q1,q3,i2,hrun,hc,own_ch i1 hc fun g hg s=>?_,fun w3 h3=>?_⟩
 ·have:=i2 g hg;rw[s,mT]at this;simp at this
 ·have hc3:Ch (fun k=>k=L.mf∨(tickV M now).ownBlock=some k) w w3:=(hc.mono fun k _ q=>.inl q).trans h3 fun i _ s=>.inr s;have g:=h.toG (fun k=>k=3∨k=4) (τ':=τ) hc3 (fun _ _=>rfl) fun k s=>.inr (by
   rcases s with s|s
   ·rw[s,mT];exact⟨rfl,.inl rfl⟩
   ·rw[i2 k s];exact⟨rfl,.inr rfl⟩)
  refine⟨⟨g.root (by decide),g.rootT.1⟩,g.plan,g.rooms,g.cab,g.bxs,g.bx,g.up (by decide),g.r0,g.r1,⟨g.bk (by decide),g.bkT⟩,⟨?_,mT⟩,⟨g.lim (by decide) (by decide),g.limT⟩,g.came (by decide),g.gone (by decide),g.lost (by decide)⟩;have om3:OMap w3 Tryz.prog 3 L.mf n (delM M (.int .i64 now)):=omap_ch om h3 fun s=>by have:=i2 _ s;rw[mT]at this;simp at this
  refine TickM.del (M:=M) m2 m3 m4 om3 fun t v e hv=>?_;obtain⟨a1,a2⟩:=m5 t v hv;refine⟨a1.chE hc3 (fun _ _=>rfl) (fun k s=>?_) fun k hk s=>?_,fun k hk=>a2 k hk⟩
  ·rcases s with s|s
   ·rw[s,mT];decide
   ·rw[i2 k s];simp
  ·have q1:=a2 k hk;rcases s with s|s
   ·rw[s,mT]at q1;simp at q1
   ·rw[i2 k s]at q1;simp at q1;exact e q1.symm
end
def cDl(x:Dl×Value):List Value:=.int .i64 (x.1.1:Int)::.int .i64 (x.1.2.1:Int)::cFm (x.1.2.2,x.2)
def DelM(τ:Own)(base:Nat)(w:World)(v:Value)(D:List Dl):Prop:=
 ∃Q:List (Dl×Value),Q.map (·.1)=D∧w.ownsRow base 61 8 v Q.length (Q.flatMap cDl)∧(∀x∈Q,IsDat τ w x.1.2.2.data x.2)∧∀g,v.ownBlock=some g→(τ g).1=0
theorem DelM.chE{τ τ':Own}{S:Nat→Prop}{base:Nat}{w w':World}{v:Value}{D:List Dl}(h:DelM τ base w v D)(hc:Ch S w w')(he:∀k,k<w.heap.size→τ' k=τ k)(hS:∀k,S k→2≤(τ k).1):DelM τ' base w' v D:=by obtain⟨Q,h1,h2,h3,h4⟩:=h;exact⟨Q,h1,own_ch h2 hc fun g hg s=>by have:=hS g s;have:=h4 g hg;omega,fun x hx=>(h3 x hx).chE hc he fun k s=>by have:=hS k s;omega,fun g hg=>by rw[he g (h2.lt g hg).2];exact h4 g hg⟩
theorem DelM.fnx{τ τ':Own}{base:Nat}{w w':World}{v:Value}{D:List Dl}(h:DelM τ base w v D)(n:FNx τ w τ' w'):DelM τ' base w' v D:=h.chE n.ch n.ext fun k s=>s
theorem own_base{base base':Nat}{w:World}{e:TypeId}{m n:Nat}{v:Value}{xs:List Value}(h:w.ownsRow base e m v n xs)(hb:base'≤base):w.ownsRow base' e m v n xs:=by
 refine⟨h.1,?_⟩;rcases h.2 with q|⟨g,cap,cur,e1,h2,h3⟩
 ·exact .inl q
 ·exact .inr ⟨g,cap,cur,e1,by omega,h3⟩
theorem DelM.base{τ:Own}{base base':Nat}{w:World}{v:Value}{D:List Dl}(h:DelM τ base w v D)(hb:base'≤base):DelM τ base' w v D:=by obtain⟨Q,h1,h2,h3,h4⟩:=h;exact⟨Q,h1,own_base h2 hb,h3,h4⟩
theorem sort_chan{n:Nat}{D0 S:List Fw}(hl:∀x∈D0.map (·.1),x.1<n)(hs:SrtK kC S)(hb:Stb kC D0 S):S.map (·.1)=byChan n (D0.map (·.1)):=by
 refine byChan_of hl ?_ fun k=>?_
 ·unfold SrtK at hs⊢;rw[List.pairwise_map];exact hs
 ·have:=hb k;have e:∀l:List Fw,(l.map (·.1)).filter (fun x=>keyC x==k)=(l.filter (fun x=>kC x==k)).map (·.1):=fun l=>by rw[List.filter_map];rfl
  rw[e,e,this]
theorem chans_len{n:Nat}{l:List (Nat×Fm)}(hd:(l.map (·.1)).Nodup)(hl:∀x∈l,x.1<n):l.length≤n:=by
 have:=nodup_lenF (S:=List.range n) hd fun x hx=>by obtain⟨y,hy,rfl⟩:=List.mem_map.1 hx;exact List.mem_range.2 (hl y hy)
 simpa using this
end Go.Proofs.YtnjjkgjdhljfnaaGreat
namespace Go.Proofs.YtnjjkgjdhljfnaaGreat
open Go.RowKit Go.Maps
attribute [local go_sem ↓] Go.wp_at_zero Go.wp_at_succ
theorem infoDel:(Tryz.prog.info? 61).map (fun i=>(i.zero,i.size,i.bytes))=some (some (.agg #[.int .i64 0,.int .i64 0,.int .i64 0,.int .i64 0,.int .i64 0,.int .i64 0,.int .i64 0,.slice none 0 0]),8,80):=by kernel_rfl
def RelV(τ:Own)(w:World)(base b:Nat)(ns:List Nd)(cs:List Cb)(L:FbL)(f1:Fab)(l:List (Nat×Fm))(v i:Value)(wr:World):Prop:=
 ∃k:Nat,k≤l.length∧i=.int .i64 k∧∃τ' L',FabM τ' wr b ns cs (arrTo ns cs f1 l k).1 L'∧FN4 τ w τ' wr∧SmL L L'∧DelM τ' base wr v (arrTo ns cs f1 l k).2
def ArriveP(τ:Own)(w:World)(b:Nat)(ns:List Nd)(cs:List Cb)(r:Fab×List Dl)(e:Ending)(w':World):Prop:=
 ∃v,e=.returned v∧∃τ' L',FabM τ' w' b ns cs r.1 L'∧FNx τ w τ' w'∧DelM τ' w.heap.size w' v r.2
theorem farrive_any(f:Fab)(N:Nat)(b:Nat)(ns:List Nd)(cs:List Cb)(L:FbL)(τ:Own)(w:World)(h:FabM τ w b ns cs f L)(hp:PlF ns cs)(hok:FabOk ns cs f N)(hnd:((f.fl f.now).map (·.1)).Nodup)(hcs:cs.length≤10)(hN:N≤700000000):Calls Tryz.prog 55 #[pt b] w (ArriveP τ w b ns cs (f.arriveF ns cs)):=by
 have nw:=hok.now;have hlt:∀x∈f.fl f.now,x.1<2*cs.length:=fun x hx=>(hok.fl _ x hx).1;have hlen:(f.fl f.now).length≤20:=by have:=chans_len hnd hlt;omega
 obtain⟨v,Q,w2,look,q1,q3,i2,hdel,hcd,own2,m3⟩:=(h.drew.drew).flTake f.now (by omega) 0;have hlook:=look w.drew ⟨rfl,rfl,rfl,Nat.le_refl _,fun _ _ _=>rfl⟩;have c15:w.cell? ⟨b,15,none⟩=some (.map (some L.mf)):=h.r19;have c13:w.cell? ⟨b,13,none⟩=some (.int .i64 f.now):=h.r19;have lq:Q.length≤20:=by rw[←q1,List.length_map]at hlen;exact hlen
 have SRT:=Lib.hid (sortFlights w2 v Q lq (fun x hx=>by obtain⟨a,c,e,_⟩:=q3 x hx;exact⟨a,_,c,e⟩) own2);unfold cmpV at SRT;obtain⟨la,lc,eV⟩:=own_formN own2;obtain⟨f1,hf1⟩:∃f1:Fab,{f with fl:=fun t=>if t=f.now then[]else f.fl t}=f1:=⟨_,rfl⟩;rw[hf1]at m3;have AF:=arriveF_is ns cs f;rw[hf1]at AF;obtain⟨lb,hlb⟩:∃lb,byChan (2*cs.length) (f.fl f.now)=lb:=⟨_,rfl⟩;rw[hlb]at AF;have SRTD:Hid (∀S:List Fw,SrtK kC S→Stb kC Q S→S.map (·.1)=lb):=fun S h1 h2=>by rw[←hlb,←q1];exact sort_chan (by rw[q1];exact hlt) h1 h2
 have OK1:Hid (FabOk ns cs f1 N):=by rw[Hid,←hf1];exact hok.flDel f.now
 have E1:f1.rooms=f.rooms∧f1.bnow=f.bnow∧f1.now=f.now:=by rw[←hf1];exact⟨rfl,rfl,rfl⟩
 have LB:Hid (∀x∈lb,x.1<2*cs.length∧FmOk ns f1 x.2):=fun x hx=>by rw[←hlb]at hx;have hx:=(byChan_mem hx).1;exact⟨hlt x hx,(hok.fl _ x hx).2.to_ E1.1 (by rw[E1.2.1];exact Nat.le_refl _)⟩
 have FXB:Hid (∀x∈lb,x.1<2*cs.length∧FmOk ns f1 x.2):=LB;have NX2:Hid (FNx τ w τ w2):=⟨((Ch.refl _ w).drew.drew).trans hcd fun i hi s=>by have s:i=L.mf:=s;rw[s,h.fl.2];exact Nat.le_refl 2,fun _ _=>rfl⟩;have M3:=Lib.hid m3;have I2:=Lib.hid i2;have QD:=Lib.hid q3;have PL:=Lib.hid hp;have HN:=Lib.hid hN;have E1H:=Lib.hid E1;have DQ:Hid (∀x∈Q,IsDat τ w2 x.1.2.data x.2):=fun x hx=>(q3 x hx).chE hcd (fun _ _=>rfl) fun k s=>by have s:k=L.mf:=s;rw[s,h.fl.2];decide
 obtain⟨base0,hbase⟩:∃base,w.heap.size=base:=⟨_,rfl⟩;have BS:Hid (w.heap.size=base0∧base0≤w2.heap.size):=⟨hbase,by rw[←hbase];exact NX2.out.ch.size⟩;have HLB:Hid (lb.length=Q.length):=by
  rw[Hid,←hlb];have e1:Stb keyC (f.fl f.now) (byChan (2*cs.length) (f.fl f.now)):=fun k=>by rw[byChan_filter];exact List.filter_congr fun x hx=>by simp[hlt x hx]
  rw[e1.length,←q1,List.length_map]
 rw[AF];subst eV;generalize hPST:ArriveP τ w b ns cs (arrTo ns cs f1 lb lb.length)=PST;have HPST:=Lib.hid hPST;clear h hp hok hnd hN hcd own2 q3 i2 q1 m3 hf1 hlb AF E1 hlt hlen look hbase hPST nw;unfold pt at *
 go_enter Tryz.func55,Tryz.ntmps55
 go_wp2_with fail
 go_region
 go_wp2_with fail
 go_region
 go_wp2_with (first|(go_at_call 95;((with_reducible refine SRT.out.mono ?_);rintro e w3 ⟨rfl,S,hS1,hS2,own3,hc3⟩;have HS1:=Lib.hid hS1;have HS2:=Lib.hid hS2;have OWN:=Lib.hid own3;have HC3:=Lib.hid hc3;clear hS1 hS2 own3 hc3)))
 have m4:FabM τ w3 b ns cs f1 L:=M3.out w3 HC3.out;have IS:=SRTD.out S HS1.out HS2.out;have lS:S.length=Q.length:=HS2.out.length;have NX3:Hid (FNx τ w τ w3):=NX2.out.trans ⟨HC3.out.mono fun k _ s=>by rw[I2.out k s];exact Nat.le_refl 2,fun _ _=>rfl⟩;have DS:Hid (∀x∈S,IsDat τ w3 x.1.2.data x.2):=fun x hx=>(DQ.out x (HS2.out.mem.1 hx)).chE HC3.out (fun _ _=>rfl) fun k s=>by rw[I2.out k s];simp
 have KROW:Hid (∀τ' wq,FN4 τ w3 τ' wq→∀k,k<Q.length→∃g,la=some ⟨g,0,none⟩∧g<w3.heap.size∧∀j,j<7→wq.cell? ⟨g,k*7+j,none⟩=(cFl (S.getD k fw0))[j]?):=fun τ' wq n k hk=>by obtain⟨g,cap,e1,_,hl,ho,hc⟩:=own_cellG (d:=fw0) cFl_length OWN.out lS hk;injection e1 with e1;refine⟨g,e1,hl,fun j hj=>?_⟩;rw[n.ch.cell (p:=⟨g,k*7+j,none⟩) hl fun s=>s.2 (by rw[I2.out g ho];simp)];exact hc k hk j hj
 have BB:Hid (base0≤w3.heap.size):=Nat.le_trans BS.out.2 HC3.out.size;obtain⟨base,hb3⟩:∃base,w3.heap.size=base:=⟨_,rfl⟩;have HB3:=Lib.hid hb3;have ST:Hid (RelV τ w3 base b ns cs L f1 lb (.slice none 0 0) (.int .i64 0) w3):=⟨0,Nat.zero_le _,rfl,τ,L,m4,FN4.refl _ _,SmL.refl _,[],rfl,World.ownsRow_nil w3 base _ _,(fun x hx=>by cases hx),(fun g hg=>by simp[Value.ownBlock]at hg)⟩;have LEN:=Lib.hid lS;have ISH:=Lib.hid IS;have LX:Hid (∀k,k<Q.length→lb.getD k (0,default)=(S.getD k fw0).1):=fun k hk=>by
  have h1:k<S.length:=by rw[LEN.out];exact hk
  rw[←ISH.out];simp[List.getD,h1]
 have ARB:Hid (∀k,k≤lb.length→FabOk ns cs (arrTo ns cs f1 lb k).1 (N+40)∧(arrTo ns cs f1 lb k).1.rooms=f1.rooms∧(arrTo ns cs f1 lb k).1.bnow=f1.bnow∧(arrTo ns cs f1 lb k).1.now=f1.now):=fun k hk=>by
  have r:=FabOk.arrs PL.out (lb.take k) (s:=(f1,[])) OK1.out fun x hx=>LB.out x (List.mem_of_mem_take hx);have l20:lb.length≤20:=by rw[HLB.out];exact lq
  exact⟨r.1.mono (by rw[List.length_take];omega),r.2⟩
 have FINP:Hid (∀v' τ' L' wq,FabM τ' wq b ns cs (arrTo ns cs f1 lb lb.length).1 L'→FN4 τ w3 τ' wq→DelM τ' base wq v' (arrTo ns cs f1 lb lb.length).2→PST (.returned v') wq):=fun v' τ' L' wq h1 h2 h3=>by rw[←HPST.out];exact⟨v',rfl,τ',L',h1,NX3.out.trans h2.x,by rw[BS.out.1];exact h3.base (by rw[←HB3.out];exact BB.out)⟩
 clear hb3 m4 IS lS NX3 NX2 HC3 OWN HS1 HS2 SRTD M3 DQ QD HPST I2 hdel hlook c15 c13 BS SRT LB OK1
 go_loopw [3,6,7,8,9,10,32] (fun v _ _ _ _ _ i wr=>RelV τ w3 base b ns cs L f1 lb v i wr) (fun _ _ _ _ _ _ i _=>lb.length-(RowKit.intOf i).toNat)
 case atStart=>exact ST.out
 case round=>
  clear ST;obtain⟨k,hk,rfl,τ4,L4,m4,n4,s4,d4⟩:=hrel;have M4:=Lib.hid m4;have N4:=Lib.hid n4;have S4:=Lib.hid s4;have D4:=Lib.hid d4;by_cases hkn:k<lb.length
  ·have hkq:k<Q.length:=by rw[←HLB.out];exact hkn
   have OG:=Lib.hid (ARB.out k (by omega));have NX:=Lib.hid (arrTo_succ ns cs f1 lb hkn);obtain⟨g,eg,lg,cg⟩:=KROW.out τ4 wr n4 k hkq;have ex:=LX.out k hkq;have hm:S.getD k fw0∈S:=(by have:k<S.length:=(by rw[LEN.out];exact hkq);simp[List.getD,this]);have DX:=DS.out _ hm;have LBX:=ISH.out;rw[ex]at NX;have hmem:(S.getD k fw0).1∈lb:=(by rw[←LBX];exact List.mem_map.2 ⟨_,hm,rfl⟩);have FX:=FXB.out _ hmem;generalize S.getD k fw0=x at *;obtain⟨⟨c,xi,xf,xt,xl,xe,xd⟩,xv⟩:=x;have DAT:=Lib.hid DX;obtain⟨va,vk,eV,_⟩:=DX;have eV:xv=.slice va xd.length vk:=eV;subst eV;have m0:=cg 0 (by omega);have m1:=cg 1 (by omega);have m2:=cg 2 (by omega);have m3:=cg 3 (by omega);have m4':=cg 4 (by omega);have m5:=cg 5 (by omega);have m6:=cg 6 (by omega);simp only[cFl,cFm,Nat.add_zero,List.getElem?_cons_zero,List.getElem?_cons_succ]at m0 m1 m2 m3 m4' m5 m6;simp only at NX FX;have hc:=FX.1;have FM:=FX.2;obtain⟨⟨G,D⟩,hG⟩:∃GD,arrTo ns cs f1 lb k=GD:=⟨_,rfl⟩;have HGD:Hid ((lb.take k).foldl (Fab.arrive1 ns cs) (f1,[])=(G,D)):=hG;rw[hG]at NX OG M4 D4;simp only at OG M4 D4;have NXG:Hid (∀X,Fab.arrive1 ns cs (G,D) (c,⟨xi,xf,xt,xl,xe,xd⟩)=X→∀τ' L' wq v,FabM τ' wq b ns cs X.1 L'→FN4 τ4 wr τ' wq→SmL L4 L'→DelM τ' base wq v X.2→RelV τ w3 base b ns cs L f1 lb v (.int .i64 ((k:Int)+1)) wq):=fun X e τ' L' wq v h1 h2 h3 h4=>
    ⟨k+1,by omega,by congr 1,τ',L',by rw[NX.out,e];exact h1,N4.out.trans h2,S4.out.trans h3,by rw[NX.out,e];exact h4⟩
   have kq0:(0:Int)≤(k:Int):=(by omega);have kq1:(k:Int)<(Q.length:Int):=(by omega);obtain⟨wb,hwb⟩:∃wb:World,wr.alloc (.cells #[.int .i64 (c:Int),.int .i64 xi,.int .i64 xf,.int .i64 xt,.int .i64 xl,.int .i64 xe,.slice va xd.length vk] 122)=wb:=⟨_,rfl⟩;have BB':Hid (Below wr.heap.size wr wb):=(by rw[←hwb];exact(Below.refl _ _).alloc (Nat.le_refl _) _);have VB:Hid (Blk wb wr.heap.size 122 #[.int .i64 (c:Int),.int .i64 xi,.int .i64 xf,.int .i64 xt,.int .i64 xl,.int .i64 xe,.slice va xd.length vk]):=(by rw[←hwb];exact Blk.new wr _ _);have LX1:Hid (wb.heap.size=wr.heap.size+1):=(by rw[←hwb,Hid];simp);obtain⟨An,Ac,cn,cc,S0⟩:=M4.out.toS;have EC:Hid (∀w',Below wr.heap.size wr w'→Calls Tryz.prog 53 #[.pointer (some ⟨b,0,none⟩),.int .i64 c] w' (EndsPost cs c w')):=fun w' hb=>fends_any c b ns cs An Ac cn cc w' (S0.below hb) PL.out hc;have EN:=PL.out.ends hc;have PT:Hid (∀X:Bx,X.ports=portsOfN (ns.getD (endsF cs c).2.2.1 nd0)→(endsF cs c).2.2.2<X.ports):=fun X hX=>(by rw[hX];exact PL.out.portLt EN.2.1 EN.2.2.2.1);have eul:=EN.2.1;obtain⟨⟨ea,eb,u,p⟩,hE⟩:∃e,endsF cs c=e:=⟨_,rfl⟩;unfold EndsPost at EC;rw[hE]at PT EC eul;simp only at PT EC eul;have HE:=Lib.hid hE;obtain⟨bX,hbX⟩:∃bX,wr.heap.size=bX:=⟨_,rfl⟩;rw[hbX]at VB;have vb0:wb.cell? ⟨bX,0,none⟩=some (.int .i64 (c:Int)):=VB.out.cell 0;have n16:=PL.out.n16;obtain⟨bn,on,hbn,_,_,_,e7,_⟩:=node_at S0.plan.1 u (by simpa using eul);have c0w:=S0.c0;rw[hbn]at c0w;simp only at e7;obtain⟨gb,cb,eB,c5,cbx,tgb,lgb⟩:=M4.out.boxc eul;unfold pt at cbx;have u0:(0:Int)≤(u:Int):=(by omega);have u1:(u:Int)<(ns.length:Int):=(by omega);have K5:Hid (∀w',Below wr.heap.size wr w'→w'.cell? ⟨b,0,none⟩=some (.slice (some ⟨bn,on,none⟩) ns.length cn)∧w'.cell? ⟨bn,on+u*3+1,none⟩=some (.bool (ns.getD u nd0).sw)∧w'.cell? ⟨b,5,none⟩=some (.slice (some ⟨gb,0,none⟩) ns.length cb)∧w'.cell? ⟨gb,u,none⟩=some (.pointer (some ⟨L4.bx u,0,none⟩))):=fun w' hb=>(by have t:∀{p:Addr} {z:Value},wr.cell? p=some z→w'.cell? p=some z:=fun{p z} hz=>(hb.cell (World.block_lt_of_cell? _ _ hz)).trans hz;exact⟨t c0w,t e7,t c5,t cbx⟩);have VX:Hid (∀w',Below wb.heap.size wb w'→w'.cell? ⟨bX,0,none⟩=some (.int .i64 (c:Int))∧w'.cell? ⟨bX,1,none⟩=some (.int .i64 xi)∧w'.cell? ⟨bX,2,none⟩=some (.int .i64 xf)∧w'.cell? ⟨bX,3,none⟩=some (.int .i64 xt)∧w'.cell? ⟨bX,4,none⟩=some (.int .i64 xl)∧w'.cell? ⟨bX,5,none⟩=some (.int .i64 xe)∧w'.cell? ⟨bX,6,none⟩=some (.slice va xd.length vk)):=fun w' hb=>(by have k:=VB.out.below hb VB.out.lt;exact⟨k.cell 0,k.cell 1,k.cell 2,k.cell 3,k.cell 4,k.cell 5,k.cell 6⟩);subst eg;have NX':=Lib.hid NX.out;clear hE hG EN hbn m4 n4 s4 d4 lg cg ex hm LBX hmem FX S0 c0w e7 c5 cbx eB KROW NX;have NXB:Hid (∀w',Below wr.heap.size wr w'→FN4 τ4 wr (fr τ4 wr.heap.size) w'.drew):=fun w' hb=>(FN4.of_below hb).drew;have BXT:Hid (∀q,(fr τ4 wr.heap.size bX).1=q→q=0):=fun q e=>(by rw[←hbX,fr_new (Nat.le_refl _)]at e;exact e.symm);have TGB:Hid (τ4 b=(2,0,0,0)∧(τ4 gb).1=1∧b<wr.heap.size∧gb<wr.heap.size):=⟨M4.out.root.2,tgb,M4.out.root.1.lt,lgb⟩;have DAT5:Hid (∀w',Below wr.heap.size wr w'→IsDat (fr τ4 wr.heap.size) w'.drew xd (.slice va xd.length vk)):=fun w' hb=>by have n:=(N4.out.x.trans (FNx.of_below hb)).drew;exact DAT.out.chE n.ch n.ext fun k s=>by omega
   obtain⟨τ5,hτ5⟩:∃τ5,fr τ4 wr.heap.size=τ5:=⟨_,rfl⟩;have T5:Hid (∀i,i<wr.heap.size→τ5 i=τ4 i):=fun i hi=>(by rw[←hτ5];exact fr_old hi);have M5:Hid (∀w',Below wr.heap.size wr w'→FabM τ5 w'.drew b ns cs G L4):=fun w' hb=>(by rw[←hτ5];exact(M4.out.below hb).drew);rw[hτ5]at NXB BXT DAT5;cases hsw:(ns.getD u nd0).sw with
   |true=>
    simp only[hsw]at K5
    go_wp2_with (first|(go_at_call 53;((with_reducible refine(EC.out _ BB'.out).mono ?_);rintro e w5 ⟨rfl,hb⟩;have BE:=Lib.hid hb;have B5:Hid (Below wr.heap.size wr w5):=BB'.out.trans (hb.mono BB'.out.size);obtain⟨k1,k2,k3,k4⟩:=K5.out w5 B5.out;obtain⟨x0,x1,x2,x3,x4,x5,x6⟩:=VX.out w5 hb;clear hb)))
    have mb:=M5.out w5 B5.out;have MB:=Lib.hid mb;have BXO:=OG.out.1.box u eul;have hpb:=PT.out _ BXO.2.1;have ba:=barrive_any p (N+40) ⟨xi,xf,xt,xl,xe,xd⟩ (.slice va xd.length vk) τ5 (3+u) w5.drew (L4.bx u) (G.boxes.getD u default) (L4.bxl u) (mb.bx u eul) (by omega) BXO.1 (by have:=HN.out;omega) hpb FM.c0 (by rw[BXO.2.2,OG.out.2.1];exact FM.c1) (DAT5.out _ B5.out);have OK7:=OG.out.1.arrive eul (p:=p) (by have:=BXO.2.1;rw[←this];exact hpb) (FM.to_ OG.out.2.1 (by rw[OG.out.2.2.1];exact Nat.le_refl _));have EA:Fab.arrive1 ns cs (G,D) (c,⟨xi,xf,xt,xl,xe,xd⟩)=(if((G.boxes.getD u default).arrive p ⟨xi,xf,xt,xl,xe,xd⟩).2 then({G with boxes:=G.boxes.set u ((G.boxes.getD u default).arrive p ⟨xi,xf,xt,xl,xe,xd⟩).1}:Fab)else Fab.lose {G with boxes:=G.boxes.set u ((G.boxes.getD u default).arrive p ⟨xi,xf,xt,xl,xe,xd⟩).1} ⟨xi,xf,xt,xl,xe,xd⟩,D):=(by unfold Fab.arrive1;simp only[HE.out];unfold isSw;rw[hsw];simp only[if_true]);obtain⟨⟨r1,r2⟩,hr⟩:∃r,(G.boxes.getD u default).arrive p ⟨xi,xf,xt,xl,xe,xd⟩=r:=⟨_,rfl⟩;rw[hr]at ba OK7 EA;simp only at OK7 EA;have bl:=OG.out.1.bl;have RES:Hid (∀τ7 L7 w7,BxM τ7 (3+u) w7 (L4.bx u) r1 L7→Nx τ5 (3+u) w5.drew τ7 w7→∃L',FabM τ7 w7 b ns cs {G with boxes:=G.boxes.set u r1} L'∧FN4 τ4 wr τ7 w7∧SmL L4 L'):=fun τ7 L7 w7 h1 h2=>
     ⟨_,MB.out.box eul bl h2 h1,(NXB.out _ B5.out).trans (FN4.of_nx h2 (by omega)),⟨rfl⟩⟩
    have K7:Hid (∀τ7 w7,Nx τ5 (3+u) w5.drew τ7 w7→(fun wq=>wq.cell? ⟨b,5,none⟩=some (.slice (some ⟨gb,0,none⟩) ns.length cb)∧wq.cell? ⟨gb,u,none⟩=some (.pointer (some ⟨L4.bx u,0,none⟩))∧wq.cell? ⟨bX,1,none⟩=some (.int .i64 xi)∧wq.cell? ⟨bX,2,none⟩=some (.int .i64 xf)∧wq.cell? ⟨bX,3,none⟩=some (.int .i64 xt)∧wq.cell? ⟨bX,4,none⟩=some (.int .i64 xl)∧wq.cell? ⟨bX,5,none⟩=some (.int .i64 xe)∧wq.cell? ⟨bX,6,none⟩=some (.slice va xd.length vk)) w7):=fun τ7 w7 n=>(by have t:∀{q:Addr} {z:Value},w5.cell? q=some z→(τ5 q.block).1≠3+u→w7.cell? q=some z:=fun{q z} hz ht=>(n.ch.cell (World.block_lt_of_cell? w5 _ hz) ht).trans hz;have tb:(τ5 b).1≠3+u:=(by rw[T5.out _ TGB.out.2.2.1,TGB.out.1];show 2≠3+u;omega);have tg:(τ5 gb).1≠3+u:=(by rw[T5.out _ TGB.out.2.2.2,TGB.out.2.1];omega);have tx:(τ5 bX).1≠3+u:=(by rw[BXT.out _ rfl];omega);exact⟨t k3 tb,t k4 tg,t x1 tx,t x2 tx,t x3 tx,t x4 tx,t x5 tx,t x6 tx⟩);have OKH:=Lib.hid OK7;have FMH:=Lib.hid FM;clear hr mb BXO hpb bl hsw FM OK7 m0 m1 m2 m3 m4' m5 m6 k1 k2;cases r2 with
    |true=>
     simp only[if_true]at EA;have BA:Hid (Calls Tryz.prog 50 #[.pointer (some ⟨L4.bx u,0,none⟩),.int .i64 p,.agg #[.int .i64 xi,.int .i64 xf,.int .i64 xt,.int .i64 xl,.int .i64 xe,.slice va xd.length vk]] w5.drew fun e w7=>e=.returned (.int .i64 0)∧BxPost τ5 (3+u) w5.drew (L4.bx u) r1 (L4.bxl u) w7):=ba.mono fun e w' h=>⟨h.1,h.2⟩;have EAH:=Lib.hid EA;clear ba EA
     go_region_held3 (fun wq=>wq.cell? ⟨b,5,none⟩=some (.slice (some ⟨gb,0,none⟩) ns.length cb)∧wq.cell? ⟨gb,u,none⟩=some (.pointer (some ⟨L4.bx u,0,none⟩))∧wq.cell? ⟨bX,1,none⟩=some (.int .i64 xi)∧wq.cell? ⟨bX,2,none⟩=some (.int .i64 xf)∧wq.cell? ⟨bX,3,none⟩=some (.int .i64 xt)∧wq.cell? ⟨bX,4,none⟩=some (.int .i64 xl)∧wq.cell? ⟨bX,5,none⟩=some (.int .i64 xe)∧wq.cell? ⟨bX,6,none⟩=some (.slice va xd.length vk))
      (first|exact⟨k3,k4,x1,x2,x3,x4,x5,x6⟩|exact K7.out _ _ NX7.out)
      (first|(go_at_call 50;((with_reducible refine BA.out.mono ?_);rintro e w7 ⟨rfl,τ7,L7,hb7,hn7⟩;have HB7:=Lib.hid hb7;have NX7:=Lib.hid hn7;clear hb7 hn7)))
     obtain⟨L',e1,e2,e3⟩:=RES.out _ _ _ HB7.out NX7.out;have R:=Lib.hid (NXG.out _ EAH.out _ _ _ _ e1 e2 e3 (D4.out.fnx e2.x));clear e1 e2 e3 K7 RES BA HB7 NX7
     go_wp2_with fail
     exact⟨R.out,by simp[RowKit.intOf];omega⟩
    |false=>
     simp only[Bool.false_eq_true,if_false]at EA;have BA:Hid (Calls Tryz.prog 50 #[.pointer (some ⟨L4.bx u,0,none⟩),.int .i64 p,.agg #[.int .i64 xi,.int .i64 xf,.int .i64 xt,.int .i64 xl,.int .i64 xe,.slice va xd.length vk]] w5.drew fun e w7=>e=.returned (.int .i64 5)∧BxPost τ5 (3+u) w5.drew (L4.bx u) r1 (L4.bxl u) w7):=ba.mono fun e w' h=>⟨h.1,h.2⟩;have EAH:=Lib.hid EA;clear ba EA
     go_region_held3 (fun wq=>wq.cell? ⟨b,5,none⟩=some (.slice (some ⟨gb,0,none⟩) ns.length cb)∧wq.cell? ⟨gb,u,none⟩=some (.pointer (some ⟨L4.bx u,0,none⟩))∧wq.cell? ⟨bX,1,none⟩=some (.int .i64 xi)∧wq.cell? ⟨bX,2,none⟩=some (.int .i64 xf)∧wq.cell? ⟨bX,3,none⟩=some (.int .i64 xt)∧wq.cell? ⟨bX,4,none⟩=some (.int .i64 xl)∧wq.cell? ⟨bX,5,none⟩=some (.int .i64 xe)∧wq.cell? ⟨bX,6,none⟩=some (.slice va xd.length vk))
      (first|exact⟨k3,k4,x1,x2,x3,x4,x5,x6⟩|exact K7.out _ _ NX7.out)
      (first|(go_at_call 50;((with_reducible refine BA.out.mono ?_);rintro e w7 ⟨rfl,τ7,L7,hb7,hn7⟩;have HB7:=Lib.hid hb7;have NX7:=Lib.hid hn7;clear hb7 hn7)))
     obtain⟨L',e1,e2,e3⟩:=RES.out _ _ _ HB7.out NX7.out;obtain⟨_,_,y1,y2,y3,y4,y5,y6⟩:=K7.out _ _ NX7.out;have LS:=Lib.hid (flose4_any {G with boxes:=G.boxes.set u r1} ⟨xi,xf,xt,xl,xe,xd⟩ (.slice va xd.length vk) b ns cs L' τ7 w7 e1 (OKH.out.sane (by have:=HN.out;omega)) FMH.out.e0 (by have h1:xe≤f1.bnow:=FMH.out.e1;have h2:=OG.out.2.2.1;show xe≤G.bnow;omega) ⟨_,_,_,rfl⟩);have E2:=Lib.hid e2;have E3:=Lib.hid e3;unfold fmV pt at LS;clear e1 e2 e3 K7 RES BA HB7
     go_wp2_with (first|(go_at_call 58;((with_reducible refine LS.out.mono ?_);rintro e w8 ⟨rfl,τ8,L8,hm8,hn8,hs8⟩;have R:=Lib.hid (NXG.out _ EAH.out _ _ _ _ hm8 (E2.out.trans hn8) (E3.out.trans hs8) ((D4.out.fnx E2.out.x).fnx hn8.x));clear hm8 hn8 hs8)))
     exact⟨R.out,by simp[RowKit.intOf];omega⟩
   |false=>
    simp only[hsw]at K5
    go_wp2_with (first|(go_at_call 53;((with_reducible refine(EC.out _ BB'.out).mono ?_);rintro e w5 ⟨rfl,hb⟩;have BE:=Lib.hid hb;have B5:Hid (Below wr.heap.size wr w5):=BB'.out.trans (hb.mono BB'.out.size);obtain⟨k1,k2,k3,k4⟩:=K5.out w5 B5.out;obtain⟨x0,x1,x2,x3,x4,x5,x6⟩:=VX.out w5 hb;clear hb)))
    have mb:=M5.out w5 B5.out;obtain⟨cl,hcl⟩:∃cl:Nat,xl=(cl:Int):=⟨xl.toNat,by have h0:0≤xl:=FM.c0;omega⟩;subst hcl;have hcr:cl<G.rooms.length:=(by have h0:(cl:Int).toNat<f1.rooms.length:=FM.c1;rw[OG.out.2.1];omega);have gdim:(G.came.getD u []).length=G.rooms.length:=OG.out.1.cm.row u eul;obtain⟨gc,cc2,eC,kC,_,lC,tC⟩:=mb.came.1.at_ (i:=u) (by simpa using eul);obtain⟨gd,cd,eD,kD,fD,lD,tD⟩:=(mb.came.2 u eul).at_ (i:=cl) (by rw[List.length_map];omega);rw[gdim]at eD;have kC':w5.drew.cell? ⟨gc,u,none⟩=some (.slice (some ⟨gd,0,none⟩) G.rooms.length cd):=(by rw[kC,List.getElem?_map,List.getElem?_range eul,←eD];rfl);have kD':w5.drew.cell? ⟨gd,cl,none⟩=some (.int .i64 (get2 G.came u cl)):=(by rw[kD];exact get2_cell G.came u cl (by omega));have kV:w5.drew.cell? ⟨b,17,none⟩=some (.slice (some ⟨gc,0,none⟩) ns.length cc2):=(by rw[←eC];exact mb.r19);have cvb:=OG.out.1.cv u cl eul hcr;have OK6:=OG.out.1.came eul hcr;have CSET:=mb.cameSet (i:=u) (j:=cl) (g:=gd) (c:=cd) eul OG.out.1.cm.len (by rw[gdim];exact hcr) gdim eD (get2 G.came u cl+1);unfold is2 at tD;have EA:Fab.arrive1 ns cs (G,D) (c,⟨xi,xf,xt,(cl:Int),xe,xd⟩)=(Fab.rem {G with came:=set2 G.came u cl (get2 G.came u cl+1)} xe,D++[(G.now,u,⟨xi,xf,xt,(cl:Int),xe,xd⟩)]):=(by unfold Fab.arrive1;simp only[HE.out];unfold isSw;rw[hsw];simp only[Bool.false_eq_true,if_false,Int.toNat_natCast]);have EAH:=Lib.hid EA;obtain⟨G6,hG6⟩:∃G6:Fab,{G with came:=set2 G.came u cl (get2 G.came u cl+1)}=G6:=⟨_,rfl⟩;have E6:G6.bnow=G.bnow∧G6.now=G.now:=(by rw[←hG6];exact⟨rfl,rfl⟩);rw[hG6]at CSET OK6 EAH;obtain⟨Q4,hq4,own4,dat4,tg4⟩:=D4.out;obtain⟨a3,c3,e3⟩:=own_formN own4;subst e3;have OW4:=Lib.hid own4;have DT4:=Lib.hid dat4;have TG4:=Lib.hid tg4;have HQ4:=Lib.hid hq4;obtain⟨cv,hcv⟩:∃cv,get2 G.came u cl=cv:=⟨_,rfl⟩;rw[hcv]at kD' cvb CSET;obtain⟨w6,hw6⟩:∃w6:World,w5.drew.setCell ⟨gd,cl,none⟩ (.int .i64 (cv+1))=w6:=⟨_,rfl⟩;have C6:Hid (Ch (· =gd) w5.drew w6):=(by rw[←hw6];exact(Ch.refl (fun i=>i=gd) w5.drew).setCell (p:=⟨gd,cl,none⟩) (.inl rfl) _);rw[hw6]at CSET;obtain⟨τ6,m6',n6⟩:=CSET;have M6:=Lib.hid m6';have N6:Hid (FN4 τ5 w5.drew τ6 w6):=⟨C6.out.mono fun i _ e=>by have e:i=gd:=e;unfold NoFl;rw[e,tD];simp,n6.ext⟩;have SN6:=Lib.hid (OK6.sane (by have:=HN.out;omega));have RMV:=Lib.hid (fremove_any G6 xe L4.bk w6.drew m6'.drew.bk.1 SN6.out FM.e0 (by have h1:xe≤f1.bnow:=FM.e1;have h2:=OG.out.2.2.1;have:=E6.1;omega));have GDX:Hid (¬b=gd∧¬bX=gd):=by
     refine⟨fun e=>?_,fun e=>?_⟩
     ·have h1:=T5.out _ TGB.out.2.2.1;rw[TGB.out.1,e,tD]at h1;simp at h1
     ·have h1:=BXT.out _ rfl;rw[e,tD]at h1;simp at h1
    have VX6:Hid (w6.drew.cell? ⟨bX,1,none⟩=some (.int .i64 xi)∧w6.drew.cell? ⟨bX,2,none⟩=some (.int .i64 xf)∧w6.drew.cell? ⟨bX,3,none⟩=some (.int .i64 xt)∧w6.drew.cell? ⟨bX,4,none⟩=some (.int .i64 (cl:Int))∧w6.drew.cell? ⟨bX,5,none⟩=some (.int .i64 xe)∧w6.drew.cell? ⟨bX,6,none⟩=some (.slice va xd.length vk)):=(by have t:∀{q:Nat} {z:Value},w5.cell? ⟨bX,q,none⟩=some z→w6.drew.cell? ⟨bX,q,none⟩=some z:=fun{q z} hz=>(C6.out.cell (p:=⟨bX,q,none⟩) (World.block_lt_of_cell? w5 _ hz) GDX.out.2).trans hz;exact⟨t x1,t x2,t x3,t x4,t x5,t x6⟩);have l6:w6.cell? ⟨b,11,none⟩=some (.pointer (some ⟨L4.bk,0,none⟩)):=m6'.r19;have bkT:Hid (τ6 L4.bk=(2,2,0,0)∧τ6 b=(2,0,0,0)∧(τ6 bX).1=0):=(by refine⟨m6'.bk.2,m6'.root.2,?_⟩;rw[n6.ext bX (World.block_lt_of_cell? w5 _ x1)];exact BXT.out _ rfl);have VX7:Hid (∀w7,Ch (· =L4.bk) w6.drew w7→Blk w7 bX 122 #[.int .i64 (c:Int),.int .i64 xi,.int .i64 xf,.int .i64 xt,.int .i64 (cl:Int),.int .i64 xe,.slice va xd.length vk]):=fun w7 h7=>by have h1:Blk w5.drew bX 122 _:=VB.out.below BE.out.drew VB.out.lt;have h2:Blk w6.drew bX 122 _:=Blk.ch (S:=fun i=>i=gd) (w':=w6) h1 C6.out GDX.out.2;exact Blk.ch (S:=fun i=>i=L4.bk) h2 h7 fun e=>by have h1:=bkT.out.2.2;rw[e,bkT.out.1]at h1;simp at h1
    have K13:Hid (∀w7,Ch (· =L4.bk) w6.drew w7→(w7.cell? ⟨b,11,none⟩=some (.pointer (some ⟨L4.bk,0,none⟩))∧w7.cell? ⟨bX,5,none⟩=some (.int .i64 xe))∧(w7.cell? ⟨bX,1,none⟩=some (.int .i64 xi)∧w7.cell? ⟨bX,2,none⟩=some (.int .i64 xf)∧w7.cell? ⟨bX,3,none⟩=some (.int .i64 xt)∧w7.cell? ⟨bX,4,none⟩=some (.int .i64 (cl:Int))∧w7.cell? ⟨bX,5,none⟩=some (.int .i64 xe)∧w7.cell? ⟨bX,6,none⟩=some (.slice va xd.length vk))):=fun w7 h7=>(by have nb:¬b=L4.bk:=fun e=>(by have h1:=bkT.out.1;rw[←e,bkT.out.2.1]at h1;simp at h1);have nx:¬bX=L4.bk:=fun e=>(by have h1:=bkT.out.2.2;rw[e,bkT.out.1]at h1;simp at h1);have t:∀{q:Nat} {z:Value},w6.drew.cell? ⟨bX,q,none⟩=some z→w7.cell? ⟨bX,q,none⟩=some z:=fun{q z} hz=>(h7.cell (p:=⟨bX,q,none⟩) (World.block_lt_of_cell? w6.drew _ hz) nx).trans hz;obtain⟨z1,z2,z3,z4,z5,z6⟩:=VX6.out;exact⟨⟨(h7.cell (p:=⟨b,11,none⟩) (World.block_lt_of_cell? w6.drew _ l6) nb).trans l6,t z5⟩,t z1,t z2,t z3,t z4,t z5,t z6⟩);have M7:Hid (∀w7,Ch (· =L4.bk) w6.drew w7→Bk w7 L4.bk (G6.rem xe).bnow (G6.rem xe).al0 (G6.rem xe).al1→FabM τ6 w7 b ns cs (G6.rem xe) L4∧FN4 τ4 wr τ6 w7):=fun w7 h7 hb=>
     ⟨(M6.out.drew.book h7 (fun _ _=>rfl) hb (rem_is G6 xe)),(((NXB.out _ B5.out).trans N6.out).drew.trans ⟨h7.mono fun i _ e=>by have e:i=L4.bk:=e;unfold NoFl;rw[e,bkT.out.1];decide,fun _ _=>rfl⟩)⟩
    have NOW7:Hid ((G6.rem xe).now=G.now):=(by rw[Hid,(rem_same G6 xe).2.2.2.2.2.2.2.2.1,E6.2]);have k12:(fun wq=>wq.cell? ⟨b,17,none⟩=some (.slice (some ⟨gc,0,none⟩) ns.length cc2)∧wq.cell? ⟨gc,u,none⟩=some (.slice (some ⟨gd,0,none⟩) G.rooms.length cd)∧wq.cell? ⟨bX,4,none⟩=some (.int .i64 (cl:Int))∧wq.cell? ⟨gd,cl,none⟩=some (.int .i64 cv)) w5.drew:=⟨kV,kC',x4,kD'⟩;have q6:IntKind.i64.wrap (cv+1)=cv+1:=IntWalk.i64_in _ (by have:=HN.out;omega);have cl0:(0:Int)≤(cl:Int):=(by omega);have cl1:(cl:Int)<(G.rooms.length:Int):=(by omega);have z5:=VX6.out.2.2.2.2.1;obtain⟨i0,hi0,hy0,hy1,hy2⟩:=info_parts infoDel;have NXG2:Hid (∀τ' wq v,FabM τ' wq b ns cs (G6.rem xe) L4→FN4 τ w3 τ' wq→DelM τ' base wq v (D++[(G.now,u,⟨xi,xf,xt,(cl:Int),xe,xd⟩)])→RelV τ w3 base b ns cs L f1 lb v (.int .i64 ((k:Int)+1)) wq):=fun τ' wq v h1 h2 h4=>
     ⟨k+1,by omega,by congr 1,τ',L4,by rw[NX'.out,EAH.out];exact h1,h2,S4.out,by rw[NX'.out,EAH.out];exact h4⟩
    clear mb gdim eC kC lC tC eD kD kV kC' kD' cvb OK6 EA hG6 E6 hq4 own4 dat4 tg4 hcv m6' n6 tD lD FM hcr m0 m1 m2 m3 m4' m5 m6 k1 k2 k3 k4 hsw NXG TGB tgb lgb;refine wp_region_L 14 (fun wq=>wq.cell? ⟨b,17,none⟩=some (.slice (some ⟨gc,0,none⟩) ns.length cc2)∧wq.cell? ⟨gc,u,none⟩=some (.slice (some ⟨gd,0,none⟩) G.rooms.length cd)∧wq.cell? ⟨bX,4,none⟩=some (.int .i64 (cl:Int))∧wq.cell? ⟨gd,cl,none⟩=some (.int .i64 cv)) (by kernel_rfl) k12 (fun hHeld=>?_);refine AnyL.tk 0 hHeld ?_
    try simp only[puts]
    refine AnyL.tk 1 hHeld ?_
    try simp only[puts]
    refine AnyL.tk 2 hHeld ?_
    try simp only[puts]
    refine AnyL.tk 3 hHeld ?_
    try simp only[puts]
    refine AnyL.tk 4 hHeld ?_
    try simp only[puts]
    refine AnyL.tk 5 hHeld ?_
    try simp only[puts]
    refine AnyL.tk 6 hHeld ?_
    try simp only[puts]
    refine AnyL.tk 7 hHeld ?_
    try simp only[puts]
    refine AnyL.tk 8 hHeld ?_
    try simp only[puts]
    refine AnyL.tk 9 hHeld ?_
    try simp only[puts]
    refine AnyL.tk 10 hHeld ?_
    try simp only[puts]
    refine AnyL.tk 11 hHeld ?_
    try simp only[puts]
    refine AnyL.tk 12 hHeld ?_
    try simp only[puts]
    refine AnyL.tk 13 hHeld ?_
    try simp only[puts]
    refine AnyL.one (i:=14) (by kernel_rfl) rfl (fun K hK=>?_);go_simp;refine hK.out _ _ (fun h=>absurd rfl h) (fun _=>?_);clear hK;refine AnyL.done (by kernel_rfl) ?_ _
    try simp only[puts]
    clear hw6 k12
    go_wp2_with fail
    go_region_held3 (fun wq=>wq.cell? ⟨b,11,none⟩=some (.pointer (some ⟨L4.bk,0,none⟩))∧wq.cell? ⟨bX,5,none⟩=some (.int .i64 xe))
     (first|exact⟨l6,z5⟩|exact(K13.out _ CB7.out).1)
     (first|(go_at_call 97;((with_reducible refine RMV.out.mono ?_);rintro e w7 ⟨⟨rc,rfl⟩,hb7,hc7⟩;have HB7:=Lib.hid hb7;have CB7:Hid (Ch (· =L4.bk) w6.drew w7):=(show Ch (· =L4.bk) w6.drew w7 from⟨hc7.os,hc7.tape,hc7.output,hc7.size,hc7.block⟩);clear hb7 hc7)))
    obtain⟨m7,n7⟩:=M7.out w7 CB7.out HB7.out;have MM7:=Lib.hid m7;have NN7:=Lib.hid n7;have k13:w7.cell? ⟨b,13,none⟩=some (.int .i64 G.now):=(by rw[m7.r19];show some (Value.int .i64 ((G6.rem xe).now:Int))=_;rw[NOW7.out]);obtain⟨_,z1,z2,z3,z4,z5',z6⟩:=K13.out w7 CB7.out;have OW7:Hid (w7.ownsRow base 61 8 (.slice a3 Q4.length c3) Q4.length (Q4.flatMap cDl)):=own_ch OW4.out n7.ch fun g hg s=>(by have:=TG4.out g hg;have:=s.1;omega);have TG7:Hid (∀g,(Value.slice a3 Q4.length c3).ownBlock=some g→(τ6 g).1=0):=fun g hg=>(by rw[n7.ext g (OW4.out.lt g hg).2];exact TG4.out g hg);have DT7:Hid (∀x∈Q4,IsDat τ6 w7 x.1.2.2.data x.2):=fun x hx=>(DT4.out x hx).chE n7.ch n7.ext fun k s=>(by have:=s.1;omega);have DAT7:Hid (IsDat τ6 w7 xd (.slice va xd.length vk)):=by have n:=N4.out.x.trans n7.x;exact DAT.out.chE n.ch n.ext fun k s=>by omega
    have QL:Hid (Q4.length≤40):=by
     have h1:=congrArg List.length HQ4.out;rw[List.length_map]at h1;have h2:∀(l:List (Nat×Fm)) (s:Fab×List Dl),(l.foldl (Fab.arrive1 ns cs) s).2.length≤s.2.length+l.length:=fun l=>by
      induction l with
      |nil=>intro s;simp
      |cons x l ih=>
       intro s;rw[List.foldl_cons,List.length_cons];refine Nat.le_trans (ih _) ?_;have:(Fab.arrive1 ns cs s x).2.length≤s.2.length+1:=by
        unfold Fab.arrive1;dsimp only;split
        ·simp
        ·simp
       omega
     have h3:=h2 (lb.take k) (f1,[]);have e3:(lb.take k).foldl (Fab.arrive1 ns cs) (f1,[])=(G,D):=HGD.out;rw[e3]at h3;simp only[List.length_nil,List.length_take]at h3;have:=HLB.out;rw[Hid];omega
    have RN:Hid (Reads (w7.alloc (.cells #[.int .i64 (G.now:Int),.int .i64 (u:Int),.int .i64 xi,.int .i64 xf,.int .i64 xt,.int .i64 (cl:Int),.int .i64 xe,.slice va xd.length vk] 61)).drew (w7.heap.size+1) 8 (some ⟨w7.heap.size,0,none⟩) 1 [.int .i64 (G.now:Int),.int .i64 (u:Int),.int .i64 xi,.int .i64 xf,.int .i64 xt,.int .i64 (cl:Int),.int .i64 xe,.slice va xd.length vk]):=(reads_newN w7 61 [.int .i64 (G.now:Int),.int .i64 (u:Int),.int .i64 xi,.int .i64 xf,.int .i64 xt,.int .i64 (cl:Int),.int .i64 xe,.slice va xd.length vk] (n:=1) (size:=8) rfl).drew;have OW:Hid ((w7.alloc (.cells #[.int .i64 (G.now:Int),.int .i64 (u:Int),.int .i64 xi,.int .i64 xf,.int .i64 xt,.int .i64 (cl:Int),.int .i64 xe,.slice va xd.length vk] 61)).drew.ownsRow base 61 8 (.slice a3 Q4.length c3) Q4.length (Q4.flatMap cDl)):=OW7.out.alloc (.cells #[.int .i64 (G.now:Int),.int .i64 (u:Int),.int .i64 xi,.int .i64 xf,.int .i64 xt,.int .i64 (cl:Int),.int .i64 xe,.slice va xd.length vk] 61);have KS14:Hid (∀wq,Ch (fun k=>(Value.slice a3 Q4.length c3).ownBlock=some k) w7 wq→(fun wq=>wq.cell? ⟨b,13,none⟩=some (.int .i64 G.now)∧wq.cell? ⟨bX,1,none⟩=some (.int .i64 xi)∧wq.cell? ⟨bX,2,none⟩=some (.int .i64 xf)∧wq.cell? ⟨bX,3,none⟩=some (.int .i64 xt)∧wq.cell? ⟨bX,4,none⟩=some (.int .i64 (cl:Int))∧wq.cell? ⟨bX,5,none⟩=some (.int .i64 xe)∧wq.cell? ⟨bX,6,none⟩=some (.slice va xd.length vk)) wq):=fun wq hq=>by
     have nb:∀{i q:Nat} {z:Value},w7.cell? ⟨i,q,none⟩=some z→(i=b∨i=bX)→wq.cell? ⟨i,q,none⟩=some z:=fun{i q z} hz hi=>by
      refine(hq.cell (p:=⟨i,q,none⟩) (World.block_lt_of_cell? w7 _ hz) fun s=>?_).trans hz;obtain⟨cs',hbk⟩:=own_blk OW7.out _ s;rcases hi with hi|hi
      ·subst hi;exact Blk.ne_ MM7.out.root.1 hbk (by decide) rfl
      ·subst hi;exact Blk.ne_ (VX7.out w7 CB7.out) hbk (by decide) rfl
     exact⟨nb k13 (.inl rfl),nb z1 (.inr rfl),nb z2 (.inr rfl),nb z3 (.inr rfl),nb z4 (.inr rfl),nb z5' (.inr rfl),nb z6 (.inr rfl)⟩
    have FIN8:Hid (∀v8 w8,w8.ownsRow base 61 8 v8 (Q4.length+1) (Q4.flatMap cDl++[.int .i64 (G.now:Int),.int .i64 (u:Int),.int .i64 xi,.int .i64 xf,.int .i64 xt,.int .i64 (cl:Int),.int .i64 xe,.slice va xd.length vk])→(w7.alloc (.cells #[.int .i64 (G.now:Int),.int .i64 (u:Int),.int .i64 xi,.int .i64 xf,.int .i64 xt,.int .i64 (cl:Int),.int .i64 xe,.slice va xd.length vk] 61)).grownBy w8 (Value.slice a3 Q4.length c3).ownBlock→(v8.ownBlock=(Value.slice a3 Q4.length c3).ownBlock∨v8.ownBlock=some (w7.heap.size+1))→RelV τ w3 base b ns cs L f1 lb v8 (.int .i64 ((k:Int)+1)) w8):=fun v8 w8 ho hg hl=>by
     have hc:Ch (fun k=>(Value.slice a3 Q4.length c3).ownBlock=some k) w7 w8:=((Ch.refl _ w7).alloc _).grown hg fun g e=>.inl e;have m8:=MM7.out.chE (τ':=fr τ6 w7.heap.size) hc (fun i hi=>fr_old hi) fun i s=>TG7.out i s;refine NXG2.out _ w8 v8 m8 ⟨(N4.out.trans NN7.out).ch.trans hc fun i hi s=>?_,fun i hi=>?_⟩ ⟨Q4++[((G.now,u,⟨xi,xf,xt,(cl:Int),xe,xd⟩),.slice va xd.length vk)],by rw[List.map_append,HQ4.out];rfl,by simpa[cDl,cFm]using ho,fun y hy=>?_,fun g hg'=>?_⟩
     ·have:=(OW7.out.lt i s).1;have:=HB3.out;omega
     ·rw[fr_old (Nat.lt_of_lt_of_le hi (N4.out.trans NN7.out).ch.size)];exact(N4.out.trans NN7.out).ext i hi
     ·rcases List.mem_append.1 hy with hy|hy
      ·exact(DT7.out y hy).chE hc (fun i hi=>fr_old hi) fun i s=>by rw[TG7.out i s];decide
      ·rw[List.mem_singleton]at hy;subst hy;exact DAT7.out.chE hc (fun i hi=>fr_old hi) fun i s=>by rw[TG7.out i s];decide
     ·rcases hl with e|e
      ·rw[e]at hg';rw[fr_old (OW7.out.lt g hg').2];exact TG7.out g hg'
      ·rw[e]at hg';injection hg' with hg';rw[fr_new (by omega)]
    have k14:=KS14.out w7.drew (Ch.refl _ w7).drew;clear m7 n7 k13 z1 z2 z3 z4 z5' z6 z5 l6 M7 K13 VX6 RMV NXG2 DT7 OW4 DT4 TG4
    go_wp2_with fail
    refine wp_region_L 11 (fun wq=>wq.cell? ⟨b,13,none⟩=some (.int .i64 G.now)∧wq.cell? ⟨bX,1,none⟩=some (.int .i64 xi)∧wq.cell? ⟨bX,2,none⟩=some (.int .i64 xf)∧wq.cell? ⟨bX,3,none⟩=some (.int .i64 xt)∧wq.cell? ⟨bX,4,none⟩=some (.int .i64 (cl:Int))∧wq.cell? ⟨bX,5,none⟩=some (.int .i64 xe)∧wq.cell? ⟨bX,6,none⟩=some (.slice va xd.length vk)) (by kernel_rfl) k14 (fun hHeld=>?_);refine AnyL.tk 0 hHeld ?_
    try simp only[puts]
    refine AnyL.tk 1 hHeld ?_
    try simp only[puts]
    refine AnyL.tk 2 hHeld ?_
    try simp only[puts]
    refine AnyL.tk 3 hHeld ?_
    try simp only[puts]
    refine AnyL.tk 4 hHeld ?_
    try simp only[puts]
    refine AnyL.tk 5 hHeld ?_
    try simp only[puts]
    refine AnyL.tk 6 hHeld ?_
    try simp only[puts]
    refine AnyL.tk 7 hHeld ?_
    try simp only[puts]
    refine AnyL.tk 8 hHeld ?_
    try simp only[puts]
    refine AnyL.one (i:=9) (by kernel_rfl) rfl (fun K hK=>?_);go_simp;refine hK.out _ _ (fun _=>KS14.out _ ((Ch.refl _ _).alloc _).drew) (fun hHeld0=>?_);have hHeld:=hHeld0 (by decide);clear hK hHeld0
    try simp only[puts]
    refine AnyL.one (i:=10) (by kernel_rfl) rfl (fun K hK=>?_);refine step_append_any _ (by rfl) (.tmp 92) (.tmp 101) 39 (by rfl) base 61 i0 _ 8 80 Tryz.underlying39 hi0 hy0 hy1 hy2 rfl (by decide) _ _ _ (by rfl) OW.out _ (some ⟨w7.heap.size,0,none⟩) 1 1 [.int .i64 (G.now:Int),.int .i64 (u:Int),.int .i64 xi,.int .i64 xf,.int .i64 xt,.int .i64 (cl:Int),.int .i64 xe,.slice va xd.length vk] (by rfl) RN.out ?_ ?_ ?_ ?_ ?_
    ·intro u hu;simp only[List.mem_cons,List.not_mem_nil,or_false]at hu;rcases hu with rfl|rfl|rfl|rfl|rfl|rfl|rfl|rfl<;>rfl
    ·have:=QL.out;unfold maxLen;omega
    ·have:=QL.out;omega
    ·have h1:=(N4.out.trans NN7.out).ch.size;have h2:=HB3.out;exact Nat.le_trans (show base≤w7.heap.size by omega) ((Ch.refl (fun _=>False) w7).alloc _).drew.size
    intro v8 w8 own8 gr8 loc8;have R:=Lib.hid (FIN8.out v8 w8 own8 ⟨gr8.os,gr8.tape,gr8.output,gr8.size,gr8.block⟩ (by simpa using loc8));have k15:=KS14.out w8 (((Ch.refl _ w7).alloc _).grown ⟨gr8.os,gr8.tape,gr8.output,gr8.size,gr8.block⟩ fun g hg=>.inl hg);clear own8 gr8 loc8;refine hK.out _ _ (fun _=>k15) (fun hHeld0=>?_);have hHeld:=hHeld0 (by decide);clear hK hHeld0
    try simp only[puts]
    clear k15;refine AnyL.one (i:=11) (by kernel_rfl) rfl (fun K hK=>?_);go_simp;refine hK.out _ _ (fun h=>absurd rfl h) (fun _=>?_);clear hK;refine AnyL.done (by kernel_rfl) ?_ _
    try simp only[puts]
    go_wp2_with fail
    exact⟨R.out,by simp[RowKit.intOf];omega⟩
  ·have hke:k=lb.length:=by omega
   have F:=Lib.hid (FINP.out _ _ _ _ (by rw[←hke];exact m4) n4 (by rw[←hke];exact d4));have hq:¬(k:Int)<(Q.length:Int):=(by rw[hke,HLB.out];omega);clear m4 n4 s4 d4 hke
   go_wp2_with fail
   exact F.out
end Go.Proofs.YtnjjkgjdhljfnaaGreat
