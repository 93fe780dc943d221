/- Part 23 of the proof of fabricErrors.proved: FbW2 FbW3 FbW5 FbW4. Several texts in one, blanks struck, what is not used left out. -/
import Derived.Test.YtnjjkgjdhljfnaaGreatPk7
import Derived.Test.YtnjjkgjdhljfnaaGreatPk21
import Derived.Test.YtnjjkgjdhljfnaaGreatPk22
set_option maxRecDepth 100000
set_option maxHeartbeats 16000000
set_option linter.unusedVariables false
set_option linter.unusedSimpArgs false
namespace Go.Proofs.YtnjjkgjdhljfnaaGreat
open Go.RowKit Go.Maps
section
variable{τ τ':Own}{w w':World}
theorem ArrM.retag{t:TypeId}{T T':Tg→Prop}{v:Value}{n:Nat}{xs:List Value}(h:ArrM τ w t T v n xs)(hT:∀k,T (τ k)→T' (τ' k)):ArrM τ' w t T' v n xs:=by obtain⟨a,cap,e,h⟩:=h;refine⟨a,cap,e,fun h0=>?_⟩;obtain⟨g,C,e1,hb,ht,hx⟩:=h h0;exact⟨g,C,e1,hb,hT _ ht,hx⟩
theorem PlanM.retag{ns:List Nd}{cs:List Cb}{vn vc:Value}(h:PlanM τ w ns cs vn vc)(hT:∀k,(τ k).1=1→(τ' k).1=1):PlanM τ' w ns cs vn vc:=by obtain⟨An,Ac,cn,cc,e1,e2,hp,h1,h2⟩:=h;exact⟨An,Ac,cn,cc,e1,e2,hp,fun p e=>⟨hT _ (h1 p e).1,(h1 p e).2⟩,fun p e=>⟨hT _ (h2 p e).1,(h2 p e).2⟩⟩
theorem IsDat.retag{x:List Int}{v:Value}(h:IsDat τ w x v)(hT:∀k,(τ k).1=1→(τ' k).1=1):IsDat τ' w x v:=by obtain⟨a,cap,e,h1,h2,h3⟩:=h;exact⟨a,cap,e,h1,fun p hp=>⟨hT _ (h2 p hp).1,(h2 p hp).2⟩,h3⟩
theorem BxM.retag{o b:Nat}{X:Bx}{L:BxL}(h:BxM τ o w b X L)(hT:∀k,(τ k).1=1→(τ' k).1=1)(ho:∀k,(τ k).1=o→τ' k=τ k):BxM τ' o w b X L where
 root:=⟨h.root.1,by rw[ho _ (by rw[h.root.2])];exact h.root.2⟩
 qr:=fun p hp=>let a:=h.qr p hp;⟨a.1,by rw[ho _ (by rw[a.2])];exact a.2⟩
 q:=fun p c hp hc'=>by obtain⟨⟨Q,q1,q2,q3⟩,a2⟩:=h.q p c hp hc';exact⟨⟨Q,q1,q2,fun x hx=>(q3 x hx).retag hT⟩,fun g hg=>by rw[ho _ (by rw[a2 g hg])];exact a2 g hg⟩
 g:=fun p hp=>by obtain⟨g,h1,h2⟩:=h.g p hp;exact⟨g,h1,by rw[ho _ (by rw[h2])];exact h2⟩
 gg:=fun p c hp hc'=>by obtain⟨h1,h2,h3⟩:=h.gg p c hp hc';exact⟨h1,by rw[ho _ (by rw[h2])];exact h2,by rw[ho _ (by rw[h3])];exact h3⟩
 t:=fun p hp=>by obtain⟨g,h1,h2⟩:=h.t p hp;exact⟨g,h1,by rw[ho _ (by rw[h2])];exact h2⟩
 tt:=fun p c hp hc'=>by obtain⟨h1,h2,h3⟩:=h.tt p c hp hc';exact⟨h1,by rw[ho _ (by rw[h2])];exact h2,by rw[ho _ (by rw[h3])];exact h3⟩
 bar:=⟨h.bar.1,by rw[ho _ (by rw[h.bar.2])];exact h.bar.2⟩
end
structure NwM(τ:Own)(w:World)(b:Nat)(ns:List Nd)(cs:List Cb)(rooms:List Int)(L:FbL)(kb kt kc:Nat)(C:Nat→Nat→Int)(ju jg:Nat):Prop where
 root:Blk w b 100 (fabC (newFab ns cs rooms default) L)
 rootT:τ b=(2,0,0,0)
 plan:PlanM τ w ns cs L.vn L.vc
 rm:ArrM τ w 3 never L.vr (rooms++rooms).length ((rooms++rooms).map fun x=>.int .i64 x)
 vt:w.ownsRow 0 26 1 L.vt kt ((List.range kt).map L.row)∧∀g,L.vt.ownBlock=some g→τ g=(0,1,0,0)
 rows:∀i,i<kt→ArrM τ w 3 (fun t=>t=(0,2,i,0)) (L.row i) (portsOf (ns.getD i nd0)) ((List.range (portsOf (ns.getD i nd0))).map fun p=>.int .i64 (C i p))
 vb:w.ownsRow 0 101 1 L.vb kb ((List.range kb).map fun i=>pt (L.bx i))∧∀g,L.vb.ownBlock=some g→τ g=(0,3,0,0)
 bx:∀i,i<kb→BxM τ (3+i) w (L.bx i) ((newFab ns cs rooms default).boxes.getD i default) (L.bxl i)
 vm:w.ownsRow 0 26 1 L.vcm kc ((List.range kc).map L.cm)∧∀g,L.vcm.ownBlock=some g→τ g=(0,4,0,0)
 cm:∀i,i<kc→ArrM τ w 3 (is2 7 i) (L.cm i) (rooms++rooms).length (List.replicate (rooms++rooms).length (.int .i64 0))
 vu:w.ownsRow 0 4 1 L.vu ju (List.replicate ju (.bool true))∧∀g,L.vu.ownBlock=some g→τ g=(2,1,0,0)
 vg:w.ownsRow 0 26 1 L.vg jg ((List.range jg).map L.gn)∧∀g,L.vg.ownBlock=some g→τ g=(0,5,0,0)
 gn:∀i,i<jg→ArrM τ w 3 (is2 8 i) (L.gn i) (rooms++rooms).length (List.replicate (rooms++rooms).length (.int .i64 0))
 bk:Bk w L.bk 0 0 0∧τ L.bk=(2,2,0,0)
 mf:OMap w Tryz.prog 3 L.mf 0 (fun _=>none)∧τ L.mf=(2,3,0,0)
 ml:OMap w Tryz.prog 3 L.ml 0 (fun _=>none)∧τ L.ml=(2,5,0,0)
 vl:L.vl=.slice none 0 0
structure NwG(K:Tg→Prop)(τ:Own)(w:World)(b:Nat)(ns:List Nd)(cs:List Cb)(rooms:List Int)(L:FbL)(kb kt kc:Nat)(C:Nat→Nat→Int)(ju jg:Nat):Prop where
 root:¬K (2,0,0,0)→Blk w b 100 (fabC (newFab ns cs rooms default) L)
 rootT:τ b=(2,0,0,0)
 plan:PlanM τ w ns cs L.vn L.vc
 rm:ArrM τ w 3 never L.vr (rooms++rooms).length ((rooms++rooms).map fun x=>.int .i64 x)
 vt:¬K (0,1,0,0)→w.ownsRow 0 26 1 L.vt kt ((List.range kt).map L.row)∧∀g,L.vt.ownBlock=some g→τ g=(0,1,0,0)
 rows:∀i,i<kt→¬K (0,2,i,0)→ArrM τ w 3 (fun t=>t=(0,2,i,0)) (L.row i) (portsOf (ns.getD i nd0)) ((List.range (portsOf (ns.getD i nd0))).map fun p=>.int .i64 (C i p))
 vb:¬K (0,3,0,0)→w.ownsRow 0 101 1 L.vb kb ((List.range kb).map fun i=>pt (L.bx i))∧∀g,L.vb.ownBlock=some g→τ g=(0,3,0,0)
 bx:∀i,i<kb→BxM τ (3+i) w (L.bx i) ((newFab ns cs rooms default).boxes.getD i default) (L.bxl i)
 vm:¬K (0,4,0,0)→w.ownsRow 0 26 1 L.vcm kc ((List.range kc).map L.cm)∧∀g,L.vcm.ownBlock=some g→τ g=(0,4,0,0)
 cm:∀i,i<kc→¬K (2,7,i,0)→ArrM τ w 3 (is2 7 i) (L.cm i) (rooms++rooms).length (List.replicate (rooms++rooms).length (.int .i64 0))
 vu:¬K (2,1,0,0)→w.ownsRow 0 4 1 L.vu ju (List.replicate ju (.bool true))∧∀g,L.vu.ownBlock=some g→τ g=(2,1,0,0)
 vg:¬K (0,5,0,0)→w.ownsRow 0 26 1 L.vg jg ((List.range jg).map L.gn)∧∀g,L.vg.ownBlock=some g→τ g=(0,5,0,0)
 gn:∀i,i<jg→¬K (2,8,i,0)→ArrM τ w 3 (is2 8 i) (L.gn i) (rooms++rooms).length (List.replicate (rooms++rooms).length (.int .i64 0))
 bk:¬K (2,2,0,0)→Bk w L.bk 0 0 0∧τ L.bk=(2,2,0,0)
 mf:¬K (2,3,0,0)→OMap w Tryz.prog 3 L.mf 0 (fun _=>none)∧τ L.mf=(2,3,0,0)
 ml:¬K (2,5,0,0)→OMap w Tryz.prog 3 L.ml 0 (fun _=>none)∧τ L.ml=(2,5,0,0)
 vl:L.vl=.slice none 0 0
section
variable{τ τ':Own}{w w':World}{b:Nat}{ns:List Nd}{cs:List Cb}{rooms:List Int}{L:FbL}{kb kt kc:Nat}{C:Nat→Nat→Int}{ju jg:Nat}
theorem NwM.toG{S:Nat→Prop}(K:Tg→Prop)(h:NwM τ w b ns cs rooms L kb kt kc C ju jg)(hc:Ch S w w')(he:∀k,k<w.heap.size→τ' k=τ k)(hS:∀k,S k→K (τ k))(hK:∀t,K t→t.1=0∨t.1=2):NwG K τ' w' b ns cs rooms L kb kt kc C ju jg:=by
 have s1:∀k,S k→(τ k).1≠1:=fun k s=>by have:=hK _ (hS k s);omega
 have sb:∀k,S k→∀i,(τ k).1≠3+i:=fun k s i=>by have:=hK _ (hS k s);omega
 have s2:∀{g:Nat} {t:Tg},¬K t→τ g=t→¬S g:=fun{g t} hk e s=>hk (by rw[←e];exact hS g s);have vec:∀{t:TypeId} {v:Value} {n:Nat} {xs:List Value} {tg:Tg},¬K tg→(w.ownsRow 0 t 1 v n xs∧∀g,v.ownBlock=some g→τ g=tg)→(w'.ownsRow 0 t 1 v n xs∧∀g,v.ownBlock=some g→τ' g=tg):=fun hk ⟨a1,a2⟩=>
  ⟨own_ch a1 hc fun g hg=>s2 hk (a2 g hg),fun g hg=>by rw[he _ (a1.lt g hg).2];exact a2 g hg⟩
 exact{
  root:=fun hk=>h.root.ch hc (s2 hk h.rootT)
  rootT:=by rw[he _ h.root.lt];exact h.rootT
  plan:=h.plan.chE hc he s1
  rm:=h.rm.chE hc he fun k s q=>s1 k s q
  vt:=fun hk=>vec hk h.vt
  rows:=fun i hi hk=>(h.rows i hi).chE hc he fun k s q=>s2 hk q s
  vb:=fun hk=>vec hk h.vb
  bx:=fun i hi=>(h.bx i hi).chE hc he fun k s=>⟨s1 k s,sb k s i⟩
  vm:=fun hk=>vec hk h.vm
  cm:=fun i hi hk=>(h.cm i hi).chE hc he fun k s q=>s2 hk q s
  vu:=fun hk=>vec hk h.vu
  vg:=fun hk=>vec hk h.vg
  gn:=fun i hi hk=>(h.gn i hi).chE hc he fun k s q=>s2 hk q s
  bk:=fun hk=>⟨Blk.ch h.bk.1 hc (s2 hk h.bk.2),by rw[he _ (Blk.lt h.bk.1)];exact h.bk.2⟩
  mf:=fun hk=>⟨omap_ch h.mf.1 hc (s2 hk h.mf.2),by rw[he _ h.mf.1.ltb];exact h.mf.2⟩
  ml:=fun hk=>⟨omap_ch h.ml.1 hc (s2 hk h.ml.2),by rw[he _ h.ml.1.ltb];exact h.ml.2⟩
  vl:=h.vl}
theorem NwG.all(h:NwG (fun _=>False) τ w b ns cs rooms L kb kt kc C ju jg):NwM τ w b ns cs rooms L kb kt kc C ju jg:=
 ⟨h.root id,h.rootT,h.plan,h.rm,h.vt id,fun i hi=>h.rows i hi id,h.vb id,h.bx,h.vm id,fun i hi=>h.cm i hi id,h.vu id,h.vg id,fun i hi=>h.gn i hi id,h.bk id,h.mf id,h.ml id,h.vl⟩
structure NwX(o:Nat)(τ:Own)(w:World)(τ':Own)(w':World):Prop where
 ch:Ch (fun k=>(τ k).1≠1) w w'
 ext:∀k,k<w.heap.size→τ' k=τ k
 le:∀k,w.heap.size≤k→k<w'.heap.size→(τ' k).1≤o
theorem NwX.of_nx{o:Nat}(h:Nx τ o w τ' w')(ho:2≤o):NwX o τ w τ' w':=⟨h.ch.mono fun k _ s=>by have s:(τ k).1=o:=s;omega,h.ext,fun k h1 h2=>by have:=h.fresh k h1 h2;omega⟩
def nwT(τ:Own)(n:Nat)(N:Own):Own:=fun k=>if k<n then τ k else N k
theorem nwT_old{n k:Nat}{N:Own}(h:k<n):nwT τ n N k=τ k:=by unfold nwT;rw[if_pos h]
theorem nwT_new{n k:Nat}{N:Own}(h:n≤k):nwT τ n N k=N k:=by unfold nwT;rw[if_neg (by omega)]
theorem map_push{α:Type}(f:Nat→α)(n:Nat)(x:α):(List.range n).map f++[x]=(List.range (n+1)).map fun i=>if i=n then x else f i:=by
 rw[List.range_succ,List.map_append];congr 1
 ·exact List.map_congr_left fun i hi=>by rw[if_neg (by have:=List.mem_range.1 hi;omega)]
 ·simp
theorem NwM.pushG(h:NwM τ w b ns cs rooms L kb kt kc C ju jg){tv:Tg}(N:Own){V v:Value}{t:TypeId}{n:Nat}(o:Nat){xs:List Value}{w1 w2:World}(hb:Below w.heap.size w w1)(hN:N w1.heap.size=tv)(hN2:∀k,(N k).1≤2)(hV:∀k,V.ownBlock=some k→τ k=tv∧k<w.heap.size)(gr:w1.grownBy w2 V.ownBlock)(own:w2.ownsRow 0 t 1 v n xs)(loc:v.ownBlock=V.ownBlock∨v.ownBlock=some w1.heap.size)(hne:tv≠(2,0,0,0))(h1:tv.1=0∨tv.1=2):NwG (fun t=>t=(2,0,0,0)∨t=tv) (nwT τ w.heap.size N) (w2.setCell ⟨b,o,none⟩ v) b ns cs rooms L kb kt kc C ju jg∧NwX 2 τ w (nwT τ w.heap.size N) (w2.setCell ⟨b,o,none⟩ v)∧((w2.setCell ⟨b,o,none⟩ v).ownsRow 0 t 1 v n xs∧∀g,v.ownBlock=some g→nwT τ w.heap.size N g=tv)∧Blk (w2.setCell ⟨b,o,none⟩ v) b 100 ((fabC (newFab ns cs rooms default) L).setIfInBounds o v)∧Ch (fun k=>k=b∨V.ownBlock=some k) w1 (w2.setCell ⟨b,o,none⟩ v)∧Ch (fun k=>(τ k).1=0∨(τ k).1=2) w (w2.setCell ⟨b,o,none⟩ v):=by
 have lb:=h.root.lt;have c1:Ch (fun k=>k=b∨V.ownBlock=some k) w1 w2:=(Ch.refl _ w1).grown gr fun g hg=>.inl (.inr hg);have c2:Ch (fun k=>k=b∨V.ownBlock=some k) w1 (w2.setCell ⟨b,o,none⟩ v):=c1.setCell (p:=⟨b,o,none⟩) (.inl (.inl rfl)) _;have c3:Ch (fun k=>k=b∨V.ownBlock=some k) w (w2.setCell ⟨b,o,none⟩ v):=(Ch.of_below hb).trans c2 fun i _ s=>s;have c4:Ch (fun k=>V.ownBlock=some k) w w2:=(Ch.of_below (S:=fun k=>V.ownBlock=some k) hb).trans ((Ch.refl (fun k=>V.ownBlock=some k) w1).grown gr fun g hg=>.inl hg) fun i _ s=>s;have nbV:¬V.ownBlock=some b:=fun q=>hne (by rw[←(hV b q).1];exact h.rootT);have hS:∀k,(k=b∨V.ownBlock=some k)→τ k=(2,0,0,0)∨τ k=tv:=fun k s=>by
  rcases s with s|s
  ·rw[s];exact .inl h.rootT
  ·exact .inr (hV k s).1
 have tag:∀g,v.ownBlock=some g→nwT τ w.heap.size N g=tv∧g≠b:=fun g hg=>by
  rcases loc with q|q
  ·rw[q]at hg;exact⟨by rw[nwT_old (hV g hg).2];exact(hV g hg).1,fun e=>nbV (by rw[←e];exact hg)⟩
  ·rw[q]at hg;injection hg with hg;subst hg;exact⟨by rw[nwT_new hb.size];exact hN,by have:=hb.size;omega⟩
 refine⟨h.toG (fun t=>t=(2,0,0,0)∨t=tv) c3 (fun k hk=>nwT_old hk) hS fun t ht=>?_,⟨c3.mono fun k _ s=>?_,fun k hk=>nwT_old hk,fun k h1 _=>by rw[nwT_new h1];exact hN2 k⟩,⟨own_ch own ((Ch.refl (fun k=>k=b) w2).setCell (p:=⟨b,o,none⟩) (.inl rfl) _) fun g hg s=>(tag g hg).2 s,fun g hg=>(tag g hg).1⟩,(h.root.ch c4 nbV).set_ o v,c2,c3.mono fun k _ s=>?_⟩
 ·rcases ht with q|q
  ·rw[q];exact .inr rfl
  ·rw[q];exact h1
 ·rcases hS k s with q|q<;>(show(τ k).1≠1;rw[q];first|decide|omega)
 ·rcases hS k s with q|q
  ·rw[q];exact .inr rfl
  ·rw[q];exact h1
theorem NwM.addBox(h:NwM τ w b ns cs rooms L kb kt kc C ju jg){bX:Nat}{LX:BxL}(hx:BxM τ (3+kb) w bX ((newFab ns cs rooms default).boxes.getD kb default) LX){w1 w2:World}{v:Value}(hb:Below w.heap.size w w1)(own:w2.ownsRow 0 101 1 v (kb+1) ((List.range kb).map (fun i=>pt (L.bx i))++[pt bX]))(gr:w1.grownBy w2 L.vb.ownBlock)(loc:v.ownBlock=L.vb.ownBlock∨v.ownBlock=some w1.heap.size):∃τ',NwM τ' (w2.setCell ⟨b,5,none⟩ v) b ns cs rooms {L with vb:=v,bx:=fun i=>if i=kb then bX else L.bx i,bxl:=fun i=>if i=kb then LX else L.bxl i} (kb+1) kt kc C ju jg∧NwX 2 τ w τ' (w2.setCell ⟨b,5,none⟩ v):=by
 obtain⟨G,X,O,R,c,c5⟩:=h.pushG (tv:=(0,3,0,0)) (fun _=>(0,3,0,0)) 5 hb rfl (fun _=>by simp) (fun k hk=>⟨h.vb.2 k hk,(h.vb.1.lt k hk).2⟩) gr own loc (by decide) (by decide);have hx':=hx.chE (τ':=nwT τ w.heap.size fun _=>(0,3,0,0)) c5 X.ext fun k s=>⟨by omega,by omega⟩;refine⟨_,⟨R,G.rootT,G.plan,G.rm,G.vt (by decide),fun i hi=>G.rows i hi (by simp),⟨?_,O.2⟩,fun i hi=>?_,G.vm (by decide),fun i hi=>G.cm i hi (by simp),G.vu (by decide),G.vg (by decide),fun i hi=>G.gn i hi (by simp),G.bk (by decide),G.mf (by decide),G.ml (by decide),G.vl⟩,X⟩
 ·have:=O.1;rw[map_push]at this;refine Eq.mp (congrArg _ ?_) this;exact List.map_congr_left fun i _=>by show(if i=kb then pt bX else pt (L.bx i))=pt (if i=kb then bX else L.bx i);split<;>rfl
 ·show BxM _ (3+i) _ (if i=kb then bX else L.bx i) _ (if i=kb then LX else L.bxl i);by_cases e:i=kb
  ·rw[if_pos e,if_pos e,e];exact hx'
  ·rw[if_neg e,if_neg e];exact G.bx i (by omega)
theorem row_in{S:Nat→Prop}{T:Tg→Prop}{n g cap:Nat}{cells:Array Value}{xs:List Value}{w1 w3:World}{τ2:Own}(hr:Blk w1 g 3 cells)(hx:∀i,i<xs.length→cells[i]?=xs[i]?)(hc:Ch S w1 w3)(hS:¬S g)(hT:T (τ2 g)):ArrM τ2 w3 3 T (.slice (some ⟨g,0,none⟩) n cap) n xs:=
 ⟨_,cap,rfl,fun _=>⟨g,cells,rfl,hr.ch hc hS,hT,hx⟩⟩
theorem NwM.addRow(h:NwM τ w b ns cs rooms L kb kt kc C ju jg){g cap:Nat}{cells:Array Value}{w1 w2:World}{v:Value}(hb:Below w.heap.size w w1)(hr:Blk w1 g 3 cells)(hg:w.heap.size≤g)(hx:∀p,p<portsOf (ns.getD kt nd0)→cells[p]?=some (.int .i64 (C kt p)))(own:w2.ownsRow 0 26 1 v (kt+1) ((List.range kt).map L.row++[.slice (some ⟨g,0,none⟩) (portsOf (ns.getD kt nd0)) cap]))(gr:w1.grownBy w2 L.vt.ownBlock)(loc:v.ownBlock=L.vt.ownBlock∨v.ownBlock=some w1.heap.size):∃τ',NwM τ' (w2.setCell ⟨b,4,none⟩ v) b ns cs rooms {L with vt:=v,row:=fun i=>if i=kt then .slice (some ⟨g,0,none⟩) (portsOf (ns.getD kt nd0)) cap else L.row i} kb (kt+1) kc C ju jg∧NwX 2 τ w τ' (w2.setCell ⟨b,4,none⟩ v):=by
 obtain⟨G,X,O,R,c,c5⟩:=h.pushG (tv:=(0,1,0,0)) (fun k=>if k=g then(0,2,kt,0)else(0,1,0,0)) 4 hb (by rw[if_neg (by have:=hr.lt;omega)]) (fun k=>by split<;>simp) (fun k hk=>⟨h.vt.2 k hk,(h.vt.1.lt k hk).2⟩) gr own loc (by decide) (by decide);have nS:¬(g=b∨L.vt.ownBlock=some g):=fun q=>by
  rcases q with q|q
  ·have:=h.root.lt;omega
  ·have:=(h.vt.1.lt g q).2;omega
 have ROW:ArrM (nwT τ w.heap.size fun k=>if k=g then(0,2,kt,0)else(0,1,0,0)) (w2.setCell ⟨b,4,none⟩ v) 3 (fun t=>t=(0,2,kt,0)) (.slice (some ⟨g,0,none⟩) (portsOf (ns.getD kt nd0)) cap) (portsOf (ns.getD kt nd0)) ((List.range (portsOf (ns.getD kt nd0))).map fun p=>.int .i64 (C kt p)):=
  row_in hr (fun i hi=>by have hi':i<portsOf (ns.getD kt nd0):=(by simpa using hi);rw[hx i hi',List.getElem?_map,List.getElem?_range hi'];rfl) c nS (by rw[nwT_new hg,if_pos rfl])
 refine⟨_,⟨R,G.rootT,G.plan,G.rm,⟨?_,O.2⟩,fun i hi=>?_,G.vb (by decide),G.bx,G.vm (by decide),fun i hi=>G.cm i hi (by simp),G.vu (by decide),G.vg (by decide),fun i hi=>G.gn i hi (by simp),G.bk (by decide),G.mf (by decide),G.ml (by decide),G.vl⟩,X⟩
 ·have:=O.1;rw[map_push]at this;exact this
 ·show ArrM _ _ _ _ (if i=kt then _ else L.row i) _ _;by_cases e:i=kt
  ·rw[if_pos e,e];exact ROW
  ·rw[if_neg e];exact G.rows i (by omega) (by simp)
theorem NwM.addCame(h:NwM τ w b ns cs rooms L kb kt kc C ju jg){g cap:Nat}{w1 w2:World}{v:Value}(hb:Below w.heap.size w w1)(hr:Blk w1 g 3 (List.replicate (rooms++rooms).length (.int .i64 0)).toArray)(hg:w.heap.size≤g)(own:w2.ownsRow 0 26 1 v (kc+1) ((List.range kc).map L.cm++[.slice (some ⟨g,0,none⟩) (rooms++rooms).length cap]))(gr:w1.grownBy w2 L.vcm.ownBlock)(loc:v.ownBlock=L.vcm.ownBlock∨v.ownBlock=some w1.heap.size):∃τ',NwM τ' (w2.setCell ⟨b,17,none⟩ v) b ns cs rooms {L with vcm:=v,cm:=fun i=>if i=kc then .slice (some ⟨g,0,none⟩) (rooms++rooms).length cap else L.cm i} kb kt (kc+1) C ju jg∧NwX 2 τ w τ' (w2.setCell ⟨b,17,none⟩ v):=by
 obtain⟨G,X,O,R,c,c5⟩:=h.pushG (tv:=(0,4,0,0)) (fun k=>if k=g then(2,7,kc,0)else(0,4,0,0)) 17 hb (by rw[if_neg (by have:=hr.lt;omega)]) (fun k=>by split<;>simp) (fun k hk=>⟨h.vm.2 k hk,(h.vm.1.lt k hk).2⟩) gr own loc (by decide) (by decide);have nS:¬(g=b∨L.vcm.ownBlock=some g):=fun q=>by
  rcases q with q|q
  ·have:=h.root.lt;omega
  ·have:=(h.vm.1.lt g q).2;omega
 have ROW:ArrM (nwT τ w.heap.size fun k=>if k=g then(2,7,kc,0)else(0,4,0,0)) (w2.setCell ⟨b,17,none⟩ v) 3 (is2 7 kc) (.slice (some ⟨g,0,none⟩) (rooms++rooms).length cap) (rooms++rooms).length (List.replicate (rooms++rooms).length (.int .i64 0)):=
  row_in hr (fun i hi=>by rw[List.getElem?_toArray]) c nS (by rw[nwT_new hg,if_pos rfl];rfl)
 refine⟨_,⟨R,G.rootT,G.plan,G.rm,G.vt (by decide),fun i hi=>G.rows i hi (by simp),G.vb (by decide),G.bx,⟨?_,O.2⟩,fun i hi=>?_,G.vu (by decide),G.vg (by decide),fun i hi=>G.gn i hi (by simp),G.bk (by decide),G.mf (by decide),G.ml (by decide),G.vl⟩,X⟩
 ·have:=O.1;rw[map_push]at this;exact this
 ·show ArrM _ _ _ _ (if i=kc then _ else L.cm i) _ _;by_cases e:i=kc
  ·rw[if_pos e,e];exact ROW
  ·rw[if_neg e];exact G.cm i (by omega) (by simp)
theorem NwM.addUp(h:NwM τ w b ns cs rooms L kb kt kc C ju jg){w1 w2:World}{v:Value}(hb:Below w.heap.size w w1)(own:w2.ownsRow 0 4 1 v (ju+1) (List.replicate ju (.bool true)++[.bool true]))(gr:w1.grownBy w2 L.vu.ownBlock)(loc:v.ownBlock=L.vu.ownBlock∨v.ownBlock=some w1.heap.size):∃τ',NwM τ' (w2.setCell ⟨b,6,none⟩ v) b ns cs rooms {L with vu:=v} kb kt kc C (ju+1) jg∧NwX 2 τ w τ' (w2.setCell ⟨b,6,none⟩ v):=by obtain⟨G,X,O,R,c,c5⟩:=h.pushG (tv:=(2,1,0,0)) (fun k=>(2,1,0,0)) 6 hb rfl (fun k=>by decide) (fun k hk=>⟨h.vu.2 k hk,(h.vu.1.lt k hk).2⟩) gr own loc (by decide) (by decide);refine⟨_,⟨R,G.rootT,G.plan,G.rm,G.vt (by decide),fun i hi=>G.rows i hi (by simp),G.vb (by decide),G.bx,G.vm (by decide),fun i hi=>G.cm i hi (by simp),⟨?_,O.2⟩,G.vg (by decide),fun i hi=>G.gn i hi (by simp),G.bk (by decide),G.mf (by decide),G.ml (by decide),G.vl⟩,X⟩;have:=O.1;rw[←List.replicate_succ']at this;exact this
theorem NwM.addGone(h:NwM τ w b ns cs rooms L kb kt kc C ju jg){g g' cap cap':Nat}{w1 w2:World}{v:Value}(hb:Below w.heap.size w w1)(hr:Blk w1 g 3 (List.replicate (rooms++rooms).length (.int .i64 0)).toArray)(hg:w.heap.size≤g)(hr':Blk w1 g' 3 (List.replicate (rooms++rooms).length (.int .i64 0)).toArray)(hg':w.heap.size≤g')(hne:g≠g')(own:w2.ownsRow 0 26 1 v (jg+2) ((List.range jg).map L.gn++[.slice (some ⟨g,0,none⟩) (rooms++rooms).length cap,.slice (some ⟨g',0,none⟩) (rooms++rooms).length cap']))(gr:w1.grownBy w2 L.vg.ownBlock)(loc:v.ownBlock=L.vg.ownBlock∨v.ownBlock=some w1.heap.size):∃τ',NwM τ' (w2.setCell ⟨b,18,none⟩ v) b ns cs rooms {L with vg:=v,gn:=fun i=>if i=jg+1 then .slice (some ⟨g',0,none⟩) (rooms++rooms).length cap' else if i=jg then .slice (some ⟨g,0,none⟩) (rooms++rooms).length cap else L.gn i} kb kt kc C ju (jg+2)∧NwX 2 τ w τ' (w2.setCell ⟨b,18,none⟩ v):=by
 obtain⟨G,X,O,R,c,c5⟩:=h.pushG (tv:=(0,5,0,0)) (fun k=>if k=g then(2,8,jg,0)else if k=g' then(2,8,jg+1,0)else(0,5,0,0)) 18 hb (by rw[if_neg (by have:=hr.lt;omega),if_neg (by have:=hr'.lt;omega)]) (fun k=>by by_cases e1:k=g<;>by_cases e2:k=g'<;>simp[e1,e2]<;>split<;>simp) (fun k hk=>⟨h.vg.2 k hk,(h.vg.1.lt k hk).2⟩) gr own loc (by decide) (by decide);have nS:∀{k},w.heap.size≤k→¬(k=b∨L.vg.ownBlock=some k):=fun{k} hk q=>by
  rcases q with q|q
  ·have:=h.root.lt;omega
  ·have:=(h.vg.1.lt k q).2;omega
 have ROW:=row_in (T:=is2 8 jg) (n:=(rooms++rooms).length) (cap:=cap) (τ2:=nwT τ w.heap.size fun k=>if k=g then(2,8,jg,0)else if k=g' then(2,8,jg+1,0)else(0,5,0,0)) (xs:=List.replicate (rooms++rooms).length (.int .i64 0)) hr (fun i hi=>by rw[List.getElem?_toArray]) c (nS hg) (by rw[nwT_new hg,if_pos rfl];rfl);have ROW':=row_in (T:=is2 8 (jg+1)) (n:=(rooms++rooms).length) (cap:=cap') (τ2:=nwT τ w.heap.size fun k=>if k=g then(2,8,jg,0)else if k=g' then(2,8,jg+1,0)else(0,5,0,0)) (xs:=List.replicate (rooms++rooms).length (.int .i64 0)) hr' (fun i hi=>by rw[List.getElem?_toArray]) c (nS hg') (by rw[nwT_new hg',if_neg (Ne.symm hne),if_pos rfl];rfl);refine⟨_,⟨R,G.rootT,G.plan,G.rm,G.vt (by decide),fun i hi=>G.rows i hi (by simp),G.vb (by decide),G.bx,G.vm (by decide),fun i hi=>G.cm i hi (by simp),G.vu (by decide),⟨?_,O.2⟩,fun i hi=>?_,G.bk (by decide),G.mf (by decide),G.ml (by decide),G.vl⟩,X⟩
 ·have:=O.1;rw[show ∀(a b:Value) (l:List Value),l++[a,b]=(l++[a])++[b]from fun a b l=>by simp,map_push,map_push]at this;exact this
 ·show ArrM _ _ _ _ (if i=jg+1 then _ else if i=jg then _ else L.gn i) _ _;by_cases e:i=jg+1
  ·rw[if_pos e,e];exact ROW'
  ·rw[if_neg e];by_cases e2:i=jg
   ·rw[if_pos e2,e2];exact ROW
   ·rw[if_neg e2];exact G.gn i (by omega) (by simp)
theorem NwM.setCab(h:NwM τ w b ns cs rooms L kb kt kc C ju jg){i p:Nat}(hi:i<kt)(hp:p<portsOf (ns.getD i nd0))(x:Int):∃gv cv g cap,L.vt=.slice (some ⟨gv,0,none⟩) kt cv∧w.cell? ⟨gv,i,none⟩=some (.slice (some ⟨g,0,none⟩) (portsOf (ns.getD i nd0)) cap)∧w.frozen? ⟨g,p,none⟩=false∧w.cell? ⟨g,p,none⟩=some (.int .i64 (C i p))∧(∃Cg,Blk w g 3 Cg)∧NwM τ (w.setCell ⟨g,p,none⟩ (.int .i64 x)) b ns cs rooms L kb kt kc (fun i' p'=>if i'=i∧p'=p then x else C i' p') ju jg∧NwX 2 τ w τ (w.setCell ⟨g,p,none⟩ (.int .i64 x)):=by
 obtain⟨gv,cv,eV,hgv,lgv,ov,cv'⟩:=own_cellG (d:=Value.slice none 0 0) (m:=1) (c:=fun x:Value=>[x]) (fun _=>rfl) (by simpa using h.vt.1:w.ownsRow 0 26 1 L.vt kt (((List.range kt).map L.row).flatMap fun x=>[x])) (by simp) hi;have cr:=cv' i hi 0 (by decide);have RI:=h.rows i hi;obtain⟨g,cap,eR,c1,f1,lg,tg⟩:=RI.at_ (i:=p) (by simpa using hp);have e1:((List.range kt).map L.row).getD i (Value.slice none 0 0)=L.row i:=by simp[List.getD,hi]
 have GB:∃Cg,Blk w g 3 Cg:=by obtain⟨a',cap',e',h'⟩:=RI;obtain⟨g',C',rfl,hb',_,_⟩:=h' (by rw[List.length_map,List.length_range];omega);rw[eR]at e';injection e' with e';injection e' with e';injection e' with e';exact⟨C',by rw[e'];exact hb'⟩
 rw[e1,Nat.mul_one,Nat.add_zero,eR]at cr;rw[List.getElem?_map,List.getElem?_range hp]at c1;have cS:Ch (fun k=>k=g) w (w.setCell ⟨g,p,none⟩ (.int .i64 x)):=(Ch.refl (fun k=>k=g) w).setCell (p:=⟨g,p,none⟩) (.inl rfl) _;have G:=h.toG (τ':=τ) (fun t=>t=(0,2,i,0)) cS (fun _ _=>rfl) (fun k s=>by rw[s];exact tg) fun t ht=>by rw[ht];exact .inl rfl
 have ROW:=RI.set_ (i:=p) (by simpa using hp) eR (.int .i64 x);refine⟨gv,cv,g,cap,eV,cr,f1,c1,GB,⟨G.root (by simp),G.rootT,G.plan,G.rm,G.vt (by simp),fun j hj=>?_,G.vb (by simp),G.bx,G.vm (by simp),fun j hj=>G.cm j hj (by simp),G.vu (by simp),G.vg (by simp),fun j hj=>G.gn j hj (by simp),G.bk (by simp),G.mf (by simp),G.ml (by simp),G.vl⟩,⟨cS.mono fun k _ s=>?_,fun _ _=>rfl,fun k h1 h2=>?_⟩⟩
 ·by_cases e:j=i
  ·subst e;refine Eq.mp ?_ ROW;congr 1;rw[map_set_at];exact List.map_congr_left fun q _=>by by_cases e2:q=p<;>simp[e2]
  ·refine Eq.mp ?_ (G.rows j hj (by simp[e]));congr 1;exact List.map_congr_left fun q _=>by simp[e]
 ·have s:k=g:=s;rw[s,tg];simp
 ·have:(w.setCell ⟨g,p,none⟩ (.int .i64 x)).heap.size=w.heap.size:=by simp[World.setCell]
  omega
theorem ArrM.of_vec{τ2:Own}{t:TypeId}{v:Value}{n:Nat}{xs:List Value}{tg:Tg}{T:Tg→Prop}(h:w.ownsRow 0 t 1 v n xs∧∀g,v.ownBlock=some g→τ g=tg)(hT:∀k,τ k=tg→T (τ2 k)):ArrM τ2 w t T v n xs:=by
 have hl:xs.length=n:=by rw[h.1.1];omega
 obtain⟨a,c,ev⟩:=own_formN h.1;refine⟨a,c,ev,fun h0=>?_⟩;obtain⟨g,cap,C,e1,hb,hbase,hC⟩:=own_blk1 h.1 (by omega);have tg:=h.2 g (by rw[e1];rfl);rw[ev]at e1;injection e1 with e1;exact⟨g,C,e1,hb,hT g tg,fun i hi=>hC i (by omega)⟩
theorem newFab_came(ns:List Nd)(cs:List Cb)(rooms:List Int)(r:Rt){i:Nat}(hi:i<ns.length):(newFab ns cs rooms r).came.getD i []=List.replicate (rooms++rooms).length 0:=by show(ns.map fun _=>(rooms++rooms).map fun _=>(0:Int)).getD i []=_;simp[List.getD,hi,List.map_const']
theorem newFab_gone(ns:List Nd)(cs:List Cb)(rooms:List Int)(r:Rt){i:Nat}(hi:i<2*cs.length):(newFab ns cs rooms r).gone.getD i []=List.replicate (rooms++rooms).length 0:=by show((List.range (2*cs.length)).map fun _=>(rooms++rooms).map fun _=>(0:Int)).getD i []=_;simp[List.getD,hi,List.map_const']
theorem TickM.none_{α:Type}{bm:Nat}{P:Nat→Value→List α→Prop}(h:OMap w Tryz.prog 3 bm 0 (fun _=>none)):TickM w bm (fun _=>[]) P:=
 ⟨0,fun _=>none,h,Nat.zero_le _,fun l v e=>(by cases e),fun _ _=>rfl,fun t v e=>(by cases e)⟩
theorem NwM.fin(h:NwM τ w b ns cs rooms L ns.length ns.length ns.length (fun i p=>cabI cs i p) cs.length (2*cs.length)):∃τ',FabH τ' w b ns cs (newFab ns cs rooms default) L∧Bk w L.bk 0 0 0∧∀k,(τ k).1≠0→τ' k=τ k:=by
 obtain⟨τ2,hτ⟩:∃τ2:Own,τ2=fun k=>if(τ k).1=0 then(1,0,0,0)else τ k:=⟨_,rfl⟩
 have keep:∀k,(τ k).1≠0→τ2 k=τ k:=fun k hk=>by rw[hτ];exact if_neg hk
 have turn:∀k,(τ k).1=0→never (τ2 k):=fun k hk=>by rw[hτ];show(if(τ k).1=0 then((1,0,0,0):Tg)else τ k).1=1;rw[if_pos hk]
 have one:∀k,(τ k).1=1→(τ2 k).1=1:=fun k hk=>by rw[keep k (by omega)];exact hk
 have same:∀{k:Nat} {t:Tg},t.1≠0→τ k=t→τ2 k=t:=fun{k t} ht e=>by rw[keep k (by rw[e];exact ht)];exact e
 refine⟨τ2,?_,h.bk.1,keep⟩;exact{
  root:=h.root
  rootT:=same (by decide) h.rootT
  plan:=h.plan.retag one
  rooms:=h.rm.retag fun k hk=>one k hk
  cab:=⟨ArrM.of_vec h.vt fun k e=>turn k (by rw[e]),fun i hi=>(h.rows i hi).retag fun k e=>turn k (by rw[e])⟩
  bxs:=ArrM.of_vec h.vb fun k e=>turn k (by rw[e])
  bx:=fun i hi=>(h.bx i hi).retag one fun k e=>keep k (by omega)
  up:=by have e1:(newFab ns cs rooms default).up=List.replicate cs.length true:=(by show(cs.map fun _=>true)=_;simp[List.map_const']);rw[e1,List.length_replicate,List.map_replicate];exact ArrM.of_vec h.vu fun k e=>same (t:=(2,1,0,0)) (by decide) e
  bkT:=same (by decide) h.bk.2
  bkL:=Blk.lt h.bk.1
  fl:=⟨TickM.none_ h.mf.1,same (by decide) h.mf.2⟩
  lim:=⟨TickM.none_ h.ml.1,same (by decide) h.ml.2⟩
  came:=⟨ArrM.of_vec h.vm fun k e=>turn k (by rw[e]),fun i hi=>by rw[newFab_came ns cs rooms default hi,List.length_replicate,List.map_replicate];exact(h.cm i hi).retag fun k e=>same (t:=(2,7,i,0)) (by simp) e⟩
  gone:=⟨ArrM.of_vec h.vg fun k e=>turn k (by rw[e]),fun i hi=>by rw[newFab_gone ns cs rooms default hi,List.length_replicate,List.map_replicate];exact(h.gn i hi).retag fun k e=>same (t:=(2,8,i,0)) (by simp) e⟩
  lost:=⟨[],by rw[h.vl];exact World.ownsRow_nil _ _ _ _,fun g hg=>by rw[h.vl]at hg;simp[Value.ownBlock]at hg,List.Perm.refl _⟩}
end
noncomputable def codeFind(n:Nat):Code→Option (Array Oper)
 |.region id ops _=>if id=n then some ops else none
 |.seq a b=>match codeFind n a with|some x=>some x|none=>codeFind n b
 |.cond _ a b=>match codeFind n a with|some x=>some x|none=>codeFind n b
 |.block _ a=>codeFind n a
 |.loop a=>codeFind n a
 |.scope a=>codeFind n a
 |.rangeFunc _ _ a b=>match codeFind n a with|some x=>some x|none=>codeFind n b
 |_=>none
noncomputable def opsOf(f:Func)(n:Nat):Array Oper:=match f.body with|some c=>(codeFind n c).getD #[]|none=>#[]
noncomputable def ops12:Array Oper:=opsOf Tryz.f11 12
noncomputable def op12(i:Nat):Oper:=ops12.getD i default
section
variable{P:Program}{ops:Array Oper}{Q:Exit→Act→World→Prop}{md:Region.Mode}{S:World→Prop}{lst:Nat}
theorem AnyL.many{js:List Nat}{n:Nat}{done:Array Bool}{a:Act}{w:World}(hr:Region.ready md ops done=js)(h0:js≠[])(h:∀j∈js,∃oj,ops[j]?=some oj∧∀K':Act→World→Prop,(∀a' w',(j≠lst→S w')∧AnyL P md ops Q S lst n (done.setIfInBounds j true) a' w'→K' a' w')→if Region.wanted oj (yielded ops a.tmps)=true then Oper.wp P oj a w K' Q else K' (a.put oj.dst undef) w):AnyL P md ops Q S lst (n+1) done a w:=
 ⟨fun e=>(h0 (hr.symm.trans e)).elim,fun x hx=>by rw[hr]at hx;obtain⟨oj,ho,hk⟩:=h x hx;exact wpOp_step ho fun K' hK=>hk K' fun a' w' q=>hK a' w' q⟩
theorem step_makeMap{a:Act}{w:World}{o:Oper}{t:TypeId}{K:Act→World→Prop}{E:Prop}(hg:o.guard=none)(ho:o.op=Op.makeMap t none)(hK:K (a.put o.dst (.map (some w.heap.size))) (w.alloc (.map #[] 0))):if Region.wanted o (yielded ops a.tmps)=true then Oper.wp P o a w K Q else E:=by
 have hw:Region.wanted o (yielded ops a.tmps)=true:=by simp[Region.wanted,hg]
 rw[if_pos hw];have hrun:=run_makeMap (P:=P) t w;unfold Oper.wp;simp[execOp,ho,hrun,Result.andThen];exact hK
theorem call0_run{a:Act}{w:World}{o:Oper}{f:FuncId}(hE:∀args w,(callFunc f args).run P w=.ok (.enter f args) w)(ho:o.op=Op.call {callee:=Callee.value (Operand.func f),args:=#[],argTypes:=#[]}):(execOp a.eval o).run P w=.ok (.enter f #[]) w:=by simp[execOp,ho,resolve,invoke,hE,go_sem]
theorem step_call0{a:Act}{w:World}{o:Oper}{K:Act→World→Prop}{E:Prop}(hg:o.guard=none){f:FuncId}(hE:∀args w,(callFunc f args).run P w=.ok (.enter f args) w)(ho:o.op=Op.call {callee:=Callee.value (Operand.func f),args:=#[],argTypes:=#[]}){Post:Ending→World→Prop}(hc:Calls P f #[] w Post)(hK:∀e w',Post e w'→∃r,e=.returned r∧K (a.put o.dst r) w'):if Region.wanted o (yielded ops a.tmps)=true then Oper.wp P o a w K Q else E:=by
 have hw:Region.wanted o (yielded ops a.tmps)=true:=by simp[Region.wanted,hg]
 rw[if_pos hw];unfold Oper.wp;rw[call0_run hE ho];exact hc.mono fun e w' h=>by obtain⟨r,rfl,hk⟩:=hK e w' h;exact hk
end
def k12:List Nat:=[45,48,49,53,55,56,57,58]
structure Ag(a a':Act)(F:Nat→Option Value):Prop where
 sz:a'.tmps.size=a.tmps.size
 df:a'.defers=a.defers
 is:∀i v,F i=some v→a'.tmps[i]?=some v
 old:∀i,i∉k12→a'.tmps[i]?=a.tmps[i]?
def updF(F:Nat→Option Value)(i:Nat)(v:Value):Nat→Option Value:=fun j=>if j=i then some v else F j
theorem updF_at{F:Nat→Option Value}{i:Nat}{v:Value}:updF F i v i=some v:=if_pos rfl
theorem updF_far{F:Nat→Option Value}{i j:Nat}{v:Value}(h:j≠i):updF F i v j=F j:=if_neg h
theorem Ag.refl(a:Act):Ag a a (fun _=>none):=⟨rfl,rfl,fun i v e=>(by cases e),fun _ _=>rfl⟩
theorem Ag.put{a a':Act}{F:Nat→Option Value}(h:Ag a a' F){i:Nat}(hi:i∈k12)(hs:60≤a.tmps.size)(v:Value):Ag a (a'.put (some i) v) (updF F i v):=by
 have hi60:i<a'.tmps.size:=by
  rw[h.sz];have:i<60:=by have key:∀j∈k12,j<60:=(by decide);exact key i hi
  omega
 refine⟨by simp[Act.put,h.sz],h.df,fun j u e=>?_,fun j hj=>?_⟩
 ·unfold updF at e;show(a'.tmps.setIfInBounds i v)[j]?=_;rw[Array.getElem?_setIfInBounds];by_cases q:j=i
  ·rw[if_pos q]at e;rw[if_pos q.symm,if_pos hi60];exact e
  ·rw[if_neg q]at e;rw[if_neg (Ne.symm q)];exact h.is j u e
 ·show(a'.tmps.setIfInBounds i v)[j]?=_;rw[Array.getElem?_setIfInBounds,if_neg (fun q=>hj (by rw[←q];exact hi))];exact h.old j hj
theorem Ag.eval{a a':Act}{F:Nat→Option Value}(h:Ag a a' F){i:Nat}{v:Value}(e:F i=some v):a'.eval (.tmp i)=v:=by have:=h.is i v e;show a'.tmps.getD i undef=v;simp[Array.getD_eq_getD_getElem?,this]
theorem Ag.evalOld{a a':Act}{F:Nat→Option Value}(h:Ag a a' F){i:Nat}{v:Value}(hi:i∉k12)(e:a.eval (.tmp i)=v):a'.eval (.tmp i)=v:=by rw[←e];show a'.tmps.getD i undef=a.tmps.getD i undef;rw[Array.getD_eq_getD_getElem?,Array.getD_eq_getD_getElem?,h.old i hi]
theorem Ag.same{a a1 a2:Act}{F G:Nat→Option Value}(h:Ag a a1 F)(k:Ag a a2 G)(he:∀i∈k12,∃v,F i=some v∧G i=some v):a1=a2:=by
 obtain⟨t1,d1⟩:=a1;obtain⟨t2,d2⟩:=a2;have e1:d1=d2:=h.df.trans k.df.symm;have e2:t1=t2:=by
  apply Array.ext_getElem?;intro i;by_cases q:i∈k12
  ·obtain⟨v,f1,f2⟩:=he i q;exact(h.is i v f1).trans (k.is i v f2).symm
  ·exact(h.old i q).trans (k.old i q).symm
 rw[e1,e2]
theorem Ag.canon{a a':Act}{F:Nat→Option Value}(A:Ag a a' F)(sz:60≤a.tmps.size){v1 v2 v3 v4 v5 v6 v7 v8:Value}(h1:F 45=some v1)(h2:F 48=some v2)(h3:F 49=some v3)(h4:F 53=some v4)(h5:F 55=some v5)(h6:F 56=some v6)(h7:F 57=some v7)(h8:F 58=some v8):a'=Act.put (Act.put (Act.put (Act.put (Act.put (Act.put (Act.put (Act.put a (some 45) v1) (some 48) v2) (some 49) v3) (some 53) v4) (some 55) v5) (some 56) v6) (some 57) v7) (some 58) v8:=by
 refine A.same ((((((((((Ag.refl a).put (i:=45) (by decide) sz v1).put (i:=48) (by decide) sz v2).put (i:=49) (by decide) sz v3).put (i:=53) (by decide) sz v4).put (i:=55) (by decide) sz v5).put (i:=56) (by decide) sz v6).put (i:=57) (by decide) sz v7).put (i:=58) (by decide) sz v8)) (fun i hi=>?_);simp only[k12,List.mem_cons,List.not_mem_nil,or_false]at hi;rcases hi with rfl|rfl|rfl|rfl|rfl|rfl|rfl|rfl
 ·exact⟨_,h1,rfl⟩
 ·exact⟨_,h2,rfl⟩
 ·exact⟨_,h3,rfl⟩
 ·exact⟨_,h4,rfl⟩
 ·exact⟨_,h5,rfl⟩
 ·exact⟨_,h6,rfl⟩
 ·exact⟨_,h7,rfl⟩
 ·exact⟨_,h8,rfl⟩
structure I12(w0:World)(ns:List Nd)(cs:List Cb)(rooms:List Int)(vN vC vI vA:Option Value)(bk mf ml:Option Nat)(w:World):Prop where
 b:Below w0.heap.size w0 w
 n:∀v,vN=some v→w.ownsRow w0.heap.size 83 3 v ns.length (ns.flatMap cN)
 c:∀v,vC=some v→w.ownsRow w0.heap.size 86 6 v cs.length (cs.flatMap cC)
 i:∀v,vI=some v→w.ownsRow w0.heap.size 3 1 v rooms.length (rooms.flatMap cI)
 a:∀v,vA=some v→w.ownsRow w0.heap.size 3 1 v (rooms.length+rooms.length) (rooms.flatMap cI++rooms.flatMap cI)
 k:∀g,bk=some g→Bk w g 0 0 0∧w0.heap.size≤g
 f:∀g,mf=some g→OMap w Tryz.prog 3 g 0 (fun _=>none)∧w0.heap.size≤g
 l:∀g,ml=some g→OMap w Tryz.prog 3 g 0 (fun _=>none)∧w0.heap.size≤g
 fl:∀g,mf=some g→ml≠some g
section
variable{w0 w w':World}{ns:List Nd}{cs:List Cb}{rooms:List Int}{vN vC vI vA:Option Value}{bk mf ml:Option Nat}
theorem I12.start(w0:World)(ns:List Nd)(cs:List Cb)(rooms:List Int)(w:World)(hb:Below w0.heap.size w0 w):I12 w0 ns cs rooms none none none none none none none w:=
 ⟨hb,fun v e=>(by cases e),fun v e=>(by cases e),fun v e=>(by cases e),fun v e=>(by cases e),fun g e=>(by cases e),fun g e=>(by cases e),fun g e=>(by cases e),fun g e=>(by cases e)⟩
theorem I12.below(h:I12 w0 ns cs rooms vN vC vI vA bk mf ml w)(hb:Below w.heap.size w w'):I12 w0 ns cs rooms vN vC vI vA bk mf ml w':=by
 have hc:Ch (fun _=>False) w w':=Ch.of_below hb;exact⟨h.b.trans (hb.mono h.b.size),fun v e=>own_ch (h.n v e) hc fun _ _ s=>s,fun v e=>own_ch (h.c v e) hc fun _ _ s=>s,fun v e=>own_ch (h.i v e) hc fun _ _ s=>s,fun v e=>own_ch (h.a v e) hc fun _ _ s=>s,
  fun g e=>⟨Blk.ch (h.k g e).1 hc id,(h.k g e).2⟩,fun g e=>⟨omap_ch (h.f g e).1 hc id,(h.f g e).2⟩,fun g e=>⟨omap_ch (h.l g e).1 hc id,(h.l g e).2⟩,h.fl⟩
theorem I12.setN(h:I12 w0 ns cs rooms vN vC vI vA bk mf ml w){v:Value}(ho:w'.ownsRow w.heap.size 83 3 v ns.length (ns.flatMap cN))(hb:Below w.heap.size w w'):I12 w0 ns cs rooms (some v) vC vI vA bk mf ml w':=
 {h.below hb with n:=fun u e=>(by injection e with e;subst e;exact own_base ho h.b.size)}
theorem I12.setC(h:I12 w0 ns cs rooms vN vC vI vA bk mf ml w){v:Value}(ho:w'.ownsRow w.heap.size 86 6 v cs.length (cs.flatMap cC))(hb:Below w.heap.size w w'):I12 w0 ns cs rooms vN (some v) vI vA bk mf ml w':=
 {h.below hb with c:=fun u e=>(by injection e with e;subst e;exact own_base ho h.b.size)}
theorem I12.setI(h:I12 w0 ns cs rooms vN vC vI vA bk mf ml w){v:Value}(ho:w'.ownsRow w.heap.size 3 1 v rooms.length (rooms.flatMap cI))(hb:Below w.heap.size w w'):I12 w0 ns cs rooms vN vC (some v) vA bk mf ml w':=
 {h.below hb with i:=fun u e=>(by injection e with e;subst e;exact own_base ho h.b.size)}
theorem I12.setK(h:I12 w0 ns cs rooms vN vC vI vA bk mf ml w):I12 w0 ns cs rooms vN vC vI vA (some w.heap.size) mf ml (w.alloc (.cells (bkC 0 0 0) 146)):=
 {h.below ((Below.refl _ _).alloc (Nat.le_refl _) _)with k:=fun u e=>(by injection e with e;subst e;exact⟨Blk.new w _ _,h.b.size⟩)}
theorem I12.setF(h:I12 w0 ns cs rooms vN vC vI vA bk mf ml w):I12 w0 ns cs rooms vN vC vI vA bk (some w.heap.size) ml (w.alloc (.map #[] 0)):=
 {h.below ((Below.refl _ _).alloc (Nat.le_refl _) _)with f:=fun u e=>by(injection e with e;subst e;exact⟨OMap.made w _ _,h.b.size⟩),fl:=fun g e q=>(by injection e with e;subst e;have:=(h.l _ q).1.ltb;omega)}
theorem I12.setL(h:I12 w0 ns cs rooms vN vC vI vA bk mf ml w):I12 w0 ns cs rooms vN vC vI vA bk mf (some w.heap.size) (w.alloc (.map #[] 0)):=
 {h.below ((Below.refl _ _).alloc (Nat.le_refl _) _)with l:=fun u e=>by(injection e with e;subst e;exact⟨OMap.made w _ _,h.b.size⟩),fl:=fun g e q=>(by injection q with q;subst q;have:=(h.f _ e).1.ltb;omega)}
theorem I12.setA{v v':Value}(h:I12 w0 ns cs rooms vN vC (some v) vA bk mf ml w)(ho:w'.ownsRow w0.heap.size 3 1 v' (rooms.length+rooms.length) (rooms.flatMap cI++rooms.flatMap cI))(gr:w.grownBy w' v.ownBlock):I12 w0 ns cs rooms vN vC none (some v') bk mf ml w':=by
 have hc:Ch (fun k=>v.ownBlock=some k) w w':=(Ch.refl _ w).grown gr fun g hg=>.inl hg;have hI:=h.i v rfl;have ty:∀g,v.ownBlock=some g→∃t C,Blk w g t C∧t=3:=fun g hg=>by obtain⟨C,hb⟩:=own_blk hI g hg;exact⟨_,C,hb,rfl⟩
 have nb:∀{g:Nat} {t:TypeId} {C:Array Value},Blk w g t C→t≠3→¬v.ownBlock=some g:=fun{g t C} hb ht q=>by obtain⟨t',C',hb',e⟩:=ty g q;exact ht ((Blk.same hb hb').1.trans e)
 have nm:∀{g:Nat},OMap w Tryz.prog 3 g 0 (fun _=>none)→¬v.ownBlock=some g:=fun{g} hm q=>by obtain⟨t',C',hb',e⟩:=ty g q;obtain⟨D,⟨es,clock,h1,_⟩,_⟩:=hm;unfold Blk at hb';rw[h1]at hb';injection hb' with hb';cases hb'
 have ho':∀{t:TypeId} {m n:Nat} {u:Value} {xs:List Value},w.ownsRow w0.heap.size t m u n xs→t≠3→w'.ownsRow w0.heap.size t m u n xs:=fun{t m n u xs} hu ht=>own_ty hu hc fun g s=>by obtain⟨t',C',hb',e⟩:=ty g s;exact⟨t',C',hb',fun q=>ht (by rw[←q,e])⟩
 refine⟨h.b.trans (hc.below (B:=w0.heap.size) h.b.size fun k s=>(hI.lt k s).1),fun u e=>ho' (h.n u e) (by decide),fun u e=>ho' (h.c u e) (by decide),fun u e=>(by cases e),fun u e=>(by injection e with e;subst e;exact ho),fun g e=>⟨Blk.ch (h.k g e).1 hc (nb (h.k g e).1 (by decide)),(h.k g e).2⟩,fun g e=>⟨omap_ch (h.f g e).1 hc (nm (h.f g e).1),(h.f g e).2⟩,fun g e=>⟨omap_ch (h.l g e).1 hc (nm (h.l g e).1),(h.l g e).2⟩,h.fl⟩
end
theorem o12_2:ops12[2]?=some (op12 2):=by kernel_rfl
theorem g12_2:(op12 2).guard=none:=by kernel_rfl
theorem p12_2:(op12 2).op=Op.call {callee:=Callee.value (Operand.func 36),args:=#[Operand.tmp 44],argTypes:=#[22]}:=by kernel_rfl
theorem d12_2:(op12 2).dst=some 45:=by kernel_rfl
theorem o12_5:ops12[5]?=some (op12 5):=by kernel_rfl
theorem g12_5:(op12 5).guard=none:=by kernel_rfl
theorem p12_5:(op12 5).op=Op.call {callee:=Callee.value (Operand.func 37),args:=#[Operand.tmp 47],argTypes:=#[23]}:=by kernel_rfl
theorem d12_5:(op12 5).dst=some 48:=by kernel_rfl
theorem o12_6:ops12[6]?=some (op12 6):=by kernel_rfl
theorem g12_6:(op12 6).guard=none:=by kernel_rfl
theorem p12_6:(op12 6).op=Op.build 25 #[(0,Operand.tmp 45),(1,Operand.tmp 48)]:=by kernel_rfl
theorem d12_6:(op12 6).dst=some 49:=by kernel_rfl
theorem o12_10:ops12[10]?=some (op12 10):=by kernel_rfl
theorem g12_10:(op12 10).guard=none:=by kernel_rfl
theorem p12_10:(op12 10).op=Op.call {callee:=Callee.value (Operand.func 38),args:=#[Operand.tmp 52],argTypes:=#[26]}:=by kernel_rfl
theorem d12_10:(op12 10).dst=some 53:=by kernel_rfl
theorem o12_12:ops12[12]?=some (op12 12):=by kernel_rfl
theorem g12_12:(op12 12).guard=none:=by kernel_rfl
theorem p12_12:(op12 12).op=Op.call {callee:=Callee.builtin Builtin.append,args:=#[Operand.tmp 53,Operand.tmp 54],argTypes:=#[26,26]}:=by kernel_rfl
theorem d12_12:(op12 12).dst=some 55:=by kernel_rfl
theorem o12_13:ops12[13]?=some (op12 13):=by kernel_rfl
theorem g12_13:(op12 13).guard=none:=by kernel_rfl
theorem p12_13:(op12 13).op=Op.call {callee:=Callee.value (Operand.func 39),args:=#[],argTypes:=#[]}:=by kernel_rfl
theorem d12_13:(op12 13).dst=some 56:=by kernel_rfl
theorem o12_14:ops12[14]?=some (op12 14):=by kernel_rfl
theorem g12_14:(op12 14).guard=none:=by kernel_rfl
theorem p12_14:(op12 14).op=Op.makeMap 90 none:=by kernel_rfl
theorem d12_14:(op12 14).dst=some 57:=by kernel_rfl
theorem o12_15:ops12[15]?=some (op12 15):=by kernel_rfl
theorem g12_15:(op12 15).guard=none:=by kernel_rfl
theorem p12_15:(op12 15).op=Op.makeMap 91 none:=by kernel_rfl
theorem d12_15:(op12 15).dst=some 58:=by kernel_rfl
theorem o12_16:ops12[16]?=some (op12 16):=by kernel_rfl
theorem g12_16:(op12 16).guard=none:=by kernel_rfl
theorem p12_16:(op12 16).op=Op.build 100 #[(0,Operand.tmp 49),(1,Operand.tmp 51),(2,Operand.tmp 55),(7,Operand.tmp 56),(11,Operand.tmp 57),(12,Operand.tmp 58)]:=by kernel_rfl
theorem d12_16:(op12 16).dst=some 59:=by kernel_rfl
theorem o12_17:ops12[17]?=some (op12 17):=by kernel_rfl
theorem g12_17:(op12 17).guard=none:=by kernel_rfl
theorem p12_17:(op12 17).op=Op.box 100 (Operand.tmp 59):=by kernel_rfl
theorem d12_17:(op12 17).dst=some 60:=by kernel_rfl
theorem o12_18:ops12[18]?=some (op12 18):=by kernel_rfl
theorem g12_18:(op12 18).guard=none:=by kernel_rfl
theorem p12_18:(op12 18).op=Op.assign (Operand.tmp 60):=by kernel_rfl
theorem d12_18:(op12 18).dst=some 9:=by kernel_rfl
theorem one12(l:List Int):∀u∈l.flatMap cI,u.oneCell'=true:=by intro u hu;obtain⟨x,_,hx⟩:=List.mem_flatMap.1 hu;simp only[cI,List.mem_cons,List.not_mem_nil,or_false]at hx;rcases hx with rfl;rfl
def D12(c:Nat)(e f:Bool):Array Bool:=#[true,true,decide (1≤c),true,true,decide (2≤c),decide (2≤c),true,true,true,decide (3≤c),true,decide (4≤c),decide (5≤c),e,f,false,false,false]
def next12(c:Nat):List Nat:=if c=0 then[2]else if c=1 then[5]else if c=2 then[10]else if c=3 then[12]else if c=4 then[13]else[]
def fuel12(c:Nat)(e f:Bool):Nat:=(if c≤1 then 9-c else 8-c)+(if e then 0 else 1)+(if f then 0 else 1)
theorem ready12:∀(c:Fin 6) (e f:Bool),(c.val,e,f)≠(5,true,true)→Region.ready .any ops12 (D12 c.val e f)=next12 c.val++((if e then[]else[14])++if f then[]else[15]):=by decide+kernel
theorem free12:∀e f:Bool,(Region.noSelect ops12&&Region.free .any ops12 ((D12 1 e f).setIfInBounds 5 true) 6&&(Region.ready .any ops12 ((D12 1 e f).setIfInBounds 5 true)).contains 6&&(waitsT .any ops12 6 18 6&&6 !=18&&closedB .any ops12 ((D12 1 e f).setIfInBounds 5 true)))=true:=by decide+kernel
def opt(b:Bool){α:Type}(x:α):Option α:=if b then some x else none
structure S12(w0:World)(ns:List Nd)(cs:List Cb)(rooms:List Int)(a:Act)(c:Nat)(e f:Bool)(F:Nat→Option Value)(a':Act)(w':World)(vN vC vI vA:Value)(bk mf ml:Nat):Prop where
 i:I12 w0 ns cs rooms (opt (decide (1≤c)) vN) (opt (decide (2≤c)) vC) (opt (decide (c=3)) vI) (opt (decide (4≤c)) vA) (opt (decide (5≤c)) bk) (opt e mf) (opt f ml) w'
 g:Ag a a' F
 h45:1≤c→F 45=some vN
 h48:2≤c→F 48=some vC
 h49:2≤c→F 49=some (.agg #[vN,vC])
 h53:3≤c→F 53=some vI
 h55:4≤c→F 55=some vA
 h56:5≤c→F 56=some (.pointer (some ⟨bk,0,none⟩))
 h57:e=true→F 57=some (.map (some mf))
 h58:f=true→F 58=some (.map (some ml))
theorem far12{F:Nat→Option Value}{i j:Nat}{v u:Value}{p:Prop}(h:p→F j=some u)(hj:j≠i):p→updF F i v j=some u:=fun q=>(updF_far hj).trans (h q)
theorem st12{w0:World}{ns:List Nd}{cs:List Cb}{rooms:List Int}{An Ac Ar:Option Addr}{cn cc cr:Nat}{a:Act}{Q:Exit→Act→World→Prop}{S:World→Prop}(hS:∀w',Below w0.heap.size w0 w'→S w')(hQp:∀c a i v w,Q (.panic c) (Act.put a (some i) v) w→Q (.panic c) a w)(sz:60≤a.tmps.size)(e44:a.eval (.tmp 44)=.slice An ns.length cn)(e47:a.eval (.tmp 47)=.slice Ac cs.length cc)(e52:a.eval (.tmp 52)=.slice Ar rooms.length cr)(e54:a.eval (.tmp 54)=.slice Ar rooms.length cr)(kN:∀w',Below w0.heap.size w0 w'→Calls Tryz.prog 36 #[.slice An ns.length cn] w' (RowPostW 83 3 cN ns w'))(kC:∀w',Below w0.heap.size w0 w'→Calls Tryz.prog 37 #[.slice Ac cs.length cc] w' (RowPostW 86 6 cC cs w'))(kI:∀w',Below w0.heap.size w0 w'→Calls Tryz.prog 38 #[.slice Ar rooms.length cr] w' (RowPostW 3 1 cI rooms w'))(rd:∀w',Below w0.heap.size w0 w'→Reads w' w0.heap.size 1 Ar rooms.length (rooms.flatMap cI))(hl:rooms.length≤4)(fin:∀(F:Nat→Option Value) (a':Act) (w':World) (vN vC vI vA:Value) (bk mf ml:Nat),S12 w0 ns cs rooms a 5 true true F a' w' vN vC vI vA bk mf ml→AnyL Tryz.prog .any ops12 Q S 18 3 (D12 5 true true) a' w'):∀(n c:Nat) (e f:Bool),c≤5→fuel12 c e f=n→∀(F:Nat→Option Value) (a':Act) (w':World) (vN vC vI vA:Value) (bk mf ml:Nat),S12 w0 ns cs rooms a c e f F a' w' vN vC vI vA bk mf ml→AnyL Tryz.prog .any ops12 Q S 18 n (D12 c e f) a' w':=by
 intro n
 induction n using Nat.strongRecOn with
 |_ n0 ih0=>
  intro c e f hc hf;obtain⟨n,rfl⟩:∃n,n0=n+1:=⟨n0-1,by unfold fuel12 at hf;split at hf<;>omega⟩;have ih:=ih0 n (by omega);revert hf;intro hf F a' w' vN vC vI vA bk mf ml s;by_cases hend:(c,e,f)=(5,true,true)
  ·simp only[Prod.mk.injEq]at hend;obtain⟨rfl,rfl,rfl⟩:=hend;have:n=2:=(by unfold fuel12 at hf;simp at hf;omega);subst this;exact fin F a' w' vN vC vI vA bk mf ml s
  have hr:=ready12 ⟨c,by omega⟩ e f hend;have I:=s.i;have A:=s.g;refine AnyL.many hr (fun q=>?_) (fun j hj=>?_)
  ·obtain⟨q1,q2⟩:=List.append_eq_nil_iff.1 q;have c6:c=5:=by
    unfold next12 at q1;rcases(show c=0∨c=1∨c=2∨c=3∨c=4∨c=5 by omega)with rfl|rfl|rfl|rfl|rfl|rfl<;>simp_all
   cases e<;>cases f<;>simp_all
  have hj2:j∈next12 c∨(j=14∧e=false)∨(j=15∧f=false):=by
   rcases List.mem_append.1 hj with q|q
   ·exact .inl q
   ·refine .inr ?_;cases e<;>cases f<;>simp at q⊢ <;>omega
  rcases hj2 with hj2|⟨rfl,rfl⟩|⟨rfl,rfl⟩
  ·rcases(show c=0∨c=1∨c=2∨c=3∨c=4∨c=5 by omega)with rfl|rfl|rfl|rfl|rfl|rfl
   ·obtain rfl:j=2:=by simpa[next12]using hj2
    refine⟨op12 2,o12_2,fun K' hK=>?_⟩;refine step_call1 g12_2 (enters_of (P:=Tryz.prog) Tryz.func36 (by kernel_rfl) rfl) p12_2 (A.evalOld (by decide) e44) (kN _ I.b) ?_;rintro er w2 ⟨v,rfl,ho,hb⟩;refine⟨v,rfl,hK _ _ ⟨fun _=>hS _ (I.b.trans (hb.mono I.b.size)),?_⟩⟩;rw[d12_2];exact ih 1 e f (by decide) (by unfold fuel12 at hf⊢;simp at hf⊢;omega) _ _ _ v vC vI vA bk mf ml ⟨I.setN ho hb,A.put (by decide) sz v,fun _=>updF_at,by omega,by omega,by omega,by omega,by omega,far12 s.h57 (by decide),far12 s.h58 (by decide)⟩
   ·obtain rfl:j=5:=by simpa[next12]using hj2
    refine⟨op12 5,o12_5,fun K' hK=>?_⟩;refine step_call1 g12_5 (enters_of (P:=Tryz.prog) Tryz.func37 (by kernel_rfl) rfl) p12_5 (A.evalOld (by decide) e47) (kC _ I.b) ?_;rintro er w2 ⟨v,rfl,ho,hb⟩;refine⟨v,rfl,hK _ _ ⟨fun _=>hS _ (I.b.trans (hb.mono I.b.size)),?_⟩⟩;rw[d12_5];obtain⟨k,rfl⟩:∃k,n=k+1:=⟨n-1,by unfold fuel12 at hf;simp at hf;omega⟩;have A2:=A.put (i:=48) (by decide) sz v;refine AnyL.tk 6 (v:=.agg #[vN,v]) (hS _ (I.b.trans (hb.mono I.b.size))) ?_ o12_6 (free12 e f) (by simp[Region.wanted,g12_6]) (fun w3 _=>?_) (fun c b w5 h=>hQp c b 49 _ w5 (by rw[d12_6]at h;exact h))
    ·rw[d12_6];exact ih0 k (by omega) 2 e f (by decide) (by unfold fuel12 at hf⊢;simp at hf⊢;omega) _ _ _ vN v vI vA bk mf ml ⟨I.setC ho hb,A2.put (by decide) sz _,fun _=>far12 (far12 s.h45 (by decide)) (by decide) (by decide),fun _=>far12 (fun _=>updF_at) (by decide) (by decide:0≤0),fun _=>updF_at,by omega,by omega,by omega,far12 (far12 s.h57 (by decide)) (by decide),far12 (far12 s.h58 (by decide)) (by decide)⟩
    ·have q1:=A2.eval ((updF_far (by decide)).trans (s.h45 (by decide)));have q2:=A2.eval (i:=48) updF_at;obtain⟨b1,c1,rfl⟩:=own_formN (I.n vN rfl);obtain⟨b2,c2,rfl⟩:=own_formN ho;generalize hA9:Act.put a' (some 48) _=a9 at *;clear hA9 A2;simp only[execOp,p12_6];unfold Act.eval at q1 q2⊢;simp only[Array.getD_eq_getD_getElem?]at q1 q2;simp[q1,q2,go_sem]
   ·obtain rfl:j=10:=by simpa[next12]using hj2
    refine⟨op12 10,o12_10,fun K' hK=>?_⟩;refine step_call1 g12_10 (enters_of (P:=Tryz.prog) Tryz.func38 (by kernel_rfl) rfl) p12_10 (A.evalOld (by decide) e52) (kI _ I.b) ?_;rintro er w2 ⟨v,rfl,ho,hb⟩;refine⟨v,rfl,hK _ _ ⟨fun _=>hS _ (I.b.trans (hb.mono I.b.size)),?_⟩⟩;rw[d12_10];exact ih 3 e f (by decide) (by unfold fuel12 at hf⊢;simp at hf⊢;omega) _ _ _ vN vC v vA bk mf ml ⟨I.setI ho hb,A.put (by decide) sz v,fun _=>far12 s.h45 (by decide) (by decide),fun _=>far12 s.h48 (by decide) (by decide),fun _=>far12 s.h49 (by decide) (by decide),fun _=>updF_at,by omega,by omega,far12 s.h57 (by decide),far12 s.h58 (by decide)⟩
   ·obtain rfl:j=12:=by simpa[next12]using hj2
    refine⟨op12 12,o12_12,fun K' hK=>?_⟩;obtain⟨j0,hj0,hy0,hy1,hy2⟩:=info_parts infoIntW;refine step_append_any _ g12_12 (.tmp 53) (.tmp 54) 26 p12_12 w0.heap.size 3 j0 _ 1 8 Tryz.underlying26 hj0 hy0 hy1 hy2 rfl (by decide) vI rooms.length (rooms.flatMap cI) (A.eval (s.h53 (by decide))) (I.i vI rfl) w0.heap.size Ar rooms.length cr (rooms.flatMap cI) (A.evalOld (by decide) e54) (rd _ I.b) (one12 rooms) (by unfold maxLen;omega) (by omega) I.b.size ?_;intro v w2 ho gr loc;have I2:=I.setA ho gr;refine hK _ _ ⟨fun _=>hS _ I2.b,?_⟩;rw[d12_12];exact ih 4 e f (by decide) (by unfold fuel12 at hf⊢;simp at hf⊢;omega) _ _ _ vN vC vI v bk mf ml ⟨I2,A.put (by decide) sz v,fun _=>far12 s.h45 (by decide) (by decide),fun _=>far12 s.h48 (by decide) (by decide),fun _=>far12 s.h49 (by decide) (by decide),fun _=>far12 s.h53 (by decide) (by decide),fun _=>updF_at,by omega,far12 s.h57 (by decide),far12 s.h58 (by decide)⟩
   ·obtain rfl:j=13:=by simpa[next12]using hj2
    refine⟨op12 13,o12_13,fun K' hK=>?_⟩;refine step_call0 g12_13 (enters_of (P:=Tryz.prog) Tryz.func39 (by kernel_rfl) rfl) p12_13 (new_any _) ?_;rintro er w2 ⟨rfl,rfl⟩;have I2:=I.setK;refine⟨_,rfl,hK _ _ ⟨fun _=>hS _ I2.b,?_⟩⟩;rw[d12_13];exact ih 5 e f (by decide) (by unfold fuel12 at hf⊢;simp at hf⊢;omega) _ _ _ vN vC vI vA _ mf ml ⟨I2,A.put (by decide) sz _,fun _=>far12 s.h45 (by decide) (by decide),fun _=>far12 s.h48 (by decide) (by decide),fun _=>far12 s.h49 (by decide) (by decide),fun _=>far12 s.h53 (by decide) (by decide),fun _=>far12 s.h55 (by decide) (by decide),fun _=>updF_at,far12 s.h57 (by decide),far12 s.h58 (by decide)⟩
   ·simp[next12]at hj2
  ·have I2:=I.setF;refine⟨op12 14,o12_14,fun K' hK=>step_makeMap g12_14 p12_14 (hK _ _ ⟨fun _=>hS _ I2.b,?_⟩)⟩;rw[d12_14];exact ih c true f hc (by unfold fuel12 at hf⊢;simp at hf⊢;omega) _ _ _ vN vC vI vA bk _ ml ⟨I2,A.put (by decide) sz _,far12 s.h45 (by decide),far12 s.h48 (by decide),far12 s.h49 (by decide),far12 s.h53 (by decide),far12 s.h55 (by decide),far12 s.h56 (by decide),fun _=>updF_at,far12 s.h58 (by decide)⟩
  ·have I2:=I.setL;refine⟨op12 15,o12_15,fun K' hK=>step_makeMap g12_15 p12_15 (hK _ _ ⟨fun _=>hS _ I2.b,?_⟩)⟩;rw[d12_15];exact ih c e true hc (by unfold fuel12 at hf⊢;simp at hf⊢;omega) _ _ _ vN vC vI vA bk mf _ ⟨I2,A.put (by decide) sz _,far12 s.h45 (by decide),far12 s.h48 (by decide),far12 s.h49 (by decide),far12 s.h53 (by decide),far12 s.h55 (by decide),far12 s.h56 (by decide),far12 s.h57 (by decide),fun _=>updF_at⟩
theorem step_box12{P:Program}{ops:Array Oper}{a:Act}{w:World}{o:Oper}{t:TypeId}{x:Operand}{K:Act→World→Prop}{Q:Exit→Act→World→Prop}{E:Prop}(hg:o.guard=none)(ho:o.op=Op.box t x){v:Value}{cs:Array Value}(hx:a.eval x=v)(hv:v.cells=cs)(hK:K (a.put o.dst (.pointer (some ⟨w.heap.size,0,none⟩))) (w.alloc (.cells cs t))):if Region.wanted o (yielded ops a.tmps)=true then Oper.wp P o a w K Q else E:=by
 have hw:Region.wanted o (yielded ops a.tmps)=true:=by simp[Region.wanted,hg]
 rw[if_pos hw];subst hv;have hr:(execOp a.eval o).run P w=.ok (.value (.pointer (some ⟨w.heap.size,0,none⟩))) (w.alloc (.cells v.cells t)):=by simp only[execOp,ho,hx];rfl
 unfold Oper.wp;rw[hr];exact hK
theorem step_assign12{P:Program}{ops:Array Oper}{a:Act}{w:World}{o:Oper}{x:Operand}{K:Act→World→Prop}{Q:Exit→Act→World→Prop}{E:Prop}(hg:o.guard=none)(ho:o.op=Op.assign x){v:Value}(hx:a.eval x=v)(hK:K (a.put o.dst v) w):if Region.wanted o (yielded ops a.tmps)=true then Oper.wp P o a w K Q else E:=by
 have hw:Region.wanted o (yielded ops a.tmps)=true:=by simp[Region.wanted,hg]
 rw[if_pos hw];have hr:(execOp a.eval o).run P w=.ok (.value v) w:=by simp only[execOp,ho,hx];rfl
 unfold Oper.wp;rw[hr];exact hK
theorem eval_put{a:Act}{i:Nat}{v:Value}(h:i<a.tmps.size):(a.put (some i) v).eval (.tmp i)=v:=by show(a.tmps.setIfInBounds i v).getD i undef=v;simp[Array.getD_eq_getD_getElem?,h]
def nilS:Value:=.slice none 0 0
theorem fin12{Q:Exit→Act→World→Prop}{S:World→Prop}{a':Act}{w':World}{bN bC bA:Option Addr}{nN kN nC kC nA kA m bk mf ml:Nat}(sz:60<a'.tmps.size)(hQp:∀c a i v w,Q (.panic c) (Act.put a (some i) v) w→Q (.panic c) a w)(SS:S w')(e49:a'.eval (.tmp 49)=.agg #[.slice bN nN kN,.slice bC nC kC])(e51:a'.eval (.tmp 51)=.int .i64 m)(e55:a'.eval (.tmp 55)=.slice bA nA kA)(e56:a'.eval (.tmp 56)=.pointer (some ⟨bk,0,none⟩))(e57:a'.eval (.tmp 57)=.map (some mf))(e58:a'.eval (.tmp 58)=.map (some ml))(SB:S (w'.alloc (.cells #[.slice bN nN kN,.slice bC nC kC,.int .i64 m,.slice bA nA kA,.slice none 0 0,.slice none 0 0,.slice none 0 0,.slice none 0 0,.slice none 0 0,.slice none 0 0,.slice none 0 0,.pointer (some ⟨bk,0,none⟩),.bool false,.int .i64 0,.int .i64 0,.map (some mf),.map (some ml),.slice none 0 0,.slice none 0 0,.slice none 0 0] 100)))(fin:∀v,Q .normal (Act.put (Act.put (Act.put a' (some 59) v) (some 60) (.pointer (some ⟨w'.heap.size,0,none⟩))) (some 9) (.pointer (some ⟨w'.heap.size,0,none⟩))) (w'.alloc (.cells #[.slice bN nN kN,.slice bC nC kC,.int .i64 m,.slice bA nA kA,.slice none 0 0,.slice none 0 0,.slice none 0 0,.slice none 0 0,.slice none 0 0,.slice none 0 0,.slice none 0 0,.pointer (some ⟨bk,0,none⟩),.bool false,.int .i64 0,.int .i64 0,.map (some mf),.map (some ml),.slice none 0 0,.slice none 0 0,.slice none 0 0] 100))):AnyL Tryz.prog .any ops12 Q S 18 3 (D12 5 true true) a' w':=by
 refine AnyL.takeT (i:=16) (v:=.agg #[.slice bN nN kN,.slice bC nC kC,.int .i64 m,.slice bA nA kA,.slice none 0 0,.slice none 0 0,.slice none 0 0,.slice none 0 0,.slice none 0 0,.slice none 0 0,.slice none 0 0,.pointer (some ⟨bk,0,none⟩),.bool false,.int .i64 0,.int .i64 0,.map (some mf),.map (some ml),.slice none 0 0,.slice none 0 0,.slice none 0 0]) o12_16 (by kernel_rfl) (by kernel_rfl) (by kernel_rfl) (by kernel_rfl) (fun c b w5 h=>hQp c b 59 _ w5 (by rw[d12_16]at h;exact h)) (Or.inl ⟨by simp[Region.wanted,g12_16],fun w3 _=>?_⟩) SS ?_
 ·unfold Act.eval at e49 e51 e55 e56 e57 e58;simp only[Array.getD_eq_getD_getElem?]at e49 e51 e55 e56 e57 e58;simp only[execOp,p12_16];unfold Act.eval;simp[e49,e51,e55,e56,e57,e58,go_sem]
 rw[d12_16];rw[show Array.setIfInBounds (D12 5 true true) 16 true=#[true,true,true,true,true,true,true,true,true,true,true,true,true,true,true,true,true,false,false]from by kernel_rfl];refine AnyL.many (js:=[17]) (by kernel_rfl) (by decide) (fun j hj=>?_);simp only[List.mem_cons,List.not_mem_nil,or_false]at hj;subst hj;refine⟨op12 17,o12_17,fun K' hK=>?_⟩;refine step_box12 g12_17 p12_17 (eval_put (by omega)) rfl (hK _ _ ⟨fun _=>SB,?_⟩);rw[d12_17];rw[show Array.setIfInBounds #[true,true,true,true,true,true,true,true,true,true,true,true,true,true,true,true,true,false,false] 17 true=#[true,true,true,true,true,true,true,true,true,true,true,true,true,true,true,true,true,true,false]from by kernel_rfl];refine AnyL.many (js:=[18]) (by kernel_rfl) (by decide) (fun j hj=>?_);simp only[List.mem_cons,List.not_mem_nil,or_false]at hj;subst hj;refine⟨op12 18,o12_18,fun K' hK=>?_⟩;refine step_assign12 g12_18 p12_18 (eval_put (by simp[Act.put];omega)) (hK _ _ ⟨fun h=>absurd rfl h,?_⟩);rw[d12_18];exact AnyL.done (by kernel_rfl) (fin _) _
theorem AnyL.cast{P:Program}{ops ops':Array Oper}{Q:Exit→Act→World→Prop}{md:Region.Mode}{S:World→Prop}{lst n:Nat}{done:Array Bool}{a:Act}{w:World}(h:ops=ops')(k:AnyL P md ops' Q S lst n done a w):AnyL P md ops Q S lst n done a w:=by rw[h];exact k
def roomB(r:Int):Bool:=decide (1≤r)&&decide (r≤64)
instance:Inhabited BxL:=⟨⟨fun _=>0,fun _ _=>nilS,fun _=>nilS,fun _=>nilS,fun _ _=>0,fun _ _=>0,fun _ _=>0,fun _ _=>0,0⟩⟩
theorem NwM.start{ns:List Nd}{cs:List Cb}{rooms:List Int}{w0 w:World}{vN vC vA:Value}{bk mf ml:Nat}(h:I12 w0 ns cs rooms (some vN) (some vC) none (some vA) (some bk) (some mf) (some ml) w)(C:Nat→Nat→Int):∃τ L,NwM τ (w.alloc (.cells #[vN,vC,.int .i64 rooms.length,vA,.slice none 0 0,.slice none 0 0,.slice none 0 0,.slice none 0 0,.slice none 0 0,.slice none 0 0,.slice none 0 0,.pointer (some ⟨bk,0,none⟩),.bool false,.int .i64 0,.int .i64 0,.map (some mf),.map (some ml),.slice none 0 0,.slice none 0 0,.slice none 0 0] 100)) w.heap.size ns cs rooms L 0 0 0 C 0 0∧(L.vn=vN∧L.vc=vC)∧(∀q,(τ q).1<3)∧(∀q,q<w0.heap.size→τ q=(1,0,0,0)):=by
 obtain⟨w1,hw1⟩:∃w1:World,w.alloc (.cells #[vN,vC,.int .i64 rooms.length,vA,.slice none 0 0,.slice none 0 0,.slice none 0 0,.slice none 0 0,.slice none 0 0,.slice none 0 0,.slice none 0 0,.pointer (some ⟨bk,0,none⟩),.bool false,.int .i64 0,.int .i64 0,.map (some mf),.map (some ml),.slice none 0 0,.slice none 0 0,.slice none 0 0] 100)=w1:=⟨_,rfl⟩;have RT:Blk w1 w.heap.size 100 #[vN,vC,.int .i64 rooms.length,vA,.slice none 0 0,.slice none 0 0,.slice none 0 0,.slice none 0 0,.slice none 0 0,.slice none 0 0,.slice none 0 0,.pointer (some ⟨bk,0,none⟩),.bool false,.int .i64 0,.int .i64 0,.map (some mf),.map (some ml),.slice none 0 0,.slice none 0 0,.slice none 0 0]:=by rw[←hw1];exact Blk.new w _ _
 have h1:=h.below (w':=w1) (by rw[←hw1];exact(Below.refl _ _).alloc (Nat.le_refl _) _);rw[hw1];obtain⟨b,hb⟩:∃b,w.heap.size=b:=⟨_,rfl⟩;have lk:bk<b:=by have:=Blk.lt (h.k bk rfl).1;omega
 have lf:mf<b:=by have:=(h.f mf rfl).1.ltb;omega
 have ll:ml<b:=by have:=(h.l ml rfl).1.ltb;omega
 have lN:∀g,vN.ownBlock=some g→g<b:=fun g hg=>by have:=((h.n vN rfl).lt g hg).2;omega
 have lC:∀g,vC.ownBlock=some g→g<b:=fun g hg=>by have:=((h.c vC rfl).lt g hg).2;omega
 have lA:∀g,vA.ownBlock=some g→g<b:=fun g hg=>by have:=((h.a vA rfl).lt g hg).2;omega
 have mc:∀{g:Nat} {t:TypeId} {C:Array Value},OMap w1 Tryz.prog 3 g 0 (fun _=>none)→Blk w1 g t C→False:=fun{g t C} hm hc=>by obtain⟨D,⟨es,clock,h1,_⟩,_⟩:=hm;unfold Blk at hc;rw[h1]at hc;injection hc with hc;cases hc
 have kf:bk≠mf:=fun e=>mc (h1.f mf rfl).1 (e▸(h1.k bk rfl).1);have kl:bk≠ml:=fun e=>mc (h1.l ml rfl).1 (e▸(h1.k bk rfl).1);have fl:mf≠ml:=fun e=>h1.fl mf rfl (by rw[e]);have nt:∀{g:Nat} {t:TypeId} {m n:Nat} {v:Value} {xs:List Value},w1.ownsRow w0.heap.size t m v n xs→t≠146→v.ownBlock=some g→g<b→g≠b∧g≠bk∧g≠mf∧g≠ml:=fun{g t m n v xs} ho ht hg hl=>by
  obtain⟨C,hC⟩:=own_blk ho g hg;refine⟨by omega,fun e=>?_,fun e=>?_,fun e=>?_⟩
  ·subst e;exact ht (Blk.same hC (h1.k g rfl).1).1
  ·subst e;exact mc (h1.f g rfl).1 hC
  ·subst e;exact mc (h1.l g rfl).1 hC
 obtain⟨τ,hτ⟩:∃τ:Own,τ=fun k=>if k=b then(2,0,0,0)else if k=bk then(2,2,0,0)else if k=mf then(2,3,0,0)else if k=ml then(2,5,0,0)else(1,0,0,0):=⟨_,rfl⟩
 have tb:τ b=(2,0,0,0):=by rw[hτ];exact if_pos rfl
 have tk:τ bk=(2,2,0,0):=by rw[hτ];show(if bk=b then _ else _)=_;rw[if_neg (by omega),if_pos rfl]
 have tf:τ mf=(2,3,0,0):=by rw[hτ];show(if mf=b then _ else _)=_;rw[if_neg (by omega),if_neg (Ne.symm kf),if_pos rfl]
 have tl:τ ml=(2,5,0,0):=by rw[hτ];show(if ml=b then _ else _)=_;rw[if_neg (by omega),if_neg (Ne.symm kl),if_neg (Ne.symm fl),if_pos rfl]
 have tg1:∀{g:Nat},(g≠b∧g≠bk∧g≠mf∧g≠ml)→τ g=(1,0,0,0):=fun{g} q=>by rw[hτ];show(if g=b then _ else _)=_;rw[if_neg q.1,if_neg q.2.1,if_neg q.2.2.1,if_neg q.2.2.2]
 have hN:=h1.n vN rfl;have hC:=h1.c vC rfl;have hA:=h1.a vA rfl;obtain⟨An,cn,eN,_,rN,_⟩:=rec_of_own (m:=3) (c:=cN) (d:=nd0) (fun _=>rfl) (by decide) hN;obtain⟨Ac,cc,eC,_,rC,_⟩:=rec_of_own (m:=6) (c:=cC) (d:=cb0) (fun _=>rfl) (by decide) hC;have fI:∀l:List Int,l.flatMap cI=l.map fun x=>.int .i64 x:=fun l=>by
  induction l with
  |nil=>rfl
  |cons x l ih=>rw[List.flatMap_cons,ih];rfl
 have none1:∀{T:Tg},∀g,(Value.slice none 0 0).ownBlock=some g→τ g=T:=fun{T} g hg=>by simp[Value.ownBlock]at hg
 refine⟨τ,{vn:=vN,vc:=vC,vr:=vA,vt:=.slice none 0 0,vb:=.slice none 0 0,vu:=.slice none 0 0,r0n:=.slice none 0 0,r0f:=.slice none 0 0,r1n:=.slice none 0 0,r1f:=.slice none 0 0,bk:=bk,mf:=mf,ml:=ml,vcm:=.slice none 0 0,vg:=.slice none 0 0,vl:=.slice none 0 0,row:=fun _=>.slice none 0 0,cm:=fun _=>.slice none 0 0,gn:=fun _=>.slice none 0 0,bx:=fun _=>0,bxl:=fun _=>default},?_,⟨rfl,rfl⟩,fun q=>?_,fun q hq=>?_⟩
 ·rw[hb]at RT⊢;exact{
   root:=RT
   rootT:=tb
   plan:=⟨An,Ac,cn,cc,eN,eC,⟨rN,rC⟩,fun p hp=>by
    have hg:vN.ownBlock=some p.block:=(by rw[eN,hp];rfl);exact⟨by rw[tg1 (nt hN (by decide) hg (lN _ hg))],(hN.lt _ hg).2⟩,fun p hp=>by
    have hg:vC.ownBlock=some p.block:=(by rw[eC,hp];rfl);exact⟨by rw[tg1 (nt hC (by decide) hg (lC _ hg))],(hC.lt _ hg).2⟩⟩
   rm:=by
    rw[fI,←List.map_append]at hA;rw[List.length_append];have lx:((rooms++rooms).map fun x=>Value.int .i64 x).length=rooms.length+rooms.length:=by simp
    obtain⟨a,c,ev⟩:=own_formN hA;refine⟨a,c,ev,fun h0=>?_⟩;obtain⟨g,cap,Cg,e1,hbg,_,hCg⟩:=own_blk1 hA (by omega);have hg:vA.ownBlock=some g:=(by rw[e1];rfl);rw[ev]at e1;injection e1 with e1;exact⟨g,Cg,e1,hbg,by show(τ g).1=1;rw[tg1 (nt hA (by decide) hg (lA _ hg))],fun i hi=>hCg i (by omega)⟩
   vt:=⟨World.ownsRow_nil _ _ _ _,none1⟩
   rows:=fun i hi=>absurd hi (Nat.not_lt_zero _)
   vb:=⟨World.ownsRow_nil _ _ _ _,none1⟩
   bx:=fun i hi=>absurd hi (Nat.not_lt_zero _)
   vm:=⟨World.ownsRow_nil _ _ _ _,none1⟩
   cm:=fun i hi=>absurd hi (Nat.not_lt_zero _)
   vu:=⟨World.ownsRow_nil _ _ _ _,none1⟩
   vg:=⟨World.ownsRow_nil _ _ _ _,none1⟩
   gn:=fun i hi=>absurd hi (Nat.not_lt_zero _)
   bk:=⟨(h1.k bk rfl).1,tk⟩
   mf:=⟨(h1.f mf rfl).1,tf⟩
   ml:=⟨(h1.l ml rfl).1,tl⟩
   vl:=rfl}
 ·rw[hτ];show(if q=b then((2,0,0,0):Tg)else _).1<3;by_cases e1:q=b
  ·rw[if_pos e1];decide
  ·rw[if_neg e1];by_cases e2:q=bk
   ·rw[if_pos e2];decide
   ·rw[if_neg e2];by_cases e3:q=mf
    ·rw[if_pos e3];decide
    ·rw[if_neg e3];by_cases e4:q=ml
     ·rw[if_pos e4];decide
     ·rw[if_neg e4];decide
 ·have:=h.b.size;have:=(h.k bk rfl).2;have:=(h.f mf rfl).2;have:=(h.l ml rfl).2;exact tg1 ⟨by omega,by omega,by omega,by omega⟩
section
variable{w0 wr w':World}{b:Nat}{ns:List Nd}{cs:List Cb}{rooms:List Int}{vN vC:Value}{kb kt kc:Nat}{C:Nat→Nat→Int}{ju jg:Nat}
theorem nw_keep{τ τ':Own}{o k k':Nat}(x:NwX o τ wr τ' w')(ho:o<3+k')(hk:k≤k')(f1:∀q,q<wr.heap.size→(τ q).1<3+k)(f2:∀q,q<w0.heap.size→τ q=(1,0,0,0))(f3:Below w0.heap.size w0 wr):(∀q,q<w'.heap.size→(τ' q).1<3+k')∧(∀q,q<w0.heap.size→τ' q=(1,0,0,0))∧Below w0.heap.size w0 w':=by
 refine⟨fun q hq=>?_,fun q hq=>by rw[x.ext q (Nat.lt_of_lt_of_le hq f3.size)];exact f2 q hq,?_⟩
 ·rcases Nat.lt_or_ge q wr.heap.size with h|h
  ·rw[x.ext q h];have:=f1 q h;omega
  ·have:=x.le q h hq;omega
 ·have:=(Ch.of_below (S:=fun k=>(τ k).1≠1) f3).trans x.ch fun i _ s=>s;exact⟨this.os,this.tape,this.output,this.size,fun k hk=>(this.block k (by omega) (by rw[f2 k hk];simp))⟩
def NwR(w0:World)(b:Nat)(ns:List Nd)(cs:List Cb)(rooms:List Int)(vN vC:Value)(kb kt kc:Nat)(C:Nat→Nat→Int)(ju jg:Nat)(wr:World):Prop:=
 ∃τ L,NwM τ wr b ns cs rooms L kb kt kc C ju jg∧(L.vn=vN∧L.vc=vC)∧(∀q,q<wr.heap.size→(τ q).1<3+kb)∧(∀q,q<w0.heap.size→τ q=(1,0,0,0))∧Below w0.heap.size w0 wr
def NwB(w0:World)(b:Nat)(ns:List Nd)(cs:List Cb)(rooms:List Int)(vN vC:Value)(k:Nat)(C:Nat→Nat→Int)(ju jg bX:Nat)(wr:World):Prop:=
 ∃τ L LX,NwM τ wr b ns cs rooms L k k k C ju jg∧BxM τ (3+k) wr bX ((newFab ns cs rooms default).boxes.getD k default) LX∧(L.vn=vN∧L.vc=vC)∧(∀q,q<wr.heap.size→(τ q).1<3+(k+1))∧(∀q,q<w0.heap.size→τ q=(1,0,0,0))∧Below w0.heap.size w0 wr
theorem NwX.of_below{τ:Own}(hb:Below wr.heap.size wr w'):NwX 0 τ wr (fr τ wr.heap.size) w':=⟨Ch.of_below hb,fun k hk=>fr_old hk,fun k h1 _=>by rw[fr_new h1];exact Nat.le_refl 0⟩
theorem NwR.below(h:NwR w0 b ns cs rooms vN vC kb kt kc C ju jg wr)(hb:Below wr.heap.size wr w'):NwR w0 b ns cs rooms vN vC kb kt kc C ju jg w':=by obtain⟨τ,L,m,v,f1,f2,f3⟩:=h;have x:NwX 0 τ wr (fr τ wr.heap.size) w':=NwX.of_below hb;exact⟨fr τ wr.heap.size,L,(m.toG (S:=fun _=>False) (fun _=>False) (Ch.of_below hb) x.ext (fun _ s=>s.elim) (fun _ s=>s.elim)).all,v,nw_keep x (by omega) (Nat.le_refl kb) f1 f2 f3⟩
theorem NwR.drew(h:NwR w0 b ns cs rooms vN vC kb kt kc C ju jg wr):NwR w0 b ns cs rooms vN vC kb kt kc C ju jg wr.drew:=h.below ⟨rfl,rfl,rfl,Nat.le_refl _,fun _ _=>rfl⟩
theorem newFab_box(ns:List Nd)(cs:List Cb)(rooms:List Int)(r:Rt){k:Nat}(hk:k<ns.length):(newFab ns cs rooms r).boxes.getD k default=newBx (portsOf (ns.getD k nd0)) (rooms++rooms):=by show(ns.map fun n=>newBx (if n.sw then n.ports.toNat else 2) (rooms++rooms)).getD k default=_;simp[List.getD,hk,portsOf]
theorem NwR.newBox{k:Nat}(h:NwR w0 b ns cs rooms vN vC k k k C ju jg wr)(hk:k<ns.length)(hp:PlF ns cs)(hl0:1≤rooms.length)(hl1:rooms.length≤4)(hr:rooms.all roomB=true):∃A cap,wr.cell? ⟨b,3,none⟩=some (.slice A (rooms++rooms).length cap)∧Calls Tryz.prog 40 #[.int .i64 (portsOf (ns.getD k nd0):Nat),.slice A (rooms++rooms).length cap] wr fun e w'=>∃bX,e=.returned (.tuple #[.pointer (some ⟨bX,0,none⟩),.int .i64 0])∧NwB w0 b ns cs rooms vN vC k C ju jg bX w':=by
 obtain⟨τ,L,m,v,f1,f2,f3⟩:=h;obtain⟨A,cap,eA,hR,_⟩:=m.rm.isRec (d:=(0:Int));have c3:wr.cell? ⟨b,3,none⟩=some L.vr:=m.root.cell 3;rw[eA]at c3;have pp:=hp.ports8 hk;have bx:=bxnew_any (portsOf (ns.getD k nd0)) (rooms++rooms) A cap τ (3+k) wr (by omega) (fun q hq=>by have:=f1 q hq;omega) pp.1 pp.2 (by simp;omega) (by simp;omega) (fun r hr'=>by
  rw[List.all_eq_true]at hr;have:r∈rooms:=by simpa using hr'
  have:=hr r this;unfold roomB at this;simpa using this) hR
 refine⟨A,cap,c3,bx.mono fun e w' hq=>?_⟩;obtain⟨bX,τ',LX,rfl,hx,nx,_⟩:=hq;have x:NwX (3+k) τ wr τ' w':=NwX.of_nx nx (by omega);have G:=m.toG (S:=fun q=>False) (τ':=τ') (fun _=>False) (Ch.of_below (nx.belowFree fun q hq=>by have:=f1 q hq;omega)) x.ext (fun _ s=>s.elim) (fun _ s=>s.elim);exact⟨bX,rfl,τ',L,LX,G.all,by rw[newFab_box ns cs rooms default hk];exact hx,v,nw_keep (k':=k+1) x (by omega) (by omega) f1 f2 f3⟩
theorem NwB.put{k bX:Nat}(h:NwB w0 b ns cs rooms vN vC k C ju jg bX wr):∃a cap,wr.cell? ⟨b,5,none⟩=some (.slice a k cap)∧wr.frozen? ⟨b,5,none⟩=false∧∃xs,wr.ownsRow 0 101 1 (.slice a k cap) k xs∧∀w1 w2 v,Below wr.heap.size wr w1→w2.ownsRow 0 101 1 v (k+1) (xs++[pt bX])→w1.grownBy w2 (Value.slice a k cap).ownBlock→(v.ownBlock=(Value.slice a k cap).ownBlock∨v.ownBlock=some w1.heap.size)→NwR w0 b ns cs rooms vN vC (k+1) k k C ju jg (w2.setCell ⟨b,5,none⟩ v)∧w2.cell? ⟨b,5,none⟩=some (.slice a k cap)∧w2.frozen? ⟨b,5,none⟩=false∧∀j,w2.cell? ⟨b,j,none⟩=wr.cell? ⟨b,j,none⟩:=by
 obtain⟨τ,L,LX,m,hx,v,f1,f2,f3⟩:=h;obtain⟨a,cap,ev⟩:=own_formN m.vb.1;have c5:wr.cell? ⟨b,5,none⟩=some L.vb:=m.root.cell 5;rw[ev]at c5;refine⟨a,cap,c5,m.root.frozen 5,_,by rw[←ev];exact m.vb.1,fun w1 w2 v2 hb own gr loc=>?_⟩;rw[←ev]at gr loc;obtain⟨τ',m',x⟩:=m.addBox hx hb own gr loc;refine⟨⟨τ',_,m',v,nw_keep x (by omega) (Nat.le_refl (k+1)) f1 f2 f3⟩,?_⟩;have lb:=m.root.lt;have c2:Ch (fun q=>L.vb.ownBlock=some q) wr w2:=(Ch.of_below (S:=fun q=>L.vb.ownBlock=some q) hb).trans ((Ch.refl (fun q=>L.vb.ownBlock=some q) w1).grown gr fun g hg=>.inl hg) fun i _ s=>s;have nb:¬L.vb.ownBlock=some b:=fun q=>by have:=m.vb.2 b q;rw[m.rootT]at this;simp at this
 have r2:=m.root.ch c2 nb;exact⟨by rw[←ev];exact r2.cell 5,r2.frozen 5,fun j=>(r2.cell j).trans (m.root.cell j).symm⟩
theorem NwR.putRow{k kc:Nat}(h:NwR w0 b ns cs rooms vN vC (k+1) k kc (fun _ _=>-1) ju jg wr):∃a cap,wr.cell? ⟨b,4,none⟩=some (.slice a k cap)∧wr.frozen? ⟨b,4,none⟩=false∧∃xs,wr.ownsRow 0 26 1 (.slice a k cap) k xs∧∀w1 w2 v u,Below wr.heap.size wr w1→w1.ownsRow wr.heap.size 3 1 u (portsOf (ns.getD k nd0)) ((List.replicate (portsOf (ns.getD k nd0)) (-1)).flatMap cI)→1≤portsOf (ns.getD k nd0)→w2.ownsRow 0 26 1 v (k+1) (xs++[u])→w1.grownBy w2 (Value.slice a k cap).ownBlock→(v.ownBlock=(Value.slice a k cap).ownBlock∨v.ownBlock=some w1.heap.size)→NwR w0 b ns cs rooms vN vC (k+1) (k+1) kc (fun _ _=>-1) ju jg (w2.setCell ⟨b,4,none⟩ v)∧w2.cell? ⟨b,4,none⟩=some (.slice a k cap)∧w2.frozen? ⟨b,4,none⟩=false∧∀j,w2.cell? ⟨b,j,none⟩=wr.cell? ⟨b,j,none⟩:=by
 obtain⟨τ,L,m,v,f1,f2,f3⟩:=h;obtain⟨a,cap,ev⟩:=own_formN m.vt.1;have c5:wr.cell? ⟨b,4,none⟩=some L.vt:=m.root.cell 4;rw[ev]at c5;refine⟨a,cap,c5,m.root.frozen 4,_,by rw[←ev];exact m.vt.1,fun w1 w2 v2 u hb hu p1 own gr loc=>?_⟩;rw[←ev]at gr loc;obtain⟨g,cp,Cg,e1,hbg,hbase,hC⟩:=own_blk1 hu (by omega);rw[e1]at own;obtain⟨τ',m',x⟩:=m.addRow hb hbg hbase (fun p hp=>by rw[hC p hp,rep_flat,List.getElem?_replicate,if_pos hp]) own gr loc;refine⟨⟨τ',_,m',v,nw_keep x (by omega) (Nat.le_refl _) f1 f2 f3⟩,?_⟩;have c2:Ch (fun q=>L.vt.ownBlock=some q) wr w2:=(Ch.of_below (S:=fun q=>L.vt.ownBlock=some q) hb).trans ((Ch.refl (fun q=>L.vt.ownBlock=some q) w1).grown gr fun g hg=>.inl hg) fun i _ s=>s;have nb:¬L.vt.ownBlock=some b:=fun q=>by have:=m.vt.2 b q;rw[m.rootT]at this;simp at this
 have r2:=m.root.ch c2 nb;exact⟨by rw[←ev];exact r2.cell 4,r2.frozen 4,fun j=>(r2.cell j).trans (m.root.cell j).symm⟩
theorem NwR.putCame{kb kt k:Nat}(h:NwR w0 b ns cs rooms vN vC kb kt k C ju jg wr):∃a cap,wr.cell? ⟨b,17,none⟩=some (.slice a k cap)∧wr.frozen? ⟨b,17,none⟩=false∧∃xs,wr.ownsRow 0 26 1 (.slice a k cap) k xs∧∀w1 w2 v g cp,Below wr.heap.size wr w1→Blk w1 g 3 (List.replicate (rooms++rooms).length (.int .i64 0)).toArray→wr.heap.size≤g→w2.ownsRow 0 26 1 v (k+1) (xs++[.slice (some ⟨g,0,none⟩) (rooms++rooms).length cp])→w1.grownBy w2 (Value.slice a k cap).ownBlock→(v.ownBlock=(Value.slice a k cap).ownBlock∨v.ownBlock=some w1.heap.size)→NwR w0 b ns cs rooms vN vC kb kt (k+1) C ju jg (w2.setCell ⟨b,17,none⟩ v)∧w2.cell? ⟨b,17,none⟩=some (.slice a k cap)∧w2.frozen? ⟨b,17,none⟩=false∧∀j,w2.cell? ⟨b,j,none⟩=wr.cell? ⟨b,j,none⟩:=by
 obtain⟨τ,L,m,v,f1,f2,f3⟩:=h;obtain⟨a,cap,ev⟩:=own_formN m.vm.1;have c5:wr.cell? ⟨b,17,none⟩=some L.vcm:=m.root.cell 17;rw[ev]at c5;refine⟨a,cap,c5,m.root.frozen 17,_,by rw[←ev];exact m.vm.1,fun w1 w2 v2 g cp hb hbg hbase own gr loc=>?_⟩;rw[←ev]at gr loc;obtain⟨τ',m',x⟩:=m.addCame hb hbg hbase own gr loc;refine⟨⟨τ',_,m',v,nw_keep x (by omega) (Nat.le_refl _) f1 f2 f3⟩,?_⟩;have c2:Ch (fun q=>L.vcm.ownBlock=some q) wr w2:=(Ch.of_below (S:=fun q=>L.vcm.ownBlock=some q) hb).trans ((Ch.refl (fun q=>L.vcm.ownBlock=some q) w1).grown gr fun g hg=>.inl hg) fun i _ s=>s;have nb:¬L.vcm.ownBlock=some b:=fun q=>by have:=m.vm.2 b q;rw[m.rootT]at this;simp at this
 have r2:=m.root.ch c2 nb;exact⟨by rw[←ev];exact r2.cell 17,r2.frozen 17,fun j=>(r2.cell j).trans (m.root.cell j).symm⟩
theorem NwR.putUp{k:Nat}(h:NwR w0 b ns cs rooms vN vC kb kt kc C k jg wr):∃a cap,wr.cell? ⟨b,6,none⟩=some (.slice a k cap)∧wr.frozen? ⟨b,6,none⟩=false∧∃xs,wr.ownsRow 0 4 1 (.slice a k cap) k xs∧∀w1 w2 v,Below wr.heap.size wr w1→w2.ownsRow 0 4 1 v (k+1) (xs++[.bool true])→w1.grownBy w2 (Value.slice a k cap).ownBlock→(v.ownBlock=(Value.slice a k cap).ownBlock∨v.ownBlock=some w1.heap.size)→NwR w0 b ns cs rooms vN vC kb kt kc C (k+1) jg (w2.setCell ⟨b,6,none⟩ v)∧w2.cell? ⟨b,6,none⟩=some (.slice a k cap)∧w2.frozen? ⟨b,6,none⟩=false∧∀j,w2.cell? ⟨b,j,none⟩=wr.cell? ⟨b,j,none⟩:=by
 obtain⟨τ,L,m,v,f1,f2,f3⟩:=h;obtain⟨a,cap,ev⟩:=own_formN m.vu.1;have c5:wr.cell? ⟨b,6,none⟩=some L.vu:=m.root.cell 6;rw[ev]at c5;refine⟨a,cap,c5,m.root.frozen 6,_,by rw[←ev];exact m.vu.1,fun w1 w2 v2 hb own gr loc=>?_⟩;rw[←ev]at gr loc;obtain⟨τ',m',x⟩:=m.addUp hb own gr loc;refine⟨⟨τ',_,m',v,nw_keep x (by omega) (Nat.le_refl _) f1 f2 f3⟩,?_⟩;have c2:Ch (fun q=>L.vu.ownBlock=some q) wr w2:=(Ch.of_below (S:=fun q=>L.vu.ownBlock=some q) hb).trans ((Ch.refl (fun q=>L.vu.ownBlock=some q) w1).grown gr fun g hg=>.inl hg) fun i _ s=>s;have nb:¬L.vu.ownBlock=some b:=fun q=>by have:=m.vu.2 b q;rw[m.rootT]at this;simp at this
 have r2:=m.root.ch c2 nb;exact⟨by rw[←ev];exact r2.cell 6,r2.frozen 6,fun j=>(r2.cell j).trans (m.root.cell j).symm⟩
theorem NwR.putGone{k:Nat}(h:NwR w0 b ns cs rooms vN vC kb kt kc C ju k wr):∃a cap,wr.cell? ⟨b,18,none⟩=some (.slice a k cap)∧wr.frozen? ⟨b,18,none⟩=false∧∃xs,wr.ownsRow 0 26 1 (.slice a k cap) k xs∧∀w1 w2 v g cp g' cp',Below wr.heap.size wr w1→Blk w1 g 3 (List.replicate (rooms++rooms).length (.int .i64 0)).toArray→wr.heap.size≤g→Blk w1 g' 3 (List.replicate (rooms++rooms).length (.int .i64 0)).toArray→wr.heap.size≤g'→g≠g'→w2.ownsRow 0 26 1 v (k+2) (xs++[.slice (some ⟨g,0,none⟩) (rooms++rooms).length cp,.slice (some ⟨g',0,none⟩) (rooms++rooms).length cp'])→w1.grownBy w2 (Value.slice a k cap).ownBlock→(v.ownBlock=(Value.slice a k cap).ownBlock∨v.ownBlock=some w1.heap.size)→NwR w0 b ns cs rooms vN vC kb kt kc C ju (k+2) (w2.setCell ⟨b,18,none⟩ v)∧w2.cell? ⟨b,18,none⟩=some (.slice a k cap)∧w2.frozen? ⟨b,18,none⟩=false∧∀j,w2.cell? ⟨b,j,none⟩=wr.cell? ⟨b,j,none⟩:=by
 obtain⟨τ,L,m,v,f1,f2,f3⟩:=h;obtain⟨a,cap,ev⟩:=own_formN m.vg.1;have c5:wr.cell? ⟨b,18,none⟩=some L.vg:=m.root.cell 18;rw[ev]at c5;refine⟨a,cap,c5,m.root.frozen 18,_,by rw[←ev];exact m.vg.1,fun w1 w2 v2 g cp g' cp' hb hbg hbase hbg' hbase' hne own gr loc=>?_⟩;rw[←ev]at gr loc;obtain⟨τ',m',x⟩:=m.addGone hb hbg hbase hbg' hbase' hne own gr loc;refine⟨⟨τ',_,m',v,nw_keep x (by omega) (Nat.le_refl _) f1 f2 f3⟩,?_⟩;have c2:Ch (fun q=>L.vg.ownBlock=some q) wr w2:=(Ch.of_below (S:=fun q=>L.vg.ownBlock=some q) hb).trans ((Ch.refl (fun q=>L.vg.ownBlock=some q) w1).grown gr fun g hg=>.inl hg) fun i _ s=>s;have nb:¬L.vg.ownBlock=some b:=fun q=>by have:=m.vg.2 b q;rw[m.rootT]at this;simp at this
 have r2:=m.root.ch c2 nb;exact⟨by rw[←ev];exact r2.cell 18,r2.frozen 18,fun j=>(r2.cell j).trans (m.root.cell j).symm⟩
theorem NwR.putCab{i p:Nat}(h:NwR w0 b ns cs rooms vN vC kb kt kc C ju jg wr)(hi:i<kt)(hp:p<portsOf (ns.getD i nd0))(x:Int):∃gv cv g cap,wr.cell? ⟨b,4,none⟩=some (.slice (some ⟨gv,0,none⟩) kt cv)∧wr.cell? ⟨gv,i,none⟩=some (.slice (some ⟨g,0,none⟩) (portsOf (ns.getD i nd0)) cap)∧wr.frozen? ⟨g,p,none⟩=false∧wr.cell? ⟨g,p,none⟩=some (.int .i64 (C i p))∧(∃Cg,Blk wr g 3 Cg)∧NwR w0 b ns cs rooms vN vC kb kt kc (fun i' p'=>if i'=i∧p'=p then x else C i' p') ju jg (wr.setCell ⟨g,p,none⟩ (.int .i64 x)):=by obtain⟨τ,L,m,v,f1,f2,f3⟩:=h;obtain⟨gv,cv,g,cap,e1,c1,fz,c2,gb,m',x'⟩:=m.setCab hi hp x;have c5:wr.cell? ⟨b,4,none⟩=some L.vt:=m.root.cell 4;rw[e1]at c5;exact⟨gv,cv,g,cap,c5,c1,fz,c2,gb,τ,L,m',v,nw_keep x' (by omega) (Nat.le_refl _) f1 f2 f3⟩
theorem NwR.cells(h:NwR w0 b ns cs rooms vN vC kb kt kc C ju jg wr):wr.cell? ⟨b,0,none⟩=some vN∧wr.cell? ⟨b,1,none⟩=some vC∧∃A cap,wr.cell? ⟨b,3,none⟩=some (.slice A (rooms++rooms).length cap):=by obtain⟨τ,L,m,v,f1,f2,f3⟩:=h;refine⟨by rw[←v.1];exact m.root.cell 0,by rw[←v.2];exact m.root.cell 1,?_⟩;obtain⟨a,c,e⟩:=m.rm.form;exact⟨a,c,by rw[←e];exact m.root.cell 3⟩
theorem NwR.plan{bN bC:Option Addr}{kN kC:Nat}(h:NwR w0 b ns cs rooms (.slice bN ns.length kN) (.slice bC cs.length kC) kb kt kc C ju jg wr):IsPlan wr bN bC ⟨ns,cs⟩:=by obtain⟨τ,L,m,v,f1,f2,f3⟩:=h;obtain⟨An,Ac,cn,cc,e1,e2,hp,_,_⟩:=m.plan;rw[v.1]at e1;rw[v.2]at e2;injection e1 with e1;injection e2 with e2;rw[e1,e2];exact hp
theorem NwR.congrC{C':Nat→Nat→Int}(h:NwR w0 b ns cs rooms vN vC kb kt kc C ju jg wr)(hC:∀i,i<kt→∀p,C i p=C' i p):NwR w0 b ns cs rooms vN vC kb kt kc C' ju jg wr:=by obtain⟨τ,L,m,v,f⟩:=h;refine⟨τ,L,⟨m.root,m.rootT,m.plan,m.rm,m.vt,fun i hi=>?_,m.vb,m.bx,m.vm,m.cm,m.vu,m.vg,m.gn,m.bk,m.mf,m.ml,m.vl⟩,v,f⟩;have:=m.rows i hi;rw[show(fun p=>Value.int .i64 (C i p))=fun p=>Value.int .i64 (C' i p)from funext fun p=>by rw[hC i hi p]]at this;exact this
end
theorem find_congr{α:Type}{P Q:α→Bool}:∀(l:List α),(∀x∈l,P x=Q x)→l.find? P=l.find? Q
 |[],_=>rfl
 |x::l,h=>by rw[List.find?_cons,List.find?_cons,h x (List.mem_cons_self ..),find_congr l fun y hy=>h y (List.mem_cons_of_mem _ hy)]
def atB(cs:List Cb)(node port i:Nat):Bool:=((cs.getD i cb0).a==(node:Int)&&(cs.getD i cb0).ap==(port:Int))||((cs.getD i cb0).b==(node:Int)&&(cs.getD i cb0).bp==(port:Int))
theorem cableAt_take{cs:List Cb}{j:Nat}(hj:j≤cs.length)(node port:Nat):cableAt (cs.take j) node port=(List.range j).find? (atB cs node port):=by
 unfold cableAt;rw[List.length_take,Nat.min_eq_left hj];refine find_congr _ fun k hk=>?_;have hk:=List.mem_range.1 hk;have e:(cs.take j).getD k cb0=cs.getD k cb0:=by simp[List.getD,List.getElem?_take,hk]
 unfold atB;simp only[e]
theorem atB_end{cs:List Cb}{node port i:Nat}(hi:i<cs.length)(h:atB cs node port i=true):∃e,e/2=i∧e<2*cs.length∧(endsOf cs).getD e (0,0)=((node:Int),(port:Int)):=by
 unfold atB at h;simp only[Bool.or_eq_true,Bool.and_eq_true,beq_iff_eq]at h;have:=ends_at cs hi;rcases h with h|h
 ·exact⟨2*i,by omega,by omega,by rw[this.1,h.1,h.2]⟩
 ·exact⟨2*i+1,by omega,by omega,by rw[this.2,h.1,h.2]⟩
theorem cabI_take{ns:List Nd}{cs:List Cb}(hp:PlF ns cs){j:Nat}(hj:j<cs.length)(node port:Nat):cabI (cs.take (j+1)) node port=if node=(cs.getD j cb0).b.toNat∧port=(cs.getD j cb0).bp.toNat then(j:Int)else if node=(cs.getD j cb0).a.toNat∧port=(cs.getD j cb0).ap.toNat then(j:Int)else cabI (cs.take j) node port:=by
 have A:=hp.a0 j hj;have B:=hp.b0 j hj;have AP:=hp.ap j hj;have BP:=hp.bp j hj;unfold cabI;rw[cableAt_take (by omega),cableAt_take (by omega),List.range_succ,List.find?_append];have key:atB cs node port j=true→(List.range j).find? (atB cs node port)=none:=fun h=>by rw[List.find?_eq_none];intro k hk q;have hk:=List.mem_range.1 hk;obtain⟨e1,d1,l1,v1⟩:=atB_end hj h;obtain⟨e2,d2,l2,v2⟩:=atB_end (by omega:k<cs.length) q;have:=hp.inj e1 e2 l1 l2 (v1.trans v2.symm);omega
 have val:atB cs node port j=true↔(node=(cs.getD j cb0).b.toNat∧port=(cs.getD j cb0).bp.toNat)∨(node=(cs.getD j cb0).a.toNat∧port=(cs.getD j cb0).ap.toNat):=by unfold atB;simp only[Bool.or_eq_true,Bool.and_eq_true,beq_iff_eq];omega
 cases hb:atB cs node port j with
 |true=>
  rw[key hb];have h:=val.1 hb;simp only[List.find?_cons,hb,Option.none_or];show(j:Int)=_;split
  ·rfl
  ·rw[if_pos (by omega)]
 |false=>
  have h:¬_:=fun q=>by have:=val.2 q;rw[hb]at this;cases this
  rw[if_neg fun q=>h (.inl q),if_neg fun q=>h (.inr q)];simp only[List.find?_cons,hb,List.find?_nil,Option.or_none]
theorem NwR.reroute{w0 wr:World}{b:Nat}{ns:List Nd}{cs:List Cb}{rooms:List Int}{vN vC:Value}(h:NwR w0 b ns cs rooms vN vC ns.length ns.length ns.length (fun i p=>cabI cs i p) cs.length (2*cs.length) wr)(hp:PlF ns cs)(hv:validP ⟨ns,cs⟩=0)(hwf:WfP ⟨ns,cs⟩):Calls Tryz.prog 42 #[pt b] wr fun e w'=>e=.returned (.tuple #[])∧∃r τ L,IsRt ns cs (cs.map fun _=>true) r∧FabM τ w' b ns cs (newFab ns cs rooms r) L∧(∀q,q<w0.heap.size→τ q=(1,0,0,0))∧Below w0.heap.size w0 w':=by
 obtain⟨τ,L,m,v,f1,f2,f3⟩:=h;obtain⟨τ1,H,hb,keep⟩:=m.fin;have up:(newFab ns cs rooms default).up.length=cs.length:=by show(cs.map fun _=>true).length=_;simp
 refine(freroute_any (newFab ns cs rooms default) b ns cs L τ1 wr H hb (fun q=>?_) (fun _ q=>?_) hp hv hwf up (Nat.zero_le _)).mono ?_
 ·exact absurd q (by show ¬(0%2=1);decide)
 ·exact absurd q (Nat.lt_irrefl 0)
 rintro e w' ⟨rfl,r,hr,τ',L',m',n⟩;have t1:∀q,q<w0.heap.size→τ1 q=(1,0,0,0):=fun q hq=>by rw[keep q (by rw[f2 q hq];simp)];exact f2 q hq
 refine⟨rfl,r,τ',L',hr,m',fun q hq=>by rw[n.ext q (Nat.lt_of_lt_of_le hq f3.size)];exact t1 q hq,?_⟩;have:=(Ch.of_below (S:=fun k=>2≤(τ1 k).1) f3).trans n.ch fun i _ s=>s;exact⟨this.os,this.tape,this.output,this.size,fun k hk=>(this.block k (by omega) (by rw[t1 k hk];simp))⟩
end Go.Proofs.YtnjjkgjdhljfnaaGreat
namespace Go.Proofs.YtnjjkgjdhljfnaaGreat
open Go.RowKit Go.Maps
attribute [local go_sem ↓] Go.wp_at_zero Go.wp_at_succ
def roomsB(rooms:List Int):Bool:=decide (1≤rooms.length)&&decide (rooms.length≤4)&&rooms.all roomB
def newErr(p:Pl)(rooms:List Int):Int:=if validP p=0 then(if roomsB rooms then 0 else 2)else validP p
def NewPost(w:World)(ns:List Nd)(cs:List Cb)(rooms:List Int)(e:Ending)(w':World):Prop:=
 (newErr ⟨ns,cs⟩ rooms≠0∧e=.returned (.tuple #[.pointer none,.int .i64 (newErr ⟨ns,cs⟩ rooms)])∧Below w.heap.size w w')∨
 (newErr ⟨ns,cs⟩ rooms=0∧∃b r τ L,e=.returned (.tuple #[.pointer (some ⟨b,0,none⟩),.int .i64 0])∧IsRt ns cs (cs.map fun _=>true) r∧FabM τ w' b ns cs (newFab ns cs rooms r) L∧(∀k,k<w.heap.size→τ k=(1,0,0,0))∧Below w.heap.size w w')
def RelR0(rooms:List Int)(w1:World)(i:Value)(wr:World):Prop:=∃k:Nat,k≤rooms.length∧i=.int .i64 k∧w1=wr∧(rooms.take k).all roomB=true
theorem infoBoxPW:(Tryz.prog.info? 101).map (fun i=>(i.zero,i.size,i.bytes))=some (some (.pointer none),1,8):=by kernel_rfl
def RelW1(w0:World)(b:Nat)(ns:List Nd)(cs:List Cb)(rooms:List Int)(vN vC:Value)(i:Value)(wr:World):Prop:=∃k:Nat,k≤ns.length∧i=.int .i64 k∧NwR w0 b ns cs rooms vN vC k k k (fun _ _=>-1) 0 0 wr
def RelW2(w0:World)(b:Nat)(ns:List Nd)(cs:List Cb)(rooms:List Int)(vN vC:Value)(i:Value)(wr:World):Prop:=∃j:Nat,j≤cs.length∧i=.int .i64 j∧NwR w0 b ns cs rooms vN vC ns.length ns.length ns.length (fun i p=>cabI (cs.take j) i p) j (2*j) wr
theorem fnew_any(ns:List Nd)(cs:List Cb)(rooms:List Int)(An Ac Ar:Option Addr)(cn cc cr:Nat)(w:World)(hl:ns.length≤1000000)(hl2:cs.length≤1000000)(hl3:rooms.length≤1000000)(hwf:WfP ⟨ns,cs⟩)(hwr:WfI rooms)(h:IsPlan w An Ac ⟨ns,cs⟩)(h3:IsRec 1 cI 0 w Ar rooms.length rooms):Calls Tryz.prog 11 #[.agg #[.slice An ns.length cn,.slice Ac cs.length cc],.slice Ar rooms.length cr] w (NewPost w ns cs rooms):=by
 obtain⟨w1,hw1⟩:∃w1:World,w.alloc (.cells #[.slice An ns.length cn,.slice Ac cs.length cc] 25)=w1:=⟨_,rfl⟩;have B1:Hid (Below w.heap.size w w1):=by rw[←hw1];exact(Below.refl _ _).alloc (Nat.le_refl _) _
 have P1:Hid (Blk w1 w.heap.size 25 #[.slice An ns.length cn,.slice Ac cs.length cc]):=by rw[←hw1];exact Blk.new w _ _
 have IP:=Lib.hid (h.below (Nat.le_refl _) B1.out);have IR:=Lib.hid (h3.below (Nat.le_refl _) B1.out);have GV:Hid (Calls Tryz.prog 35 #[.agg #[.slice An ns.length cn,.slice Ac cs.length cc]] w1 fun e w'=>e=.returned (.int .i64 (validP ⟨ns,cs⟩))∧Below w1.heap.size w1 w'):=gvalid_any ⟨ns,cs⟩ An Ac cn cc w1 hl hl2 hwf IP.out;have k0:w1.cell? ⟨w.heap.size,0,none⟩=some (.slice An ns.length cn):=P1.out.cell 0;have k1:w1.cell? ⟨w.heap.size,1,none⟩=some (.slice Ac cs.length cc):=P1.out.cell 1;have BAD:Hid (∀e w',newErr ⟨ns,cs⟩ rooms=e→e≠0→Below w.heap.size w w'→NewPost w ns cs rooms (.returned (.tuple #[.pointer none,.int .i64 e])) w'):=fun e w' h1 h2 h3=>.inl ⟨by rw[h1];exact h2,by rw[h1],h3⟩;by_cases hv:validP ⟨ns,cs⟩=0
 ·have HV:=Lib.hid hv;rw[hv]at GV;have PL:=Lib.hid (plan_of hv);have n16:=PL.out.n16;have c32:=PL.out.c32;have NE:Hid (newErr ⟨ns,cs⟩ rooms=if roomsB rooms then 0 else 2):=by rw[Hid];unfold newErr;rw[if_pos hv]
  clear hv h h3;by_cases hl0:rooms.length<1
  ·have F:Hid (∀w',Below w.heap.size w w'→NewPost w ns cs rooms (.returned (.tuple #[.pointer none,.int .i64 2])) w'):=fun w' hb=>BAD.out 2 w' (by rw[NE.out,if_neg (by unfold roomsB;simp;omega)]) (by decide) hb
   go_enter Tryz.func11,Tryz.ntmps11
   go_wp2_with (first|(go_at_call 35;((with_reducible refine GV.out.mono ?_);rintro e w2 ⟨rfl,hb2⟩;have B2:=Lib.hid (B1.out.trans (hb2.mono B1.out.size));clear hb2)))
   go_ret2
   exact F.out _ B2.out
  ·by_cases hl1:4<rooms.length
   ·have F:Hid (∀w',Below w.heap.size w w'→NewPost w ns cs rooms (.returned (.tuple #[.pointer none,.int .i64 2])) w'):=fun w' hb=>BAD.out 2 w' (by rw[NE.out,if_neg (by unfold roomsB;simp;omega)]) (by decide) hb;have i1:(4:Int)<(rooms.length:Int):=by omega
    have i2:(1:Int)≤(rooms.length:Int):=by omega
    go_enter Tryz.func11,Tryz.ntmps11
    go_wp2_with (first|(go_at_call 35;((with_reducible refine GV.out.mono ?_);rintro e w2 ⟨rfl,hb2⟩;have B2:=Lib.hid (B1.out.trans (hb2.mono B1.out.size));clear hb2)))
    go_ret2
    exact F.out _ B2.out
   ·have i1:(rooms.length:Int)≤(4:Int):=by omega
    have i2:(1:Int)≤(rooms.length:Int):=by omega
    go_enter Tryz.func11,Tryz.ntmps11
    go_wp2_with (first|(go_at_call 35;((with_reducible refine GV.out.mono ?_);rintro e w2 ⟨rfl,hb2⟩;have B2:=Lib.hid hb2;clear hb2)))
    have B3:Hid (Below w.heap.size w w2):=B1.out.trans (B2.out.mono B1.out.size);obtain⟨rb,ro,ha,_,_⟩:=int_at IR.out 0 (by omega);subst ha;have IR2:=Lib.hid (IR.out.below (Nat.le_refl _) B2.out);have BAD2:Hid (∀k,k<rooms.length→(rooms.getD k 0<1∨64<rooms.getD k 0)→NewPost w ns cs rooms (.returned (.tuple #[.pointer none,.int .i64 2])) w2):=fun k hk hb=>BAD.out 2 w2 (by
     rw[NE.out,if_neg];unfold roomsB;have:rooms.all roomB=false:=by
      rw[List.all_eq_false];have hm:rooms.getD k 0∈rooms:=by simp[List.getD,hk]
      generalize rooms.getD k 0=r at *;exact⟨r,hm,by unfold roomB;simp;omega⟩
     rw[this];simp) (by decide) B3.out
    go_loopw [8,32,33,34,35,36,37,38,39,40,41,42] (fun _ i _ _ _ _ _ _ _ _ _ _ wr=>RelR0 rooms w2 i wr) (fun _ i _ _ _ _ _ _ _ _ _ _ _=>rooms.length-(RowKit.intOf i).toNat)
    case atStart=>exact⟨0,Nat.zero_le _,rfl,rfl,rfl⟩
    case round=>
     obtain⟨k,hk,rfl,rfl,hall⟩:=hrel;by_cases hkr:k<rooms.length
     ·obtain⟨rb2,ro2,ha2,_,hc⟩:=int_at IR2.out k hkr;injection ha2 with ha2;injection ha2 with ha2 ha3;subst ha2;subst ha3;have BK:=Lib.hid (BAD2.out k hkr);have TK:Hid (roomB (rooms.getD k 0)=true→(rooms.take (k+1)).all roomB=true):=fun q=>by
       rw[List.take_add_one,List.all_append,hall];simp[List.getD,hkr]at q⊢;exact q
      have hkc:(k:Int)<(rooms.length:Int):=(by omega);have hk0:(0:Int)≤(k:Int):=(by omega);have hwk:wrap64 ((k:Int)+1)=(k:Int)+1:=(by unfold wrap64;omega);generalize rooms.getD k 0=r at *;clear hall;by_cases r1:r<1
      ·go_wp2_with fail
       go_ret2
       exact BK.out (.inl r1)
      ·have r1':1≤r:=by omega
       by_cases r2:64<r
       ·go_wp2_with fail
        go_ret2
        exact BK.out (.inr r2)
       ·have r2':r≤64:=by omega
        have T:=Lib.hid (TK.out (by unfold roomB;simp;omega))
        go_wp2_with fail
        exact⟨⟨k+1,by omega,by congr 1,rfl,T.out⟩,by simp[RowKit.intOf];omega⟩
     ·obtain rfl:rooms.length=k:=by omega
      rw[List.take_length]at hall;have RB:=Lib.hid hall;clear hall;clear BAD2 BAD
      go_wp2_with fail
      obtain⟨bp,hbp⟩:∃bp,w.heap.size=bp:=⟨_,rfl⟩;have LP:Hid (bp<w2.heap.size):=(by rw[Hid,←hbp];exact Nat.lt_of_lt_of_le P1.out.lt B2.out.size);have KP:Hid (∀w',Below w2.drew.heap.size w2.drew w'→w'.cell? ⟨bp,0,none⟩=some (.slice An ns.length cn)∧w'.cell? ⟨bp,1,none⟩=some (.slice Ac cs.length cc)):=fun w' hb=>(by have p2:=(P1.out.below B2.out P1.out.lt);rw[hbp]at p2;have p3:=Blk.below (w:=w2.drew) p2.drew hb LP.out;exact⟨p3.cell 0,p3.cell 1⟩);have hIPL:Hid (IsPlan w2.drew An Ac ⟨ns,cs⟩):=(IP.out.below (Nat.le_refl _) B2.out.drew);have hIRR:Hid (IsRec 1 cI 0 w2.drew (some ⟨rb,ro,none⟩) rooms.length rooms):=IR2.out;have BW2:Hid (Below w.heap.size w w2.drew):=B3.out.drew;rw[hbp];clear k0 k1 B2 B3 IP IR IR2 P1 B1 hbp GV;refine wp_region_L 18 (fun wq=>wq.cell? ⟨bp,0,none⟩=some (.slice An ns.length cn)∧wq.cell? ⟨bp,1,none⟩=some (.slice Ac cs.length cc)) (by kernel_rfl) (KP.out _ (Below.refl _ _)) (fun hHeld=>?_);refine AnyL.tk 0 hHeld ?_
      try simp only[puts]
      refine AnyL.tk 1 hHeld ?_
      try simp only[puts]
      refine AnyL.tk 3 hHeld ?_
      try simp only[puts]
      refine AnyL.tk 4 hHeld ?_
      try simp only[puts]
      refine AnyL.tk 7 hHeld ?_
      try simp only[puts]
      refine AnyL.tk 8 hHeld ?_
      try simp only[puts]
      refine AnyL.tk 9 hHeld ?_
      try simp only[puts]
      refine AnyL.tk 11 hHeld ?_
      try simp only[puts]
      refine AnyL.cast (ops':=ops12) (by kernel_rfl) ?_;refine st12 (w0:=w2.drew) (ns:=ns) (cs:=cs) (rooms:=rooms) KP.out (fun _ _ _ _ _ h=>h) (by show 60≤195;decide) rfl rfl rfl rfl ?k1 ?k2 ?k3 ?k4 (by omega) ?k5 11 0 false false (by decide) rfl _ _ _ nilS nilS nilS nilS 0 0 0 ⟨I12.start _ _ _ _ _ (Below.refl _ _),Ag.refl _,by omega,by omega,by omega,by omega,by omega,by omega,fun q=>(by cases q),fun q=>(by cases q)⟩
      case k1=>exact fun w' hb=>cloneN_any An cn ns w' (by omega) (hIPL.out.1.below (Nat.le_refl _) hb)
      case k2=>exact fun w' hb=>cloneC_any Ac cc cs w' (by omega) (hIPL.out.2.below (Nat.le_refl _) hb)
      case k3=>exact fun w' hb=>(cloneI_any (some ⟨rb,ro,none⟩) cr rooms w' (by omega) (by omega) (hIRR.out.below (Nat.le_refl _) hb)).mono fun e w3 ⟨v,h1,h2,h3⟩=>⟨v,h1,h2,h3⟩
      case k4=>exact fun w' hb=>(reads_of_rec (c:=cI) (m:=1) (d:=0) (fun _=>rfl) hIRR.out).below hb
      intro F a' w3 vN vC vI vA bk mf ml s;have A:=s.g;have I:I12 w2.drew ns cs rooms (some vN) (some vC) none (some vA) (some bk) (some mf) (some ml) w3:=s.i;have h45:=s.h45 (by decide);have h48:=s.h48 (by decide);have h49:=s.h49 (by decide);have h53:=s.h53 (by decide);have h55:=s.h55 (by decide);have h56:=s.h56 (by decide);have h57:=s.h57 rfl;have h58:=s.h58 rfl;clear s;obtain⟨bN,kN,rfl⟩:=own_formN (I.n vN rfl);obtain⟨bC,kC,rfl⟩:=own_formN (I.c vC rfl);obtain⟨bA,kA,rfl⟩:=own_formN (I.a vA rfl);have q51:=A.evalOld (i:=51) (v:=.int .i64 rooms.length) (by decide) rfl;refine fin12 (by rw[A.sz];show 60<195;decide) (fun _ _ _ _ _ h=>h) (KP.out _ I.b) (A.eval h49) q51 (A.eval h55) (A.eval h56) (A.eval h57) (A.eval h58) (KP.out _ (I.b.alloc I.b.size _)) (fun v=>?_);rw[A.canon (by show 60≤195;decide) h45 h48 h49 h53 h55 h56 h57 h58];clear A h45 h48 h49 h53 h55 h56 h57 h58 q51;obtain⟨τ1,L1,m1,⟨v1,v2⟩,t1,t2⟩:=NwM.start I (fun _ _=>-1);have R0:Hid (NwR w2.drew w3.heap.size ns cs rooms (.slice bN ns.length kN) (.slice bC cs.length kC) 0 0 0 (fun _ _=>-1) 0 0 (w3.alloc (.cells #[.slice bN ns.length kN,.slice bC cs.length kC,.int .i64 rooms.length,.slice bA (rooms.length+rooms.length) kA,.slice none 0 0,.slice none 0 0,.slice none 0 0,.slice none 0 0,.slice none 0 0,.slice none 0 0,.slice none 0 0,.pointer (some ⟨bk,0,none⟩),.bool false,.int .i64 0,.int .i64 0,.map (some mf),.map (some ml),.slice none 0 0,.slice none 0 0,.slice none 0 0] 100))):=
       ⟨τ1,L1,m1,⟨v1,v2⟩,fun q _=>t1 q,t2,I.b.alloc I.b.size _⟩
      simp only[Act.put,List.setIfInBounds_toArray,List.set_cons_zero,List.set_cons_succ];generalize w3.alloc _=wF at *;generalize w3.heap.size=b at *;clear m1 v1 v2 t1 t2 KP hIPL hIRR I LP hHeld;have c0:=R0.out.cells.1;obtain⟨mm,hmm⟩:∃mm,(rooms++rooms).length=mm:=⟨_,rfl⟩;have HM:=Lib.hid hmm;have mm8:mm≤8:=by rw[←hmm,List.length_append];omega
      clear hmm
      go_wp2_with fail
      clear c0
      go_loopw [4,5,11,12,13,14,67,68,69,70,71,72,73,74,75,76,77,78,79,80,81,82,83,84,85,86,87,88,89,90,91,92,93,94,95,96,97,98,99,100,101,102,103,104,105,106,107,108,109,110,111,112,113,114,115,116,117,118,119,120,121,122,123,124,125] (fun _ _ _ _ _ _ i _ _ _ _ _ _ _ _ _ _ _ _ _ _ _ _ _ _ _ _ _ _ _ _ _ _ _ _ _ _ _ _ _ _ _ _ _ _ _ _ _ _ _ _ _ _ _ _ _ _ _ _ _ _ _ _ _ _ wr=>RelW1 w2.drew b ns cs rooms (.slice bN ns.length kN) (.slice bC cs.length kC) i wr) (fun _ _ _ _ _ _ i _ _ _ _ _ _ _ _ _ _ _ _ _ _ _ _ _ _ _ _ _ _ _ _ _ _ _ _ _ _ _ _ _ _ _ _ _ _ _ _ _ _ _ _ _ _ _ _ _ _ _ _ _ _ _ _ _ _ _=>ns.length-(RowKit.intOf i).toNat)
      case atStart=>exact⟨0,Nat.zero_le _,rfl,R0.out⟩
      case round=>
       clear R0;obtain⟨k,hk,rfl,hR⟩:=hrel;have RK:=Lib.hid hR;by_cases hkn:k<ns.length
       ·as_aux_lemma=>
        obtain⟨bn,on,hbn,_,_,e0,e1,e2⟩:=node_at hR.plan.1 k hkn;subst hbn;have PP:=PL.out.ports8 hkn;have SWF:=PL.out.sw k hkn;obtain⟨wa,hwa⟩:∃wa:World,wr.alloc (.cells #[.string (ns.getD k nd0).name,.bool (ns.getD k nd0).sw,.int .i64 (ns.getD k nd0).ports] 83)=wa:=⟨_,rfl⟩;have BA:Hid (Below wr.heap.size wr wa):=(by rw[←hwa];exact(Below.refl _ _).alloc (Nat.le_refl _) _);have VA:Hid (Blk wa wr.heap.size 83 #[.string (ns.getD k nd0).name,.bool (ns.getD k nd0).sw,.int .i64 (ns.getD k nd0).ports]):=(by rw[←hwa];exact Blk.new wr _ _);have v1:=VA.out.cell 1;have v2:=VA.out.cell 2;have RA:=Lib.hid (hR.below BA.out);obtain⟨A,cap,c3,bxc⟩:=RA.out.newBox hkn PL.out (by omega) (by omega) RB.out;have BX:=Lib.hid bxc;have PO:Hid (1≤portsOf (ns.getD k nd0)∧portsOf (ns.getD k nd0)≤8):=PP;have PI:Hid ((if(ns.getD k nd0).sw then(ns.getD k nd0).ports else 2)=((portsOf (ns.getD k nd0):Nat):Int)):=by
         rw[Hid];unfold portsOf;split
         ·omega
         ·rfl
        clear PP SWF hR bxc;obtain⟨pI,hpI⟩:∃pI:Int,((portsOf (ns.getD k nd0):Nat):Int)=pI:=⟨_,rfl⟩;have PN:=Lib.hid hpI;rw[hpI]at BX PI;clear hpI;generalize hx:ns.getD k nd0=x at *;have HX:=Lib.hid hx;clear hx;have k0i:(0:Int)≤(k:Int):=by omega
        have k1i:(k:Int)<(ns.length:Int):=by omega
        go_upto_if 75 with fail
        go_cut [12,70]from 73 to 75 (fun s12 _ wx=>s12=.int .i64 pI∧wa=wx)
        case first=>
         cases hs:x.sw with
         |true=>
          rw[hs]at v1 PI
          go_wp2_with fail
          go_meet
          case rel=>exact⟨by rw[←PI.out];rfl,rfl⟩
         |false=>
          rw[hs]at v1 PI
          go_wp2_with fail
          go_meet
          case rel=>exact⟨by rw[←PI.out];rfl,rfl⟩
        case rest=>
         obtain⟨rfl,rfl⟩:=hcut;clear v1 v2 PI VA BA hwa e0 e1 e2;obtain⟨j0,hj0,hy0,hy1,hy2⟩:=info_parts infoBoxPW;rw[HM.out]at c3 BX
         go_wp2_with (first
          |(go_at_call 40;((with_reducible refine BX.out.mono ?_);rintro e w4 ⟨bX,rfl,hB4⟩;obtain⟨aV,cV,c5,f5,xs5,o5,put5⟩:=hB4.put;have P5:=Lib.hid put5;clear hB4 put5))
          |(at_builtin;refine wpList_append_any _ rfl (.tmp 92) (.tmp 94) 93 rfl 0 101 j0 _ 1 8 Tryz.underlying93 hj0 hy0 hy1 hy2 rfl (by decide) _ k xs5 rfl (o5.alloc (.cells #[pt bX] 101)) (w4.heap.size+1) _ 1 1 [pt bX] rfl (reads_newN w4 101 [pt bX] (n:=1) (size:=1) rfl) (by intro u hu;simp only[List.mem_singleton]at hu;subst hu;rfl) (by unfold maxLen;omega) (by omega) (Nat.zero_le _) ?_))
         intro v6 w6 own6 gr6 loc6;obtain⟨a6,c6,rfl⟩:=own_formN own6;obtain⟨r6,cu6,fu6,_⟩:=P5.out (w4.alloc (.cells #[pt bX] 101)) w6 _ ((Below.refl _ _).alloc (Nat.le_refl _) _) own6 gr6 (by simpa using loc6);have R6:=Lib.hid r6;clear r6 own6 gr6 loc6 P5 o5 c5 f5 BX c3 hj0 hy0 hy1 hy2
         go_wp2_with fail
         generalize w6.setCell _ _=w7 at *;clear cu6 fu6;obtain⟨aT,cT,c4,f4,xsT,oT,putT⟩:=R6.out.putRow;rw[HX.out]at putT;have PT:=Lib.hid putT;have KS:Hid (∀w',Below w7.heap.size w7 w'→w'.cell? ⟨b,4,none⟩=some (.slice aT k cT)):=fun w' hb=>(hb.cell (World.block_lt_of_cell? _ _ c4)).trans c4;have REP:Hid (∀w' gx cp,w'.cell? ⟨gx,0,none⟩=some (.int .i64 (-1))→Calls Tryz.prog 41 #[.slice (some ⟨gx,0,none⟩) 1 cp,.int .i64 pI] w' (RowPostW 3 1 cI (List.replicate (portsOf x) (-1)) w')):=fun w' gx cp hc=>by rw[←PN.out];exact repeat_any (-1) (portsOf x) gx cp w' PO.out.1 PO.out.2 hc
         clear putT;obtain⟨l0,hl0',ly0,ly1,ly2⟩:=info_parts infoIntsPa;have OT:=Lib.hid oT;clear oT;have BW0:Hid (Below w7.heap.size w7 (w7.alloc (.cells #[.int .i64 (-1)] 3)).drew):=((Below.refl _ _).alloc (Nat.le_refl _) _).drew;refine wp_region_L 12 (fun wq=>wq.cell? ⟨b,4,none⟩=some (.slice aT k cT)) (by kernel_rfl) c4 (fun hHeld=>?_);refine AnyL.tk 0 hHeld ?_
         try simp only[puts]
         refine AnyL.tk 1 hHeld ?_
         try simp only[puts]
         refine AnyL.tk 2 hHeld ?_
         try simp only[puts]
         refine AnyL.tk 3 hHeld ?_
         try simp only[puts]
         refine AnyL.tk 4 hHeld ?_
         try simp only[puts]
         refine AnyL.tk 6 hHeld ?_
         try simp only[puts]
         refine AnyL.one (i:=5) (by kernel_rfl) rfl (fun K hK=>?_);go_simp;refine hK.out _ _ (fun _=>KS.out _ BW0.out) (fun hHeld0=>?_);have hHeld:=hHeld0 (by decide);clear hK hHeld0
         try simp only[puts]
         refine AnyL.one (i:=7) (by kernel_rfl) rfl (fun K hK=>?_);refine step_call2 (by rfl) (enters_of (P:=Tryz.prog) Tryz.func41 (by kernel_rfl) rfl) (by rfl) (by rfl) (by rfl) (REP.out _ w7.heap.size 1 ((Blk.new w7 3 #[.int .i64 (-1)]).drew.cell 0)) ?_;rintro e ws ⟨vR,rfl,ho8,hb8⟩;refine⟨_,rfl,?_⟩;have BW8:Hid (Below w7.heap.size w7 ws):=BW0.out.trans (hb8.mono BW0.out.size);refine hK.out _ _ (fun _=>KS.out _ BW8.out) (fun hHeld0=>?_);have hHeld:=hHeld0 (by decide);clear hK hHeld0
         try simp only[puts]
         rw[List.length_replicate]at ho8;obtain⟨aR,cR,rfl⟩:=own_formN ho8;have O8:Hid (ws.ownsRow w7.heap.size 3 1 (.slice aR (portsOf x) cR) (portsOf x) ((List.replicate (portsOf x) (-1)).flatMap cI)):=own_base ho8 BW0.out.size;refine AnyL.one (i:=8) (by kernel_rfl) rfl (fun K hK=>?_);go_simp;have BW9:Hid (Below w7.heap.size w7 (ws.alloc (.cells #[.slice aR (portsOf x) cR] 26))):=BW8.out.alloc BW8.out.size _;refine hK.out _ _ (fun _=>KS.out _ BW9.out) (fun hHeld0=>?_);have hHeld:=hHeld0 (by decide);clear hK hHeld0
         try simp only[puts]
         refine AnyL.one (i:=9) (by kernel_rfl) rfl (fun K hK=>?_);have OT9:(ws.alloc (.cells #[.slice aR (portsOf x) cR] 26)).ownsRow 0 26 1 (.slice aT k cT) k xsT:=own_ch OT.out (Ch.of_below (BW9.out)) fun _ _ q=>q;have RN9:Reads (ws.alloc (.cells #[.slice aR (portsOf x) cR] 26)) (ws.heap.size+1) 1 (some ⟨ws.heap.size,0,none⟩) 1 [.slice aR (portsOf x) cR]:=(reads_newN ws 26 [.slice aR (portsOf x) cR] (n:=1) (size:=1) rfl);refine step_append_any _ (by rfl) (.tmp 102) (.tmp 106) 92 (by rfl) 0 26 l0 _ 1 24 Tryz.underlying92 hl0' ly0 ly1 ly2 rfl (by decide) _ k xsT (by rfl) OT9 _ (some ⟨ws.heap.size,0,none⟩) 1 1 [.slice aR (portsOf x) cR] (by rfl) RN9 ?_ ?_ ?_ ?_ ?_
         ·intro u hu;simp only[List.mem_singleton]at hu;subst hu;rfl
         ·unfold maxLen;omega
         ·omega
         ·exact Nat.zero_le _
         intro v9 w9 own9 gr9 loc9;obtain⟨a9,c9,rfl⟩:=own_formN own9;obtain⟨r9,cu9,fu9,_⟩:=PT.out (ws.alloc (.cells #[.slice aR (portsOf x) cR] 26)) w9 _ (.slice aR (portsOf x) cR) BW9.out (own_ch O8.out (Ch.of_below (S:=fun _=>False) ((Below.refl ws.heap.size ws).alloc (Nat.le_refl _) _)) fun _ _ q=>q) PO.out.1 own9 gr9 loc9;have R9:=Lib.hid r9;clear r9 own9 gr9 loc9 OT9 RN9 PT ho8;refine hK.out _ _ (fun _=>cu9) (fun hHeld0=>?_);have hHeld:=hHeld0 (by decide);clear hK hHeld0
         try simp only[puts]
         refine AnyL.tk 10 hHeld ?_
         try simp only[puts]
         refine AnyL.tk 11 hHeld ?_
         try simp only[puts]
         refine AnyL.one (i:=12) (by kernel_rfl) rfl (fun K hK=>?_);go_simp;refine hK.out _ _ (fun h=>absurd rfl h) (fun _=>?_);clear hK;refine AnyL.done (by kernel_rfl) ?_ _
         try simp only[puts]
         go_wp2_with fail
         generalize w9.setCell _ _=w10 at *;clear cu9 fu9 c4 f4 KS REP BW0 BW8 BW9 O8 hb8;obtain⟨aM,cM,c17,f17,xsM,oM,putM⟩:=R9.out.putCame;obtain⟨A,cap,c3⟩:=R9.out.cells.2.2;rw[HM.out]at c3;have PM:=Lib.hid putM;have OM:=Lib.hid oM;clear putM oM;have KM:Hid (∀w',Below w10.heap.size w10 w'→w'.cell? ⟨b,17,none⟩=some (.slice aM k cM)∧w'.cell? ⟨b,3,none⟩=some (.slice A mm cap)):=fun w' hb=>⟨(hb.cell (World.block_lt_of_cell? _ _ c17)).trans c17,(hb.cell (World.block_lt_of_cell? _ _ c3)).trans c3⟩;obtain⟨i0,hi0,hz0,hz1,hz2⟩:=info_parts infoIntW;refine wp_region_L 15 (fun wq=>wq.cell? ⟨b,17,none⟩=some (.slice aM k cM)∧wq.cell? ⟨b,3,none⟩=some (.slice A mm cap)) (by kernel_rfl) ⟨c17,c3⟩ (fun hHeld=>?_);refine AnyL.tk 0 hHeld ?_
         try simp only[puts]
         refine AnyL.tk 1 hHeld ?_
         try simp only[puts]
         refine AnyL.tk 2 hHeld ?_
         try simp only[puts]
         refine AnyL.tk 3 hHeld ?_
         try simp only[puts]
         refine AnyL.tk 4 hHeld ?_
         try simp only[puts]
         refine AnyL.tk 5 hHeld ?_
         try simp only[puts]
         refine AnyL.tk 6 hHeld ?_
         try simp only[puts]
         refine AnyL.tk 7 hHeld ?_
         try simp only[puts]
         refine AnyL.tk 8 hHeld ?_
         try simp only[puts]
         refine AnyL.tk 9 hHeld ?_
         try simp only[puts]
         refine AnyL.one (i:=10) (by kernel_rfl) rfl (fun K hK=>?_);refine step_make_rec (by rfl) (.tmp 119) (.tmp 119) 26 (by rfl) 3 i0 _ 1 Tryz.underlying26 hi0 hz0 hz1 .i64 .i64 _ _ mm (by rfl) (by rfl) (by rfl) (by rfl) (by rw[hz2];omega) (by unfold maxLen;omega) ?_;have BM0:Hid (Below w10.heap.size w10 (w10.drew.alloc (.cells (madeCells (Value.int .i64 0).cells (mm*1)) 3))):=(Below.refl w10.heap.size w10).drew.alloc (Nat.le_refl _) _;refine hK.out _ _ (fun _=>KM.out _ BM0.out) (fun hHeld0=>?_);have hHeld:=hHeld0 (by decide);clear hK hHeld0
         try simp only[puts]
         refine AnyL.one (i:=11) (by kernel_rfl) rfl (fun K hK=>?_);go_simp;obtain⟨wm,hwm⟩:∃wm:World,(w10.alloc (.cells (madeCells #[.int .i64 0] mm) 3)).alloc (.cells #[.slice (some ⟨w10.heap.size,0,none⟩) mm mm] 26)=wm:=⟨_,rfl⟩;have BM1:Hid (Below w10.heap.size w10 wm.drew):=(by rw[←hwm];exact(((Below.refl w10.heap.size w10).alloc (Nat.le_refl _) _).alloc (by simp) _).drew);have BR:Hid (Blk wm.drew w10.heap.size 3 (List.replicate mm (.int .i64 0)).toArray):=(by rw[←hwm,←madeOne];exact((Blk.new w10 _ _).alloc _).drew);have SZ:Hid (wm.heap.size=w10.heap.size+2):=(by rw[←hwm,Hid];simp);have RNm:Reads wm.drew (w10.heap.size+1+1) 1 (some ⟨w10.heap.size+1,0,none⟩) 1 [.slice (some ⟨w10.heap.size,0,none⟩) mm mm]:=(by have:=(reads_newN (w10.alloc (.cells (madeCells #[.int .i64 0] mm) 3)) 26 [.slice (some ⟨w10.heap.size,0,none⟩) mm mm] (n:=1) (size:=1) rfl).drew;rw[hwm]at this;simpa using this);rw[hwm];refine hK.out _ _ (fun _=>KM.out _ BM1.out) (fun hHeld0=>?_);have hHeld:=hHeld0 (by decide);clear hK hHeld0
         try simp only[puts]
         refine AnyL.one (i:=12) (by kernel_rfl) rfl (fun K hK=>?_);have OTm:wm.drew.ownsRow 0 26 1 (.slice aM k cM) k xsM:=own_ch OM.out (Ch.of_below BM1.out) fun _ _ q=>q;refine step_append_any _ (by rfl) (.tmp 114) (.tmp 121) 92 (by rfl) 0 26 l0 _ 1 24 Tryz.underlying92 hl0' ly0 ly1 ly2 rfl (by decide) _ k xsM (by rfl) OTm _ (some ⟨w10.heap.size+1,0,none⟩) 1 1 [.slice (some ⟨w10.heap.size,0,none⟩) mm mm] (by rfl) RNm ?_ ?_ ?_ ?_ ?_
         ·intro u hu;simp only[List.mem_singleton]at hu;subst hu;rfl
         ·unfold maxLen;omega
         ·omega
         ·exact Nat.zero_le _
         intro v11 w11 own11 gr11 loc11;obtain⟨a11,c11,rfl⟩:=own_formN own11;obtain⟨r11,cu11,fu11,ca11⟩:=PM.out wm.drew w11 _ w10.heap.size mm BM1.out (by rw[HM.out];exact BR.out) (Nat.le_refl _) (by rw[HM.out];exact own11) gr11 loc11;have R11:=Lib.hid r11;have cu3:w11.cell? ⟨b,3,none⟩=some (.slice A mm cap):=(ca11 3).trans c3;clear r11 ca11 own11 gr11 loc11 OTm RNm PM;refine hK.out _ _ (fun _=>⟨cu11,cu3⟩) (fun hHeld0=>?_);have hHeld:=hHeld0 (by decide);clear hK hHeld0
         try simp only[puts]
         refine AnyL.tk 13 hHeld ?_
         try simp only[puts]
         refine AnyL.tk 14 hHeld ?_
         try simp only[puts]
         refine AnyL.one (i:=15) (by kernel_rfl) rfl (fun K hK=>?_);go_simp;refine hK.out _ _ (fun h=>absurd rfl h) (fun _=>?_);clear hK;refine AnyL.done (by kernel_rfl) ?_ _
         try simp only[puts]
         go_wp2_with fail
         exact⟨⟨k+1,by omega,by congr 1,R11.out⟩,by simp[RowKit.intOf];omega⟩
       ·obtain rfl:ns.length=k:=by omega
        have c1:=hR.cells.2.1;have R0:Hid (NwR w2.drew b ns cs rooms (.slice bN ns.length kN) (.slice bC cs.length kC) ns.length ns.length ns.length (fun i p=>cabI (cs.take 0) i p) 0 (2*0) wr):=hR;clear hR RK
        go_wp2_with fail
        clear c1
        go_loopw [15,16,132,133,134,135,136,137,138,139,140,141,142,143,144,145,146,147,148,149,150,151,152,153,154,155,156,157,158,159,160,161,162,163,164,165,166,167,168,169,170,171,172,173,174,175,176,177,178,179,180,181,182,183,184,185,186,187,188,189,190,191] (fun _ _ i _ _ _ _ _ _ _ _ _ _ _ _ _ _ _ _ _ _ _ _ _ _ _ _ _ _ _ _ _ _ _ _ _ _ _ _ _ _ _ _ _ _ _ _ _ _ _ _ _ _ _ _ _ _ _ _ _ _ _ wr=>RelW2 w2.drew b ns cs rooms (.slice bN ns.length kN) (.slice bC cs.length kC) i wr) (fun _ _ i _ _ _ _ _ _ _ _ _ _ _ _ _ _ _ _ _ _ _ _ _ _ _ _ _ _ _ _ _ _ _ _ _ _ _ _ _ _ _ _ _ _ _ _ _ _ _ _ _ _ _ _ _ _ _ _ _ _ _ _=>cs.length-(RowKit.intOf i).toNat)
        case atStart=>exact⟨0,Nat.zero_le _,rfl,R0.out⟩
        case round=>
         clear R0;obtain⟨j,hj,rfl,hR⟩:=hrel;have RK:=Lib.hid hR;by_cases hjn:j<cs.length
         ·as_aux_lemma=>
          obtain⟨bm,om,hbm,_,_,e0,e1,e2,e3,e4,e5⟩:=cable_at hR.plan.2 j hjn;subst hbm;have A0:=PL.out.a0 j hjn;have B0:=PL.out.b0 j hjn;have AP:=PL.out.ap j hjn;have BP:=PL.out.bp j hjn;have CT:=Lib.hid (cabI_take PL.out hjn);generalize cs.getD j cb0=y at *;obtain⟨ya,yap,yb,ybp,ydl,ycp⟩:=y;simp only at A0 B0 AP BP e0 e1 e2 e3 e4 e5;obtain⟨an,rfl⟩:∃an:Nat,ya=(an:Int):=⟨ya.toNat,by omega⟩;obtain⟨apn,rfl⟩:∃n:Nat,yap=(n:Int):=⟨yap.toNat,by omega⟩;obtain⟨bn,rfl⟩:∃n:Nat,yb=(n:Int):=⟨yb.toNat,by omega⟩;obtain⟨bpn,rfl⟩:∃n:Nat,ybp=(n:Int):=⟨ybp.toNat,by omega⟩;simp only[Int.toNat_natCast]at AP BP;have la:an<ns.length:=(by omega);have lb:bn<ns.length:=(by omega);have PA:apn<portsOf (ns.getD an nd0):=PL.out.portLt la AP.2;have PB:bpn<portsOf (ns.getD bn nd0):=PL.out.portLt lb BP.2;obtain⟨wa,hwa⟩:∃wa:World,wr.alloc (.cells #[.int .i64 (an:Int),.int .i64 (apn:Int),.int .i64 (bn:Int),.int .i64 (bpn:Int),.int .i64 ydl,.int .i64 ycp] 86)=wa:=⟨_,rfl⟩;have BA:Hid (Below wr.heap.size wr wa):=(by rw[←hwa];exact(Below.refl _ _).alloc (Nat.le_refl _) _);have VA:Hid (Blk wa wr.heap.size 86 #[.int .i64 (an:Int),.int .i64 (apn:Int),.int .i64 (bn:Int),.int .i64 (bpn:Int),.int .i64 ydl,.int .i64 ycp]):=(by rw[←hwa];exact Blk.new wr _ _);have RA:=Lib.hid (hR.below BA.out);obtain⟨gv,cv,g1,cp1,c4,cR,fz,cC,gb1,n1⟩:=RA.out.putCab la PA (j:Int);have N1:=Lib.hid n1;have GB1:=Lib.hid gb1;obtain⟨bX,hbX⟩:∃bX,wr.heap.size=bX:=⟨_,rfl⟩;rw[hbX]at VA;have va0:wa.cell? ⟨bX,0,none⟩=some (.int .i64 (an:Int)):=VA.out.cell 0;have va1:wa.cell? ⟨bX,1,none⟩=some (.int .i64 (apn:Int)):=VA.out.cell 1;have ia0:(0:Int)≤(an:Int):=(by omega);have ia1:(an:Int)<(ns.length:Int):=(by omega);have ia2:(0:Int)≤(apn:Int):=(by omega);have ia3:(apn:Int)<(portsOf (ns.getD an nd0):Int):=(by omega);have ij0:(0:Int)≤(j:Int):=(by omega);have ij1:(j:Int)<(cs.length:Int):=(by omega);generalize portsOf (ns.getD an nd0)=pa at *;clear n1 gb1 hR AP A0
          go_wp2_with fail
          go_region
          have VX:Hid (Blk (wa.setCell ⟨g1,apn,none⟩ (.int .i64 (j:Int))) bX 86 #[.int .i64 (an:Int),.int .i64 (apn:Int),.int .i64 (bn:Int),.int .i64 (bpn:Int),.int .i64 ydl,.int .i64 ycp]):=VA.out.far (p:=⟨g1,apn,none⟩) (by obtain⟨Cg,hCg⟩:=GB1.out;exact Blk.ne_ VA.out hCg (by decide)) _;generalize wa.setCell _ _=w30 at *;clear c4 cR fz cC GB1 va0 va1 ia0 ia1 ia2 ia3 VA;obtain⟨gv2,cv2,g2,cp2,c4,cR,fz,cC,gb2,n2⟩:=N1.out.putCab lb PB (j:Int);have N2:Hid (NwR w2.drew b ns cs rooms (.slice bN ns.length kN) (.slice (some ⟨bm,om,none⟩) cs.length kC) ns.length ns.length ns.length (fun i p=>cabI (cs.take (j+1)) i p) j (2*j) (w30.setCell ⟨g2,bpn,none⟩ (.int .i64 (j:Int))).drew.drew):=(n2.congrC fun i hi p=>(CT.out i p).symm).drew.drew;have va2:w30.cell? ⟨bX,2,none⟩=some (.int .i64 (bn:Int)):=VX.out.cell 2;have va3:w30.cell? ⟨bX,3,none⟩=some (.int .i64 (bpn:Int)):=VX.out.cell 3;have ia0:(0:Int)≤(bn:Int):=(by omega);have ia1:(bn:Int)<(ns.length:Int):=(by omega);have ia2:(0:Int)≤(bpn:Int):=(by omega);have ia3:(bpn:Int)<(portsOf (ns.getD bn nd0):Int):=(by omega);generalize portsOf (ns.getD bn nd0)=pb at *;clear n2 gb2 BP B0
          go_wp2_with fail
          go_region
          generalize(w30.setCell _ _).drew.drew=w31 at *;clear c4 cR fz cC VX va2 va3 ia0 ia1 ia2 ia3 N1;obtain⟨aU,cU,c6,f6,xsU,oU,putU⟩:=N2.out.putUp;have PU:=Lib.hid putU;clear putU;obtain⟨j0,hj0,hy0,hy1,hy2⟩:=info_parts infoBool
          go_wp2_with (at_builtin;refine wpList_append_any _ rfl (.tmp 165) (.tmp 166) 52 rfl 0 4 j0 _ 1 1 Tryz.underlying52 hj0 hy0 hy1 hy2 rfl (by decide) _ j xsU rfl (oU.alloc (.cells #[.bool true] 4)) (w31.heap.size+1) _ 1 1 [.bool true] rfl (reads_newN w31 4 [.bool true] (n:=1) (size:=1) rfl) (by intro u hu;simp only[List.mem_singleton]at hu;subst hu;rfl) (by unfold maxLen;omega) (by omega) (Nat.zero_le _) ?_)
          intro v6 w6 own6 gr6 loc6;obtain⟨a6,c6',rfl⟩:=own_formN own6;obtain⟨r6,cu6,fu6,_⟩:=PU.out (w31.alloc (.cells #[.bool true] 4)) w6 _ ((Below.refl _ _).alloc (Nat.le_refl _) _) own6 gr6 (by simpa using loc6);have R6:=Lib.hid r6;clear r6 own6 gr6 loc6 PU oU c6 f6
          go_wp2_with fail
          generalize w6.setCell _ _=w32 at *;clear cu6 fu6 N2;obtain⟨aM,cM,c18,f18,xsM,oM,putM⟩:=R6.out.putGone;obtain⟨A,cap,c3⟩:=R6.out.cells.2.2;rw[HM.out]at c3;have PM:=Lib.hid putM;have OM:=Lib.hid oM;clear putM oM;have KM:Hid (∀w',Below w32.heap.size w32 w'→w'.cell? ⟨b,18,none⟩=some (.slice aM (2*j) cM)∧w'.cell? ⟨b,3,none⟩=some (.slice A mm cap)):=fun w' hb=>⟨(hb.cell (World.block_lt_of_cell? _ _ c18)).trans c18,(hb.cell (World.block_lt_of_cell? _ _ c3)).trans c3⟩;obtain⟨i0,hi0,hz0,hz1,hz2⟩:=info_parts infoIntW;obtain⟨l0,hl0',ly0,ly1,ly2⟩:=info_parts infoIntsPa;refine wp_region_L 21 (fun wq=>wq.cell? ⟨b,18,none⟩=some (.slice aM (2*j) cM)∧wq.cell? ⟨b,3,none⟩=some (.slice A mm cap)) (by kernel_rfl) ⟨c18,c3⟩ (fun hHeld=>?_);refine AnyL.tk 0 hHeld ?_
          try simp only[puts]
          refine AnyL.tk 1 hHeld ?_
          try simp only[puts]
          refine AnyL.tk 2 hHeld ?_
          try simp only[puts]
          refine AnyL.tk 3 hHeld ?_
          try simp only[puts]
          refine AnyL.tk 4 hHeld ?_
          try simp only[puts]
          refine AnyL.tk 5 hHeld ?_
          try simp only[puts]
          refine AnyL.tk 6 hHeld ?_
          try simp only[puts]
          refine AnyL.tk 7 hHeld ?_
          try simp only[puts]
          refine AnyL.tk 8 hHeld ?_
          try simp only[puts]
          refine AnyL.tk 9 hHeld ?_
          try simp only[puts]
          refine AnyL.tk 11 hHeld ?_
          try simp only[puts]
          refine AnyL.tk 12 hHeld ?_
          try simp only[puts]
          refine AnyL.tk 13 hHeld ?_
          try simp only[puts]
          refine AnyL.tk 14 hHeld ?_
          try simp only[puts]
          refine AnyL.tk 15 hHeld ?_
          try simp only[puts]
          refine AnyL.two (i:=10) (j:=16) (by kernel_rfl) rfl rfl (fun K hK=>?_) (fun K hK=>?_)
          ·refine step_make_rec (by rfl) (.tmp 179) (.tmp 179) 26 (by rfl) 3 i0 _ 1 Tryz.underlying26 hi0 hz0 hz1 .i64 .i64 _ _ mm (by rfl) (by rfl) (by rfl) (by rfl) (by rw[hz2];omega) (by unfold maxLen;omega) ?_;have BM0:Hid (Below w32.heap.size w32 (w32.drew.alloc (.cells (madeCells (Value.int .i64 0).cells (mm*1)) 3))):=(Below.refl w32.heap.size w32).drew.alloc (Nat.le_refl _) _;refine hK.out _ _ (fun _=>KM.out _ BM0.out) (fun hHeld0=>?_);have hHeld:=hHeld0 (by decide);clear hK hHeld0
           try simp only[puts]
           refine AnyL.one (i:=16) (by kernel_rfl) rfl (fun K hK=>?_);refine step_make_rec (by rfl) (.tmp 185) (.tmp 185) 26 (by rfl) 3 i0 _ 1 Tryz.underlying26 hi0 hz0 hz1 .i64 .i64 _ _ mm (by rfl) (by rfl) (by rfl) (by rfl) (by rw[hz2];omega) (by unfold maxLen;omega) ?_;have BM2:Hid (Below w32.heap.size w32 ((w32.drew.alloc (.cells (madeCells (Value.int .i64 0).cells (mm*1)) 3)).alloc (.cells (madeCells (Value.int .i64 0).cells (mm*1)) 3))):=BM0.out.alloc BM0.out.size _;refine hK.out _ _ (fun _=>KM.out _ BM2.out) (fun hHeld0=>?_);have hHeld:=hHeld0 (by decide);clear hK hHeld0
           try simp only[puts]
           refine AnyL.one (i:=17) (by kernel_rfl) rfl (fun K hK=>?_);go_simp;obtain⟨wm,hwm⟩:∃wm:World,((w32.alloc (.cells (madeCells #[.int .i64 0] mm) 3)).alloc (.cells (madeCells #[.int .i64 0] mm) 3)).alloc (.cells #[.slice (some ⟨w32.heap.size,0,none⟩) mm mm,.slice (some ⟨w32.heap.size+1,0,none⟩) mm mm] 26)=wm:=⟨_,rfl⟩;have BM1:Hid (Below w32.heap.size w32 wm.drew):=(by rw[←hwm];exact((((Below.refl w32.heap.size w32).alloc (Nat.le_refl _) _).alloc (by simp) _).alloc (by simp;omega) _).drew);have BR:Hid (Blk wm.drew (w32.heap.size) 3 (List.replicate mm (.int .i64 0)).toArray):=(by rw[←hwm,←madeOne];exact(((Blk.new w32 _ _).alloc _).alloc _).drew);have BR':Hid (Blk wm.drew (w32.heap.size+1) 3 (List.replicate mm (.int .i64 0)).toArray):=(by rw[Hid,←hwm,←madeOne];have:=((Blk.new (w32.alloc (.cells (madeCells #[.int .i64 0] mm) 3)) 3 (madeCells #[.int .i64 0] mm)).alloc (.cells #[.slice (some ⟨w32.heap.size,0,none⟩) mm mm,.slice (some ⟨w32.heap.size+1,0,none⟩) mm mm] 26)).drew;simpa using this);have RNm:Reads wm.drew (w32.heap.size+1+1+1) 1 (some ⟨w32.heap.size+1+1,0,none⟩) 2 [.slice (some ⟨w32.heap.size,0,none⟩) mm mm,.slice (some ⟨w32.heap.size+1,0,none⟩) mm mm]:=(by have:=(reads_newN ((w32.alloc (.cells (madeCells #[.int .i64 0] mm) 3)).alloc (.cells (madeCells #[.int .i64 0] mm) 3)) 26 [.slice (some ⟨w32.heap.size,0,none⟩) mm mm,.slice (some ⟨w32.heap.size+1,0,none⟩) mm mm] (n:=2) (size:=1) rfl).drew;rw[hwm]at this;simpa using this);rw[hwm];refine hK.out _ _ (fun _=>KM.out _ BM1.out) (fun hHeld0=>?_);have hHeld:=hHeld0 (by decide);clear hK hHeld0
           try simp only[puts]
           refine AnyL.one (i:=18) (by kernel_rfl) rfl (fun K hK=>?_);have OTm:wm.drew.ownsRow 0 26 1 (.slice aM (2*j) cM) (2*j) xsM:=own_ch OM.out (Ch.of_below BM1.out) fun _ _ q=>q;refine step_append_any _ (by rfl) (.tmp 174) (.tmp 187) 92 (by rfl) 0 26 l0 _ 1 24 Tryz.underlying92 hl0' ly0 ly1 ly2 rfl (by decide) _ (2*j) xsM (by rfl) OTm _ (some ⟨w32.heap.size+1+1,0,none⟩) 2 2 [.slice (some ⟨w32.heap.size,0,none⟩) mm mm,.slice (some ⟨w32.heap.size+1,0,none⟩) mm mm] (by rfl) RNm ?_ ?_ ?_ ?_ ?_
           ·intro u hu;simp only[List.mem_cons,List.not_mem_nil,or_false]at hu;rcases hu with rfl|rfl<;>rfl
           ·unfold maxLen;omega
           ·omega
           ·exact Nat.zero_le _
           intro v11 w11 own11 gr11 loc11;obtain⟨a11,c11,rfl⟩:=own_formN own11;obtain⟨r11,cu11,fu11,ca11⟩:=PM.out wm.drew w11 _ (w32.heap.size) mm (w32.heap.size+1) mm BM1.out (by rw[HM.out];exact BR.out) (by omega) (by rw[HM.out];exact BR'.out) (by omega) (by omega) (by rw[HM.out];exact own11) gr11 loc11;have R11:=Lib.hid r11;have cu3:w11.cell? ⟨b,3,none⟩=some (.slice A mm cap):=(ca11 3).trans c3;clear r11 ca11 own11 gr11 loc11 OTm RNm PM;refine hK.out _ _ (fun _=>⟨cu11,cu3⟩) (fun hHeld0=>?_);have hHeld:=hHeld0 (by decide);clear hK hHeld0
           try simp only[puts]
           refine AnyL.tk 19 hHeld ?_
           try simp only[puts]
           refine AnyL.tk 20 hHeld ?_
           try simp only[puts]
           refine AnyL.one (i:=21) (by kernel_rfl) rfl (fun K hK=>?_);go_simp;refine hK.out _ _ (fun h=>absurd rfl h) (fun _=>?_);clear hK;refine AnyL.done (by kernel_rfl) ?_ _
           try simp only[puts]
           go_wp2_with fail
           exact⟨⟨j+1,by omega,by congr 1,R11.out⟩,by simp[RowKit.intOf];omega⟩
          ·refine step_make_rec (by rfl) (.tmp 185) (.tmp 185) 26 (by rfl) 3 i0 _ 1 Tryz.underlying26 hi0 hz0 hz1 .i64 .i64 _ _ mm (by rfl) (by rfl) (by rfl) (by rfl) (by rw[hz2];omega) (by unfold maxLen;omega) ?_;have BM0:Hid (Below w32.heap.size w32 (w32.drew.alloc (.cells (madeCells (Value.int .i64 0).cells (mm*1)) 3))):=(Below.refl w32.heap.size w32).drew.alloc (Nat.le_refl _) _;refine hK.out _ _ (fun _=>KM.out _ BM0.out) (fun hHeld0=>?_);have hHeld:=hHeld0 (by decide);clear hK hHeld0
           try simp only[puts]
           refine AnyL.one (i:=10) (by kernel_rfl) rfl (fun K hK=>?_);refine step_make_rec (by rfl) (.tmp 179) (.tmp 179) 26 (by rfl) 3 i0 _ 1 Tryz.underlying26 hi0 hz0 hz1 .i64 .i64 _ _ mm (by rfl) (by rfl) (by rfl) (by rfl) (by rw[hz2];omega) (by unfold maxLen;omega) ?_;have BM2:Hid (Below w32.heap.size w32 ((w32.drew.alloc (.cells (madeCells (Value.int .i64 0).cells (mm*1)) 3)).alloc (.cells (madeCells (Value.int .i64 0).cells (mm*1)) 3))):=BM0.out.alloc BM0.out.size _;refine hK.out _ _ (fun _=>KM.out _ BM2.out) (fun hHeld0=>?_);have hHeld:=hHeld0 (by decide);clear hK hHeld0
           try simp only[puts]
           refine AnyL.one (i:=17) (by kernel_rfl) rfl (fun K hK=>?_);go_simp;obtain⟨wm,hwm⟩:∃wm:World,((w32.alloc (.cells (madeCells #[.int .i64 0] mm) 3)).alloc (.cells (madeCells #[.int .i64 0] mm) 3)).alloc (.cells #[.slice (some ⟨w32.heap.size+1,0,none⟩) mm mm,.slice (some ⟨w32.heap.size,0,none⟩) mm mm] 26)=wm:=⟨_,rfl⟩;have BM1:Hid (Below w32.heap.size w32 wm.drew):=(by rw[←hwm];exact((((Below.refl w32.heap.size w32).alloc (Nat.le_refl _) _).alloc (by simp) _).alloc (by simp;omega) _).drew);have BR:Hid (Blk wm.drew (w32.heap.size) 3 (List.replicate mm (.int .i64 0)).toArray):=(by rw[←hwm,←madeOne];exact(((Blk.new w32 _ _).alloc _).alloc _).drew);have BR':Hid (Blk wm.drew (w32.heap.size+1) 3 (List.replicate mm (.int .i64 0)).toArray):=(by rw[Hid,←hwm,←madeOne];have:=((Blk.new (w32.alloc (.cells (madeCells #[.int .i64 0] mm) 3)) 3 (madeCells #[.int .i64 0] mm)).alloc (.cells #[.slice (some ⟨w32.heap.size+1,0,none⟩) mm mm,.slice (some ⟨w32.heap.size,0,none⟩) mm mm] 26)).drew;simpa using this);have RNm:Reads wm.drew (w32.heap.size+1+1+1) 1 (some ⟨w32.heap.size+1+1,0,none⟩) 2 [.slice (some ⟨w32.heap.size+1,0,none⟩) mm mm,.slice (some ⟨w32.heap.size,0,none⟩) mm mm]:=(by have:=(reads_newN ((w32.alloc (.cells (madeCells #[.int .i64 0] mm) 3)).alloc (.cells (madeCells #[.int .i64 0] mm) 3)) 26 [.slice (some ⟨w32.heap.size+1,0,none⟩) mm mm,.slice (some ⟨w32.heap.size,0,none⟩) mm mm] (n:=2) (size:=1) rfl).drew;rw[hwm]at this;simpa using this);rw[hwm];refine hK.out _ _ (fun _=>KM.out _ BM1.out) (fun hHeld0=>?_);have hHeld:=hHeld0 (by decide);clear hK hHeld0
           try simp only[puts]
           refine AnyL.one (i:=18) (by kernel_rfl) rfl (fun K hK=>?_);have OTm:wm.drew.ownsRow 0 26 1 (.slice aM (2*j) cM) (2*j) xsM:=own_ch OM.out (Ch.of_below BM1.out) fun _ _ q=>q;refine step_append_any _ (by rfl) (.tmp 174) (.tmp 187) 92 (by rfl) 0 26 l0 _ 1 24 Tryz.underlying92 hl0' ly0 ly1 ly2 rfl (by decide) _ (2*j) xsM (by rfl) OTm _ (some ⟨w32.heap.size+1+1,0,none⟩) 2 2 [.slice (some ⟨w32.heap.size+1,0,none⟩) mm mm,.slice (some ⟨w32.heap.size,0,none⟩) mm mm] (by rfl) RNm ?_ ?_ ?_ ?_ ?_
           ·intro u hu;simp only[List.mem_cons,List.not_mem_nil,or_false]at hu;rcases hu with rfl|rfl<;>rfl
           ·unfold maxLen;omega
           ·omega
           ·exact Nat.zero_le _
           intro v11 w11 own11 gr11 loc11;obtain⟨a11,c11,rfl⟩:=own_formN own11;obtain⟨r11,cu11,fu11,ca11⟩:=PM.out wm.drew w11 _ (w32.heap.size+1) mm (w32.heap.size) mm BM1.out (by rw[HM.out];exact BR'.out) (by omega) (by rw[HM.out];exact BR.out) (by omega) (by omega) (by rw[HM.out];exact own11) gr11 loc11;have R11:=Lib.hid r11;have cu3:w11.cell? ⟨b,3,none⟩=some (.slice A mm cap):=(ca11 3).trans c3;clear r11 ca11 own11 gr11 loc11 OTm RNm PM;refine hK.out _ _ (fun _=>⟨cu11,cu3⟩) (fun hHeld0=>?_);have hHeld:=hHeld0 (by decide);clear hK hHeld0
           try simp only[puts]
           refine AnyL.tk 19 hHeld ?_
           try simp only[puts]
           refine AnyL.tk 20 hHeld ?_
           try simp only[puts]
           refine AnyL.one (i:=21) (by kernel_rfl) rfl (fun K hK=>?_);go_simp;refine hK.out _ _ (fun h=>absurd rfl h) (fun _=>?_);clear hK;refine AnyL.done (by kernel_rfl) ?_ _
           try simp only[puts]
           go_wp2_with fail
           exact⟨⟨j+1,by omega,by congr 1,R11.out⟩,by simp[RowKit.intOf];omega⟩
         ·obtain rfl:cs.length=j:=by omega
          rw[List.take_length]at hR RK;have RER:=Lib.hid (hR.reroute PL.out HV.out hwf);have OKN:Hid (newErr ⟨ns,cs⟩ rooms=0):=by rw[NE.out,Hid,if_pos];unfold roomsB;rw[RB.out];simp;omega
          have FIN:Hid (∀w',(∃r τ L,IsRt ns cs (cs.map fun _=>true) r∧FabM τ w' b ns cs (newFab ns cs rooms r) L∧(∀q,q<w2.drew.heap.size→τ q=(1,0,0,0))∧Below w2.drew.heap.size w2.drew w')→NewPost w ns cs rooms (.returned (.tuple #[.pointer (some ⟨b,0,none⟩),.int .i64 0])) w'):=fun w' ⟨r,τ,L,q1,q2,q3,q4⟩=>
           .inr ⟨OKN.out,b,r,τ,L,rfl,q1,q2,fun k hk=>q3 k (Nat.lt_of_lt_of_le hk BW2.out.size),BW2.out.trans (q4.mono BW2.out.size)⟩
          clear hR RK;unfold pt at RER
          go_wp2_with (first|(go_at_call 42;((with_reducible refine RER.out.mono ?_);rintro e w5 ⟨rfl,h5⟩;have F:=Lib.hid (FIN.out w5 h5);clear h5)))
          go_ret2
          exact F.out
 ·have F:Hid (∀w',Below w.heap.size w w'→NewPost w ns cs rooms (.returned (.tuple #[.pointer none,.int .i64 (validP ⟨ns,cs⟩)])) w'):=fun w' hb=>BAD.out _ w' (by unfold newErr;rw[if_neg hv]) hv hb;obtain⟨ev,hev⟩:∃ev,validP ⟨ns,cs⟩=ev:=⟨_,rfl⟩;rw[hev]at GV F hv;clear h h3 hev
  go_enter Tryz.func11,Tryz.ntmps11
  go_wp2_with (first|(go_at_call 35;((with_reducible refine GV.out.mono ?_);rintro e w2 ⟨rfl,hb2⟩;have B2:=Lib.hid (B1.out.trans (hb2.mono B1.out.size));clear hb2)))
  go_ret2
  exact F.out _ B2.out
end Go.Proofs.YtnjjkgjdhljfnaaGreat
