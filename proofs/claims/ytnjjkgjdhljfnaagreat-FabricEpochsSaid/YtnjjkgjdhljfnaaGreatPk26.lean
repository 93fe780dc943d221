/- Part 26. -/
import Derived.Test.YtnjjkgjdhljfnaaGreatPk4
import Derived.Test.YtnjjkgjdhljfnaaGreatPk21
open Go.Proofs.Tryz
open Bool renaming and_eq_true->cZ,or_eq_true->iq,true_and->xG
open Classical renaming propDecidable->qG
open Go renaming Value->aI,World->aG,maxLen->fB
open Go.Ending renaming returned->ax
open Go.Instr renaming mapUpdate->mX
open Go.IntKind renaming i64->ag
open Go.Lib renaming hid->aA
open Go.Maps renaming keyOf_int_inv->Ir
open Go.Obj renaming cells->af
open Go.Proofs.Tryz renaming prog->aH
open Go.RowKit renaming Hid->aY,intOf->aJ
open Go.RowKit.Below renaming refl->aQ
open Go.Value renaming int->ah,pointer->au,slice->ay
open Go.WideAt renaming sameKey_eq->wu
open Int renaming natCast_nonneg->qY,toNat_natCast->cK
open List renaming any_eq_false->sN,any_eq_true->iD,append_nil->jF,filter_append->ig,filter_eq_nil_iff->jy,foldl_append->fZ,foldl_cons->fK,getD->bJ,getD_eq_getElem?_getD->fF,getElem?_eq_getElem->dw,getElem_map->tO,length_append->bV,length_cons->eQ,length_filter_le->lJ,length_map->dE,length_set->jG,length_singleton->iJ,map_append->eY,mem_append->eZ,mem_append_left->pX,mem_cons_of_mem->dU,mem_cons_self->dH,mem_filter->jH,mem_flatMap->iF,mem_map->gH,nodup_append->kZ,range->aO,take_add_one->oh
open Nat renaming le_refl->aC,le_trans->dZ,zero_le->bS
open Option renaming none->aj,some->az,toList_some->zB
open Option.some renaming inj->je
set_option maxRecDepth 100000
set_option maxHeartbeats 16000000
set_option linter.unusedVariables false
set_option linter.unusedSimpArgs false
namespace Go.Proofs.YtnjjkgjdhljfnaaGreat
section
structure uA(f g:dx):Prop where
 c:g.aX=f.aX
 rm:g.aK=f.aK
 up:g.up=f.up
 r0:g.NL=f.NL
 r1:g.QB=f.QB
 bn:g.dm=f.dm
 pe:g.kJ=f.kJ
 nw:g.now=f.now
 la:g.last=f.last
theorem uA.refl(f:dx):uA f f:=⟨rfl,rfl,rfl,rfl,rfl,rfl,rfl,rfl,rfl⟩
theorem uA.trans{f g h:dx}(a:uA f g)(b:uA g h):uA f h:=⟨b.c.trans a.c,b.rm.trans a.rm,b.up.trans a.up,b.r0.trans a.r0,b.r1.trans a.r1,b.bn.trans a.bn,b.pe.trans a.pe,b.nw.trans a.nw,b.la.trans a.la⟩
theorem uA.rem(f:dx)(e:Int):uA f (f.rem e):=by
 unfold dx.rem dx.iC;split
 ·exact uA.refl f
 ·split<;>exact⟨rfl,rfl,rfl,rfl,rfl,rfl,rfl,rfl,rfl⟩
theorem uA.qQ(f:dx)(x:Fm):uA f (f.qQ x):=have h:=uA.rem f x.ep;⟨h.c,h.rm,h.up,h.r0,h.r1,h.bn,h.pe,h.nw,h.la⟩
theorem uA.fold{α:Type}(op:dx->α->dx)(h:∀f x,uA f (op f x)):∀(l:List α) (f:dx),uA f (l.foldl op f)
 |[],f=>uA.refl f
 |x::l,f=>by rw[fK];exact(h f x).trans (uA.fold op h l _)
section
variable(ns:List Nd)(cs:List Cb)
theorem uA.gV(s:dx×List Dl)(x:Nat×Fm):uA s.1 (dx.gV ns cs s x).1:=by
 unfold dx.gV;dsimp only;split
 ·dsimp only;split
  ·exact⟨rfl,rfl,rfl,rfl,rfl,rfl,rfl,rfl,rfl⟩
  ·have h:=uA.qQ ({s.1 with boxes:=s.1.boxes.set (fM cs x.1).2.2.1 ((s.1.boxes.getD (fM cs x.1).2.2.1 default).iR (fM cs x.1).2.2.2 x.2).1}:dx) x.2;exact⟨h.c,h.rm,h.up,h.r0,h.r1,h.bn,h.pe,h.nw,h.la⟩
 ·dsimp only;have h:=uA.rem ({s.1 with came:=mW s.1.came (fM cs x.1).2.2.1 x.2.cls.toNat (dR s.1.came (fM cs x.1).2.2.1 x.2.cls.toNat+1)}:dx) x.2.ep;exact⟨h.c,h.rm,h.up,h.r0,h.r1,h.bn,h.pe,h.nw,h.la⟩
theorem uA.Tt:∀(l:List (Nat×Fm)) (s:dx×List Dl),uA s.1 (l.foldl (dx.gV ns cs) s).1
 |[],s=>uA.refl _
 |x::l,s=>by rw[fK];exact(uA.gV ns cs s x).trans (uA.Tt l _)
theorem uA.nR(u:Nat)(f:dx)(m:Mv):uA f (f.nR cs u m):=by
 unfold dx.nR;cases m.2.2.1 with
 |none=>exact uA.qQ f _
 |some k=>
  dsimp only;cases mZ cs u k with
  |none=>exact uA.refl f
  |some i=>exact⟨rfl,rfl,rfl,rfl,rfl,rfl,rfl,rfl,rfl⟩
theorem uA.qj(f:dx)(u:Nat):uA f (f.qj ns cs u):=by have h:=uA.fold (dx.nR cs u) (uA.nR cs u) (((f.boxes.getD u default).step (uZ ns cs f u)).2) {f with boxes:=f.boxes.set u ((f.boxes.getD u default).step (uZ ns cs f u)).1};exact⟨h.c,h.rm,h.up,h.r0,h.r1,h.bn,h.pe,h.nw,h.la⟩
theorem uA.tick(f:dx)(nr:Rt):uA (f.mh nr) (f.tick ns cs nr).1:=by rw[KH];have h1:uA (f.mh nr) ((f.mh nr).mF cs):=uA.fold (dx.ma cs) (fun f x=>⟨rfl,rfl,rfl,rfl,rfl,rfl,rfl,rfl,rfl⟩) _ _;have h2:uA ((f.mh nr).mF cs) ((f.mh nr).mF cs).yR:=⟨rfl,rfl,rfl,rfl,rfl,rfl,rfl,rfl,rfl⟩;have h12:=h1.trans h2;generalize((f.mh nr).mF cs).yR=g at *;have h3:uA g (g.jS ns cs).1:=(⟨rfl,rfl,rfl,rfl,rfl,rfl,rfl,rfl,rfl⟩:uA g {g with fl:=fun t=>if t=g.now then[]else g.fl t}).trans (uA.Tt ns cs (oJ (2*cs.length) (g.fl g.now)) ({g with fl:=fun t=>if t=g.now then[]else g.fl t},[]));have h4:uA (g.jS ns cs).1 (oO ns cs (g.jS ns cs).1 ns.length):=uA.fold (dx.qj ns cs) (uA.qj ns cs) _ _;refine(h12.trans (h3.trans h4)).trans ?_;show uA _ ((oO ns cs (g.jS ns cs).1 ns.length).tell ns cs);rw[Gs];exact⟨rfl,rfl,rfl,rfl,rfl,rfl,rfl,rfl,rfl⟩
end
def dx.jh(f:dx)(x:Nat×Fm):dx:=dx.qQ {f with gone:=mW f.gone x.1 x.2.cls.toNat (dR f.gone x.1 x.2.cls.toNat+1)} x.2
def dx.Ty(f:dx)(i:Nat):dx:={f with up:=f.up.set i false,kJ:=true,fl:=fun t=>jQ i (f.fl t),lim:=fun t=>jQ i (f.lim t)}
def dx.QN(f:dx)(i:Nat)(dead:List (Nat×Fm)):dx:=dead.foldl dx.jh (f.Ty i)
def Cf(B:Nat)(fl:Nat->List (Nat×Fm))(i:Nat):List (Nat×Fm):=(aO B).flatMap fun t=>El i (fl t)
def Zr(f:dx)(i:Int):Prop:=0<=i/\i<f.up.length/\f.up.getD i.toNat false=true
def aku(f:dx)(i:Int)(g:dx):Prop:=(¬Zr f i/\g=f)\/(Zr f i/\∃dead:List (Nat×Fm),(∀B,f.now+101<=B->dead.Perm (Cf B f.fl i.toNat))/\g=f.QN i.toNat dead)
section
variable{ns:List Nd}{cs:List Cb}{f g:dx}{N B:Nat}{H ins outs:List Fm}
theorem uA.jh(f:dx)(x:Nat×Fm):uA f (f.jh x):=have h:=uA.qQ ({f with gone:=mW f.gone x.1 x.2.cls.toNat (dR f.gone x.1 x.2.cls.toNat+1)}:dx) x.2;⟨h.c,h.rm,h.up,h.r0,h.r1,h.bn,h.pe,h.nw,h.la⟩
theorem aeL(f:dx)(x:Nat×Fm):(f.jh x).fl=f.fl/\(f.jh x).boxes=f.boxes/\(f.jh x).lim=f.lim:=by
 unfold dx.jh dx.qQ dx.rem dx.iC;simp only;split
 ·exact⟨rfl,rfl,rfl⟩
 ·split<;>exact⟨rfl,rfl,rfl⟩
theorem yg:∀(l:List (Nat×Fm)) (f:dx),(l.foldl dx.jh f).fl=f.fl/\(l.foldl dx.jh f).boxes=f.boxes/\(l.foldl dx.jh f).lim=f.lim
 |[],f=>⟨rfl,rfl,rfl⟩
 |x::l,f=>by rw[fK];have h:=yg l (f.jh x);have k:=aeL f x;exact⟨h.1.trans k.1,h.2.1.trans k.2.1,h.2.2.trans k.2.2⟩
theorem dK.gone(h:dK ns cs f N){c v:Nat}(hc:c<2*cs.length)(hv:v<f.aK.length):dK ns cs {f with gone:=mW f.gone c v (dR f.gone c v+1)} (N+1):=by
 have k:=h.mono (show N<=N+1 by omega);exact{
  k0:=k.k0,k1:=k.k1,rl:=k.rl,rv:=k.rv,bl:=k.bl,box:=k.box,q:=fun i p c x hi yI qg hx=>(k.q i p c x hi yI qg hx).yl rfl (aC _),up:=k.up,r0:=k.r0,r1:=k.r1,bn:=k.bn,a0:=k.a0,a1:=k.a1,now:=k.now,last:=k.last,ll:=k.ll,cm:=k.cm,cv:=k.cv,fl:=fun t x hx=>⟨(k.fl t x hx).1,(k.fl t x hx).2.yl rfl (aC _)⟩,DK:=k.DK,lim:=k.lim,DV:=k.DV
  gn:=h.gn.jd c v _
  gv:=fun i j hi hj=>by have h1:=h.gv c v hc hv;have h2:=h.gv i j hi hj;show 0<=dR (mW f.gone c v (dR f.gone c v+1)) i j/\dR (mW f.gone c v (dR f.gone c v+1)) i j<=((N+1:Nat):Int);rw[nG h.gn hc hv];split<;>omega}
theorem dK.Ty(h:dK ns cs f N)(i:Nat):dK ns cs (f.Ty i) N:=by
 have k:=h;exact{
  k0:=k.k0,k1:=k.k1,rl:=k.rl,rv:=k.rv,bl:=k.bl,box:=k.box,q:=fun i p c x hi yI qg hx=>(k.q i p c x hi yI qg hx).yl rfl (aC _),up:=by show(f.up.set i false).length=_;rw[jG];exact k.up,r0:=k.r0,r1:=k.r1,bn:=k.bn,a0:=k.a0,a1:=k.a1,now:=k.now,last:=k.last,ll:=k.ll,cm:=k.cm,cv:=k.cv,gn:=k.gn,gv:=k.gv
  fl:=fun t x hx=>by have hx:=(jH.1 (show x∈jQ i (f.fl t)from hx)).1;exact⟨(k.fl t x hx).1,(k.fl t x hx).2.yl rfl (aC _)⟩
  DK:=fun t=>dZ (lJ _ _) (k.DK t)
  lim:=fun t x hx=>k.lim t x (jH.1 (show x∈jQ i (f.lim t)from hx)).1
  DV:=fun t=>dZ (lJ _ _) (k.DV t)}
theorem dK.RG:∀(l:List (Nat×Fm)) {f:dx} {N:Nat},dK ns cs f N->(∀x∈l,x.1<2*cs.length/\vK ns f x.2)->dK ns cs (l.foldl dx.jh f) (N+2*l.length)
 |[],_,_,h,_=>h
 |x::l,f,N,h,hl=>by rw[fK];have hx:=hl x (dH ..);have k:dK ns cs (f.jh x) (N+2):=((h.gone hx.1 hx.2.c1).qQ x.2);have s:=uA.jh f x;exact(dK.RG l k fun y hy=>⟨(hl y (dU _ hy)).1,(hl y (dU _ hy)).2.yl s.rm (by rw[s.bn];exact aC _)⟩).mono (by rw[eQ];omega)
theorem Ac.RG:∀(l:List (Nat×Fm)) {f:dx},Ac B f (l.map (·.2)++H) ins outs->Ac B (l.foldl dx.jh f) H ins outs
 |[],_,h=>h
 |x::l,f,h=>by rw[fK];exact Ac.RG l (Ac.qQ (x:=x.2) (h.same (H':=[]) (g:={f with gone:=mW f.gone x.1 x.2.cls.toNat (dR f.gone x.1 x.2.cls.toNat+1)}) rfl rfl rfl rfl rfl rfl))
theorem TF(μ:Fm->Nat)(B:Nat)(fl:Nat->List (Nat×Fm))(i:Nat):flW μ B (fun t=>jQ i (fl t))+sm μ ((Cf B fl i).map (·.2))=flW μ B fl:=by unfold flW Cf;rw[afU,qA,<-ana];apply zX;intro t _;have:=acH (fun x:Nat×Fm=>μ x.2) (fun x=>x.1/2==i) (fl t);have e:(fun x:Nat×Fm=>!(x.1/2==i))=fun x=>x.1/2 !=i:=rfl;rw[e]at this;unfold jQ El;dsimp only at this|-;omega
theorem Ac.cut(h:Ac B f [] ins outs)(i:Nat){dead:List (Nat×Fm)}(hd:dead.Perm (Cf B f.fl i)):Ac B (f.QN i dead) [] ins outs:=by unfold dx.QN;refine Ac.RG dead (h.yl (fun μ=>?_) (fun _=>rfl) rfl rfl rfl rfl);have h1:=TF μ B f.fl i;have h2:=Uh (μ:=μ) (hd.map (·.2));rw[jF];unfold Gd;rw[Dk,h2];show _+flW μ B (fun t=>jQ i (f.fl t))+_=_;have e:sm (fun b:Bx=>qW μ b.q) (f.Ty i).boxes=sm (fun b:Bx=>qW μ b.q) f.boxes:=rfl;rw[e];omega
theorem Be.axN(h:Be cs f)(i:Nat)(e1:g.fl=fun t=>jQ i (f.fl t))(e2:g.now=f.now):Be cs g:=by
 refine⟨fun t=>?_,fun t x hx=>?_⟩
 ·rw[e1];exact(h.nd t).sublist (List.filter_sublist.map _)
 ·rw[e1]at hx;rw[e2];exact h.due t x (jH.1 hx).1
def wQ(f:dx)(jR kU cls:Int)(data:List Int):Fm:=⟨f.last+1,jR,kU,((cls.toNat+f.aX*(f.dm%2):Nat):Int),f.dm,data⟩
inductive agM(ns:List Nd)(f:dx)(jR kU cls:Int)(data:List Int):Prop
 |no (e:Int):e≠0->f.iL ns jR kU cls data=(f,0,e)->agM ns f jR kU cls data
 |full:((f.boxes.getD jR.toNat default).iR 1 (wQ f jR kU cls data)).2=false->((dR (f.boxes.getD jR.toNat default).q 1 (cls.toNat+f.aX*(f.dm%2))).length:Int)<f.aK.getD (cls.toNat+f.aX*(f.dm%2)) 0->jR.toNat<ns.length->1<kQ (ns.getD jR.toNat jk)->vK ns f (wQ f jR kU cls data)->
  f.iL ns jR kU cls data=({f with boxes:=f.boxes.set jR.toNat ((f.boxes.getD jR.toNat default).iR 1 (wQ f jR kU cls data)).1},0,5)->agM ns f jR kU cls data
 |yes:((f.boxes.getD jR.toNat default).iR 1 (wQ f jR kU cls data)).2=true->jR.toNat<ns.length->0<=jR->zI ns jR=true->zI ns kU=true->jR≠kU->0<=cls->cls<f.aX->1<kQ (ns.getD jR.toNat jk)->vK ns f (wQ f jR kU cls data)->
  f.iL ns jR kU cls data=({f.iC f.dm 1 with boxes:=f.boxes.set jR.toNat ((f.boxes.getD jR.toNat default).iR 1 (wQ f jR kU cls data)).1,last:=f.last+1},((f.last:Int)+1),0)->agM ns f jR kU cls data
theorem Gf(h:dK ns cs f N)(jR kU cls:Int)(data:List Int):agM ns f jR kU cls data:=by
 by_cases hb:(!zI ns jR||!zI ns kU||decide (cls<0)||decide ((f.aX:Int)<=cls)||decide (64<data.length))=true
 ·exact .no 2 (by decide) (by unfold dx.iL;rw[if_pos hb])
 by_cases hft:jR=kU
 ·exact .no 12 (by decide) (by unfold dx.iL;rw[if_neg hb,if_pos hft])
 by_cases hq:f.aK.getD (cls.toNat+f.aX*(f.dm%2)) 0<=(dR (f.boxes.getD jR.toNat default).q 1 (cls.toNat+f.aX*(f.dm%2))).length
 ·exact .no 5 (by decide) (by unfold dx.iL;rw[if_neg hb,if_neg hft];simp only;rw[if_pos hq])
 have sV:=hb;simp only[iq,Bool.not_eq_true',decide_eq_true_eq,not_or,Bool.not_eq_false,Int.not_lt,Int.not_le]at sV;obtain⟨⟨⟨⟨b1,b2⟩,b3⟩,b4⟩,b5⟩:=sV;have c1:=b1;have c2:=b2;unfold zI at c1 c2;simp only[cZ,decide_eq_true_eq]at c1 c2;have hu:jR.toNat<ns.length:=by omega
 have vl:cls.toNat+f.aX*(f.dm%2)<f.aK.length:=by rw[h.rl];rcases(show f.dm%2=0\/f.dm%2=1 by omega)with q|q<;>rw[q]<;>omega
 have p2:1<kQ (ns.getD jR.toNat jk):=by
  have e:(ns.getD jR.toNat jk).sw=false:=by have:=c1.2;unfold Am at this;simpa using this
  unfold kQ;rw[e,if_neg (by decide)];omega
 have fm:vK ns f (wQ f jR kU cls data):=⟨qY _,by unfold wQ;simp only[cK];exact vl,qY _,Int.le_refl _,c2.1.1,c2.1.2,by unfold wQ;simp only;omega⟩;have e:f.iL ns jR kU cls data=if((f.boxes.getD jR.toNat default).iR 1 (wQ f jR kU cls data)).2 then({f.iC f.dm 1 with boxes:=f.boxes.set jR.toNat ((f.boxes.getD jR.toNat default).iR 1 (wQ f jR kU cls data)).1,last:=f.last+1},((f.last:Int)+1),0)else({f with boxes:=f.boxes.set jR.toNat ((f.boxes.getD jR.toNat default).iR 1 (wQ f jR kU cls data)).1},0,5):=by unfold dx.iL;rw[if_neg hb,if_neg hft];simp only;rw[if_neg hq];rfl
 cases hr:((f.boxes.getD jR.toNat default).iR 1 (wQ f jR kU cls data)).2 with
 |true=>rw[hr,if_pos rfl]at e;exact .yes hr hu c1.1.1 b1 b2 hft b3 b4 p2 fm e
 |false=>rw[hr,if_neg (by decide)]at e;exact .full hr (by omega) hu p2 fm e
theorem Ac.inj(hp:sS ns cs)(ok:dK ns cs f N)(h:Ac B f [] ins outs)(jR kU cls:Int)(data:List Int):Ac B (f.iL ns jR kU cls data).1 [] (if(f.iL ns jR kU cls data).2.2=0 then ins++[wQ f jR kU cls data]else ins) outs:=by
 rcases Gf ok jR kU cls data with⟨e,he,q⟩|⟨hr,_,hu,p2,fm,q⟩|⟨hr,hu,_,_,_,_,_,_,p2,fm,q⟩
 ·rw[q];simp only;rw[if_neg he];exact h
 ·rw[q];simp only;rw[if_neg (by decide)];obtain⟨b1,b2,b3⟩:=ok.box _ hu;have aw:=OI (x:=wQ f jR kU cls data) b1 (p:=1) (by rw[b2];exact p2) (by rw[b3];exact fm.c1);exact h.box (by rw[ok.bl];exact hu) _ fun μ=>by rw[aw.2 hr]
 ·rw[q];simp only;rw[if_pos trivial];obtain⟨b1,b2,b3⟩:=ok.box _ hu;have aw:=OI (x:=wQ f jR kU cls data) b1 (p:=1) (by rw[b2];exact p2) (by rw[b3];exact fm.c1);have iw:∀μ,Gd μ B ({f.iC f.dm 1 with boxes:=f.boxes.set jR.toNat ((f.boxes.getD jR.toNat default).iR 1 (wQ f jR kU cls data)).1,last:=f.last+1}:dx) []=Gd μ B f []+μ (wQ f jR kU cls data):=fun μ=>by
   unfold Gd;have h1:=Ui (fun b:Bx=>qW μ b.q) f.boxes (i:=jR.toNat) (by rw[ok.bl];exact hu) ((f.boxes.getD jR.toNat default).iR 1 (wQ f jR kU cls data)).1 default;have h2:=aw.1 hr μ;have e:(f.iC f.dm 1).fl=f.fl:=by unfold dx.iC;split<;>rfl
   simp only at h1|-;rw[e];omega
  refine⟨fun μ=>?_,fun e=>?_,fun e=>?_⟩
  ·have:=h.acc μ;have e:(f.iC f.dm 1).lost=f.lost:=by unfold dx.iC;split<;>rfl
   rw[iw,oq,Jr];simp only;rw[e];omega
  ·have:=h.al e;rw[iw];have ee:epI e (wQ f jR kU cls data)=if(f.dm:Int)=e then 1 else 0:=rfl
   rw[ee];show dx.alive (f.iC f.dm 1) e=_;unfold dx.alive at this|-;have eb:(f.iC f.dm 1).dm=f.dm:=by unfold dx.iC;split<;>rfl
   rw[eb];by_cases q1:e<0\/(f.dm:Int)<e\/e<(f.dm:Int)-1
   ·rw[if_pos q1]at this|-;rw[if_neg (by omega)];omega
   ·rw[if_neg q1]at this|-;unfold dx.iC;by_cases p:(f.dm:Int)%2=0
    ·rw[if_pos p];by_cases p':e%2=0
     ·rw[if_pos p']at this|-;rw[if_pos (by omega)];simp only;omega
     ·rw[if_neg p']at this|-;rw[if_neg (by omega)];simp only;omega
    ·rw[if_neg p];by_cases p':e%2=0
     ·rw[if_pos p']at this|-;rw[if_neg (by omega)];simp only;omega
     ·rw[if_neg p']at this|-;rw[if_pos (by omega)];simp only;omega
  ·have e':f.dm=0:=by
    have eb:(f.iC f.dm 1).dm=f.dm:=by unfold dx.iC;split<;>rfl
    exact eb.symm.trans e
   have:=h.a1 e';show(f.iC f.dm 1).vH=0;unfold dx.iC;rw[if_pos (by omega)];exact this
theorem Pz(ok:dK ns cs f N)(jR kU cls:Int)(data:List Int):(f.iL ns jR kU cls data).1.fl=f.fl/\(f.iL ns jR kU cls data).1.now=f.now/\(f.iL ns jR kU cls data).1.up=f.up/\(f.iL ns jR kU cls data).1.dm=f.dm/\(f.iL ns jR kU cls data).1.kJ=f.kJ/\(f.iL ns jR kU cls data).1.last=f.last+(if(f.iL ns jR kU cls data).2.2=0 then 1 else 0)/\(f.iL ns jR kU cls data).1.NL=f.NL/\(f.iL ns jR kU cls data).1.QB=f.QB/\(f.iL ns jR kU cls data).1.lost=f.lost:=by
 rcases Gf ok jR kU cls data with⟨e,he,q⟩|⟨_,_,_,_,_,q⟩|⟨_,_,_,_,_,_,_,_,_,_,q⟩
 ·rw[q];exact⟨rfl,rfl,rfl,rfl,rfl,by show f.last=f.last+(if e=0 then 1 else 0);rw[if_neg he];rfl,rfl,rfl,rfl⟩
 ·rw[q];exact⟨rfl,rfl,rfl,rfl,rfl,by show f.last=f.last+(if(5:Int)=0 then 1 else 0);rw[if_neg (by decide)];rfl,rfl,rfl,rfl⟩
 ·rw[q];have k:(f.iC f.dm 1).fl=f.fl/\(f.iC f.dm 1).now=f.now/\(f.iC f.dm 1).up=f.up/\(f.iC f.dm 1).dm=f.dm/\(f.iC f.dm 1).kJ=f.kJ/\(f.iC f.dm 1).NL=f.NL/\(f.iC f.dm 1).QB=f.QB/\(f.iC f.dm 1).lost=f.lost:=by
   unfold dx.iC;split<;>exact⟨rfl,rfl,rfl,rfl,rfl,rfl,rfl,rfl⟩
  obtain⟨k1,k2,k3,k4,k5,k6,k7,k8⟩:=k;exact⟨k1,k2,k3,k4,k5,by show f.last+1=f.last+(if(0:Int)=0 then 1 else 0);rw[if_pos rfl],k6,k7,k8⟩
end
structure Iz where
 f:dx
 ins:List Fm
 outs:List Dl
def UO(ns:List Nd)(cs:List Cb)(s:Iz)(a:nY)(t:Iz):Prop:=
 (a.k=0/\∃nr,Ef ns cs nr/\((s.f.kJ&&s.f.lZ)=true->Bz ns cs s.f.up nr)/\t=⟨(s.f.tick ns cs nr).1,s.ins,s.outs++(s.f.tick ns cs nr).2⟩)\/
 (a.k=1/\t=⟨(s.f.iL ns a.a a.b a.c a.data).1,if(s.f.iL ns a.a a.b a.c a.data).2.2=0 then s.ins++[wQ s.f a.a a.b a.c a.data]else s.ins,s.outs⟩)\/
 (a.k=2/\aku s.f a.i t.f/\t.ins=s.ins/\t.outs=s.outs)\/
 (a.k=3/\t=⟨(s.f.yE a.i).1,s.ins,s.outs⟩)\/
 ((a.k≠0/\a.k≠1/\a.k≠2/\a.k≠3)/\t=s)
structure NY(ns:List Nd)(cs:List Cb)(B n:Nat)(s:Iz):Prop where
 ok:dK ns cs s.f (n*42000)
 fl:Be cs s.f
 ac:Ac B s.f [] s.ins (s.outs.map (·.2.2))
 il:s.ins.length=s.f.last
 id:∀i,i<s.ins.length->(s.ins.getD i default).id=((i+1:Nat):Int)
 la:s.f.last<=n
 nw:s.f.now<=n
section
variable{ns:List Nd}{cs:List Cb}{s t:Iz}{n B:Nat}
theorem NY.ajO(h:NY ns cs B n s):NY ns cs B (n+1) s:=⟨h.ok.mono (by omega),h.fl,h.ac,h.il,h.id,by have:=h.la;omega,by have:=h.nw;omega⟩
theorem ahX{f:dx}{N:Nat}(k:dK ns cs f N)(i:Int):dK ns cs (f.yE i).1 N/\(f.yE i).1.fl=f.fl/\(f.yE i).1.boxes=f.boxes/\(f.yE i).1.lost=f.lost/\(f.yE i).1.wM=f.wM/\(f.yE i).1.vH=f.vH/\(f.yE i).1.dm=f.dm/\(f.yE i).1.now=f.now/\(f.yE i).1.last=f.last:=by
 unfold dx.yE;split
 ·exact⟨k,rfl,rfl,rfl,rfl,rfl,rfl,rfl,rfl⟩
 ·split
  ·exact⟨k,rfl,rfl,rfl,rfl,rfl,rfl,rfl,rfl⟩
  ·refine⟨{
    k0:=k.k0,k1:=k.k1,rl:=k.rl,rv:=k.rv,bl:=k.bl,box:=k.box,q:=fun i p c x hi yI qg hx=>(k.q i p c x hi yI qg hx).yl rfl (aC _),up:=by show(f.up.set _ true).length=_;rw[jG];exact k.up,r0:=k.r0,r1:=k.r1,bn:=k.bn,a0:=k.a0,a1:=k.a1,now:=k.now,last:=k.last,ll:=k.ll,cm:=k.cm,cv:=k.cv,gn:=k.gn,gv:=k.gv,fl:=fun t x hx=>⟨(k.fl t x hx).1,(k.fl t x hx).2.yl rfl (aC _)⟩,DK:=k.DK,lim:=k.lim,DV:=k.DV},rfl,rfl,rfl,rfl,rfl,rfl,rfl,rfl⟩
theorem Dm{α:Type}(l:List α):sm (fun _=>1) l=l.length:=by
 induction l with
 |nil=>rfl
 |cons x l ih=>rw[lV,ih,eQ];omega
theorem Ac.len{f:dx}{H ins outs:List Fm}(h:Ac B f H ins outs):Gd (fun _=>1) B f H+outs.length+f.lost.length=ins.length:=by have:=h.acc fun _=>1;rw[Dm,Dm,Dm]at this;exact this
theorem NY.step(hp:sS ns cs)(h8:ns.length<=8)(h:NY ns cs B n s){a:nY}(ha:UO ns cs s a t)(hB:n+102<=B)(hn:n<=14000):NY ns cs B (n+1) t:=by
 have nw:=h.nw;rcases ha with⟨_,nr,hr,_,rfl⟩|⟨_,rfl⟩|⟨_,hc,e1,e2⟩|⟨_,rfl⟩|⟨_,rfl⟩
 ·have g:=Sm h.ok h.fl hp hr (by omega);have s1:=uA.tick ns cs s.f nr;have bl:(s.f.mh nr).last=s.f.last/\(s.f.mh nr).now=s.f.now+1:=by
   unfold dx.mh dx.Ak;split
   ·split<;>exact⟨rfl,rfl⟩
   ·exact⟨rfl,rfl⟩
  refine⟨g.1.mono (by omega),g.2,?_,by rw[s1.la,bl.1];exact h.il,h.id,by rw[s1.la,bl.1];have:=h.la;omega,by rw[s1.nw,bl.2];omega⟩;have:=h.ac.tick hp h.ok h.fl hr (by omega);simp only[eY];exact this
 ·have is:=Pz h.ok a.a a.b a.c a.data;obtain⟨i1,i2,_,_,_,i6,_⟩:=is;refine⟨(h.ok.iL a.a a.b a.c a.data).mono (by omega),h.fl.same i1 i2,h.ac.inj hp h.ok a.a a.b a.c a.data,?_,?_,?_,by rw[i2];omega⟩
  ·simp only;rw[i6];have:=h.il;split<;>simp[this]
  ·simp only;split
   ·intro i hi;rw[bV,iJ]at hi;by_cases q:i<s.ins.length
    ·have k:=h.id i q;rw[fF]at k|-;rw[List.getElem?_append_left q];exact k
    ·have e:i=s.ins.length:=by omega
     rw[fF,List.getElem?_append_right (by omega),e,Nat.sub_self];show((s.f.last:Int)+1)=_;rw[h.il];omega
   ·exact h.id
  ·simp only;rw[i6];have:=h.la;split<;>omega
 ·obtain⟨tf,ti,kU⟩:=t;simp only at hc e1 e2;subst e1 e2;rcases hc with⟨_,rfl⟩|⟨_,dead,hd,rfl⟩
  ·exact h.ajO
  ·have d:=hd B (by omega);have ac:=h.ac.cut a.i.toNat d;have l1:=ac.len;have sam:uA (s.f.Ty a.i.toNat) (s.f.QN a.i.toNat dead):=uA.fold dx.jh uA.jh dead _;have mem:∀x∈dead,x.1<2*cs.length/\vK ns s.f x.2:=fun x hx=>by
    have:=d.mem_iff.1 hx;unfold Cf at this;obtain⟨t,_,ht⟩:=iF.1 this;exact h.ok.fl t x (jH.1 ht).1
   have dl:dead.length<=s.ins.length:=(by have h1:=h.ac.len;have h2:=TF (fun _=>1) B s.f.fl a.i.toNat;have h3:=(d.map (·.2)).length_eq;rw[Dm]at h2;unfold Gd at h1;rw[dE]at h3;omega);have ok:=dK.RG dead (h.ok.Ty a.i.toNat) fun x hx=>⟨(mem x hx).1,(mem x hx).2.yl rfl (aC _)⟩;have il:=h.il;have la:=h.la;refine⟨ok.mono (by omega),?_,ac,by simp only;rw[sam.la];exact il,h.id,by simp only;rw[sam.la];show s.f.last<=_;omega,by simp only;rw[sam.nw];show s.f.now<=_;omega⟩;exact h.fl.axN a.i.toNat (yg dead _).1 (sam.nw.trans rfl)
 ·obtain⟨m1,m2,m3,m4,m5,m6,m7,m8,m9⟩:=ahX h.ok a.i;refine⟨m1.mono (by omega),h.fl.same m2 m8,h.ac.same (H':=[]) m3 m2 m4 m5 m6 m7,by simp only;rw[m9];exact h.il,h.id,by simp only;rw[m9];have:=h.la;omega,by simp only;rw[m8];omega⟩
 ·exact h.ajO
end
def abR(B:Nat)(f:dx):List Fm:=(f.boxes.flatMap fun b=>b.q.flatMap fun r=>r.flatMap fun l=>l)++(aO B).flatMap fun t=>(f.fl t).map (·.2)
theorem VN(μ:Fm->Nat)(B:Nat)(f:dx):Gd μ B f []=sm μ (abR B f):=by
 unfold Gd abR flW;rw[Dk,oq,qA,qA];have e1:(fun b:Bx=>qW μ b.q)=fun b:Bx=>sm μ (b.q.flatMap fun r=>r.flatMap fun l=>l):=by funext b;unfold qW;rw[qA];apply zX;intro r _;rw[qA]
 rw[e1];have e2:(fun t=>sm (fun x:Nat×Fm=>μ x.2) (f.fl t))=fun t=>sm μ ((f.fl t).map (·.2)):=by funext t;exact aag μ _
 rw[e2];omega
section
variable{ns:List Nd}{cs:List Cb}{s t:Iz}{n B:Nat}
theorem NY.perm(h:NY ns cs B n s):(abR B s.f++s.outs.map (·.2.2)++s.f.lost).Perm s.ins:=by
 haveI:DecidableEq Fm:=fun a b=>qG _
 refine Jm fun μ=>?_;rw[oq,oq,<-VN];exact h.ac.acc μ
theorem NY.nodup(h:NY ns cs B n s):(s.ins.map (·.id)).Nodup:=by
 rw[List.Nodup,List.pairwise_iff_getElem];intro i j hi hj hij q;rw[dE]at hi hj;have e:∀k (hk:k<s.ins.length),s.ins[k].id=((k+1:Nat):Int):=fun k hk=>by have:=h.id k hk;simpa[bJ,hk]using this
 rw[tO,tO,e i hi,e j hj]at q;omega
def zL(s:Iz)(k:Int):Bool:=s.f.lost.any (fun x=>x.id==k)||s.outs.any fun d=>d.2.2.id==k
def yS(s:Iz)(x:Fm):Bool:=decide (x.ep=(s.f.dm:Int)-1)&&!zL s x.id
def QX(s:Iz):Nat:=(s.ins.filter (yS s)).length
theorem ach(h:NY ns cs B n s):s.f.alive ((s.f.dm:Int)-1)=(QX s:Int):=by
 have hp:=h.perm;have hn:=((hp.map (·.id)).nodup_iff).2 h.nodup;unfold QX;rw[<-(hp.filter (yS s)).length_eq,ig,ig];rw[eY,eY,kZ,kZ]at hn;obtain⟨⟨n1,_,d1⟩,_,d2⟩:=hn;have z1:(s.outs.map (·.2.2)).filter (yS s)=[]:=by
  rw[jy];intro x hx;obtain⟨d,hd,rfl⟩:=gH.1 hx;have:zL s d.2.2.id=true:=by unfold zL;rw[iq];exact .inr (iD.2 ⟨d,hd,by simp⟩)
  unfold yS;rw[this];simp
 have z2:s.f.lost.filter (yS s)=[]:=by
  rw[jy];intro x hx;have:zL s x.id=true:=by unfold zL;rw[iq];exact .inl (iD.2 ⟨x,hx,by simp⟩)
  unfold yS;rw[this];simp
 rw[z1,z2,jF,jF,h.ac.al,VN];have key:∀x∈abR B s.f,zL s x.id=false:=fun x hx=>by
  have m1:x.id∈(abR B s.f).map (·.id):=gH.2 ⟨x,hx,rfl⟩;unfold zL;rw[Bool.or_eq_false_iff];constructor
  ·rw[sN];intro y hy e;have e:y.id=x.id:=(by simpa using e);exact d2 x.id (pX _ m1) y.id (gH.2 ⟨y,hy,rfl⟩) e.symm
  ·rw[sN];intro y hy e;have e:y.2.2.id=x.id:=(by simpa using e);exact d1 x.id m1 y.2.2.id (gH.2 ⟨y.2.2,gH.2 ⟨y,hy,rfl⟩,rfl⟩) e.symm
 generalize abR B s.f=l at *;congr 1;clear z1 z2 d1 d2 hp n1
 induction l with
 |nil=>rfl
 |cons x l ih=>
  rw[lV,ih fun y hy=>key y (dU _ hy),List.filter_cons];have k:=key x (dH ..);unfold yS epI;by_cases q:x.ep=(s.f.dm:Int)-1
  ·rw[if_pos q,k];simp[q];omega
  ·rw[if_neg q];simp[q]
def qN(a:nY)(up:List Bool):Bool:=(a.k==2||a.k==3)&&decide (0<=a.i)&&decide (a.i<up.length)&&(up.getD a.i.toNat false !=(a.k==3))
structure Xe(s:Iz)(a:nY)(t:Iz):Prop where
 b:t.f.dm=if(a.k==0&&s.f.kJ&&QX s==0)=true then s.f.dm+1 else s.f.dm
 p:t.f.kJ=if qN a s.f.up=true then true else if(a.k==0&&s.f.kJ&&QX s==0)=true then false else s.f.kJ
 u:t.f.up=if qN a s.f.up=true then s.f.up.set a.i.toNat (a.k==3)else s.f.up
theorem ahw(h:NY ns cs B n s){a:nY}(ha:UO ns cs s a t):Xe s a t:=by
 have old:=ach h;rcases ha with⟨k0,nr,hr,_,rfl⟩|⟨k0,rfl⟩|⟨k0,hc,e1,e2⟩|⟨k0,rfl⟩|⟨k0,rfl⟩
 ·have s1:=uA.tick ns cs s.f nr;have us:qN a s.f.up=false:=by unfold qN;rw[k0];rfl
  have ka:(a.k==0)=true:=by rw[k0];rfl
  have mz:s.f.lZ=(QX s==0):=by
   unfold dx.lZ;rw[old];by_cases q:QX s=0
   ·rw[q];rfl
   ·have:(QX s==0)=false:=by simpa using q
    rw[this];exact decide_eq_false (by omega)
  have hb:(s.f.mh nr).dm=(if(s.f.kJ&&(QX s==0))=true then s.f.dm+1 else s.f.dm)/\(s.f.mh nr).kJ=(if(s.f.kJ&&(QX s==0))=true then false else s.f.kJ)/\(s.f.mh nr).up=s.f.up:=by
   rw[<-mz];unfold dx.mh;have e:(s.f.Cn.kJ&&s.f.Cn.lZ)=(s.f.kJ&&s.f.lZ):=rfl;rw[e];split
   ·unfold dx.Ak;split<;>exact⟨rfl,rfl,rfl⟩
   ·exact⟨rfl,rfl,rfl⟩
  refine⟨?_,?_,?_⟩
  ·simp only;rw[s1.bn,hb.1,ka,xG]
  ·simp only;rw[s1.pe,hb.2.1,us,ka,xG];rfl
  ·simp only;rw[s1.up,hb.2.2,us];rfl
 ·have us:qN a s.f.up=false:=by unfold qN;rw[k0];rfl
  have ka:(a.k==0)=false:=by rw[k0];rfl
  obtain⟨_,_,i3,i4,i5,_⟩:=Pz h.ok a.a a.b a.c a.data;refine⟨?_,?_,?_⟩
  ·simp only;rw[i4,ka];rfl
  ·simp only;rw[i5,us,ka];rfl
  ·simp only;rw[i3,us];rfl
 ·obtain⟨tf,ti,kU⟩:=t;simp only at hc e1 e2;subst e1 e2;have ka:(a.k==0)=false:=by rw[k0];rfl
  have k2:(a.k==2)=true:=by rw[k0];rfl
  have k3:(a.k==3)=false:=by rw[k0];rfl
  have us:qN a s.f.up=(decide (0<=a.i)&&decide (a.i<s.f.up.length)&&s.f.up.getD a.i.toNat false):=by unfold qN;rw[k2,k3];simp
  rcases hc with⟨no,rfl⟩|⟨⟨c1,c2,c3⟩,dead,_,rfl⟩
  ·have uf:qN a s.f.up=false:=by
    rw[us];cases q:(decide (0<=a.i)&&decide (a.i<s.f.up.length)&&s.f.up.getD a.i.toNat false)with
    |false=>rfl
    |true=>simp only[cZ,decide_eq_true_eq]at q;exact absurd ⟨q.1.1,q.1.2,q.2⟩ no
   refine⟨?_,?_,?_⟩
   ·simp only;rw[ka];rfl
   ·simp only;rw[uf,ka];rfl
   ·simp only;rw[uf];rfl
  ·have ut:qN a s.f.up=true:=by rw[us,c3,decide_eq_true c1,decide_eq_true c2];rfl
   have sam:uA (s.f.Ty a.i.toNat) (s.f.QN a.i.toNat dead):=uA.fold dx.jh uA.jh dead _;refine⟨?_,?_,?_⟩
   ·simp only;rw[sam.bn,ka];rfl
   ·simp only;rw[sam.pe,ut];rfl
   ·simp only;rw[sam.up,ut,k3];rfl
 ·have ka:(a.k==0)=false:=by rw[k0];rfl
  have k2:(a.k==2)=false:=by rw[k0];rfl
  have k3:(a.k==3)=true:=by rw[k0];rfl
  have us:qN a s.f.up=(decide (0<=a.i)&&decide (a.i<s.f.up.length)&&!s.f.up.getD a.i.toNat false):=by unfold qN;rw[k2,k3];simp
  unfold dx.yE;by_cases c1:a.i<0\/(s.f.up.length:Int)<=a.i
  ·have uf:qN a s.f.up=false:=by
    rw[us];rcases c1 with q|q
    ·rw[decide_eq_false (by omega:¬0<=a.i)];rfl
    ·rw[decide_eq_false (by omega:¬a.i<s.f.up.length)];simp
   rw[if_pos c1];refine⟨?_,?_,?_⟩
   ·simp only;rw[ka];rfl
   ·simp only;rw[uf,ka];rfl
   ·simp only;rw[uf];rfl
  ·rw[if_neg c1];have g1:decide (0<=a.i)=true:=decide_eq_true (by omega);have g2:decide (a.i<s.f.up.length)=true:=decide_eq_true (by omega);cases hu:s.f.up.getD a.i.toNat false with
   |true=>
    rw[if_pos rfl];have uf:qN a s.f.up=false:=by rw[us,g1,g2,hu];rfl
    refine⟨?_,?_,?_⟩
    ·simp only;rw[ka];rfl
    ·simp only;rw[uf,ka];rfl
    ·simp only;rw[uf];rfl
   |false=>
    rw[if_neg (by decide)];have ut:qN a s.f.up=true:=by rw[us,g1,g2,hu];rfl
    refine⟨?_,?_,?_⟩
    ·simp only;rw[ka];rfl
    ·simp only;rw[ut];rfl
    ·simp only;rw[ut,k3];rfl
 ·obtain⟨q0,q1,q2,q3⟩:=k0;have ka:(a.k==0)=false:=by simpa using q0
  have uf:qN a t.f.up=false:=by
   unfold qN;have k2:(a.k==2)=false:=by simpa using q2
   have k3:(a.k==3)=false:=(by simpa using q3);rw[k2,k3];rfl
  refine⟨?_,?_,?_⟩
  ·rw[ka];rfl
  ·rw[uf,ka];rfl
  ·rw[uf];rfl
end
end
section
open Go.RowKit Go.Maps
theorem jo.uniq{w:aG}{P:Program}{k:TypeId}{b n n':Nat}{M M':Lit->Option aI}(h:jo w P k b n M)(h':jo w P k b n' M'):M=M':=by
 obtain⟨D,⟨es,clock,hb,F,hs,hD⟩,h2⟩:=h;obtain⟨D',⟨es',clock',sV,F',hs',hD'⟩,h2'⟩:=h';have e:es=es':=by rw[hb]at sV;injection sV with q;injection q
 subst e;have e:D=D':=by rw[hD,hD']
 subst e;funext l;have i1:=(h2 l).1;have i2:=(h2' l).1;have j1:=(h2 l).2;have j2:=(h2' l).2;cases hm:M l with
 |none=>rw[hm]at i1;rw[i1]at i2;cases hm':M' l with
  |none=>rfl
  |some v=>rw[hm']at i2;cases i2
 |some v=>rw[hm]at i1;rw[i1]at i2;cases hm':M' l with
  |none=>rw[hm']at i2;cases i2
  |some v'=>have q1:=j1 (.bool true);have q2:=j2 (.bool true);rw[hm]at q1;rw[hm']at q2;rw[q1]at q2;injection q2 with q2;simp only[Option.getD_some]at q2;rw[q2]
theorem VG(f:dx)(x:Nat×Fm)(X:Nat->List (Nat×Fm)):({f with fl:=X}:dx).jh x={f.jh x with fl:=X}:=by
 unfold dx.jh dx.qQ dx.rem dx.iC dx.alive;simp only;split
 ·split
  ·rfl
  ·split<;>rfl
 ·split
  ·split<;>rfl
  ·split<;>rfl
theorem Fg:∀(l:List (Nat×Fm)) (f:dx) (X:Nat->List (Nat×Fm)),l.foldl dx.jh {f with fl:=X}={l.foldl dx.jh f with fl:=X}
 |[],f,X=>rfl
 |x::l,f,X=>by rw[fK,VG,Fg l (f.jh x) X,fK]
section
variable{Z dN:Own}{w w':aG}{b:Nat}{ns:List Nd}{cs:List Cb}{f:dx}{L:rY}{M:Lit->Option aI}{n r CY B:Nat}{left:Lit->Bool}
theorem gy.free{S:Nat->Prop}(h:gy Z w b ns cs f L)(hc:Ch S w w')(he:∀k,k<w.heap.size->dN k=Z k)(hM:jo w aH 3 L.mf n M)(hB:∀t v,M (.int .i64 (t:Nat))=az v->∀g,v.ownBlock=az g->g<B)(hS:∀k,S k->(Z k).1=0\/(B<=k/\(Z k).1=2/\(Z k).2.1=4)):gy dN w' b ns cs f L:=by
 have g:=h.Ra (fun k=>k=4) hc he fun k s=>by
  rcases hS k s with q|q
  ·exact .inl q
  ·exact .inr ⟨q.2.1,q.2.2⟩
 have s1:∀k,S k->(Z k).1≠1:=fun k s=>by rcases hS k s with q|q<;>omega
 refine⟨⟨g.root (by decide),g.iP.1⟩,g.plan,g.aK,g.xH,g.La,g.bx,g.up (by decide),g.r0,g.r1,⟨g.bk (by decide),g.IE⟩,⟨?_,g.ZL⟩,⟨g.lim (by decide) (by decide),g.Kl⟩,g.came (by decide),g.gone (by decide),g.lost (by decide)⟩;obtain⟨n0,M0,m1,m2,m3,m4,m5⟩:=h.fl.1;obtain rfl:=m1.uniq hM;refine⟨n0,M0,ni m1 hc (fun s=>?_),m2,m3,m4,fun t v hv=>?_⟩
 ·rcases hS _ s with q|q
  ·rw[h.fl.2]at q;simp at q
  ·rw[h.fl.2]at q;simp at q
 ·obtain⟨a1,a2⟩:=m5 t v hv;refine⟨a1.jD hc he s1 fun g hg s=>?_,fun g hg=>by rw[he _ (a1.lt g hg)];exact a2 g hg⟩;rcases hS _ s with q|q
  ·rw[a2 g hg]at q;simp at q
  ·have:=hB t v hv g hg;omega
theorem gy.ahy(h:gy Z w b ns cs f L)(ho:wL w aH 3 L.mf r n M left CY)(hn:n<=1000000000){t:Nat}(ht:t<=900000000)(Gb:(M (.int .i64 (t:Nat))).isSome=true)(v':aI)(l':List (Nat×Fm))(hv:NC Z w v' l')(htag:∀g,v'.ownBlock=az g->Z g=(2,4,t,0)):∃w',(mX 90 (.map (az L.mf)) (ah ag t) v').run aH w=.ok () w'/\wL w' aH 3 L.mf r n (tJ M (.int .i64 t) v') left CY/\gy Z w' b ns cs {f with fl:=fun s=>if s=t then l' else f.fl s} L/\Ch (· =L.mf) w w':=by
 obtain⟨w',hrun,ho2,hg,hs⟩:=ho.put (int_keyed underlying3) underlying90 (by unfold fB;omega) (keyOf_int_mk underlying3 (ny (t:Int) (by omega) (by omega))) Gb v';have mT:=h.fl.2;have hc:Ch (· =L.mf) w w':=(Ch.refl (· =L.mf) w).grown hg fun g hg=>.inl (je hg).symm;have g:=h.Ra (fun k=>k=3) (dN:=Z) hc (fun _ _=>rfl) fun k s=>.inr (by rw[s,mT];exact⟨rfl,rfl⟩);refine⟨w',hrun,ho2,⟨⟨g.root (by decide),g.iP.1⟩,g.plan,g.aK,g.xH,g.La,g.bx,g.up (by decide),g.r0,g.r1,⟨g.bk (by decide),g.IE⟩,⟨?_,mT⟩,⟨g.lim (by decide) (by decide),g.Kl⟩,g.came (by decide),g.gone (by decide),g.lost (by decide)⟩,hc⟩;obtain⟨n0,M0,m1,m2,m3,m4,m5⟩:=h.fl.1;obtain rfl:=m1.uniq ho.omap;have c1:∀k,k=L.mf->(Z k).1≠1:=fun k s=>by rw[s,mT];decide
 refine vG.put (n:=n) m3 m4 ht ho2.omap ⟨?_,fun g hg=>htag g hg⟩ (fun s hs=>if_neg hs) fun s v hs hv'=>?_
 ·show NC Z w' v' (if t=t then l' else f.fl t);rw[if_pos rfl];exact hv.jD hc (fun _ _=>rfl) c1 fun g hg s=>by have:=htag g hg;rw[s,mT]at this;simp at this
 ·obtain⟨a1,a2⟩:=m5 s v hv';exact⟨a1.jD hc (fun _ _=>rfl) c1 fun g hg s=>by have:=a2 g hg;rw[s,mT]at this;simp at this,fun g hg=>a2 g hg⟩
theorem gy.afl(h:gy Z w b ns cs f L)(ho:wL w aH 3 L.ml r n M left CY)(hn:n<=1000000000){t:Nat}(ht:t<=900000000){v:aI}(Gb:M (.int .i64 (t:Nat))=az v){w2:aG}(Pq:Ch (fun k=>v.ownBlock=az k) w w2)(hr:(Z r).1≠2)(v':aI)(l':List (Nat×Nat×Int))(hv:JM w2 v' l')(hvo:v'.ownBlock=v.ownBlock):∃w',(mX 91 (.map (az L.ml)) (ah ag t) v').run aH w2=.ok () w'/\wL w' aH 3 L.ml r n (tJ M (.int .i64 t) v') left CY/\gy Z w' b ns cs {f with lim:=fun s=>if s=t then l' else f.lim s} L/\Ch (fun k=>k=L.ml\/v.ownBlock=az k) w w':=by
 obtain⟨n0,M0,m1,m2,m3,m4,m5⟩:=h.lim.1;obtain rfl:=m1.uniq ho.omap;have mT:=h.lim.2;obtain⟨b1,b2⟩:=m5 t v Gb;have ho1:wL w2 aH 3 L.ml r n M0 left CY:=ho.ch Pq (fun s=>by have:=b2 _ s;rw[mT]at this;simp at this) fun s=>hr (by rw[b2 _ s]);obtain⟨w',hrun,ho2,hg,hs⟩:=ho1.put (int_keyed underlying3) underlying91 (by unfold fB;omega) (keyOf_int_mk underlying3 (ny (t:Int) (by omega) (by omega))) (by rw[Gb];rfl) v';have hc3:Ch (· =L.ml) w2 w':=(Ch.refl (· =L.ml) w2).grown hg fun g hg=>.inl (je hg).symm;have hc:Ch (fun k=>k=L.ml\/v.ownBlock=az k) w w':=(Pq.mono fun k _ q=>.inr q).trans hc3 fun i _ q=>.inl q;have g:=h.Ra (fun k=>k=5\/k=6) (dN:=Z) hc (fun _ _=>rfl) fun k s=>.inr (by
  rcases s with s|s
  ·rw[s,mT];exact⟨rfl,.inl rfl⟩
  ·rw[b2 k s];exact⟨rfl,.inr rfl⟩)
 refine⟨w',hrun,ho2,⟨⟨g.root (by decide),g.iP.1⟩,g.plan,g.aK,g.xH,g.La,g.bx,g.up (by decide),g.r0,g.r1,⟨g.bk (by decide),g.IE⟩,⟨g.fl (by decide) (by decide),g.ZL⟩,⟨?_,mT⟩,g.came (by decide),g.gone (by decide),g.lost (by decide)⟩,hc⟩;refine vG.put (n:=n) m3 m4 ht ho2.omap ⟨?_,fun g hg=>b2 g (hvo▸hg)⟩ (fun s hs=>if_neg hs) fun s u hs hu=>?_
 ·show JM w' v' (if t=t then l' else f.lim t);rw[if_pos rfl];exact fO hv hc3 fun g hg s=>by have:=b2 g (hvo▸hg);rw[s,mT]at this;simp at this
 ·obtain⟨a1,a2⟩:=m5 s u hu;refine⟨fO a1 hc fun g hg q=>?_,fun g hg=>a2 g hg⟩;rcases q with q|q
  ·have:=a2 g hg;rw[q,mT]at this;simp at this
  ·have q1:=a2 g hg;rw[b2 g q]at q1;simp at q1;exact hs q1.symm
end
def oH(left:Lit->Bool)(t:Nat):Bool:=left (.int .i64 (t:Nat))
def Mg(B:Nat)(fl:Nat->List (Nat×Fm))(i:Nat)(left:Nat->Bool):List (Nat×Fm):=(aO B).flatMap fun t=>if left t then[]else El i (fl t)
def Bo(f:dx)(i:Nat)(left:Nat->Bool)(dead:List (Nat×Fm)):dx:=dead.foldl dx.jh {f with up:=f.up.set i false,kJ:=true,fl:=fun t=>if left t then f.fl t else jQ i (f.fl t)}
theorem ahZ(f:dx)(i:Nat)(left:Nat->Bool)(dead:List (Nat×Fm)):(Bo f i left dead).fl=fun t=>if left t then f.fl t else jQ i (f.fl t):=(yg dead _).1
theorem abZ(f:dx)(i t:Nat)(left yJ:Nat->Bool)(dead d:List (Nat×Fm))(hl:left t=true)(h:∀s,yJ s=(left s&&!(s==t))):({d.foldl dx.jh (Bo f i left dead)with fl:=fun s=>if s=t then jQ i (f.fl t)else(d.foldl dx.jh (Bo f i left dead)).fl s}:dx)=Bo f i yJ (dead++d):=by
 unfold Bo;rw[fZ];obtain⟨G,hG⟩:∃G:dx,({f with up:=f.up.set i false,kJ:=true,fl:=fun t=>if left t then f.fl t else jQ i (f.fl t)}:dx)=G:=⟨_,rfl⟩;have e2:({f with up:=f.up.set i false,kJ:=true,fl:=fun t=>if yJ t then f.fl t else jQ i (f.fl t)}:dx)={G with fl:=fun t=>if yJ t then f.fl t else jQ i (f.fl t)}:=by rw[<-hG]
 have e3:(fun s=>if s=t then jQ i (f.fl t)else(d.foldl dx.jh (dead.foldl dx.jh G)).fl s)=fun t=>if yJ t then f.fl t else jQ i (f.fl t):=by
  rw[(yg d _).1,(yg dead _).1,<-hG];funext s;dsimp only;rw[h s];by_cases q:s=t
  ·subst q;rw[if_pos rfl];simp
  ·rw[if_neg q];simp[q]
 have a1:=Fg dead G fun t=>if yJ t then f.fl t else jQ i (f.fl t)
 have a2:=Fg d (dead.foldl dx.jh G) fun t=>if yJ t then f.fl t else jQ i (f.fl t)
 rw[hG,e2,a1,a2,e3]
theorem aca(B:Nat)(fl:Nat->List (Nat×Fm))(i t:Nat)(left yJ:Nat->Bool)(hB:∀s,B<=s->fl s=[])(hl:left t=true)(h:∀s,yJ s=(left s&&!(s==t))){dead:List (Nat×Fm)}(hd:dead.Perm (Mg B fl i left)):(dead++El i (fl t)).Perm (Mg B fl i yJ):=by
 haveI:DecidableEq (Nat×Fm):=fun a b=>qG _
 refine Jm fun μ=>?_;rw[oq,Uh hd];unfold Mg;rw[qA,qA];by_cases ht:t<B
 ·have:=Dn (fun s=>sm μ (if left s=true then[]else El i (fl s))) B t (sm μ (El i (fl t))) ht;rw[if_pos hl,Dk]at this;have e:sm (fun s=>sm μ (if yJ s=true then[]else El i (fl s))) (aO B)=sm (fun s=>if s=t then sm μ (El i (fl t))else sm μ (if left s=true then[]else El i (fl s))) (aO B):=by
   apply zX;intro s _;rw[h s];by_cases q:s=t
   ·subst q;rw[if_pos rfl];simp
   ·rw[if_neg q];simp[q]
  rw[e];omega
 ·have e0:fl t=[]:=hB t (by omega);have e1:El i (fl t)=[]:=by rw[e0];rfl
  rw[e1,Dk];have e:sm (fun s=>sm μ (if yJ s=true then[]else El i (fl s))) (aO B)=sm (fun s=>sm μ (if left s=true then[]else El i (fl s))) (aO B):=by
   apply zX;intro s hs;have hs:=List.mem_range.1 hs;rw[h s];have q:s≠t:=by omega
   simp[q]
  rw[e];omega
end
section
open Go.RowKit Go.Maps
attribute [local go_sem ↓] Go.wp_at_zero Go.wp_at_succ
def Lx(f:dx)(i:Int):Int:=if i<0\/(f.up.length:Int)<=i then 2 else 0
def Cy(Z:Own)(w:aG)(b:Nat)(ns:List Nd)(cs:List Cb)(f:dx)(i:Int)(e:Ending)(w':aG):Prop:=
 e=ax (ah ag (Lx f i))/\∃g,aku f i g/\∃dN L',gy dN w' b ns cs g L'/\qo Z w dN w'
structure Ux(Z:Own)(base t:Nat)(w:aG)(v:aI)(l:List (Nat×Fm)):Prop where
 row:∃Q:List Fw,Q.map (·.1)=l/\w.ownsRow base 122 7 v Q.length (Q.flatMap Hy)/\∀x∈Q,iQ Z w x.1.2.data x.2
 tag:∀g,v.ownBlock=az g->Z g=(2,4,t,0)
def UH(vB:Own)(w3:aG)(b:Nat)(ns:List Nd)(cs:List Cb)(L:rY)(f:dx)(i r:Nat)(wr:aG):Prop:=
 ∃dN L' left CY n M dead,gy dN wr b ns cs (Bo f i (oH left) dead) L'/\qo vB w3 dN wr/\KV L L'/\wL wr aH 3 L.mf r n M left CY/\n<=1000000000/\(dN r).1=0/\(∀l v,M l=az v->∃t:Nat,l=.int .i64 t/\t<=900000000)/\(∀l,left l=true->(M l).isSome=true)/\∀B,f.now+101<=B->dead.Perm (Mg B f.fl i (oH left))
def Hm(vT:Own)(w0:aG)(b:Nat)(ns:List Nd)(cs:List Cb)(L:rY)(F:dx)(i t:Nat)(lq:List (Nat×Fm))(v s:aI)(wr:aG):Prop:=
 ∃(k:Nat) (dN:Own) (L':rY),k<=lq.length/\s=ah ag k/\gy dN wr b ns cs ((El i (lq.take k)).foldl dx.jh F) L'/\Bw vT w0 dN wr/\KV L L'/\Ux dN w0.heap.size t wr v (jQ i (lq.take k))
def adL(xL:Own)(w3:aG)(vB:Own)(b:Nat)(ns:List Nd)(cs:List Cb)(L:rY)(F:dx)(i r:Nat)(wr:aG):Prop:=
 ∃left CY n M,gy vB wr b ns cs {F with lim:=fun t=>if oH left t then F.lim t else jQ i (F.lim t)} L/\qo xL w3 vB wr/\wL wr aH 3 L.ml r n M left CY/\n<=1000000000/\(vB r).1=0/\(∀l v,M l=az v->∃t:Nat,l=.int .i64 t/\t<=900000000)/\(∀l,left l=true->(M l).isSome=true)
theorem Ux.ch{Z dN:Own}{base t:Nat}{w w':aG}{v:aI}{l:List (Nat×Fm)}{S:Nat->Prop}(h:Ux Z base t w v l)(hc:Ch S w w')(he:∀k,k<w.heap.size->dN k=Z k)(hS:∀k,S k->(Z k).1≠1/\¬((Z k).1=2/\(Z k).2.1=4)):Ux dN base t w' v l:=by obtain⟨⟨Q,q1,q2,q3⟩,tg⟩:=h;exact⟨⟨Q,q1,fO q2 hc fun g hg s=>(hS g s).2 (by rw[tg g hg];exact⟨rfl,rfl⟩),fun x hx=>(q3 x hx).jD hc he fun k s=>(hS k s).1⟩,fun g hg=>by rw[he _ (q2.lt g hg).2];exact tg g hg⟩
theorem Ux.form{Z:Own}{base t:Nat}{w:aG}{v:aI}{l:List (Nat×Fm)}(h:Ux Z base t w v l):∃a c,v=ay a l.length c:=by obtain⟨⟨Q,q1,q2,_⟩,_⟩:=h;rw[<-q1,dE];exact dO q2
theorem Wl{α:Type}(d:Nat×α)(l:List (Nat×α))(i k:Nat)(hk:k<l.length):El i (l.take (k+1))=if((l.getD k d).1/2==i)=true then El i (l.take k)++[l.getD k d]else El i (l.take k):=by
 unfold El;have e:l.getD k d=l[k]:=by simp[bJ,hk]
 rw[e,oh,dw hk,zB,ig];cases h:(l[k].1/2==i)with
 |true=>simp[h]
 |false=>simp[h]
theorem Qg{α:Type}(d:Nat×α)(l:List (Nat×α))(i k:Nat)(hk:k<l.length):jQ i (l.take (k+1))=if((l.getD k d).1/2==i)=true then jQ i (l.take k)else jQ i (l.take k)++[l.getD k d]:=by
 unfold jQ;have e:l.getD k d=l[k]:=by simp[bJ,hk]
 rw[e,oh,dw hk,zB,ig];cases h:(l[k].1/2==i)with
 |true=>simp[h,bne]
 |false=>simp[h,bne]
theorem acb(f:dx)(i:Nat)(left:Nat->Bool)(h:∀t,left t=false->f.fl t=[]):Bo f i left []={f with up:=f.up.set i false,kJ:=true}/\∀B,Mg B f.fl i left=[]:=by
 have e:(fun t=>if left t then f.fl t else jQ i (f.fl t))=f.fl:=by
  funext t;cases q:left t with
  |true=>rfl
  |false=>rw[h t q];rfl
 refine⟨?_,fun B=>?_⟩
 ·show({f with up:=f.up.set i false,kJ:=true,fl:=fun t=>if left t then f.fl t else jQ i (f.fl t)}:dx)=_;rw[e]
 ·unfold Mg;rw[List.flatMap_eq_nil_iff];intro t _;cases q:left t with
  |true=>rfl
  |false=>rw[h t q];rfl
theorem abY(F:dx)(i:Nat)(left:Nat->Bool)(h:∀t,left t=false->F.lim t=[]):({F with lim:=fun t=>if left t then F.lim t else jQ i (F.lim t)}:dx)=F:=by
 have e:(fun t=>if left t then F.lim t else jQ i (F.lim t))=F.lim:=by
  funext t;cases q:left t with
  |true=>rfl
  |false=>rw[h t q];rfl
 rw[e]
theorem afm(F:dx)(i t:Nat)(left yJ:Nat->Bool)(hl:left t=true)(h:∀s,yJ s=(left s&&!(s==t))):({F with lim:=fun s=>if s=t then jQ i (F.lim t)else(if left s then F.lim s else jQ i (F.lim s))}:dx)={F with lim:=fun s=>if yJ s then F.lim s else jQ i (F.lim s)}:=by
 have e:(fun s=>if s=t then jQ i (F.lim t)else(if left s then F.lim s else jQ i (F.lim s)))=fun s=>if yJ s then F.lim s else jQ i (F.lim s):=by
  funext s;rw[h s];by_cases q:s=t
  ·subst q;rw[if_pos rfl];simp
  ·rw[if_neg q];simp[q]
 rw[e]
theorem Jb(left:Lit->Bool)(t s:Nat):oH (fun x=>left x&&!x.sameKey (.int .i64 (t:Nat))) s=(oH left s&&!(s==t)):=by
 unfold oH;dsimp only;have kl:WideAt.IsKeyLit (.int .i64 (t:Int)):=trivial;have e:(Lit.int .i64 (s:Int)).sameKey (.int .i64 (t:Int))=(s==t):=by
  by_cases q:s=t
  ·subst q;rw[WideAt.sameKey_self kl];simp
  ·have:(s==t)=false:=by simpa using q
   rw[this];cases q2:(Lit.int .i64 (s:Int)).sameKey (.int .i64 (t:Int))with
   |false=>rfl
   |true=>rw[WideAt.sameKey_iff kl]at q2;exact absurd (Km.1 q2) q
 rw[e]
theorem dK.azd{ns:List Nd}{cs:List Cb}{f:dx}{N:Nat}(h:dK ns cs f N)(i:Nat)(left:Nat->Bool){dead:List (Nat×Fm)}(hd:∀x∈dead,x.1<2*cs.length/\vK ns f x.2):dK ns cs (Bo f i left dead) (N+2*dead.length)/\uA ({f with up:=f.up.set i false,kJ:=true}:dx) (Bo f i left dead):=by
 have k:=h;have b:dK ns cs ({f with up:=f.up.set i false,kJ:=true,fl:=fun t=>if left t then f.fl t else jQ i (f.fl t)}:dx) N:={
  k0:=k.k0,k1:=k.k1,rl:=k.rl,rv:=k.rv,bl:=k.bl,box:=k.box,q:=fun i p c x hi yI qg hx=>(k.q i p c x hi yI qg hx).yl rfl (aC _),up:=by show(f.up.set i false).length=_;rw[jG];exact k.up,r0:=k.r0,r1:=k.r1,bn:=k.bn,a0:=k.a0,a1:=k.a1,now:=k.now,last:=k.last,ll:=k.ll,cm:=k.cm,cv:=k.cv,gn:=k.gn,gv:=k.gv,lim:=k.lim,DV:=k.DV
  fl:=fun t x hx=>by
   have hx:x∈(if left t then f.fl t else jQ i (f.fl t)):=hx;split at hx
   ·exact⟨(k.fl t x hx).1,(k.fl t x hx).2.yl rfl (aC _)⟩
   ·have hx:=(jH.1 hx).1;exact⟨(k.fl t x hx).1,(k.fl t x hx).2.yl rfl (aC _)⟩
  DK:=fun t=>by
   show(if left t then f.fl t else jQ i (f.fl t)).length<=N;split
   ·exact k.DK t
   ·exact dZ (lJ _ _) (k.DK t)}
 have s:=uA.fold dx.jh uA.jh dead ({f with up:=f.up.set i false,kJ:=true,fl:=fun t=>if left t then f.fl t else jQ i (f.fl t)}:dx);exact⟨dK.RG dead b fun x hx=>⟨(hd x hx).1,(hd x hx).2.yl rfl (aC _)⟩,⟨s.c,s.rm,s.up,s.r0,s.r1,s.bn,s.pe,s.nw,s.la⟩⟩
theorem aia(B:Nat)(fl:Nat->List (Nat×Fm))(i:Nat)(left:Nat->Bool):(Mg B fl i left).length<=(Cf B fl i).length:=by
 rw[<-Dm,<-Dm];unfold Mg Cf;rw[qA,qA];apply asE;intro t _;split
 ·exact bS _
 ·exact aC _
theorem TJ(f:dx)(x:Nat×Fm)(X:Nat->List (Nat×Nat×Int)):({f with lim:=X}:dx).jh x={f.jh x with lim:=X}:=by
 unfold dx.jh dx.qQ dx.rem dx.iC dx.alive;simp only;split
 ·split
  ·rfl
  ·split<;>rfl
 ·split
  ·split<;>rfl
  ·split<;>rfl
theorem Kh:∀(l:List (Nat×Fm)) (f:dx) (X:Nat->List (Nat×Nat×Int)),l.foldl dx.jh {f with lim:=X}={l.foldl dx.jh f with lim:=X}
 |[],f,X=>rfl
 |x::l,f,X=>by rw[fK,TJ,Kh l (f.jh x) X,fK]
theorem mid_end(f:dx)(i:Nat)(left:Nat->Bool)(h:∀t,left t=false)(dead:List (Nat×Fm)):({Bo f i left dead with lim:=fun t=>jQ i ((Bo f i left dead).lim t)}:dx)=f.QN i dead/\∀B,Mg B f.fl i left=Cf B f.fl i:=by
 have e:(fun t=>if left t then f.fl t else jQ i (f.fl t))=fun t=>jQ i (f.fl t):=by funext t;rw[h t];rfl
 have el:(Bo f i left dead).lim=f.lim:=(yg dead _).2.2;refine⟨?_,fun B=>?_⟩
 ·rw[el];have:=Kh dead ({f with up:=f.up.set i false,kJ:=true,fl:=fun t=>if left t then f.fl t else jQ i (f.fl t)}:dx) fun t=>jQ i (f.lim t);unfold dx.QN dx.Ty;unfold Bo;rw[<-this,e]
 ·unfold Mg Cf;congr 1;funext t;rw[h t];rfl
theorem amm{n:Nat}(h:n<=700000000):n+1<=fB:=by unfold fB;omega
theorem aml{n:Nat}(h:n<=700000000):(n+1)*72<=140737488355328:=by omega
theorem Hm.kept{dN xD:Own}{w5 wr wb w8:aG}{b:Nat}{ns:List Nd}{cs:List Cb}{L' L6:rY}{F:dx}{q t k n':Nat}{lq:List (Nat×Fm)}{M0:Lit->Option aI}{v8 ka:aI}{Q6:List Fw}{x:Fw}{o1:Obj}(hk:k<lq.length)(hx:lq.getD k (0,default)=x.1)(nQ:¬x.1.1/2=q)(M6:gy xD wr b ns cs ((El q (lq.take k)).foldl dx.jh F) L6)(N6:Bw dN w5 xD wr)(S6:KV L' L6)(OM:jo wr aH 3 L6.mf n' M0)(EB:∀s u,M0 (.int .i64 (s:Nat))=az u->∀g,u.ownBlock=az g->g<w5.heap.size)(z1:Q6.map (·.1)=jQ q (lq.take k))(z2:wr.ownsRow w5.heap.size 122 7 ka Q6.length (Q6.flatMap Hy))(z3:∀x∈Q6,iQ xD wr x.1.2.data x.2)(z4:∀g,ka.ownBlock=az g->xD g=(2,4,t,0))(DAT:iQ xD wr x.1.2.data x.2)(hb:Below wr.heap.size wr wb)(Jj:w8.ownsRow w5.heap.size 122 7 v8 (Q6.length+1) (Q6.flatMap Hy++Hy x))(AX:(wb.alloc o1).grownBy w8 ka.ownBlock)(Me:v8.ownBlock=ka.ownBlock\/v8.ownBlock=az (wb.heap.size+1)):Hm dN w5 b ns cs L' F q t lq v8 (ah ag ((k:Int)+1)) w8:=by
 have hc8:Ch (fun j=>ka.ownBlock=az j) wr w8:=((Ch.bY hb).alloc _).grown AX fun g hg=>.inl hg;have ob:∀j,ka.ownBlock=az j->w5.heap.size<=j/\j<wr.heap.size:=fun j hj=>z2.lt j hj;obtain⟨Om,ary⟩:∃Om:Own,Om=fun j=>if v8.ownBlock=az j then(2,4,t,0)else fr xD wr.heap.size j:=⟨_,rfl⟩
 have he:∀j,j<wr.heap.size->Om j=xD j:=fun j hj=>by
  rw[ary];dsimp only;by_cases e:v8.ownBlock=az j
  ·rw[if_pos e];rcases Me with e1|e1
   ·rw[e1]at e;exact(z4 j e).symm
   ·rw[e1]at e;injection e with e;have:=hb.size;omega
  ·rw[if_neg e,gL hj]
 have m8:=M6.free hc8 he OM EB fun j s=>.inr ⟨(ob j s).1,by rw[z4 j s],by rw[z4 j s]⟩;have sOn:=Wl (0,default) lq q k hk;have afP:=Qg (0,default) lq q k hk;have nb:¬(x.1.1/2==q)=true:=by simp[nQ]
 rw[hx,if_neg nb]at sOn afP;refine⟨k+1,Om,L6,by omega,by congr 1,by rw[sOn];exact m8,⟨N6.ch.trans hc8 fun i hi s=>?_,fun i hi=>?_⟩,S6,⟨⟨Q6++[x],?_,?_,fun y hy=>?_⟩,fun g hg=>?_⟩⟩
 ·have:=(ob i s).1;omega
 ·rw[he i (Nat.lt_of_lt_of_le hi N6.ch.size)];exact N6.ext i hi
 ·rw[afP,eY,z1];rfl
 ·rw[bV,iJ,List.flatMap_append,List.flatMap_singleton];exact Jj
 ·rcases eZ.1 hy with hy|hy
  ·exact(z3 y hy).jD hc8 he fun j s=>by rw[z4 j s];simp
  ·rw[List.mem_singleton]at hy;subst hy;exact DAT.jD hc8 he fun j s=>by rw[z4 j s];simp
 ·rw[ary];exact if_pos hg
theorem Hm.dead{dN xD Om:Own}{w5 wr w8:aG}{b:Nat}{ns:List Nd}{cs:List Cb}{L' L6 L8:rY}{F:dx}{q t k:Nat}{lq:List (Nat×Fm)}{ka:aI}{x:Nat×Fm}(hk:k<lq.length)(hx:lq.getD k (0,default)=x)(he:x.1/2=q)(N6:Bw dN w5 xD wr)(S6:KV L' L6)(KP:Ux xD w5.heap.size t wr ka (jQ q (lq.take k)))(m8:gy Om w8 b ns cs (((El q (lq.take k)).foldl dx.jh F).jh x) L8)(n8:Bw xD wr Om w8)(s8:KV L6 L8):Hm dN w5 b ns cs L' F q t lq ka (.int .i64 ((k:Int)+1)) w8:=by
 have sOn:=Wl (0,default) lq q k hk;have afP:=Qg (0,default) lq q k hk;have nb:(x.1/2==q)=true:=by simp[he]
 rw[hx,if_pos nb]at sOn afP;refine⟨k+1,Om,L8,by omega,by congr 1,by rw[sOn,fZ];exact m8,N6.trans n8,S6.trans s8,?_⟩;rw[afP];exact KP.ch n8.ch n8.ext fun j s=>⟨by have:=s.1;omega,fun e=>s.2 ⟨e.1,by rw[e.2];decide,by rw[e.2];decide⟩⟩
theorem UH.next{xL dN xD:Own}{w3 w5 wr:aG}{b:Nat}{ns:List Nd}{cs:List Cb}{L L' L6:rY}{f F:dx}{q t r n' abk:Nat}{lq:List (Nat×Fm)}{M0:Lit->Option aI}{left:Lit->Bool}{ka:aI}{dead:List (Nat×Fm)}(m6:gy xD wr b ns cs ((El q lq).foldl dx.jh F) L6)(n6:Bw dN w5 xD wr)(s6:KV L' L6)(sm:KV L L')(kp:Ux xD w5.heap.size t wr ka (jQ q lq))(ho:wL w5 aH 3 L.mf r n' M0 (fun x=>left x&&!x.sameKey (.int .i64 (t:Nat))) abk)(hn:n'<=1000000000)(ht:t<=900000000)(Gb:(M0 (.int .i64 (t:Nat))).isSome=true)(mt:dN L.mf=(2,3,0,0))(tr:(dN r).1=0)(N5:qo xL w3 dN w5)(hkeys:∀l v,M0 l=az v->∃t:Nat,l=.int .i64 t/\t<=900000000)(ahI:∀l,left l=true->(M0 l).isSome=true)(hperm:∀B,f.now+101<=B->(dead++El q lq).Perm (Mg B f.fl q (oH fun x=>left x&&!x.sameKey (.int .i64 (t:Nat)))))(mst:({(El q lq).foldl dx.jh F with fl:=fun s=>if s=t then jQ q lq else((El q lq).foldl dx.jh F).fl s}:dx)=Bo f q (oH fun x=>left x&&!x.sameKey (.int .i64 (t:Nat))) (dead++El q lq)):∃w7,(mX 90 (.map (az L.mf)) (.int .i64 t) ka).run aH wr=.ok () w7/\UH xL w3 b ns cs L f q r w7/\w7.rangeLeft L.mf r=abk/\wr.cell? ⟨b,15,aj⟩=az (.map (az L.mf)):=by
 have e6:L6.mf=L.mf:=by rw[s6.e];show L'.mf=L.mf;rw[sm.e]
 have rlt:=ho.ltR;have ho6:wL wr aH 3 L6.mf r n' M0 (fun x=>left x&&!x.sameKey (.int .i64 (t:Nat))) abk:=by
  rw[e6];refine ho.ch n6.ch (fun s=>?_) fun s=>?_
  ·unfold Ta at s;rw[mt]at s;simp at s
  ·have:=s.1;rw[tr]at this;omega
 obtain⟨⟨Q6,z1,z2,z3⟩,z4⟩:=kp;obtain⟨w7,amW,ho7,m7,c7⟩:=m6.ahy ho6 hn ht Gb ka (jQ q lq) ⟨Q6,z1,rQ z2 (bS _),z3⟩ z4;have c15:wr.cell? ⟨b,15,aj⟩=az (.map (az L6.mf)):=m6.xA;have rl:=ho7.left_eq;have mT6:=m6.fl.2;rw[e6]at rl ho7 amW c15;have N:=N5.trans n6.x;rw[mst]at m7;refine⟨w7,amW,⟨xD,L6,_,abk,n',_,_,m7,⟨N.ch.trans c7 fun i hi s=>?_,N.ext⟩,sm.trans s6,ho7,hn,?_,fun l u hu=>?_,fun l hl'=>?_,hperm⟩,rl,c15⟩
 ·show 2<=(xL i).1;rw[<-N.ext i hi,s,mT6];exact aC 2
 ·rw[n6.ext r rlt];exact tr
 ·unfold tJ at hu;split at hu
  ·rename_i e5;exact⟨t,wu e5,ht⟩
  ·exact hkeys l u hu
 ·unfold tJ;split
  ·rfl
  ·exact ahI l (by simp only[cZ]at hl';exact hl'.1)
theorem aeG(f:dx)(N:Nat)(i:Int)(b:Nat)(ns:List Nd)(cs:List Cb)(L:rY)(Z:Own)(w:aG)(h:gy Z w b ns cs f L)(hp:sS ns cs)(rR:dK ns cs f N)(hfl:Be cs f)(hN:N<=700000000)(B0:Nat)(hB0:f.now+101<=B0)(hgo:(Cf B0 f.fl i.toNat).length<=1000000):Calls aH 16 #[pt b,ah ag i] w (Cy Z w b ns cs f i):=by
 have UL:=aA rR.up;have C32:=aA hp.Lb;obtain⟨w1,gK⟩:∃w1:aG,w.alloc (af #[ah ag i] 3)=w1:=⟨_,rfl⟩;have B1:Below w.heap.size w w1:=by rw[<-gK];exact(aQ _ _).alloc (aC _) _
 have m1:gy (fr Z w.heap.size) w1 b ns cs f L:=h.below B1;have n1:qo Z w (fr Z w.heap.size) w1:=qo.bY B1;obtain⟨bC,hbC⟩:∃bC,w.heap.size=bC:=⟨_,rfl⟩;have VC:dh w1 bC 3 #[ah ag i]:=by rw[<-gK,<-hbC];exact dh.new w _ _
 have tC:(fr Z w.heap.size bC).1=0:=by rw[<-hbC,lL (aC _)]
 obtain⟨vB,abJ⟩:∃vB,fr Z w.heap.size=vB:=⟨_,rfl⟩;rw[abJ]at m1 n1 tC;have kc:w1.cell? ⟨bC,0,aj⟩=az (ah ag i):=VC.cell 0;obtain⟨a,cap,eU⟩:=m1.up.form;have c6:w1.cell? ⟨b,6,aj⟩=az (ay a f.up.length cap):=by rw[m1.xA];show az L.vu=_;rw[eU]
 have H1:aY (∀e w',gy vB w' b ns cs f L->qo Z w vB w'->¬Zr f i->e=Lx f i->Cy Z w b ns cs f i (ax (ah ag e)) w'):=fun e w' a1 a2 h1 h2=>⟨by rw[h2],f,.inl ⟨h1,rfl⟩,vB,L,a1,a2⟩;unfold pt;by_cases h1:i<0
 ·have d1:decide (i<0)=true:=decide_eq_true h1;have F:=aA (H1.o 2 _ m1.drew n1.drew (fun q=>by have:=q.1;omega) (by unfold Lx;rw[if_pos (.inl h1)]));generalize Cy Z w b ns cs f i=NW at *;clear h m1 n1 VC tC rR hp hfl hgo H1;go_enter func16,ntmps16;go_wp2_with fail;go_region;go_wp2_with fail;exact F.o
 ·have d1:decide (i<0)=false:=decide_eq_false h1;by_cases h2:(f.up.length:Int)<=i
  ·have d2:decide ((f.up.length:Int)<=i)=true:=decide_eq_true h2;have F:=aA (H1.o 2 _ m1.drew n1.drew (fun q=>by have:=q.2.1;omega) (by unfold Lx;rw[if_pos (.inr h2)]));generalize Cy Z w b ns cs f i=NW at *;clear h m1 n1 VC tC rR hp hfl hgo H1;go_enter func16,ntmps16;go_wp2_with fail;go_region;go_wp2_with fail;exact F.o
  ·obtain⟨q,rfl⟩:∃q:Nat,i=q:=⟨i.toNat,by omega⟩;have hk:q<f.up.length:=by omega
   have d2:decide ((f.up.length:Int)<=(q:Int))=false:=decide_eq_false h2;have ce:Lx f (q:Int)=0:=(by unfold Lx;rw[if_neg (by omega)]);obtain⟨gu,cu,eG⟩:=m1.up.OJ (by simp;omega);have ck:w1.cell? ⟨gu,q,aj⟩=az (.bool (f.up.getD q false)):=(by rw[m1.up.cellOf eG (by simpa using hk)];simp[bJ,hk]);have fk:w1.frozen? ⟨gu,q,aj⟩=false:=(by obtain⟨g',c',e',_,k5,_⟩:=m1.up.at_ (i:=q) (by simpa using hk);rw[eG]at e';injection e' with e1;injection e1 with e1;injection e1 with e1;rw[e1];exact k5);clear c6;have c6:w1.cell? ⟨b,6,aj⟩=az (ay (az ⟨gu,0,aj⟩) f.up.length cu):=(by rw[m1.xA];show az L.vu=_;rw[eG]);have k0:(0:Int)<=(q:Int):=(by omega);have k1:(q:Int)<(f.up.length:Int):=(by omega);cases yD:f.up.getD q false with
   |false=>rw[yD]at ck;have F:=aA (H1.o 0 _ m1.drew.drew n1.drew.drew (fun z=>by have h3:=z.2.2;rw[cK,yD]at h3;cases h3) ce.symm);generalize Cy Z w b ns cs f (q:Int)=NW at *;clear h m1 n1 VC tC rR hp hfl hgo H1 ce eU eG h2 yD;go_enter func16,ntmps16;go_wp2_with fail;go_region;go_wp2_with fail;go_region;go_wp2_with fail;exact F.o
   |true=>
    rw[yD]at ck;obtain⟨w2,Ld⟩:∃w2:aG,w1.drew.drew.drew.setCell ⟨gu,q,aj⟩ (.bool false)=w2:=⟨_,rfl⟩;obtain⟨g1,g2,g3⟩:=m1.drew.drew.drew.ajN hk false eG w2 Ld.symm;obtain⟨xL,m3,n3⟩:=g3;obtain⟨w3,zP⟩:∃w3:aG,w2.setCell ⟨b,12,aj⟩ (.bool true)=w3:=⟨_,rfl⟩;rw[zP]at m3 n3;have c11:w3.cell? ⟨b,15,aj⟩=az (.map (az L.mf)):=m3.xA;obtain⟨n,M,o1,o2,o3,o4,o5⟩:=m3.fl.1;have OM:=aA o1;generalize Ej:Cy Z w b ns cs f (q:Int)=NW;have SK:=aA Ej;have M3:=aA m3;have N3:=aA (n1.drew.drew.drew.trans n3);have VCX:aY (∀dN w',qo xL w3 dN w'->(dN bC).1=0/\dh w' bC 3 #[ah ag (q:Int)]):=fun dN w' n=>by have l1:=VC.lt;have t3:(xL bC).1=0:=(by rw[n3.ext bC l1];exact tC);have b3:dh w3 bC 3 #[ah ag (q:Int)]:=dh.ch (w:=w1.drew.drew.drew) VC n3.ch (by rw[tC];omega);exact⟨by rw[n.ext bC b3.lt];exact t3,b3.ch n.ch (by rw[t3];omega)⟩
    have CK:aY (Zr f (q:Int)):=⟨k0,k1,by rw[cK];exact yD⟩;clear h m1 n1 H1 eU eG h2 yD m3 n3 o1 Ej;go_enter func16,ntmps16;go_wp2_with fail;go_region;go_wp2_with fail;go_region;go_wp2_with fail;refine fQ 6 (fun wq=>wq.cell? ⟨b,6,aj⟩=az (ay (az ⟨gu,0,aj⟩) f.up.length cu)/\wq.cell? ⟨bC,0,aj⟩=az (ah ag q)) (by kernel_rfl) ⟨c6,kc⟩ (fun aW=>?_);refine bH.tk 0 aW ?_;try simp only[bI]
    refine bH.tk 1 aW ?_;try simp only[bI]
    refine bH.tk 2 aW ?_;try simp only[bI]
    refine bH.tk 3 aW ?_;try simp only[bI]
    refine bH.tk 4 aW ?_;try simp only[bI]
    refine bH.tk 5 aW ?_;try simp only[bI]
    refine bH.one (i:=6) (by kernel_rfl) rfl (fun K hK=>?_);go_simp;refine hK.out _ _ (fun h=>absurd rfl h) (fun _=>?_);clear hK;refine bH.done (by kernel_rfl) ?_ _;try simp only[bI]
    go_wp2_with (first
     |(at_range;refine Ns _ rfl _ 90 rfl 3 120 (int_keyed underlying3) underlying90 L.mf n M rfl OM.o ?_;intro w4 hr4 hb4 hs4)
     |go_in)
    go_frame
    obtain⟨axu,hr4⟩:=hr4;obtain⟨r,hr⟩:∃r,w3.heap.size=r:=⟨_,rfl⟩;rw[hr]at hr4 hb4 hs4|-;have n4:qo xL w3 (fr xL r) w4:=(by rw[<-hr];exact qo.bY (by rw[hr];exact hb4));have m4:gy (fr xL r) w4 b ns cs {f with up:=f.up.set q false,kJ:=true} L:=(by rw[<-hr];exact M3.o.below (by rw[hr];exact hb4));have ms:=acb f q (oH fun l=>(M l).isSome) fun t ht=>o4 t (by unfold oH at ht;simpa using ht);have START:aY (UH xL w3 b ns cs L f q r w4):=⟨_,L,_,axu,n,M,[],by rw[ms.1];exact m4,n4,KV.refl _,hr4,o2,by rw[lL (aC _)],o3,fun l h=>h,fun B _=>by rw[ms.2 B]⟩;have RW:aY (w3.heap.size=r):=hr;clear hr hr4 hb4 hs4 n4 m4 ms o3 o4 o5 OM;go_loopw [5,6,7,9,54] (fun _ _ _ _ _ wr=>UH xL w3 b ns cs L f q r wr) (fun _ _ _ _ _ wr=>wr.rangeLeft L.mf r);case atStart=>exact START.o
    case round=>
     clear START c11;obtain⟨dN,L',left,CY,n',M',dead,m,nx,sm,ho,hn,tr,hkeys,ahI,hperm⟩:=hrel;have mlE:L'.mf=L.mf:=by rw[sm.e]
     have HO:=aA ho;have HM:=aA m;have NX:=aA nx;have SM:=aA sm;have HP:=aA hperm;have LFT:=aA ahI;clear m nx sm hperm ahI;go_wp2_with (first
      |(at_next;refine KR _ rfl _ rfl 3 (int_keyed underlying3) L.mf r n' M' left CY rfl HO.o ?_ ?_)
      |go_in)
     ·as_aux_lemma=>
       intro _ hl0;obtain⟨n2,M2,l1,l2,l3,l4,l5⟩:=HM.o.lim.1;have tml:=HM.o.lim.2;have OML:=aA l1;have c16:wr.cell? ⟨b,16,aj⟩=az (.map (az L'.ml)):=HM.o.xA;obtain⟨F,hF⟩:∃F,Bo f q (oH left) dead=F:=⟨_,rfl⟩;have me:=mid_end f q (oH left) (fun t=>hl0 _) dead;rw[hF]at HM me l4;have ME:aY (({F with lim:=fun t=>jQ q (F.lim t)}:dx)=f.QN q dead/\∀B,f.now+101<=B->dead.Perm (Cf B f.fl q)):=⟨me.1,fun B hB=>by rw[<-me.2 B];exact HP.o B hB⟩;have lsm:∀s x,x∈F.lim s->x.1<1000000:=fun s x hx=>by have e1:F.lim=f.lim:=(by rw[<-hF];exact(yg dead _).2.2);rw[e1]at hx;have:=(rR.lim s x hx).1;have:=C32.o;omega
       have LSM:=aA lsm;have lln:∀s,(F.lim s).length<=1000000000:=fun s=>(by have e1:F.lim=f.lim:=(by rw[<-hF];exact(yg dead _).2.2);rw[e1];have:=rR.DV s;omega);have LLN:=aA lln;clear l1 l5 me hF HO HP LFT hkeys ho lsm lln;go_wp2_with (first
        |(at_range;refine Ns _ rfl _ 91 rfl 3 114 (int_keyed underlying3) underlying91 L'.ml n2 M2 rfl OML.o ?_;intro w6 hr6 hb6 hs6)
        |go_in)
       go_frame
       obtain⟨axv,hr6⟩:=hr6;obtain⟨r2,hr2⟩:∃r,wr.heap.size=r:=⟨_,rfl⟩;rw[hr2]at hr6 hb6 hs6|-;obtain⟨yV,Kj⟩:∃yV,fr dN r2=yV:=⟨_,rfl⟩;have n6:qo xL w3 yV w6:=(by rw[<-Kj,<-hr2];exact NX.o.trans (qo.bY (by rw[hr2];exact hb6)));have m6:gy yV w6 b ns cs F L':=(by rw[<-Kj,<-hr2];exact HM.o.below (by rw[hr2];exact hb6));have t6:(yV r2).1=0:=(by rw[<-Kj,lL (aC _)]);have ls:=abY F q (oH fun l=>(M2 l).isSome) fun t ht=>l4 t (by unfold oH at ht;simpa using ht);have R2:aY (w3.heap.size<=r2):=(by rw[aY,<-hr2];exact NX.o.ch.size);have aea:aY (adL xL w3 yV b ns cs L' F q r2 w6):=⟨_,axv,n2,M2,by rw[ls];exact m6,n6,hr6,l2,t6,l3,fun l h=>h⟩;have T6:=aA t6;clear hr6 hb6 hs6 n6 m6 l2 l3 l4 ls t6 OML Kj hr2 c16;go_loopw [10,11] (fun _ _ wr=>adL xL w3 yV b ns cs L' F q r2 wr) (fun _ _ wr=>wr.rangeLeft L'.ml r2);case atStart=>exact aea.out
       case round=>
        clear aea;obtain⟨DU,axw,n7,M7,m7,nx7,ho7,hn7,tr7,hk7,hl7⟩:=hrel;have HO7:=aA ho7;have M7H:=aA m7;have NX7:=aA nx7;clear m7 nx7;go_wp2_with (first
         |(at_next;refine KR _ rfl _ rfl 3 (int_keyed underlying3) L'.ml r2 n7 M7 DU axw rfl HO7.o ?_ ?_)
         |go_in)
        ·intro _ hl8;have e8:({F with lim:=fun t=>if oH DU t then F.lim t else jQ q (F.lim t)}:dx)=f.QN q dead:=by
          rw[<-ME.o.1];have:(fun t=>if oH DU t then F.lim t else jQ q (F.lim t))=fun t=>jQ q (F.lim t):=by funext t;have:oH DU t=false:=hl8 _;rw[this];rfl
          rw[this]
         have F8:aY (NW (ax (ah ag 0)) wr):=(by rw[<-SK.o];refine⟨by rw[ce],f.QN q dead,.inr ⟨CK.o,dead,?_,rfl⟩,yV,L',by rw[<-e8];exact M7H.o,N3.o.trans NX7.o⟩;rw[cK];exact ME.o.2);clear e8 hk7 hl7 ho7;go_wp2_with fail;exact F8.o
        ·intro key v kl w9 alo hk hl hM ho9 tK hg9 hs9 hen;obtain⟨t,rfl,ht⟩:=hk7 kl v hM;obtain⟨z,rfl,hz,_⟩:=Ir underlying3 hk;injection hz with _ hz;subst hz;obtain⟨n0,M0,p1,p2,p3,p4,p5⟩:=M7H.o.lim.1;have mlT:=M7H.o.lim.2;obtain rfl:=p1.uniq HO7.o.omap;obtain⟨nm0,tg0⟩:=p5 t v hM;have tl:oH DU t=true:=hl;have efl:(if oH DU t then F.lim t else jQ q (F.lim t))=F.lim t:=if_pos tl;have nm0:JM wr v (if oH DU t then F.lim t else jQ q (F.lim t)):=nm0;rw[efl]at nm0;have C9:Ch (· =r2) wr w9:=(Ch.refl (· =r2) wr).grown hg9 fun g e=>.inl (je e).symm;have M9:gy yV w9 b ns cs {F with lim:=fun t=>if oH DU t then F.lim t else jQ q (F.lim t)} L':=M7H.o.jD C9 (fun _ _=>rfl) fun k s=>(by rw[s];exact T6.o);have N9:qo xL w3 yV w9:=⟨NX7.o.ch.grown hg9 fun g e=>.inr (by have:=je e;have:=R2.o;omega),NX7.o.ext⟩;have nm9:JM w9 v (F.lim t):=fO nm0 C9 fun g hg s=>(by have h1:=tg0 g hg;have h2:=T6.o;rw[<-s,h1]at h2;simp at h2);have c16:w9.cell? ⟨b,16,aj⟩=az (.map (az L'.ml)):=M9.xA;obtain⟨la,lc,eV⟩:=dO nm9;have EV:=aA eV;have NM9:=aA nm9;have TG9:aY (∀g,v.ownBlock=az g->yV g=(2,6,t,0)):=tg0;obtain⟨tcC,blC⟩:=VCX.o yV w9 N9;have DEL:aY (Calls aH 59 #[v,.func (.func 60) #[] #[au (az ⟨bC,0,aj⟩)]] w9.drew (aav v (F.lim t) q w9.drew)):=aeF (F.lim t) q bC v w9.drew (LLN.o t) (LSM.o t) nm9 blC;have MBT:aY (yV b=(2,0,0,0)/\b<w9.heap.size):=⟨M9.root.2,M9.root.1.lt⟩;have STO:aY (∀v' w',JM w' v' (jQ q (F.lim t))->v'.ownBlock=v.ownBlock->Ch (fun k=>v.ownBlock=az k) w9.drew w'->∃w'',(mX 91 (.map (az L'.ml)) (ah ag t) v').run aH w'=.ok () w''/\adL xL w3 yV b ns cs L' F q r2 w''/\w''.rangeLeft L'.ml r2=alo):=fun v' w' h1 h2 h3=>by
          have h3':Ch (fun k=>v.ownBlock=az k) w9 w':=⟨h3.os,h3.tape,h3.output,h3.size,h3.block⟩;obtain⟨w'',e1,e2,e3,e4⟩:=M9.afl ho9 hn7 ht hM h3' (by rw[T6.o];decide) v' _ h1 h2;have e3:gy yV w'' b ns cs {F with lim:=fun s=>if s=t then jQ q (F.lim t)else(if oH DU s then F.lim s else jQ q (F.lim s))} L':=e3;rw[afm F q t (oH DU) (oH fun x=>DU x&&!x.sameKey (.int .i64 (t:Nat))) tl (Jb DU t)]at e3;refine⟨w'',e1,⟨_,alo,n7,_,e3,⟨N9.ch.trans e4 fun i hi s=>?_,N9.ext⟩,e2,hn7,T6.o,fun l u hu=>?_,fun l hl'=>?_⟩,e2.left_eq⟩
          ·rcases s with s|s
           ·rw[s]at hi|-;have:=N9.ext L'.ml hi;show 2<=(xL L'.ml).1;rw[<-this,mlT];exact aC 2
           ·show 2<=(xL i).1;rw[<-N9.ext i hi,tg0 i s];exact aC 2
          ·unfold tJ at hu;split at hu
           ·rename_i e5;exact⟨t,wu e5,ht⟩
           ·exact hk7 l u hu
          ·unfold tJ;split
           ·rfl
           ·exact hl7 l (by simp only[cZ]at hl';exact hl'.1)
         have LT9:aY (alo<wr.rangeLeft L'.ml r2):=(by rw[aY,HO7.o.left_eq];exact tK);clear p1 p2 p3 p4 p5 nm0 tg0 efl M9 N9 C9 nm9 ho9 hg9 hs9 hk hl hM tK tl hk7 hl7 ho7 mlT blC tcC;subst eV;go_wp2_with fail;refine fQ 8 (fun wq=>wq.cell? ⟨b,16,aj⟩=az (.map (az L'.ml))) (by kernel_rfl) c16 (fun aW=>?_);refine bH.tk 0 aW ?_;try simp only[bI]
         refine bH.tk 1 aW ?_;try simp only[bI]
         refine bH.tk 2 aW ?_;try simp only[bI]
         refine bH.tk 3 aW ?_;try simp only[bI]
         refine bH.tk 4 aW ?_;try simp only[bI]
         refine bH.tk 5 aW ?_;try simp only[bI]
         refine bH.tk 6 aW ?_;try simp only[bI]
         refine bH.one (i:=7) (by kernel_rfl) rfl (fun K hK=>?_);refine Qs (by rfl) (enters_of (P:=aH) func59 (by kernel_rfl) rfl) (by rfl) (by rfl) (by rfl) DEL.o ?_;rintro e ve ⟨v',rfl,nm',ov',ch'⟩;obtain⟨Zm,aEX,ajY,arO⟩:=STO.o v' ve nm' ov' ch';have apw:=aA ajY;have awj:=aA arO;have k16:ve.cell? ⟨b,16,aj⟩=az (.map (az L'.ml)):=(ch'.cell (p:=⟨b,16,aj⟩) MBT.o.2 fun s=>by have h1:=TG9.o _ s;rw[MBT.o.1]at h1;simp at h1).trans c16;obtain⟨la',lc',eV'⟩:=dO nm';subst eV';clear nm' ov' ch' ajY arO;refine⟨_,rfl,?_⟩;refine hK.out _ _ (fun _=>k16) (fun bU=>?_);have aW:=bU (by decide);clear hK bU;try simp only[bI]
         clear k16;refine bH.one (i:=8) (by kernel_rfl) rfl (fun K hK=>?_);go_simp;refine hK.out _ _ (fun h=>absurd rfl h) (fun _=>?_);clear hK;refine bH.done (by kernel_rfl) ?_ _;try simp only[bI]
         go_wp2_with fail;exact⟨apw.out,by rw[awj.out];exact LT9.o⟩
     ·intro key v kl w5 abk hk hl hM ho5 tK hg5 hs5 hen;obtain⟨t,rfl,ht⟩:=hkeys kl v hM;obtain⟨z,rfl,hz,_⟩:=Ir underlying3 hk;injection hz with _ hz;subst hz;have mf:=HM.o.fl.1;obtain⟨n0,M0,p1,p2,p3,p4,p5⟩:=mf;rw[mlE]at p1;obtain rfl:=p1.uniq HO.o.omap;obtain⟨fl0,tg0⟩:=p5 t v hM;have efl:(Bo f q (oH left) dead).fl t=f.fl t:=(by rw[ahZ];exact if_pos hl);rw[efl]at fl0;obtain⟨lq,hlq⟩:∃lq,f.fl t=lq:=⟨_,rfl⟩;rw[hlq]at fl0;obtain⟨Q,q1,own,qd⟩:=fl0;obtain⟨la,lc,eV⟩:=dO own;subst eV;have rge:w3.heap.size<=r:=(by have:=RW.o;omega);have tr':(dN r).1=0:=tr;have C5:Ch (· =r) wr w5:=(Ch.refl (· =r) wr).grown hg5 fun g e=>.inl (je e).symm;have M5:gy dN w5 b ns cs (Bo f q (oH left) dead) L':=HM.o.jD C5 (fun _ _=>rfl) fun k s=>(by rw[s];exact tr');have N5:qo xL w3 dN w5:=⟨NX.o.ch.grown hg5 fun g e=>.inr (by have:=je e;omega),NX.o.ext⟩;obtain⟨F,hF⟩:∃F,Bo f q (oH left) dead=F:=⟨_,rfl⟩;have hBB:∀B,f.now+101<=B->∀s,B<=s->f.fl s=[]:=fun B hB s hs=>by
       cases e:f.fl s with
       |nil=>rfl
       |cons x l=>have h1:=hfl.due s x (by rw[e];exact dH ..);have h2:=(rR.fl s x (by rw[e];exact dH ..)).1;have h3:=hp.dl (x.1/2) (by omega);unfold dlF at h1;omega
      have aai:∀B,f.now+101<=B->(dead++El q lq).Perm (Mg B f.fl q (oH fun x=>left x&&!x.sameKey (.int .i64 (t:Nat)))):=fun B hB=>(by rw[<-hlq];exact aca B f.fl q t (oH left) _ (hBB B hB) hl (Jb left t) (HP.o B hB));have arP:∀x∈dead++El q lq,x.1<2*cs.length/\vK ns f x.2:=fun x hx=>by
       have:=(aai B0 hB0).mem_iff.1 hx;unfold Mg at this;obtain⟨s,_,hs⟩:=iF.1 this;split at hs
       ·cases hs
       ·exact rR.fl s x (jH.1 hs).1
      have arG:(dead++El q lq).length<=1000000:=(by rw[(aai B0 hB0).length_eq];exact dZ (aia _ _ _ _) (by rw[cK]at hgo;exact hgo));have FK:aY (∀k,dK ns cs ((El q (lq.take k)).foldl dx.jh F) (N+2000000)/\((El q (lq.take k)).foldl dx.jh F).aK=f.aK/\((El q (lq.take k)).foldl dx.jh F).dm=f.dm):=fun k=>by
       have e:(El q (lq.take k)).foldl dx.jh F=Bo f q (oH left) (dead++El q (lq.take k)):=(by rw[<-hF];unfold Bo;rw[fZ]);have sb:(El q (lq.take k)).Sublist (El q lq):=(List.take_sublist k lq).filter _;have r:=rR.azd q (oH left) (dead:=dead++El q (lq.take k)) fun x hx=>arP x (by
        rcases eZ.1 hx with h1|h1
        ·exact pX _ h1
        ·exact List.mem_append_right _ (sb.subset h1))
       have l1:=sb.length_le;rw[bV]at arG;rw[e];exact⟨r.1.mono (by rw[bV];omega),r.2.rm,r.2.bn⟩
      have uI:w5.ownsRow 0 122 7 (ay la Q.length lc) Q.length (Q.flatMap Hy):=fO own C5 fun g hg s=>(by have:=tg0 g hg;rw[s]at this;rw[this]at tr';cases tr');have qd5:∀x∈Q,iQ dN w5 x.1.2.data x.2:=fun x hx=>(qd x hx).jD C5 (fun _ _=>rfl) fun k s=>(by rw[s,tr'];decide);have akO:=aA uI;have QD5:=aA qd5;have lQ:lq.length=Q.length:=(by rw[<-q1,dE]);have EB:aY (∀s u,M0 (.int .i64 (s:Nat))=az u->∀g,u.ownBlock=az g->g<w5.heap.size):=fun s u hu g hg=>(by rw[hs5];exact(p5 s u hu).1.lt g hg);have agO:aY (∀xD wq,Bw dN w5 xD wq->∀k,k<Q.length->∃g,la=az ⟨g,0,aj⟩/\∀j,j<7->wq.cell? ⟨g,k*7+j,aj⟩=(Hy (Q.getD k Pn))[j]?):=fun xD wq n k hk=>(by obtain⟨g,cap,e1,_,hl,ho,hc⟩:=nH (d:=Pn) CX akO.out rfl hk;injection e1 with e1;refine⟨g,e1,fun j hj=>?_⟩;rw[n.ch.cell (p:=⟨g,k*7+j,aj⟩) hl fun s=>s.2 (by rw[tg0 g ho];simp)];exact hc k hk j hj);have LX:aY (∀k,k<Q.length->lq.getD k (0,default)=(Q.getD k Pn).1):=fun k hk=>(by rw[<-q1];simp[bJ,hk]);have FX:aY (∀x∈lq,x.1<2*cs.length/\vK ns f x.2):=fun x hx=>(by rw[<-hlq]at hx;exact rR.fl t x hx);have LL:aY (lq.length<=700000000):=(by have:=rR.DK t;rw[hlq]at this;rw[aY];omega);rw[hF]at M5;have ST2:aY (Hm dN w5 b ns cs L' F q t lq (ay aj 0 0) (ah ag 0) w5):=⟨0,dN,L',bS _,rfl,by simpa[El]using M5,Bw.refl _ _,KV.refl _,⟨⟨[],rfl,World.ownsRow_nil w5 _ _ _,fun x hx=>by cases hx⟩,fun g hg=>by simp[Value.ownBlock]at hg⟩⟩;have M5H:=aA M5;have N5H:=aA N5;have HO5:=aA ho5;have HIN:aY (M0 (.int .i64 (t:Nat))=az (ay la Q.length lc)):=hM;have awI:=aA hkeys;have awJ:=aA LFT.o;have STP:=aA aai;have TR:=aA tr';have aGS:aY (r<w5.heap.size):=ho5.ltR;have MFT:aY (dN L.mf=(2,3,0,0)):=(by rw[aY,<-mlE];exact HM.o.fl.2);have LT5:aY (abk<wr.rangeLeft L.mf r):=(by rw[aY,HO.o.left_eq];exact tK);have MST:aY (∀d X,X=({d.foldl dx.jh F with fl:=fun s=>if s=t then jQ q lq else(d.foldl dx.jh F).fl s}:dx)->X=Bo f q (oH fun x=>left x&&!x.sameKey (.int .i64 (t:Nat))) (dead++d)):=fun d X hX=>(by rw[hX,<-hF,<-hlq];exact abZ f q t (oH left) _ dead d hl (Jb left t));clear p1 p2 p3 p4 p5 own qd uI qd5 efl tg0 C5 M5 N5 ho5 hg5 hs5 hk hl hM tK hF aai arP arG hBB ho hkeys q1 rge;go_wp2_with fail;go_loopw [7,9,54] (fun v _ s wr=>Hm dN w5 b ns cs L' F q t lq v s wr) (fun _ _ s _=>lq.length-(aJ s).toNat);case atStart=>exact ST2.o
      case round=>
       clear ST2;obtain⟨k,xD,L6,hkl,rfl,m6,n6,s6,kp6⟩:=hrel;have M6:=aA m6;have N6:=aA n6;have S6:=aA s6;have KP6:=aA kp6;by_cases yY:k<lq.length
       ·have hkq:k<Q.length:=by rw[<-lQ];exact yY
        obtain⟨g,eg,cg⟩:=agO.out xD wr n6 k hkq;have ex:=LX.o k hkq;have hm:Q.getD k Pn∈Q:=(by simp[bJ,hkq]);have DX:=(QD5.o _ hm).jD n6.ch n6.ext fun j s=>(by have:=s.1;omega);have fx:=FX.o (lq.getD k (0,default)) (by simp[bJ,yY]);rw[ex]at fx;have LXK:=aA ex;generalize Q.getD k Pn=x at *;obtain⟨⟨c,xi,xf,xt,xl,xe,xd⟩,xv⟩:=x;have DAT:=aA DX;obtain⟨va,vk,eV,_⟩:=DX;have eV:xv=ay va xd.length vk:=eV;subst eV;have m0:=cg 0 (by omega);have m1:=cg 1 (by omega);have m2:=cg 2 (by omega);have m3:=cg 3 (by omega);have m4':=cg 4 (by omega);have m5:=cg 5 (by omega);have m6':=cg 6 (by omega);simp only[Hy,Cx,Nat.add_zero,List.getElem?_cons_zero,List.getElem?_cons_succ]at m0 m1 m2 m3 m4' m5 m6';subst eg;obtain⟨tcC,blC⟩:=VCX.o xD wr (N5H.o.trans n6.x);have OM6:aY (jo wr aH 3 L6.mf n' M0):=by
         have e6:L6.mf=L.mf:=(by rw[s6.e];exact mlE);rw[aY,e6];refine(HO5.o.ch n6.ch (fun s=>?_) fun s=>?_).omap
         ·unfold Ta at s;rw[MFT.o]at s;simp at s
         ·have:=s.1;rw[TR.o]at this;omega
        have kb7:k<700000000:=(by have:=LL.o;omega);have kq0:(0:Int)<=(k:Int):=(by omega);have kq1:(k:Int)<(Q.length:Int):=(by omega);have c64:c<1000000:=(by have:=fx.1;have:=C32.o;simp only at *;omega);have hd:(c:Int)/2=((c/2:Nat):Int):=(by omega);have hwk:wrap64 ((c/2:Nat):Int)=((c/2:Nat):Int):=(by unfold wrap64;omega);obtain⟨wb,Nb⟩:∃wb:aG,wr.alloc (af #[ah ag (c:Int),ah ag xi,ah ag xf,ah ag xt,ah ag xl,ah ag xe,ay va xd.length vk] 122)=wb:=⟨_,rfl⟩;have WU:aY (Below wr.heap.size wr wb):=(by rw[<-Nb];exact(aQ _ _).alloc (aC _) _);obtain⟨bX,hbX⟩:∃bX,wr.heap.size=bX:=⟨_,rfl⟩;have VB:aY (dh wb bX 122 #[ah ag (c:Int),ah ag xi,ah ag xf,ah ag xt,ah ag xl,ah ag xe,ay va xd.length vk]):=(by rw[<-Nb,<-hbX];exact dh.new wr _ _);have vb0:wb.cell? ⟨bX,0,aj⟩=az (ah ag (c:Int)):=VB.o.cell 0;have kc':wb.cell? ⟨bC,0,aj⟩=az (ah ag (q:Int)):=(WU.o.cell (p:=⟨bC,0,aj⟩) blC.lt).trans (blC.cell 0);have FXH:=aA fx;clear cg ex hm fx n6 s6 m6 c64;obtain⟨c2,Pq⟩:∃c2,c/2=c2:=⟨_,rfl⟩;have HC2:=aA Pq;rw[Pq]at hd hwk;clear Pq;by_cases hq2:c2=q
        ·as_aux_lemma=>
          subst hq2;obtain⟨ka,kc7,eK⟩:=kp6.form;subst eK;have EQ2:=HC2;obtain⟨fx1,fm⟩:=FXH.o;have fx1:c<2*cs.length:=fx1;obtain⟨cl,hcl⟩:∃cl:Nat,xl=(cl:Int):=⟨xl.toNat,by have h0:0<=xl:=fm.c0;omega⟩;subst hcl;obtain⟨OG,gr,gb⟩:=FK.o k;obtain⟨G,hG⟩:∃G,(El c2 (lq.take k)).foldl dx.jh F=G:=⟨_,rfl⟩;have m6:=M6.o;rw[hG]at OG gr gb m6;have hcr:cl<G.aK.length:=by have h0:(cl:Int).toNat<f.aK.length:=fm.c1;rw[gr];omega
          have NI:(G.gone.getD c []).length=G.aK.length:=OG.gn.row c fx1;have MB:gy (fr xD wr.heap.size) wb.drew b ns cs G L6:=(m6.below WU.o).drew;have NB:Bw xD wr (fr xD wr.heap.size) wb.drew:=(Bw.bY WU.o).drew;obtain⟨gc,cc2,eC,kC,_,lC,tC'⟩:=MB.gone.1.at_ (i:=c) (by simpa using fx1);obtain⟨gd,cd,eD,kD,fD,lD,tD⟩:=(MB.gone.2 c fx1).at_ (i:=cl) (by rw[dE];omega);rw[NI]at eD;unfold PK at tD;have kC':wb.cell? ⟨gc,c,aj⟩=az (ay (az ⟨gd,0,aj⟩) G.aK.length cd):=(by have e:wb.cell? ⟨gc,c,aj⟩=wb.drew.cell? ⟨gc,c,aj⟩:=rfl;rw[e,kC,List.getElem?_map,List.getElem?_range fx1,<-eD];rfl);have kD':wb.cell? ⟨gd,cl,aj⟩=az (ah ag (dR G.gone c cl)):=(by have e:wb.cell? ⟨gd,cl,aj⟩=wb.drew.cell? ⟨gd,cl,aj⟩:=rfl;rw[e,kD];exact Ga G.gone c cl (by omega));have kV:wb.cell? ⟨b,18,aj⟩=az (ay (az ⟨gc,0,aj⟩) (2*cs.length) cc2):=(by have e:wb.cell? ⟨b,18,aj⟩=wb.drew.cell? ⟨b,18,aj⟩:=rfl;rw[e,<-eC];exact MB.xA);have cvb:=OG.gv c cl fx1 hcr;have OK6:=OG.gone fx1 hcr;have SF:=MB.ahz (i:=c) (j:=cl) (g:=gd) (c:=cd) fx1 OG.gn.len (by rw[NI];exact hcr) NI eD (dR G.gone c cl+1);obtain⟨cv,hcv⟩:∃cv,dR G.gone c cl=cv:=⟨_,rfl⟩;obtain⟨G6,hG6⟩:∃G6:dx,{G with gone:=mW G.gone c cl (dR G.gone c cl+1)}=G6:=⟨_,rfl⟩;rw[hG6]at SF OK6;rw[hcv]at kD' cvb SF;obtain⟨w6,Yu⟩:∃w6:aG,wb.drew.setCell ⟨gd,cl,aj⟩ (ah ag (cv+1))=w6:=⟨_,rfl⟩;have C6:Ch (· =gd) wb.drew w6:=(by rw[<-Yu];exact(Ch.refl (fun i=>i=gd) wb.drew).setCell (p:=⟨gd,cl,aj⟩) (.inl rfl) _);rw[Yu]at SF;obtain⟨Qy,m7,n7⟩:=SF;have N7:Bw xD wr Qy w6:=NB.trans ⟨C6.mono fun i _ e=>by have e:i=gd:=e;unfold Ta;rw[e,tD];simp,n7.ext⟩;have nX:¬bX=gd:=fun e=>(by have h1:(fr xD wr.heap.size bX).1=0:=(by rw[<-hbX,lL (aC _)]);rw[e,tD]at h1;simp at h1);have V6:dh w6 bX 122 #[ah ag (c:Int),ah ag xi,ah ag xf,ah ag xt,ah ag (cl:Int),ah ag xe,ay va xd.length vk]:=dh.ch (S:=(· =gd)) (w:=wb.drew) VB.o C6 nX;have LS:=aA (II G6 ⟨xi,xf,xt,(cl:Int),xe,xd⟩ (ay va xd.length vk) b ns cs L6 Qy w6 m7 (OK6.afQ (by omega)) fm.e0 (by have h1:xe<=f.dm:=fm.e1;have e2:G6.dm=G.dm:=(by rw[<-hG6]);show xe<=(G6.dm:Int);omega) ⟨_,_,_,rfl⟩);unfold MU pt at LS;have avj:aY (∀Om L8 w8,gy Om w8 b ns cs (G6.qQ ⟨xi,xf,xt,(cl:Int),xe,xd⟩) L8->Bw Qy w6 Om w8->KV L6 L8->Hm dN w5 b ns cs L' F c2 t lq (ay ka (jQ c2 (lq.take k)).length kc7) (ah ag ((k:Int)+1)) w8):=fun Om L8 w8 h1 h2 h3=>
           Hm.dead (x:=(c,⟨xi,xf,xt,(cl:Int),xe,xd⟩)) yY LXK.o EQ2.o N6.o S6.o KP6.o (by rw[hG];rw[<-hG6]at h1;exact h1) (N7.trans h2) h3
          have vb4:wb.cell? ⟨bX,4,aj⟩=az (ah ag (cl:Int)):=VB.o.cell 4;have y1:w6.cell? ⟨bX,1,aj⟩=az (ah ag xi):=V6.cell 1;have y2:w6.cell? ⟨bX,2,aj⟩=az (ah ag xf):=V6.cell 2;have y3:w6.cell? ⟨bX,3,aj⟩=az (ah ag xt):=V6.cell 3;have y4:w6.cell? ⟨bX,4,aj⟩=az (ah ag (cl:Int)):=V6.cell 4;have y5:w6.cell? ⟨bX,5,aj⟩=az (ah ag xe):=V6.cell 5;have y6:w6.cell? ⟨bX,6,aj⟩=az (ay va xd.length vk):=V6.cell 6;have MSR:lq.length-(aJ (ah ag ((k:Int)+1))).toNat<lq.length-(aJ (ah ag (k:Int))).toNat:=(by simp[aJ];omega);have fD':wb.frozen? ⟨gd,cl,aj⟩=false:=fD;have q6:IntKind.i64.wrap (cv+1)=cv+1:=IntWalk.i64_in _ (by omega);have cl0:(0:Int)<=(cl:Int):=(by omega);have cl1:(cl:Int)<(G.aK.length:Int):=(by omega);have cc0:(0:Int)<=(c:Int):=(by omega);have cc1:(c:Int)<((2*cs.length:Nat):Int):=(by omega);clear OG gr gb m6 MB NB kC kD eC eD tC' tD lC lD fD cvb OK6 hcv hG6 hG C6 m7 n7 N7 nX V6 fm hcr NI fx1 kp6;obtain⟨n2c,arj⟩:∃n2c,2*cs.length=n2c:=⟨_,rfl⟩;rw[arj]at kV cc1;clear arj;go_wp2_with fail;refine fQ 15 (fun wq=>wq.cell? ⟨b,18,aj⟩=az (ay (az ⟨gc,0,aj⟩) n2c cc2)/\wq.cell? ⟨bX,0,aj⟩=az (ah ag (c:Int))/\wq.cell? ⟨gc,c,aj⟩=az (ay (az ⟨gd,0,aj⟩) G.aK.length cd)/\wq.cell? ⟨bX,4,aj⟩=az (ah ag (cl:Int))/\wq.cell? ⟨gd,cl,aj⟩=az (ah ag cv)) (by kernel_rfl) ⟨kV,vb0,kC',vb4,kD'⟩ (fun aW=>?_);refine bH.tk 0 aW ?_;try simp only[bI]
          refine bH.tk 1 aW ?_;try simp only[bI]
          refine bH.tk 2 aW ?_;try simp only[bI]
          refine bH.tk 3 aW ?_;try simp only[bI]
          refine bH.tk 4 aW ?_;try simp only[bI]
          refine bH.tk 5 aW ?_;try simp only[bI]
          refine bH.tk 6 aW ?_;try simp only[bI]
          refine bH.tk 7 aW ?_;try simp only[bI]
          refine bH.tk 8 aW ?_;try simp only[bI]
          refine bH.tk 9 aW ?_;try simp only[bI]
          refine bH.tk 10 aW ?_;try simp only[bI]
          refine bH.tk 11 aW ?_;try simp only[bI]
          refine bH.tk 12 aW ?_;try simp only[bI]
          refine bH.tk 13 aW ?_;try simp only[bI]
          refine bH.tk 14 aW ?_;try simp only[bI]
          refine bH.one (i:=15) (by kernel_rfl) rfl (fun K hK=>?_);go_simp;refine hK.out _ _ (fun h=>absurd rfl h) (fun _=>?_);clear hK;refine bH.done (by kernel_rfl) ?_ _;try simp only[bI]
          clear kV kC' kD' vb4 vb0 fD';go_wp2_with (first|(go_at_call 58;(with_reducible refine LS.o.mono ?_);rintro e w8 ⟨rfl,Om,L8,hm8,hn8,hs8⟩;have R:=aA (avj.out Om L8 w8 hm8 hn8 hs8);clear hm8 hn8 hs8));exact⟨R.o,MSR⟩
        ·skip;have ne:((c2:Int)!=(q:Int))=true:=by simp;omega
         obtain⟨⟨Q6,z1,z2,z3⟩,z4⟩:=kp6;obtain⟨ka,kc7,eK⟩:=dO z2;subst eK;obtain⟨j0,xI,zb,Ad,Ae⟩:=info_parts Px;have OWb:aY (wb.ownsRow w5.heap.size 122 7 (ay ka Q6.length kc7) Q6.length (Q6.flatMap Hy)):=(by rw[<-Nb];exact z2.alloc _);have vb1:wb.cell? ⟨bX,1,aj⟩=az (ah ag xi):=VB.o.cell 1;have vb2:wb.cell? ⟨bX,2,aj⟩=az (ah ag xf):=VB.o.cell 2;have vb3:wb.cell? ⟨bX,3,aj⟩=az (ah ag xt):=VB.o.cell 3;have vb4:wb.cell? ⟨bX,4,aj⟩=az (ah ag xl):=VB.o.cell 4;have vb5:wb.cell? ⟨bX,5,aj⟩=az (ah ag xe):=VB.o.cell 5;have vb6:wb.cell? ⟨bX,6,aj⟩=az (ay va xd.length vk):=VB.o.cell 6;have NEQ:aY (¬c/2=q):=(by rw[aY,HC2.o];exact hq2);have Z1:=aA z1;have Z2:=aA z2;have Z3:=aA z3;have Z4:=aA z4;have QL6:aY (Q6.length<=700000000):=(by rw[aY];have h1:=congrArg List.length z1;rw[dE]at h1;have h2:(jQ q (lq.take k)).length<=(lq.take k).length:=lJ _ _;rw[List.length_take]at h2;omega);have SZ:aY (w5.heap.size<=wb.heap.size+1):=(by rw[aY];have h1:=N6.o.ch.size;have h2:=WU.o.size;omega);have KEEP:aY (∀(w8:aG) (v8:aI) (o1:Obj),w8.ownsRow w5.heap.size 122 7 v8 (Q6.length+1) (Q6.flatMap Hy++[ah ag (c:Int),ah ag xi,ah ag xf,ah ag xt,ah ag xl,ah ag xe,ay va xd.length vk])->(wb.alloc o1).grownBy w8 (ay ka Q6.length kc7).ownBlock->(v8.ownBlock=(ay ka Q6.length kc7).ownBlock\/v8.ownBlock=az (wb.heap.size+1))->Hm dN w5 b ns cs L' F q t lq v8 (ah ag ((k:Int)+1)) w8):=fun w8 v8 o1 h1 h2 h3=>
          Hm.kept (x:=((c,⟨xi,xf,xt,xl,xe,xd⟩),ay va xd.length vk)) yY LXK.o NEQ.o M6.o N6.o S6.o OM6.o EB.o Z1.o Z2.o Z3.o Z4.o DAT.o WU.o h1 h2 h3
         clear z1 z2 z3 z4;go_wp2_with (at_builtin;refine gW _ rfl (.tmp 63) (.tmp 65) 120 rfl w5.heap.size 122 j0 _ 7 72 underlying120 xI zb Ad Ae rfl (by decide) _ _ _ rfl (OWb.o.alloc _) (wb.heap.size+1) (az ⟨wb.heap.size,0,aj⟩) 1 1 [ah ag (c:Int),ah ag xi,ah ag xf,ah ag xt,ah ag xl,ah ag xe,ay va xd.length vk] rfl (iB wb _ _ (n:=1) (size:=7) rfl) ?c3 ?c4 ?c5 ?c6 ?_);case c3=>exact⟨rfl,rfl,rfl,rfl,rfl,rfl,rfl⟩
         case c4=>exact amm QL6.o
         case c5=>exact aml QL6.o
         case c6=>exact SZ.o
         intro v8 w8 Jj AX Me;have R:=aA (KEEP.o w8 v8 _ Jj ⟨AX.os,AX.tape,AX.output,AX.size,AX.block⟩ (by simpa using Me));clear Jj AX Me;have MSR:lq.length-(aJ (ah ag ((k:Int)+1))).toNat<lq.length-(aJ (ah ag (k:Int))).toNat:=by simp[aJ];omega
         go_wp2_with fail;exact⟨R.o,MSR⟩
       ·have hke:k=lq.length:=by omega
        rw[hke,List.take_length]at m6 kp6;obtain⟨w7,amW,ass,me7,c15⟩:=UH.next (f:=f) m6 n6 s6 SM.o kp6 HO5.o hn ht (by rw[HIN.o];rfl) MFT.o TR.o N5H.o awI.out awJ.out STP.o (MST.o _ _ rfl);have awH:=aA ass;have ME7:=aA me7;obtain⟨ka,kc7,eK⟩:=kp6.form;subst eK;clear m6 n6 s6 kp6 ass me7 hke;go_wp2_with fail;exact⟨awH.out,by rw[ME7.o];exact LT5.o⟩
end
end Go.Proofs.YtnjjkgjdhljfnaaGreat
