/- Part 26. -/
import Derived.Test.YtnjjkgjdhljfnaaGreatPk4
import Derived.Test.YtnjjkgjdhljfnaaGreatPk21
open Go.Proofs.Tryz
open Bool renaming and_eq_true->dD,not_eq_true'->jW
open Go renaming Value->aJ,World->aG,maxLen->fJ
open Go.Ending renaming returned->ax
open Go.Instr renaming mapUpdate->oz
open Go.IntKind renaming i64->ag
open Go.Lib renaming hid->aA
open Go.Maps renaming keyOf_int_inv->IL
open Go.Obj renaming cells->af
open Go.Proofs.Tryz renaming prog->aH
open Go.RowKit renaming Hid->aZ,intOf->aK
open Go.RowKit.Below renaming refl->aS
open Go.Value renaming int->ah,pointer->au,slice->ay
open Go.WideAt renaming sameKey_eq->wh
open Int renaming le_refl->fC,natCast_nonneg->rA,toNat_natCast->cO
open List renaming append_assoc->jX,append_nil->jr,filter_append->ji,flatMap_cons->dY,foldl_append->fV,foldl_cons->dS,getD->bS,getD_eq_getElem?_getD->dN,getElem?_eq_getElem->cZ,length_append->bW,length_cons->fw,length_filter_le->pV,length_map->dW,length_set->jN,length_singleton->iH,map_append->fF,mem_append->dU,mem_cons_of_mem->dx,mem_cons_self->bZ,mem_filter->iR,mem_flatMap->gZ,mem_range->dK,mem_singleton->dh,range->aN,take_add_one->oh
open Nat renaming le_refl->aC,le_trans->eY,zero_le->bJ
open Option renaming none->aj,some->az,toList_some->zQ
open Option.some renaming inj->mg
set_option maxRecDepth 100000
set_option maxHeartbeats 16000000
set_option linter.unusedVariables false
set_option linter.unusedSimpArgs false
namespace Go.Proofs.YtnjjkgjdhljfnaaGreat
section
structure sW(f g:dB):Prop where
 c:g.aX=f.aX
 rm:g.aI=f.aI
 up:g.up=f.up
 r0:g.CR=f.CR
 r1:g.JH=f.JH
 bn:g.dE=f.dE
 pe:g.mW=f.mW
 nw:g.now=f.now
 la:g.last=f.last
theorem sW.refl(f:dB):sW f f:=⟨rfl,rfl,rfl,rfl,rfl,rfl,rfl,rfl,rfl⟩
theorem sW.trans{f g h:dB}(a:sW f g)(b:sW g h):sW f h:=⟨b.c.trans a.c,b.rm.trans a.rm,b.up.trans a.up,b.r0.trans a.r0,b.r1.trans a.r1,b.bn.trans a.bn,b.pe.trans a.pe,b.nw.trans a.nw,b.la.trans a.la⟩
theorem sW.rem(f:dB)(e:Int):sW f (f.rem e):=by
 unfold dB.rem dB.gQ;split
 ·exact sW.refl f
 ·split<;>exact⟨rfl,rfl,rfl,rfl,rfl,rfl,rfl,rfl,rfl⟩
theorem sW.oG(f:dB)(x:Fm):sW f (f.oG x):=have h:=sW.rem f x.ep;⟨h.c,h.rm,h.up,h.r0,h.r1,h.bn,h.pe,h.nw,h.la⟩
theorem sW.fold{α:Type}(op:dB->α->dB)(h:∀f x,sW f (op f x)):∀(l:List α) (f:dB),sW f (l.foldl op f)
 |[],f=>sW.refl f
 |x::l,f=>by rw[dS];exact(h f x).trans (sW.fold op h l _)
section
variable(ns:List Nd)(cs:List Cb)
theorem sW.fO(s:dB×List Dl)(x:Nat×Fm):sW s.1 (dB.fO ns cs s x).1:=by
 unfold dB.fO;dsimp only;split
 ·dsimp only;split
  ·exact⟨rfl,rfl,rfl,rfl,rfl,rfl,rfl,rfl,rfl⟩
  ·have h:=sW.oG ({s.1 with boxes:=s.1.boxes.set (bV cs x.1).2.2.1 ((s.1.boxes.getD (bV cs x.1).2.2.1 default).gT (bV cs x.1).2.2.2 x.2).1}:dB) x.2;exact⟨h.c,h.rm,h.up,h.r0,h.r1,h.bn,h.pe,h.nw,h.la⟩
 ·dsimp only;have h:=sW.rem ({s.1 with came:=jA s.1.came (bV cs x.1).2.2.1 x.2.cls.toNat (dz s.1.came (bV cs x.1).2.2.1 x.2.cls.toNat+1)}:dB) x.2.ep;exact⟨h.c,h.rm,h.up,h.r0,h.r1,h.bn,h.pe,h.nw,h.la⟩
theorem sW.Es:∀(l:List (Nat×Fm)) (s:dB×List Dl),sW s.1 (l.foldl (dB.fO ns cs) s).1
 |[],s=>sW.refl _
 |x::l,s=>by rw[dS];exact(sW.fO ns cs s x).trans (sW.Es l _)
theorem sW.lU(u:Nat)(f:dB)(m:Mv):sW f (f.lU cs u m):=by
 unfold dB.lU;cases m.2.2.1 with
 |none=>exact sW.oG f _
 |some k=>
  dsimp only;cases jH cs u k with
  |none=>exact sW.refl f
  |some i=>exact⟨rfl,rfl,rfl,rfl,rfl,rfl,rfl,rfl,rfl⟩
theorem sW.kE(f:dB)(u:Nat):sW f (f.kE ns cs u):=by have h:=sW.fold (dB.lU cs u) (sW.lU cs u) (((f.boxes.getD u default).step (lY ns cs f u)).2) {f with boxes:=f.boxes.set u ((f.boxes.getD u default).step (lY ns cs f u)).1};exact⟨h.c,h.rm,h.up,h.r0,h.r1,h.bn,h.pe,h.nw,h.la⟩
theorem sW.tick(f:dB)(nr:Rt):sW (f.jk nr) (f.tick ns cs nr).1:=by rw[Bt];have h1:sW (f.jk nr) ((f.jk nr).iM cs):=sW.fold (dB.jh cs) (fun f x=>⟨rfl,rfl,rfl,rfl,rfl,rfl,rfl,rfl,rfl⟩) _ _;have h2:sW ((f.jk nr).iM cs) ((f.jk nr).iM cs).uA:=⟨rfl,rfl,rfl,rfl,rfl,rfl,rfl,rfl,rfl⟩;have h12:=h1.trans h2;generalize((f.jk nr).iM cs).uA=g at *;have h3:sW g (g.jf ns cs).1:=(⟨rfl,rfl,rfl,rfl,rfl,rfl,rfl,rfl,rfl⟩:sW g {g with fl:=fun t=>if t=g.now then[]else g.fl t}).trans (sW.Es ns cs (mG (2*cs.length) (g.fl g.now)) ({g with fl:=fun t=>if t=g.now then[]else g.fl t},[]));have h4:sW (g.jf ns cs).1 (nL ns cs (g.jf ns cs).1 ns.length):=sW.fold (dB.kE ns cs) (sW.kE ns cs) _ _;refine(h12.trans (h3.trans h4)).trans ?_;show sW _ ((nL ns cs (g.jf ns cs).1 ns.length).tell ns cs);rw[zG];exact⟨rfl,rfl,rfl,rfl,rfl,rfl,rfl,rfl,rfl⟩
end
def dB.iV(f:dB)(x:Nat×Fm):dB:=dB.oG {f with gone:=jA f.gone x.1 x.2.cls.toNat (dz f.gone x.1 x.2.cls.toNat+1)} x.2
def dB.Pg(f:dB)(i:Nat):dB:={f with up:=f.up.set i false,mW:=true,fl:=fun t=>jJ i (f.fl t),lim:=fun t=>jJ i (f.lim t)}
def dB.Kj(f:dB)(i:Nat)(dead:List (Nat×Fm)):dB:=dead.foldl dB.iV (f.Pg i)
def yw(B:Nat)(fl:Nat->List (Nat×Fm))(i:Nat):List (Nat×Fm):=(aN B).flatMap fun t=>El i (fl t)
def Zr(f:dB)(i:Int):Prop:=0<=i/\i<f.up.length/\f.up.getD i.toNat false=true
def akw(f:dB)(i:Int)(g:dB):Prop:=(¬Zr f i/\g=f)\/(Zr f i/\∃dead:List (Nat×Fm),(∀B,f.now+101<=B->dead.Perm (yw B f.fl i.toNat))/\g=f.Kj i.toNat dead)
section
variable{ns:List Nd}{cs:List Cb}{f g:dB}{N B:Nat}{H ins outs:List Fm}
theorem sW.iV(f:dB)(x:Nat×Fm):sW f (f.iV x):=have h:=sW.oG ({f with gone:=jA f.gone x.1 x.2.cls.toNat (dz f.gone x.1 x.2.cls.toNat+1)}:dB) x.2;⟨h.c,h.rm,h.up,h.r0,h.r1,h.bn,h.pe,h.nw,h.la⟩
theorem aeK(f:dB)(x:Nat×Fm):(f.iV x).fl=f.fl/\(f.iV x).boxes=f.boxes/\(f.iV x).lim=f.lim:=by
 unfold dB.iV dB.oG dB.rem dB.gQ;simp only;split
 ·exact⟨rfl,rfl,rfl⟩
 ·split<;>exact⟨rfl,rfl,rfl⟩
theorem wC:∀(l:List (Nat×Fm)) (f:dB),(l.foldl dB.iV f).fl=f.fl/\(l.foldl dB.iV f).boxes=f.boxes/\(l.foldl dB.iV f).lim=f.lim
 |[],f=>⟨rfl,rfl,rfl⟩
 |x::l,f=>by rw[dS];have h:=wC l (f.iV x);have k:=aeK f x;exact⟨h.1.trans k.1,h.2.1.trans k.2.1,h.2.2.trans k.2.2⟩
theorem dH.gone(h:dH ns cs f N){c v:Nat}(hc:c<2*cs.length)(hv:v<f.aI.length):dH ns cs {f with gone:=jA f.gone c v (dz f.gone c v+1)} (N+1):=by
 have k:=h.mono (show N<=N+1 by omega);exact{
  k0:=k.k0,k1:=k.k1,rl:=k.rl,rv:=k.rv,bl:=k.bl,box:=k.box,q:=fun i p c x hi xh qx hx=>(k.q i p c x hi xh qx hx).qY rfl (aC _),up:=k.up,r0:=k.r0,r1:=k.r1,bn:=k.bn,a0:=k.a0,a1:=k.a1,now:=k.now,last:=k.last,ll:=k.ll,cm:=k.cm,cv:=k.cv,fl:=fun t x hx=>⟨(k.fl t x hx).1,(k.fl t x hx).2.qY rfl (aC _)⟩,Ee:=k.Ee,lim:=k.lim,Ei:=k.Ei
  gn:=h.gn.jy c v _
  gv:=fun i j hi hj=>by have h1:=h.gv c v hc hv;have h2:=h.gv i j hi hj;show 0<=dz (jA f.gone c v (dz f.gone c v+1)) i j/\dz (jA f.gone c v (dz f.gone c v+1)) i j<=((N+1:Nat):Int);rw[iQ h.gn hc hv];split<;>omega}
theorem dH.Pg(h:dH ns cs f N)(i:Nat):dH ns cs (f.Pg i) N:=by
 have k:=h;exact{
  k0:=k.k0,k1:=k.k1,rl:=k.rl,rv:=k.rv,bl:=k.bl,box:=k.box,q:=fun i p c x hi xh qx hx=>(k.q i p c x hi xh qx hx).qY rfl (aC _),up:=by show(f.up.set i false).length=_;rw[jN];exact k.up,r0:=k.r0,r1:=k.r1,bn:=k.bn,a0:=k.a0,a1:=k.a1,now:=k.now,last:=k.last,ll:=k.ll,cm:=k.cm,cv:=k.cv,gn:=k.gn,gv:=k.gv
  fl:=fun t x hx=>by have hx:=(iR.1 (show x∈jJ i (f.fl t)from hx)).1;exact⟨(k.fl t x hx).1,(k.fl t x hx).2.qY rfl (aC _)⟩
  Ee:=fun t=>eY (pV _ _) (k.Ee t)
  lim:=fun t x hx=>k.lim t x (iR.1 (show x∈jJ i (f.lim t)from hx)).1
  Ei:=fun t=>eY (pV _ _) (k.Ei t)}
theorem dH.Kq:∀(l:List (Nat×Fm)) {f:dB} {N:Nat},dH ns cs f N->(∀x∈l,x.1<2*cs.length/\qR ns f x.2)->dH ns cs (l.foldl dB.iV f) (N+2*l.length)
 |[],_,_,h,_=>h
 |x::l,f,N,h,hl=>by rw[dS];have hx:=hl x (bZ ..);have k:dH ns cs (f.iV x) (N+2):=((h.gone hx.1 hx.2.c1).oG x.2);have s:=sW.iV f x;exact(dH.Kq l k fun y hy=>⟨(hl y (dx _ hy)).1,(hl y (dx _ hy)).2.qY s.rm (by rw[s.bn];exact aC _)⟩).mono (by rw[fw];omega)
theorem Ac.Kq:∀(l:List (Nat×Fm)) {f:dB},Ac B f (l.map (·.2)++H) ins outs->Ac B (l.foldl dB.iV f) H ins outs
 |[],_,h=>h
 |x::l,f,h=>by rw[dS];exact Ac.Kq l (Ac.oG (x:=x.2) (h.same (H':=[]) (g:={f with gone:=jA f.gone x.1 x.2.cls.toNat (dz f.gone x.1 x.2.cls.toNat+1)}) rfl rfl rfl rfl rfl rfl))
theorem TV(μ:Fm->Nat)(B:Nat)(fl:Nat->List (Nat×Fm))(i:Nat):flW μ B (fun t=>jJ i (fl t))+sm μ ((yw B fl i).map (·.2))=flW μ B fl:=by unfold flW yw;rw[afW,ve,<-afV];apply yD;intro t _;have:=Sy (fun x:Nat×Fm=>μ x.2) (fun x=>x.1/2==i) (fl t);have e:(fun x:Nat×Fm=>!(x.1/2==i))=fun x=>x.1/2 !=i:=rfl;rw[e]at this;unfold jJ El;dsimp only at this|-;omega
theorem Ac.cut(h:Ac B f [] ins outs)(i:Nat){dead:List (Nat×Fm)}(hd:dead.Perm (yw B f.fl i)):Ac B (f.Kj i dead) [] ins outs:=by unfold dB.Kj;refine Ac.Kq dead (h.qY (fun μ=>?_) (fun _=>rfl) rfl rfl rfl rfl);have h1:=TV μ B f.fl i;have h2:=La (μ:=μ) (hd.map (·.2));rw[jr];unfold Ey;rw[wK,h2];show _+flW μ B (fun t=>jJ i (f.fl t))+_=_;have e:sm (fun b:Bx=>qW μ b.q) (f.Pg i).boxes=sm (fun b:Bx=>qW μ b.q) f.boxes:=rfl;rw[e];omega
theorem yJ.axA(h:yJ cs f)(i:Nat)(e1:g.fl=fun t=>jJ i (f.fl t))(e2:g.now=f.now):yJ cs g:=by
 refine⟨fun t=>?_,fun t x hx=>?_⟩
 ·rw[e1];exact(h.nd t).sublist (List.filter_sublist.map _)
 ·rw[e1]at hx;rw[e2];exact h.due t x (iR.1 hx).1
def qO(f:dB)(iN jl cls:Int)(data:List Int):Fm:=⟨f.last+1,iN,jl,((cls.toNat+f.aX*(f.dE%2):Nat):Int),f.dE,data⟩
inductive agR(ns:List Nd)(f:dB)(iN jl cls:Int)(data:List Int):Prop
 |no (e:Int):e≠0->f.iF ns iN jl cls data=(f,0,e)->agR ns f iN jl cls data
 |full:((f.boxes.getD iN.toNat default).gT 1 (qO f iN jl cls data)).2=false->((dz (f.boxes.getD iN.toNat default).q 1 (cls.toNat+f.aX*(f.dE%2))).length:Int)<f.aI.getD (cls.toNat+f.aX*(f.dE%2)) 0->iN.toNat<ns.length->1<gJ (ns.getD iN.toNat iZ)->qR ns f (qO f iN jl cls data)->
  f.iF ns iN jl cls data=({f with boxes:=f.boxes.set iN.toNat ((f.boxes.getD iN.toNat default).gT 1 (qO f iN jl cls data)).1},0,5)->agR ns f iN jl cls data
 |yes:((f.boxes.getD iN.toNat default).gT 1 (qO f iN jl cls data)).2=true->iN.toNat<ns.length->0<=iN->xH ns iN=true->xH ns jl=true->iN≠jl->0<=cls->cls<f.aX->1<gJ (ns.getD iN.toNat iZ)->qR ns f (qO f iN jl cls data)->
  f.iF ns iN jl cls data=({f.gQ f.dE 1 with boxes:=f.boxes.set iN.toNat ((f.boxes.getD iN.toNat default).gT 1 (qO f iN jl cls data)).1,last:=f.last+1},((f.last:Int)+1),0)->agR ns f iN jl cls data
theorem zD(h:dH ns cs f N)(iN jl cls:Int)(data:List Int):agR ns f iN jl cls data:=by
 by_cases hb:(!xH ns iN||!xH ns jl||decide (cls<0)||decide ((f.aX:Int)<=cls)||decide (64<data.length))=true
 ·exact .no 2 (by decide) (by unfold dB.iF;rw[if_pos hb])
 by_cases hft:iN=jl
 ·exact .no 12 (by decide) (by unfold dB.iF;rw[if_neg hb,if_pos hft])
 by_cases hq:f.aI.getD (cls.toNat+f.aX*(f.dE%2)) 0<=(dz (f.boxes.getD iN.toNat default).q 1 (cls.toNat+f.aX*(f.dE%2))).length
 ·exact .no 5 (by decide) (by unfold dB.iF;rw[if_neg hb,if_neg hft];simp only;rw[if_pos hq])
 have tq:=hb;simp only[Bool.or_eq_true,jW,decide_eq_true_eq,not_or,Bool.not_eq_false,Int.not_lt,Int.not_le]at tq;obtain⟨⟨⟨⟨b1,b2⟩,b3⟩,b4⟩,b5⟩:=tq;have c1:=b1;have c2:=b2;unfold xH at c1 c2;simp only[dD,decide_eq_true_eq]at c1 c2;have hu:iN.toNat<ns.length:=by omega
 have vl:cls.toNat+f.aX*(f.dE%2)<f.aI.length:=by rw[h.rl];rcases(show f.dE%2=0\/f.dE%2=1 by omega)with q|q<;>rw[q]<;>omega
 have p2:1<gJ (ns.getD iN.toNat iZ):=by
  have e:(ns.getD iN.toNat iZ).sw=false:=by have:=c1.2;unfold qE at this;simpa using this
  unfold gJ;rw[e,if_neg (by decide)];omega
 have fm:qR ns f (qO f iN jl cls data):=⟨rA _,by unfold qO;simp only[cO];exact vl,rA _,fC _,c2.1.1,c2.1.2,by unfold qO;simp only;omega⟩;have e:f.iF ns iN jl cls data=if((f.boxes.getD iN.toNat default).gT 1 (qO f iN jl cls data)).2 then({f.gQ f.dE 1 with boxes:=f.boxes.set iN.toNat ((f.boxes.getD iN.toNat default).gT 1 (qO f iN jl cls data)).1,last:=f.last+1},((f.last:Int)+1),0)else({f with boxes:=f.boxes.set iN.toNat ((f.boxes.getD iN.toNat default).gT 1 (qO f iN jl cls data)).1},0,5):=by unfold dB.iF;rw[if_neg hb,if_neg hft];simp only;rw[if_neg hq];rfl
 cases hr:((f.boxes.getD iN.toNat default).gT 1 (qO f iN jl cls data)).2 with
 |true=>rw[hr,if_pos rfl]at e;exact .yes hr hu c1.1.1 b1 b2 hft b3 b4 p2 fm e
 |false=>rw[hr,if_neg (by decide)]at e;exact .full hr (by omega) hu p2 fm e
theorem Ac.inj(hp:nW ns cs)(ok:dH ns cs f N)(h:Ac B f [] ins outs)(iN jl cls:Int)(data:List Int):Ac B (f.iF ns iN jl cls data).1 [] (if(f.iF ns iN jl cls data).2.2=0 then ins++[qO f iN jl cls data]else ins) outs:=by
 rcases zD ok iN jl cls data with⟨e,he,q⟩|⟨hr,_,hu,p2,fm,q⟩|⟨hr,hu,_,_,_,_,_,_,p2,fm,q⟩
 ·rw[q];simp only;rw[if_neg he];exact h
 ·rw[q];simp only;rw[if_neg (by decide)];obtain⟨b1,b2,b3⟩:=ok.box _ hu;have aw:=JZ (x:=qO f iN jl cls data) b1 (p:=1) (by rw[b2];exact p2) (by rw[b3];exact fm.c1);exact h.box (by rw[ok.bl];exact hu) _ fun μ=>by rw[aw.2 hr]
 ·rw[q];simp only;rw[if_pos trivial];obtain⟨b1,b2,b3⟩:=ok.box _ hu;have aw:=JZ (x:=qO f iN jl cls data) b1 (p:=1) (by rw[b2];exact p2) (by rw[b3];exact fm.c1);have iw:∀μ,Ey μ B ({f.gQ f.dE 1 with boxes:=f.boxes.set iN.toNat ((f.boxes.getD iN.toNat default).gT 1 (qO f iN jl cls data)).1,last:=f.last+1}:dB) []=Ey μ B f []+μ (qO f iN jl cls data):=fun μ=>by
   unfold Ey;have h1:=Uq (fun b:Bx=>qW μ b.q) f.boxes (i:=iN.toNat) (by rw[ok.bl];exact hu) ((f.boxes.getD iN.toNat default).gT 1 (qO f iN jl cls data)).1 default;have h2:=aw.1 hr μ;have e:(f.gQ f.dE 1).fl=f.fl:=by unfold dB.gQ;split<;>rfl
   simp only at h1|-;rw[e];omega
  refine⟨fun μ=>?_,fun e=>?_,fun e=>?_⟩
  ·have:=h.acc μ;have e:(f.gQ f.dE 1).lost=f.lost:=by unfold dB.gQ;split<;>rfl
   rw[iw,nG,yT];simp only;rw[e];omega
  ·have:=h.al e;rw[iw];have ee:epI e (qO f iN jl cls data)=if(f.dE:Int)=e then 1 else 0:=rfl
   rw[ee];show dB.alive (f.gQ f.dE 1) e=_;unfold dB.alive at this|-;have eb:(f.gQ f.dE 1).dE=f.dE:=by unfold dB.gQ;split<;>rfl
   rw[eb];by_cases q1:e<0\/(f.dE:Int)<e\/e<(f.dE:Int)-1
   ·rw[if_pos q1]at this|-;rw[if_neg (by omega)];omega
   ·rw[if_neg q1]at this|-;unfold dB.gQ;by_cases p:(f.dE:Int)%2=0
    ·rw[if_pos p];by_cases p':e%2=0
     ·rw[if_pos p']at this|-;rw[if_pos (by omega)];simp only;omega
     ·rw[if_neg p']at this|-;rw[if_neg (by omega)];simp only;omega
    ·rw[if_neg p];by_cases p':e%2=0
     ·rw[if_pos p']at this|-;rw[if_neg (by omega)];simp only;omega
     ·rw[if_neg p']at this|-;rw[if_pos (by omega)];simp only;omega
  ·have e':f.dE=0:=by
    have eb:(f.gQ f.dE 1).dE=f.dE:=by unfold dB.gQ;split<;>rfl
    exact eb.symm.trans e
   have:=h.a1 e';show(f.gQ f.dE 1).vJ=0;unfold dB.gQ;rw[if_pos (by omega)];exact this
theorem PQ(ok:dH ns cs f N)(iN jl cls:Int)(data:List Int):(f.iF ns iN jl cls data).1.fl=f.fl/\(f.iF ns iN jl cls data).1.now=f.now/\(f.iF ns iN jl cls data).1.up=f.up/\(f.iF ns iN jl cls data).1.dE=f.dE/\(f.iF ns iN jl cls data).1.mW=f.mW/\(f.iF ns iN jl cls data).1.last=f.last+(if(f.iF ns iN jl cls data).2.2=0 then 1 else 0)/\(f.iF ns iN jl cls data).1.CR=f.CR/\(f.iF ns iN jl cls data).1.JH=f.JH/\(f.iF ns iN jl cls data).1.lost=f.lost:=by
 rcases zD ok iN jl cls data with⟨e,he,q⟩|⟨_,_,_,_,_,q⟩|⟨_,_,_,_,_,_,_,_,_,_,q⟩
 ·rw[q];exact⟨rfl,rfl,rfl,rfl,rfl,by show f.last=f.last+(if e=0 then 1 else 0);rw[if_neg he];rfl,rfl,rfl,rfl⟩
 ·rw[q];exact⟨rfl,rfl,rfl,rfl,rfl,by show f.last=f.last+(if(5:Int)=0 then 1 else 0);rw[if_neg (by decide)];rfl,rfl,rfl,rfl⟩
 ·rw[q];have k:(f.gQ f.dE 1).fl=f.fl/\(f.gQ f.dE 1).now=f.now/\(f.gQ f.dE 1).up=f.up/\(f.gQ f.dE 1).dE=f.dE/\(f.gQ f.dE 1).mW=f.mW/\(f.gQ f.dE 1).CR=f.CR/\(f.gQ f.dE 1).JH=f.JH/\(f.gQ f.dE 1).lost=f.lost:=by
   unfold dB.gQ;split<;>exact⟨rfl,rfl,rfl,rfl,rfl,rfl,rfl,rfl⟩
  obtain⟨k1,k2,k3,k4,k5,k6,k7,k8⟩:=k;exact⟨k1,k2,k3,k4,k5,by show f.last+1=f.last+(if(0:Int)=0 then 1 else 0);rw[if_pos rfl],k6,k7,k8⟩
end
structure Oa where
 f:dB
 ins:List Fm
 outs:List Dl
def Rp(ns:List Nd)(cs:List Cb)(s:Oa)(a:qg)(t:Oa):Prop:=
 (a.k=0/\∃nr,AV ns cs nr/\((s.f.mW&&s.f.mJ)=true->Az ns cs s.f.up nr)/\t=⟨(s.f.tick ns cs nr).1,s.ins,s.outs++(s.f.tick ns cs nr).2⟩)\/
 (a.k=1/\t=⟨(s.f.iF ns a.a a.b a.c a.data).1,if(s.f.iF ns a.a a.b a.c a.data).2.2=0 then s.ins++[qO s.f a.a a.b a.c a.data]else s.ins,s.outs⟩)\/
 (a.k=2/\akw s.f a.i t.f/\t.ins=s.ins/\t.outs=s.outs)\/
 (a.k=3/\t=⟨(s.f.tZ a.i).1,s.ins,s.outs⟩)\/
 ((a.k≠0/\a.k≠1/\a.k≠2/\a.k≠3)/\t=s)
structure WOk(ns:List Nd)(cs:List Cb)(B n:Nat)(s:Oa):Prop where
 ok:dH ns cs s.f (n*42000)
 fl:yJ cs s.f
 ac:Ac B s.f [] s.ins (s.outs.map (·.2.2))
 il:s.ins.length=s.f.last
 id:∀i,i<s.ins.length->(s.ins.getD i default).id=((i+1:Nat):Int)
 la:s.f.last<=n
 nw:s.f.now<=n
section
variable{ns:List Nd}{cs:List Cb}{s t:Oa}{n B:Nat}
theorem WOk.ajR(h:WOk ns cs B n s):WOk ns cs B (n+1) s:=⟨h.ok.mono (by omega),h.fl,h.ac,h.il,h.id,by have:=h.la;omega,by have:=h.nw;omega⟩
theorem aia{f:dB}{N:Nat}(k:dH ns cs f N)(i:Int):dH ns cs (f.tZ i).1 N/\(f.tZ i).1.fl=f.fl/\(f.tZ i).1.boxes=f.boxes/\(f.tZ i).1.lost=f.lost/\(f.tZ i).1.wQ=f.wQ/\(f.tZ i).1.vJ=f.vJ/\(f.tZ i).1.dE=f.dE/\(f.tZ i).1.now=f.now/\(f.tZ i).1.last=f.last:=by
 unfold dB.tZ;split
 ·exact⟨k,rfl,rfl,rfl,rfl,rfl,rfl,rfl,rfl⟩
 ·split
  ·exact⟨k,rfl,rfl,rfl,rfl,rfl,rfl,rfl,rfl⟩
  ·refine⟨{
    k0:=k.k0,k1:=k.k1,rl:=k.rl,rv:=k.rv,bl:=k.bl,box:=k.box,q:=fun i p c x hi xh qx hx=>(k.q i p c x hi xh qx hx).qY rfl (aC _),up:=by show(f.up.set _ true).length=_;rw[jN];exact k.up,r0:=k.r0,r1:=k.r1,bn:=k.bn,a0:=k.a0,a1:=k.a1,now:=k.now,last:=k.last,ll:=k.ll,cm:=k.cm,cv:=k.cv,gn:=k.gn,gv:=k.gv,fl:=fun t x hx=>⟨(k.fl t x hx).1,(k.fl t x hx).2.qY rfl (aC _)⟩,Ee:=k.Ee,lim:=k.lim,Ei:=k.Ei},rfl,rfl,rfl,rfl,rfl,rfl,rfl,rfl⟩
theorem DC{α:Type}(l:List α):sm (fun _=>1) l=l.length:=by
 induction l with
 |nil=>rfl
 |cons x l ih=>rw[jK,ih,fw];omega
theorem Ac.len{f:dB}{H ins outs:List Fm}(h:Ac B f H ins outs):Ey (fun _=>1) B f H+outs.length+f.lost.length=ins.length:=by have:=h.acc fun _=>1;rw[DC,DC,DC]at this;exact this
theorem WOk.step(hp:nW ns cs)(h8:ns.length<=8)(h:WOk ns cs B n s){a:qg}(ha:Rp ns cs s a t)(hB:n+102<=B)(hn:n<=14000):WOk ns cs B (n+1) t:=by
 have nw:=h.nw;rcases ha with⟨_,nr,hr,_,rfl⟩|⟨_,rfl⟩|⟨_,hc,e1,e2⟩|⟨_,rfl⟩|⟨_,rfl⟩
 ·have g:=SF h.ok h.fl hp hr (by omega);have s1:=sW.tick ns cs s.f nr;have bl:(s.f.jk nr).last=s.f.last/\(s.f.jk nr).now=s.f.now+1:=by
   unfold dB.jk dB.uG;split
   ·split<;>exact⟨rfl,rfl⟩
   ·exact⟨rfl,rfl⟩
  refine⟨g.1.mono (by omega),g.2,?_,by rw[s1.la,bl.1];exact h.il,h.id,by rw[s1.la,bl.1];have:=h.la;omega,by rw[s1.nw,bl.2];omega⟩;have:=h.ac.tick hp h.ok h.fl hr (by omega);simp only[fF];exact this
 ·have is:=PQ h.ok a.a a.b a.c a.data;obtain⟨i1,i2,_,_,_,i6,_⟩:=is;refine⟨(h.ok.iF a.a a.b a.c a.data).mono (by omega),h.fl.same i1 i2,h.ac.inj hp h.ok a.a a.b a.c a.data,?_,?_,?_,by rw[i2];omega⟩
  ·simp only;rw[i6];have:=h.il;split<;>simp[this]
  ·simp only;split
   ·intro i hi;rw[bW,iH]at hi;by_cases q:i<s.ins.length
    ·have k:=h.id i q;rw[dN]at k|-;rw[List.getElem?_append_left q];exact k
    ·have e:i=s.ins.length:=by omega
     rw[dN,List.getElem?_append_right (by omega),e,Nat.sub_self];show((s.f.last:Int)+1)=_;rw[h.il];omega
   ·exact h.id
  ·simp only;rw[i6];have:=h.la;split<;>omega
 ·obtain⟨tf,ti,jl⟩:=t;simp only at hc e1 e2;subst e1 e2;rcases hc with⟨_,rfl⟩|⟨_,dead,hd,rfl⟩
  ·exact h.ajR
  ·have d:=hd B (by omega);have ac:=h.ac.cut a.i.toNat d;have l1:=ac.len;have sam:sW (s.f.Pg a.i.toNat) (s.f.Kj a.i.toNat dead):=sW.fold dB.iV sW.iV dead _;have mem:∀x∈dead,x.1<2*cs.length/\qR ns s.f x.2:=fun x hx=>by
    have:=d.mem_iff.1 hx;unfold yw at this;obtain⟨t,_,ht⟩:=gZ.1 this;exact h.ok.fl t x (iR.1 ht).1
   have dl:dead.length<=s.ins.length:=(by have h1:=h.ac.len;have h2:=TV (fun _=>1) B s.f.fl a.i.toNat;have h3:=(d.map (·.2)).length_eq;rw[DC]at h2;unfold Ey at h1;rw[dW]at h3;omega);have ok:=dH.Kq dead (h.ok.Pg a.i.toNat) fun x hx=>⟨(mem x hx).1,(mem x hx).2.qY rfl (aC _)⟩;have il:=h.il;have la:=h.la;refine⟨ok.mono (by omega),?_,ac,by simp only;rw[sam.la];exact il,h.id,by simp only;rw[sam.la];show s.f.last<=_;omega,by simp only;rw[sam.nw];show s.f.now<=_;omega⟩;exact h.fl.axA a.i.toNat (wC dead _).1 (sam.nw.trans rfl)
 ·obtain⟨m1,m2,m3,m4,m5,m6,m7,m8,m9⟩:=aia h.ok a.i;refine⟨m1.mono (by omega),h.fl.same m2 m8,h.ac.same (H':=[]) m3 m2 m4 m5 m6 m7,by simp only;rw[m9];exact h.il,h.id,by simp only;rw[m9];have:=h.la;omega,by simp only;rw[m8];omega⟩
 ·exact h.ajR
end
def Pj(c v:Nat)(x:Nat×Fm):Nat:=if x.1=c/\x.2.cls=(v:Int)then 1 else 0
def ZN(c v B:Nat)(fl:Nat->List (Nat×Fm)):Nat:=sm (fun t=>sm (Pj c v) (fl t)) (aN B)
def qV(f:dB)(u:Nat):Bx:=f.boxes.getD u default
section
variable(ns:List Nd)(cs:List Cb)
def yF(f:dB)(c v:Nat):Tk:=dz (qV f (bV cs c).1).tk (bV cs c).2.1 v
def Ew(f:dB)(c v:Nat):Gv:=dz (qV f (bV cs c).2.2.1).gv (bV cs c).2.2.2 v
def Im(f:dB)(c v:Nat):Int:=if qE ns (bV cs c).2.2.1 then(Ew cs f c v).wU else dz f.came (bV cs c).2.2.1 v
def Ki(f:dB)(c v:Nat):Int:=if qE ns (bV cs c).2.2.1 then(Ew cs f c v).nP else f.aI.getD v 0+dz f.came (bV cs c).2.2.1 v
end
structure oq(ns:List Nd)(cs:List Cb)(B:Nat)(f:dB)(H:List (Nat×Fm)):Prop where
 eq:∀c v,c<2*cs.length->v<f.aI.length->(yF cs f c v).wV=Im ns cs f c v+((ZN c v B f.fl+sm (Pj c v) H:Nat):Int)+dz f.gone c v
 lm:∀c v,c<2*cs.length->v<f.aI.length->(yF cs f c v).lim<=Ki ns cs f c v+dz f.gone c v
 ls:∀t x,x∈f.lim t->x.1<2*cs.length->x.2.1<f.aI.length->x.2.2<=Ki ns cs f x.1 x.2.1+dz f.gone x.1 x.2.1
 qc:∀u p c x,u<ns.length->p<gJ (ns.getD u iZ)->c<f.aI.length->x∈dz (qV f u).q p c->x.cls=(c:Int)
 rm:∀u p c,u<ns.length->p<gJ (ns.getD u iZ)->c<f.aI.length->(dz (qV f u).gv p c).room=f.aI.getD c 0
 ov:∀u,u<ns.length->(qV f u).ov=0
section
variable{ns:List Nd}{cs:List Cb}{f g:dB}{N B:Nat}{H G:List (Nat×Fm)}
theorem oq.same(h:oq ns cs B f H)(b:g.boxes=f.boxes)(e1:g.fl=f.fl)(e2:g.gone=f.gone)(e3:g.came=f.came)(e4:g.aI=f.aI)(e5:∀t x,x∈g.lim t->∃t',x∈f.lim t'):oq ns cs B g H:=by
 have bb:∀u,qV g u=qV f u:=fun u=>by unfold qV;rw[b]
 have t:∀c v,yF cs g c v=yF cs f c v:=fun c v=>by unfold yF;rw[bb]
 have gg:∀c v,Ew cs g c v=Ew cs f c v:=fun c v=>by unfold Ew;rw[bb]
 have r:∀c v,Im ns cs g c v=Im ns cs f c v:=fun c v=>by unfold Im;rw[gg,e3]
 have k:∀c v,Ki ns cs g c v=Ki ns cs f c v:=fun c v=>by unfold Ki;rw[gg,e3,e4]
 refine⟨fun c v hc hv=>?_,fun c v hc hv=>?_,fun t' x hx h1 h2=>?_,fun u p c x hu hp hc hx=>?_,fun u p c hu hp hc=>?_,fun u hu=>?_⟩
 ·rw[e4]at hv;rw[t,r,e1,e2];exact h.eq c v hc hv
 ·rw[e4]at hv;rw[t,k,e2];exact h.lm c v hc hv
 ·rw[e4]at h2;rw[k,e2];obtain⟨t2,hx⟩:=e5 t' x hx;exact h.ls t2 x hx h1 h2
 ·rw[e4]at hc;rw[bb]at hx;exact h.qc u p c x hu hp hc hx
 ·rw[e4]at hc|-;rw[bb];exact h.rm u p c hu hp hc
 ·rw[bb];exact h.ov u hu
theorem oq.perm(h:oq ns cs B f H)(hp:G.Perm H):oq ns cs B f G:=
 ⟨fun c v hc hv=>by rw[La hp];exact h.eq c v hc hv,h.lm,h.ls,h.qc,h.rm,h.ov⟩
theorem zo{u:Nat}(hu:u<f.boxes.length)(X:Bx)(i:Nat):qV {f with boxes:=f.boxes.set u X} i=if i=u then X else qV f i:=by
 unfold qV;by_cases e:i=u
 ·subst e;rw[if_pos rfl];exact iK _ _ _ hu
 ·rw[if_neg e];exact iC _ _ _ e
theorem nW.from(hp:nW ns cs){c d:Nat}(hc:c<2*cs.length)(hd:d<2*cs.length)(e1:(bV cs c).1=(bV cs d).1)(e2:(bV cs c).2.1=(bV cs d).2.1):c=d:=by
 have a:=hp.yu hc;have b:=hp.yu hd;rw[e1,e2,b.1]at a;have e:c/2=d/2:=by have:=a.1;injection this with this;exact this.symm
 have a2:=a.2;rw[e,b.2]at a2;exact a2.symm
theorem oq.jh(hp:nW ns cs)(ok:dH ns cs f N)(h:oq ns cs B f H){x:Nat×Nat×Int}(hc:x.1<2*cs.length)(hv:x.2.1<f.aI.length)(hx:x.2.2<=Ki ns cs f x.1 x.2.1+dz f.gone x.1 x.2.1):oq ns cs B (dB.jh cs f x) H:=by
 have EN:=hp.ends hc;have pl:=hp.qP EN.1 EN.2.2.1;have hu:(bV cs x.1).1<f.boxes.length:=by rw[ok.bl];exact EN.1
 obtain⟨b1,b2,b3⟩:=ok.box _ EN.1;have b1:lW (qV f (bV cs x.1).1) N:=b1;have b2:(qV f (bV cs x.1).1).bE=gJ (ns.getD (bV cs x.1).1 iZ):=b2;have b3:(qV f (bV cs x.1).1).aX=f.aI.length:=b3;have bb:=zo (f:=f) hu ((qV f (bV cs x.1).1).raise (bV cs x.1).2.1 x.2.1 x.2.2);show oq ns cs B {f with boxes:=f.boxes.set (bV cs x.1).1 ((qV f (bV cs x.1).1).raise (bV cs x.1).2.1 x.2.1 x.2.2)} H;generalize hg:({f with boxes:=f.boxes.set (bV cs x.1).1 ((qV f (bV cs x.1).1).raise (bV cs x.1).2.1 x.2.1 x.2.2)}:dB)=g at bb|-;have er:g.aI=f.aI:=by rw[<-hg]
 have ef:g.fl=f.fl:=by rw[<-hg]
 have eg:g.gone=f.gone:=by rw[<-hg]
 have ec:g.came=f.came:=by rw[<-hg]
 have el:g.lim=f.lim:=by rw[<-hg]
 have gg:∀c v,Ew cs g c v=Ew cs f c v:=fun c v=>by
  unfold Ew;rw[bb];split
  ·rename_i e;rw[e];rfl
  ·rfl
 have rr:∀c v,Im ns cs g c v=Im ns cs f c v:=fun c v=>by unfold Im;rw[gg,ec]
 have kk:∀c v,Ki ns cs g c v=Ki ns cs f c v:=fun c v=>by unfold Ki;rw[gg,ec,er]
 have tt:∀c v,c<2*cs.length->v<f.aI.length->yF cs g c v=if c=x.1/\v=x.2.1 then(yF cs f c v).raise x.2.2 else yF cs f c v:=fun c v h1 h2=>by
  unfold yF;rw[bb];by_cases e:(bV cs c).1=(bV cs x.1).1
  ·rw[if_pos e];show dz (jA (qV f (bV cs x.1).1).tk (bV cs x.1).2.1 x.2.1 _) (bV cs c).2.1 v=_;rw[iQ b1.tk (by rw[b2];exact pl) (by rw[b3];exact hv)];by_cases e2:(bV cs c).2.1=(bV cs x.1).2.1/\v=x.2.1
   ·have:=hp.from h1 hc e e2.1;subst this;rw[if_pos e2,if_pos ⟨rfl,e2.2⟩,e2.2]
   ·rw[if_neg e2,if_neg (fun q=>e2 ⟨by rw[q.1],q.2⟩),e]
  ·rw[if_neg e,if_neg (fun q=>e (by rw[q.1]))]
 refine⟨fun c v h1 h2=>?_,fun c v h1 h2=>?_,fun t y hy h1 h2=>?_,fun u p c y h1 h2 h3 hy=>?_,fun u p c h1 h2 h3=>?_,fun u h1=>?_⟩
 ·rw[er]at h2;rw[tt c v h1 h2,rr,ef,eg,<-h.eq c v h1 h2];split
  ·unfold Tk.raise;split<;>rfl
  ·rfl
 ·rw[er]at h2;rw[tt c v h1 h2,kk,eg];have k:=h.lm c v h1 h2;split
  ·rename_i e;obtain⟨rfl,rfl⟩:=e;unfold Tk.raise;split
   ·exact k
   ·show max _ _<=_;omega
  ·exact k
 ·rw[er]at h2;rw[el]at hy;rw[kk,eg];exact h.ls t y hy h1 h2
 ·rw[er]at h3;rw[bb]at hy;split at hy
  ·rename_i e;subst e;exact h.qc _ p c y h1 h2 h3 hy
  ·exact h.qc u p c y h1 h2 h3 hy
 ·rw[er]at h3|-;rw[bb];split
  ·rename_i e;subst e;exact h.rm _ p c h1 h2 h3
  ·exact h.rm u p c h1 h2 h3
 ·rw[bb];split
  ·rename_i e;subst e;exact h.ov _ h1
  ·exact h.ov u h1
theorem oq.wJ(hp:nW ns cs):∀(l:List (Nat×Nat×Int)) {f:dB} {N:Nat},dH ns cs f N->(∀x∈l,x.1<2*cs.length/\x.2.1<f.aI.length/\∃t,x∈f.lim t)->oq ns cs B f H->oq ns cs B (l.foldl (dB.jh cs) f) H
 |[],_,_,_,_,h=>h
 |x::l,f,N,ok,hl,h=>by rw[dS];obtain⟨x1,x2,t,x3⟩:=hl x (bZ ..);have k:=ok.jh hp x1 x2;exact oq.wJ hp l k.1 (fun y hy=>by rw[k.2.1];exact hl y (dx _ hy)) (h.jh hp ok x1 x2 (h.ls t x x3 x1 x2))
theorem oq.qY(h:oq ns cs B f H)(er:g.aI=f.aI)(he:∀c v,c<2*cs.length->v<f.aI.length->(yF cs g c v).wV+Im ns cs f c v+((ZN c v B f.fl+sm (Pj c v) H:Nat):Int)+dz f.gone c v=(yF cs f c v).wV+Im ns cs g c v+((ZN c v B g.fl+sm (Pj c v) G:Nat):Int)+dz g.gone c v)(hl:∀c v,c<2*cs.length->v<f.aI.length->(yF cs g c v).lim=(yF cs f c v).lim)(hk:∀c v,c<2*cs.length->v<f.aI.length->Ki ns cs f c v+dz f.gone c v<=Ki ns cs g c v+dz g.gone c v)(hs:∀t x,x∈g.lim t->x.1<2*cs.length->x.2.1<f.aI.length->(∃t',x∈f.lim t')\/x.2.2<=Ki ns cs g x.1 x.2.1+dz g.gone x.1 x.2.1)(hq:∀u p c x,u<ns.length->p<gJ (ns.getD u iZ)->c<f.aI.length->x∈dz (qV g u).q p c->x∈dz (qV f u).q p c\/x.cls=(c:Int))(hr:∀u p c,u<ns.length->p<gJ (ns.getD u iZ)->c<f.aI.length->(dz (qV g u).gv p c).room=(dz (qV f u).gv p c).room)(ho:∀u,u<ns.length->(qV g u).ov=(qV f u).ov):oq ns cs B g G:=by
 refine⟨fun c v h1 h2=>?_,fun c v h1 h2=>?_,fun t x hx h1 h2=>?_,fun u p c x h1 h2 h3 hx=>?_,fun u p c h1 h2 h3=>?_,fun u h1=>(ho u h1).trans (h.ov u h1)⟩
 ·rw[er]at h2;have a:=he c v h1 h2;have b:=h.eq c v h1 h2;omega
 ·rw[er]at h2;have a:=h.lm c v h1 h2;have b:=hk c v h1 h2;rw[hl c v h1 h2];omega
 ·rw[er]at h2;rcases hs t x hx h1 h2 with⟨t',q⟩|q
  ·have a:=h.ls t' x q h1 h2;have b:=hk x.1 x.2.1 h1 h2;omega
  ·exact q
 ·rw[er]at h3;rcases hq u p c x h1 h2 h3 hx with q|q
  ·exact h.qc u p c x h1 h2 h3 q
  ·exact q
 ·rw[er]at h3|-;exact(hr u p c h1 h2 h3).trans (h.rm u p c h1 h2 h3)
theorem oq.room(hp:nW ns cs)(ok:dH ns cs f N){x:Nat×Fm}(h:oq ns cs B f (x::H))(hc:x.1<2*cs.length)(hx:qR ns f x.2):Im ns cs f x.1 x.2.cls.toNat+1<=Ki ns cs f x.1 x.2.cls.toNat:=by
 have EN:=hp.ends hc;have pl:=hp.qP EN.1 EN.2.2.1;obtain⟨b1,b2,b3⟩:=ok.box _ EN.1;have a:=h.eq x.1 x.2.cls.toNat hc hx.c1;have b:=h.lm x.1 x.2.cls.toNat hc hx.c1;have d:=(b1.t (bV cs x.1).2.1 x.2.cls.toNat (by rw[b2];exact pl) (by rw[b3];exact hx.c1)).le;have d:(yF cs f x.1 x.2.cls.toNat).wV<=(yF cs f x.1 x.2.cls.toNat).lim:=d;have w:Pj x.1 x.2.cls.toNat x=1:=by unfold Pj;rw[if_pos ⟨rfl,by have:=hx.c0;omega⟩]
 rw[jK,w]at a;omega
theorem aeB{x:Nat×Fm}(h0:0<=x.2.cls)(c v:Nat):Pj c v x=if c=x.1/\v=x.2.cls.toNat then 1 else 0:=by
 unfold Pj;by_cases e:x.1=c/\x.2.cls=(v:Int)
 ·rw[if_pos e,if_pos ⟨e.1.symm,by omega⟩]
 ·rw[if_neg e,if_neg (fun q=>e ⟨q.1.symm,by omega⟩)]
theorem Np{x:Gv}(h:x.wU+1<=x.nP):x.rR=(⟨x.room,x.wU+1,x.yA⟩,true):=by unfold Gv.rR;rw[if_neg (by omega)]
theorem afM(f:dB)(e:Int):(f.rem e).gone=f.gone/\(f.rem e).came=f.came/\(f.rem e).aI=f.aI/\(f.rem e).lim=f.lim:=by
 unfold dB.rem dB.gQ;split
 ·exact⟨rfl,rfl,rfl,rfl⟩
 ·split<;>exact⟨rfl,rfl,rfl,rfl⟩
theorem oq.rem(h:oq ns cs B f H)(e:Int):oq ns cs B (f.rem e) H:=by obtain⟨a,b,_⟩:=Qt f e;obtain⟨c,d,e1,e2⟩:=afM f e;exact h.same a b c d e1 fun t x hx=>⟨t,by rw[e2]at hx;exact hx⟩
theorem oq.oG(h:oq ns cs B f H)(x:Fm):oq ns cs B (f.oG x) H:=by have k:=h.rem x.ep;exact k.same rfl rfl rfl rfl rfl fun t y hy=>⟨t,hy⟩
theorem oq.fO(hp:nW ns cs){s:dB×List Dl}{x:Nat×Fm}(ok:dH ns cs s.1 N)(h:oq ns cs B s.1 (x::H))(hc:x.1<2*cs.length)(hx:qR ns s.1 x.2):oq ns cs B (dB.fO ns cs s x).1 H/\(dB.fO ns cs s x).1.lost=s.1.lost:=by
 have EN:=hp.ends hc;have pl:=hp.qP EN.2.1 EN.2.2.2.1;have rm:=h.room hp ok hc hx;have cw:=fun c v=>aeB (x:=x) hx.c0 c v;obtain⟨f,D⟩:=s;unfold dB.fO;dsimp only at h ok hx rm|-;by_cases hs:qE ns (bV cs x.1).2.2.1=true
 ·rw[if_pos hs];dsimp only;obtain⟨b1,b2,b3⟩:=ok.box _ EN.2.1;have hu:(bV cs x.1).2.2.1<f.boxes.length:=by rw[ok.bl];exact EN.2.1
  unfold Im Ki at rm;rw[if_pos hs,if_pos hs]at rm;have rv:=Np rm;have pp:(bV cs x.1).2.2.2<(qV f (bV cs x.1).2.2.1).bE:=by show _<(f.boxes.getD _ default).bE;rw[b2];exact pl
  have vv:x.2.cls.toNat<(qV f (bV cs x.1).2.2.1).aX:=by show _<(f.boxes.getD _ default).aX;rw[b3];exact hx.c1
  have ar:(f.boxes.getD (bV cs x.1).2.2.1 default).gT (bV cs x.1).2.2.2 x.2=({qV f (bV cs x.1).2.2.1 with gv:=jA (qV f (bV cs x.1).2.2.1).gv (bV cs x.1).2.2.2 x.2.cls.toNat ⟨(Ew cs f x.1 x.2.cls.toNat).room,(Ew cs f x.1 x.2.cls.toNat).wU+1,(Ew cs f x.1 x.2.cls.toNat).yA⟩,q:=jA (qV f (bV cs x.1).2.2.1).q (bV cs x.1).2.2.2 x.2.cls.toNat (dz (qV f (bV cs x.1).2.2.1).q (bV cs x.1).2.2.2 x.2.cls.toNat++[x.2])},true):=by unfold Bx.gT;unfold Ew at rv|-;unfold qV at rv|-;simp only;rw[rv,if_pos rfl]
  rw[ar];dsimp only;rw[if_pos rfl];refine⟨?_,rfl⟩;have bb:=zo (f:=f) hu {qV f (bV cs x.1).2.2.1 with gv:=jA (qV f (bV cs x.1).2.2.1).gv (bV cs x.1).2.2.2 x.2.cls.toNat ⟨(Ew cs f x.1 x.2.cls.toNat).room,(Ew cs f x.1 x.2.cls.toNat).wU+1,(Ew cs f x.1 x.2.cls.toNat).yA⟩,q:=jA (qV f (bV cs x.1).2.2.1).q (bV cs x.1).2.2.2 x.2.cls.toNat (dz (qV f (bV cs x.1).2.2.1).q (bV cs x.1).2.2.2 x.2.cls.toNat++[x.2])};generalize hX:({qV f (bV cs x.1).2.2.1 with gv:=jA (qV f (bV cs x.1).2.2.1).gv (bV cs x.1).2.2.2 x.2.cls.toNat ⟨(Ew cs f x.1 x.2.cls.toNat).room,(Ew cs f x.1 x.2.cls.toNat).wU+1,(Ew cs f x.1 x.2.cls.toNat).yA⟩,q:=jA (qV f (bV cs x.1).2.2.1).q (bV cs x.1).2.2.2 x.2.cls.toNat (dz (qV f (bV cs x.1).2.2.1).q (bV cs x.1).2.2.2 x.2.cls.toNat++[x.2])}:Bx)=X at bb|-;have xt:X.tk=(qV f (bV cs x.1).2.2.1).tk:=by rw[<-hX]
  have xo:X.ov=(qV f (bV cs x.1).2.2.1).ov:=by rw[<-hX]
  have xg:∀p v,dz X.gv p v=if p=(bV cs x.1).2.2.2/\v=x.2.cls.toNat then⟨(Ew cs f x.1 x.2.cls.toNat).room,(Ew cs f x.1 x.2.cls.toNat).wU+1,(Ew cs f x.1 x.2.cls.toNat).yA⟩else dz (qV f (bV cs x.1).2.2.1).gv p v:=fun p v=>by rw[<-hX];exact iQ b1.gv pp vv p v
  have xq:∀p v,dz X.q p v=if p=(bV cs x.1).2.2.2/\v=x.2.cls.toNat then dz (qV f (bV cs x.1).2.2.1).q (bV cs x.1).2.2.2 x.2.cls.toNat++[x.2]else dz (qV f (bV cs x.1).2.2.1).q p v:=fun p v=>by rw[<-hX];exact iQ b1.q pp vv p v
  clear hX;generalize hg:({f with boxes:=f.boxes.set (bV cs x.1).2.2.1 X}:dB)=g at bb|-;have er:g.aI=f.aI:=by rw[<-hg]
  have ef:g.fl=f.fl:=by rw[<-hg]
  have eg:g.gone=f.gone:=by rw[<-hg]
  have ec:g.came=f.came:=by rw[<-hg]
  have el:g.lim=f.lim:=by rw[<-hg]
  have tt:∀c v,yF cs g c v=yF cs f c v:=fun c v=>by
   unfold yF;rw[bb];split
   ·rename_i e;rw[xt,e]
   ·rfl
  have gg:∀c v,c<2*cs.length->Ew cs g c v=if c=x.1/\v=x.2.cls.toNat then⟨(Ew cs f x.1 x.2.cls.toNat).room,(Ew cs f x.1 x.2.cls.toNat).wU+1,(Ew cs f x.1 x.2.cls.toNat).yA⟩else Ew cs f c v:=fun c v h1=>by
   have:Ew cs g c v=dz (qV g (bV cs c).2.2.1).gv (bV cs c).2.2.2 v:=rfl;rw[this,bb];by_cases e:(bV cs c).2.2.1=(bV cs x.1).2.2.1
   ·rw[if_pos e,xg];by_cases e2:(bV cs c).2.2.2=(bV cs x.1).2.2.2/\v=x.2.cls.toNat
    ·rw[if_pos e2,if_pos ⟨hp.into h1 hc e e2.1,e2.2⟩]
    ·rw[if_neg e2,if_neg (fun q=>e2 ⟨by rw[q.1],q.2⟩),<-e];rfl
   ·rw[if_neg e,if_neg (fun q=>e (by rw[q.1]))];rfl
  have rr:∀c v,c<2*cs.length->Im ns cs g c v=Im ns cs f c v+(Pj c v x:Nat):=fun c v h1=>by
   unfold Im;rw[gg c v h1,ec,cw];by_cases e:c=x.1/\v=x.2.cls.toNat
   ·obtain⟨rfl,rfl⟩:=e;rw[if_pos hs,if_pos hs,if_pos ⟨rfl,rfl⟩,if_pos ⟨rfl,rfl⟩];rfl
   ·rw[if_neg e,if_neg e];simp
  have kk:∀c v,c<2*cs.length->Ki ns cs g c v=Ki ns cs f c v:=fun c v h1=>by
   unfold Ki;rw[gg c v h1,ec,er];by_cases e:c=x.1/\v=x.2.cls.toNat
   ·obtain⟨rfl,rfl⟩:=e;rw[if_pos (show x.1=x.1/\x.2.cls.toNat=x.2.cls.toNat from⟨rfl,rfl⟩),if_pos hs,if_pos hs];rfl
   ·rw[if_neg e]
  refine h.qY er (fun c v h1 h2=>?_) (fun c v h1 h2=>by rw[tt]) (fun c v h1 h2=>by rw[kk c v h1,eg];exact fC _) (fun t y hy h1 h2=>.inl ⟨t,by rw[el]at hy;exact hy⟩) (fun u p c y h1 h2 h3 hy=>?_) (fun u p c h1 h2 h3=>?_) fun u h1=>?_
  ·rw[tt,rr c v h1,ef,eg,jK];omega
  ·rw[bb]at hy;split at hy
   ·rename_i e;subst e;rw[xq]at hy;split at hy
    ·rename_i e2;obtain⟨rfl,rfl⟩:=e2;rcases dU.1 hy with q|q
     ·exact .inl q
     ·rw[dh]at q;subst q;exact .inr (by have:=hx.c0;omega)
    ·exact .inl hy
   ·exact .inl hy
  ·rw[bb];split
   ·rename_i e;subst e;rw[xg];split
    ·rename_i e2;obtain⟨rfl,rfl⟩:=e2;rfl
    ·rfl
   ·rfl
  ·rw[bb];split
   ·rename_i e;subst e;exact xo
   ·rfl
 ·rw[if_neg hs];dsimp only;have cm:=ok.cm;have k:oq ns cs B {f with came:=jA f.came (bV cs x.1).2.2.1 x.2.cls.toNat (dz f.came (bV cs x.1).2.2.1 x.2.cls.toNat+1)} H:=by
   generalize hg:({f with came:=jA f.came (bV cs x.1).2.2.1 x.2.cls.toNat (dz f.came (bV cs x.1).2.2.1 x.2.cls.toNat+1)}:dB)=g;have er:g.aI=f.aI:=by rw[<-hg]
   have ef:g.fl=f.fl:=(by rw[<-hg]);have eg:g.gone=f.gone:=(by rw[<-hg]);have el:g.lim=f.lim:=(by rw[<-hg]);have bb:∀u,qV g u=qV f u:=fun u=>(by rw[<-hg];rfl);have ec:∀i v,dz g.came i v=if i=(bV cs x.1).2.2.1/\v=x.2.cls.toNat then dz f.came (bV cs x.1).2.2.1 x.2.cls.toNat+1 else dz f.came i v:=fun i v=>by rw[<-hg];exact iQ cm EN.2.1 hx.c1 i v
   have gg:∀c v,Ew cs g c v=Ew cs f c v:=fun c v=>(by unfold Ew;rw[bb]);have tt:∀c v,yF cs g c v=yF cs f c v:=fun c v=>(by unfold yF;rw[bb]);have sw1:=hp.sw _ EN.2.1;have p1:=EN.2.2.2.1;have hsf:(ns.getD (bV cs x.1).2.2.1 iZ).sw=false:=(by simpa[qE]using hs);have one:=sw1.2.2 hsf;have uq:∀c,c<2*cs.length->(bV cs c).2.2.1=(bV cs x.1).2.2.1->c=x.1:=fun c h1 e=>(by have q1:=(hp.ends h1).2.2.2.1;rw[e,one]at q1;rw[one]at p1;exact hp.into h1 hc e (by omega));have dd:∀c v,c<2*cs.length->¬qE ns (bV cs c).2.2.1=true->dz g.came (bV cs c).2.2.1 v=dz f.came (bV cs c).2.2.1 v+(Pj c v x:Nat):=fun c v h1 hn=>by
    rw[ec,cw];by_cases e:(bV cs c).2.2.1=(bV cs x.1).2.2.1/\v=x.2.cls.toNat
    ·have:=uq c h1 e.1;subst this;rw[if_pos e,if_pos ⟨rfl,e.2⟩,e.2];rfl
    ·rw[if_neg e,if_neg (fun q=>e ⟨by rw[q.1],q.2⟩)];simp
   have cs0:∀c v,c<2*cs.length->qE ns (bV cs c).2.2.1=true->Pj c v x=0:=fun c v h1 hn=>(by rw[cw,if_neg (fun q=>hs (by rw[<-q.1];exact hn))]);refine h.qY er (fun c v h1 h2=>?_) (fun c v h1 h2=>by rw[tt]) (fun c v h1 h2=>?_) (fun t y hy h1 h2=>.inl ⟨t,by rw[el]at hy;exact hy⟩) (fun u p c y h1 h2 h3 hy=>.inl (by rw[bb]at hy;exact hy)) (fun u p c h1 h2 h3=>by rw[bb]) fun u h1=>by rw[bb]
   ·rw[tt,ef,eg,jK];unfold Im;rw[gg];by_cases hn:qE ns (bV cs c).2.2.1=true
    ·rw[if_pos hn,if_pos hn,cs0 c v h1 hn];omega
    ·rw[if_neg hn,if_neg hn,dd c v h1 hn];omega
   ·rw[eg];unfold Ki;rw[gg,er];by_cases hn:qE ns (bV cs c).2.2.1=true
    ·rw[if_pos hn,if_pos hn];exact fC _
    ·rw[if_neg hn,if_neg hn,dd c v h1 hn];omega
  exact⟨k.rem _,(Qt _ _).2.2.2.1⟩
theorem oq.Es(hp:nW ns cs):∀(l:List (Nat×Fm)) {s:dB×List Dl} {N:Nat},dH ns cs s.1 N->(∀x∈l,x.1<2*cs.length/\qR ns s.1 x.2)->oq ns cs B s.1 (l++H)->oq ns cs B (l.foldl (dB.fO ns cs) s).1 H/\(l.foldl (dB.fO ns cs) s).1.lost=s.1.lost
 |[],_,_,_,_,h=>⟨h,rfl⟩
 |x::l,s,N,ok,hl,h=>by rw[dS];have hx:=hl x (bZ ..);have k:=dH.fO ok hp hx.1 hx.2 s.2;have a:=oq.fO (H:=l++H) hp ok h hx.1 hx.2;have b:=oq.Es hp l k.1 (fun y hy=>⟨(hl y (dx _ hy)).1,(hl y (dx _ hy)).2.qY k.2.1 (by rw[k.2.2.1];exact aC _)⟩) a.1;exact⟨b.1,b.2.trans a.2⟩
theorem ZO(c v:Nat){due:Nat}(hB:due<B)(fl:Nat->List (Nat×Fm))(l:List (Nat×Fm)):ZN c v B (fun t=>if t=due then l else fl t)+sm (Pj c v) (fl due)=ZN c v B fl+sm (Pj c v) l:=by
 have:=zx (fun t=>sm (Pj c v) (fl t)) B due (sm (Pj c v) l) hB;unfold ZN;rw[<-this];congr 1;apply yD;intro t _;dsimp only;by_cases e:t=due
 ·rw[if_pos e,if_pos e]
 ·rw[if_neg e,if_neg e]
theorem oq.take(h:oq ns cs B f H){now:Nat}(hB:now<B):oq ns cs B {f with fl:=fun t=>if t=now then[]else f.fl t} (f.fl now++H):=
 h.qY rfl (fun c v _ _=>by have:=ZO c v hB f.fl [];rw[wK]at this;rw[nG];show(yF cs f c v).wV+Im ns cs f c v+_+_=(yF cs f c v).wV+Im ns cs f c v+((ZN c v B (fun t=>if t=now then[]else f.fl t)+_:Nat):Int)+_;show _+_+_+dz f.gone c v=_+_+_+dz f.gone c v;omega) (fun _ _ _ _=>rfl) (fun _ _ _ _=>fC _) (fun t x hx _ _=>.inl ⟨t,hx⟩) (fun _ _ _ _ _ _ _ hx=>.inl hx) (fun _ _ _ _ _ _=>rfl) fun _ _=>rfl
theorem oq.put{x:Nat×Fm}(h:oq ns cs B f (x::H)){due:Nat}(hB:due<B):oq ns cs B {f with fl:=fun t=>if t=due then f.fl t++[x]else f.fl t} H:=
 h.qY rfl (fun c v _ _=>by
  have:=ZO c v hB f.fl (f.fl due++[x]);rw[nG,yT]at this;have e:(fun t=>if t=due then f.fl t++[x]else f.fl t)=fun t=>if t=due then f.fl due++[x]else f.fl t:=by
   funext t;by_cases q:t=due
   ·rw[if_pos q,if_pos q,q]
   ·rw[if_neg q,if_neg q]
  rw[jK];show(yF cs f c v).wV+Im ns cs f c v+_+dz f.gone c v=(yF cs f c v).wV+Im ns cs f c v+((ZN c v B (fun t=>if t=due then f.fl t++[x]else f.fl t)+_:Nat):Int)+dz f.gone c v;rw[e];omega) (fun _ _ _ _=>rfl) (fun _ _ _ _=>fC _) (fun t x hx _ _=>.inl ⟨t,hx⟩) (fun _ _ _ _ _ _ _ hx=>.inl hx) (fun _ _ _ _ _ _=>rfl) fun _ _=>rfl
end
def mvW(p v:Nat)(m:Mv):Nat:=if m.2.2.1=az p/\m.2.1=v then 1 else 0
def mvF(cs:List Cb)(u:Nat)(m:Mv):List (Nat×Fm):=match m.2.2.1 with
 |none=>[]
 |some k=>match jH cs u k with
  |none=>[]
  |some i=>[(iT cs i u,m.2.2.2)]
theorem RV(x:Gv):x.free.wU=x.wU/\x.free.room=x.room/\x.nP<=x.free.nP:=by
 unfold Gv.free Gv.nP;split
 ·exact⟨rfl,rfl,fC _⟩
 ·exact⟨rfl,rfl,by show x.room+x.yA<=x.room+(x.yA+1);omega⟩
structure StC(b:Bx)(ms:List Mv)(b1:Bx):Prop where
 t:∀p v,p<b.bE->v<b.aX->(dz b1.tk p v).wV=(dz b.tk p v).wV+(sm (mvW p v) ms:Nat)/\(dz b1.tk p v).lim=(dz b.tk p v).lim
 g:∀p v,p<b.bE->v<b.aX->(dz b1.gv p v).wU=(dz b.gv p v).wU/\(dz b1.gv p v).room=(dz b.gv p v).room/\(dz b.gv p v).nP<=(dz b1.gv p v).nP
section
variable{bz:Nat->Fm->Option Nat}{b b1:Bx}{m:Mv}{ms:List Mv}{N:Nat}
theorem Mi.crd(h:Mi bz b m b1)(hb:lW b N):StC b [m] b1:=by
 cases h with
 |drop p c f l hp hc hq hr=>
  refine⟨fun p' v h1 h2=>?_,fun p' v h1 h2=>?_⟩
  ·rw[yT];have e:mvW p' v ((p,c,aj,f):Mv)=0:=if_neg (fun q=>by cases q.1);rw[e];exact⟨by show _=_+((0:Nat):Int);simp;rfl,rfl⟩
  ·show(dz (jA b.gv p c _) p' v).wU=_/\(dz (jA b.gv p c _) p' v).room=_/\_<=(dz (jA b.gv p c _) p' v).nP;rw[iQ hb.gv hp hc];split
   ·rename_i e;obtain⟨rfl,rfl⟩:=e;exact RV _
   ·exact⟨rfl,rfl,fC _⟩
 |move i c k f l pt hi hc hk hq hr hl=>
  refine⟨fun p' v h1 h2=>?_,fun p' v h1 h2=>?_⟩
  ·rw[yT];show(dz (jA b.tk k c _) p' v).wV=_/\(dz (jA b.tk k c _) p' v).lim=_;rw[iQ hb.tk hk hc];unfold mvW;dsimp only;by_cases e:p'=k/\v=c
   ·obtain⟨rfl,rfl⟩:=e;rw[if_pos ⟨rfl,rfl⟩,if_pos ⟨rfl,rfl⟩];unfold Tk.left at hl;unfold Tk.take;rw[if_neg (by omega)];exact⟨rfl,rfl⟩
   ·rw[if_neg e,if_neg (fun q=>e ⟨by have:=q.1;injection this with this;exact this.symm,q.2.symm⟩)];exact⟨by simp,rfl⟩
  ·show(dz (jA b.gv i c _) p' v).wU=_/\(dz (jA b.gv i c _) p' v).room=_/\_<=(dz (jA b.gv i c _) p' v).nP;rw[iQ hb.gv hi hc];split
   ·rename_i e;obtain⟨rfl,rfl⟩:=e;exact RV _
   ·exact⟨rfl,rfl,fC _⟩
theorem Tr.crd(h:Tr bz b ms b1):∀{N:Nat},lW b N->StC b ms b1:=by
 induction h with
 |nil b=>exact fun _=>⟨fun _ _ _ _=>⟨by simp[wK],rfl⟩,fun _ _ _ _=>⟨rfl,rfl,fC _⟩⟩
 |cons mi _ ih=>
  intro N hb;have a:=mi.crd hb;have k:=ih (mi.ok hb);have d:=mi.LY;refine⟨fun p v h1 h2=>?_,fun p v h1 h2=>?_⟩
  ·have a1:=a.t p v h1 h2;have k1:=k.t p v (by rw[d.1];exact h1) (by rw[d.2.1];exact h2);rw[yT]at a1;rw[jK];exact⟨by rw[k1.1,a1.1];omega,k1.2.trans a1.2⟩
  ·have a1:=a.g p v h1 h2;have k1:=k.g p v (by rw[d.1];exact h1) (by rw[d.2.1];exact h2);exact⟨k1.1.trans a1.1,k1.2.1.trans a1.2.1,Int.le_trans a1.2.2 k1.2.2⟩
 |iY x hx _ ih=>intro N hb;have k:=ih (hb.Ju hx);exact⟨k.t,k.g⟩
end
section
variable{ns:List Nd}{cs:List Cb}{f g:dB}{N B:Nat}{H G:List (Nat×Fm)}
theorem arL(hp:nW ns cs){u:Nat}{m:Mv}(hc:m.2.2.2.cls=(m.2.1:Int))(hk:∀k,m.2.2.1=az k->∃i,jH cs u k=az i){c:Nat}(h1:c<2*cs.length)(v:Nat):sm (Pj c v) (mvF cs u m)=if(bV cs c).1=u then mvW (bV cs c).2.1 v m else 0:=by
 unfold mvF mvW;cases hm:m.2.2.1 with
 |none=>simp[wK]
 |some k=>
  obtain⟨i,hi⟩:=hk k hm;obtain⟨q1,q2,q3,q4⟩:=hp.Vi hi;dsimp only;rw[hi];dsimp only;rw[yT];unfold Pj;dsimp only;by_cases e:iT cs i u=c
  ·rw[e]at q2 q3;rw[if_pos q2,hc,q3];by_cases e2:m.2.1=v
   ·rw[if_pos ⟨e,by omega⟩,if_pos ⟨rfl,e2⟩]
   ·rw[if_neg (fun q=>e2 (by omega)),if_neg (fun q=>e2 q.2)]
  ·rw[if_neg (fun q=>e q.1)];split
   ·rename_i e3;rw[if_neg (fun q=>e (hp.from q1 h1 (q2.trans e3.symm) (q3.trans (by have:=q.1;injection this))))]
   ·rfl
theorem ajS(hp:nW ns cs){u:Nat}{c:Nat}(h1:c<2*cs.length)(v:Nat):∀(ms:List Mv),(∀m∈ms,m.2.2.2.cls=(m.2.1:Int)/\∀k,m.2.2.1=az k->∃i,jH cs u k=az i)->sm (Pj c v) (ms.flatMap (mvF cs u))=if(bV cs c).1=u then sm (mvW (bV cs c).2.1 v) ms else 0
 |[],_=>by simp[wK]
 |m::ms,h=>by have hm:=h m (bZ ..);rw[dY,nG,arL hp hm.1 hm.2 h1 v,ajS hp h1 v ms fun y hy=>h y (dx _ hy),jK];split<;>rfl
theorem oq.Ab{u:Nat}(hd:∀i,i<cs.length->(cs.getD i gV).dl<=100):∀(ms:List Mv) {f:dB},oq ns cs B f (ms.flatMap (mvF cs u)++H)->f.now+101<=B->oq ns cs B (ms.foldl (dB.lU cs u) f) H
 |[],_,h,_=>h
 |m::ms,f,h,hB=>by
  rw[dS];refine oq.Ab hd ms ?_ (by rw[Si];exact hB);rw[dY,jX]at h;unfold mvF at h;unfold dB.lU;cases hm:m.2.2.1 with
  |none=>rw[hm]at h;exact oq.oG h _
  |some k=>
   rw[hm]at h;dsimp only at h|-;cases hi:jH cs u k with
   |none=>rw[hi]at h;exact h
   |some i=>rw[hi]at h;dsimp only at h|-;have:=hd i (wu hi).1;exact oq.put (x:=(iT cs i u,m.2.2.2)) h (by omega)
theorem oq.kE(hp:nW ns cs)(ok:dH ns cs f N){u:Nat}(hu:u<ns.length)(h:oq ns cs B f H)(hB:f.now+101<=B):oq ns cs B (f.kE ns cs u) H:=by
 obtain⟨b1,b2,b3⟩:=ok.box u hu;have t:=(DD _ (lY ns cs f u) b1).1;have o:=t.outs;have s:=t.sub b1;have cr:=t.crd b1;have dm:=t.LY;have e:f.kE ns cs u=(((f.boxes.getD u default).step (lY ns cs f u)).2).foldl (dB.lU cs u) {f with boxes:=f.boxes.set u ((f.boxes.getD u default).step (lY ns cs f u)).1}:=rfl;rw[e];have hms:∀m∈((f.boxes.getD u default).step (lY ns cs f u)).2,m.2.2.2.cls=(m.2.1:Int)/\∀k,m.2.2.1=az k->∃i,jH cs u k=az i:=fun m hm=>by obtain⟨q1,q2,q3⟩:=s.2 m hm;refine⟨h.qc u m.1 m.2.1 _ hu (by rw[<-b2];exact q1) (by rw[<-b3];exact q2) q3,fun k hk=>?_⟩;obtain⟨i,hi,_⟩:=Bp hp ok hu (ok.q u m.1 m.2.1 _ hu (by rw[<-b2];exact q1) (by rw[<-b3];exact q2) q3) (o m hm k hk).2;exact⟨i,hi⟩
 refine oq.Ab (fun i hi=>(hp.dl i hi).2) _ ?_ hB;generalize(f.boxes.getD u default).step (lY ns cs f u)=R at t s cr dm hms|-;have Bn:u<f.boxes.length:=by rw[ok.bl];exact hu
 have bb:=zo (f:=f) Bn R.1;have ht:=fun(c v:Nat) (h1:c<2*cs.length) (h2:v<f.aI.length) (e:(bV cs c).1=u)=>cr.t (bV cs c).2.1 v (by rw[b2];have:=hp.qP (hp.ends h1).1 (hp.ends h1).2.2.1;rw[e]at this;exact this) (by rw[b3];exact h2);have hg:=fun(c v:Nat) (h1:c<2*cs.length) (h2:v<f.aI.length) (e:(bV cs c).2.2.1=u)=>cr.g (bV cs c).2.2.2 v (by rw[b2];have:=hp.qP (hp.ends h1).2.1 (hp.ends h1).2.2.2.1;rw[e]at this;exact this) (by rw[b3];exact h2);have hw:=fun(c v:Nat) (h1:c<2*cs.length)=>ajS hp (u:=u) h1 v R.2 hms;generalize hgg:({f with boxes:=f.boxes.set u R.1}:dB)=g at bb|-;have er:g.aI=f.aI:=by rw[<-hgg]
 have ef:g.fl=f.fl:=by rw[<-hgg]
 have eg:g.gone=f.gone:=by rw[<-hgg]
 have ec:g.came=f.came:=by rw[<-hgg]
 have el:g.lim=f.lim:=by rw[<-hgg]
 have rr:∀c v,c<2*cs.length->v<f.aI.length->Im ns cs g c v=Im ns cs f c v:=fun c v h1 h2=>by
  unfold Im Ew;rw[bb,ec];by_cases e:(bV cs c).2.2.1=u
  ·rw[if_pos e,(hg c v h1 h2 e).1];show _=if _ then(dz (f.boxes.getD (bV cs c).2.2.1 default).gv _ _).wU else _
   rw[e]
  ·rw[if_neg e]
 have kk:∀c v,c<2*cs.length->v<f.aI.length->Ki ns cs f c v<=Ki ns cs g c v:=fun c v h1 h2=>by
  unfold Ki Ew;rw[bb,ec,er];by_cases e:(bV cs c).2.2.1=u
  ·rw[if_pos e];have:=(hg c v h1 h2 e).2.2;split
   ·show(dz (f.boxes.getD (bV cs c).2.2.1 default).gv _ _).nP<=_;rw[e];exact this
   ·exact fC _
  ·rw[if_neg e];exact fC _
 refine h.qY er (fun c v h1 h2=>?_) (fun c v h1 h2=>?_) (fun c v h1 h2=>by rw[eg];have:=kk c v h1 h2;omega) (fun t y hy h1 h2=>.inl ⟨t,by rw[el]at hy;exact hy⟩) (fun u' p c y h1 h2 h3 hy=>.inl ?_) (fun u' p c h1 h2 h3=>?_) fun u' h1=>?_
 ·rw[rr c v h1 h2,ef,eg,nG,hw c v h1];by_cases e:(bV cs c).1=u
  ·rw[if_pos e];have a:=(ht c v h1 h2 e).1;have x1:yF cs g c v=dz R.1.tk (bV cs c).2.1 v:=(by unfold yF;rw[bb,if_pos e]);have x2:yF cs f c v=dz (f.boxes.getD u default).tk (bV cs c).2.1 v:=(by unfold yF qV;rw[e]);rw[x1,x2];omega
  ·rw[if_neg e];have x1:yF cs g c v=yF cs f c v:=by unfold yF;rw[bb,if_neg e]
   rw[x1];omega
 ·by_cases e:(bV cs c).1=u
  ·have x1:yF cs g c v=dz R.1.tk (bV cs c).2.1 v:=by unfold yF;rw[bb,if_pos e]
   have x2:yF cs f c v=dz (f.boxes.getD u default).tk (bV cs c).2.1 v:=(by unfold yF qV;rw[e]);rw[x1,x2];exact(ht c v h1 h2 e).2
  ·have x1:yF cs g c v=yF cs f c v:=by unfold yF;rw[bb,if_neg e]
   rw[x1]
 ·rw[bb]at hy;split at hy
  ·rename_i e;subst e;exact s.1 p c y hy
  ·exact hy
 ·rw[bb];split
  ·rename_i e;subst e;exact(cr.g p c (by rw[b2];exact h2) (by rw[b3];exact h3)).2.1
  ·rfl
 ·rw[bb];split
  ·rename_i e;subst e;exact dm.2.2
  ·rfl
theorem oq.steps(hp:nW ns cs):∀(l:List Nat) {f:dB} {N:Nat},dH ns cs f N->(∀u∈l,u<ns.length)->oq ns cs B f H->f.now+101<=B->oq ns cs B (l.foldl (dB.kE ns cs) f) H
 |[],_,_,_,_,h,_=>h
 |u::l,f,N,ok,hl,h,hB=>by rw[dS];have k:=ok.kE hp (hl u (bZ ..));exact oq.steps hp l k.1 (fun y hy=>hl y (dx _ hy)) (h.kE hp ok (hl u (bZ ..)) hB) (by rw[k.2.2.2];exact hB)
theorem oq.Gb(h:oq ns cs B f H)(c v:Nat):oq ns cs B (f.Gb ns cs c v) H:=
 h.qY rfl (fun _ _ _ _=>rfl) (fun _ _ _ _=>rfl) (fun _ _ _ _=>fC _) (fun t x hx _ _=>by
  have hx:x∈(if t=f.now+(cs.getD (c/2) gV).dl.toNat then f.lim t++[(c,v,(if qE ns (bV cs c).2.2.1 then(dz (f.boxes.getD (bV cs c).2.2.1 default).gv (bV cs c).2.2.2 v).nP else f.aI.getD v 0+dz f.came (bV cs c).2.2.1 v)+dz f.gone c v)]else f.lim t):=hx;split at hx
  ·rcases dU.1 hx with q|q
   ·exact .inl ⟨t,q⟩
   ·rw[dh]at q;subst q;exact .inr (fC _)
  ·exact .inl ⟨t,hx⟩) (fun _ _ _ _ _ _ _ hx=>.inl hx) (fun _ _ _ _ _ _=>rfl) fun _ _=>rfl
theorem oq.fold{α:Type}(op:dB->α->dB)(ho:∀f x,oq ns cs B f H->oq ns cs B (op f x) H):∀(l:List α) (f:dB),oq ns cs B f H->oq ns cs B (l.foldl op f) H
 |[],f,h=>h
 |x::l,f,h=>by rw[dS];exact oq.fold op ho l _ (ho f x h)
theorem oq.tell(h:oq ns cs B f H):oq ns cs B (f.tell ns cs) H:=by
 unfold dB.tell;refine oq.fold _ (fun f c h=>?_) _ _ h;split
 ·exact oq.fold _ (fun f v h=>h.Gb c v) _ _ h
 ·exact h
theorem oq.tick{nr:Rt}(hp:nW ns cs)(ok:dH ns cs f N)(hf:yJ cs f)(hr:AV ns cs nr)(h:oq ns cs B f [])(hB:f.now+102<=B):oq ns cs B (f.tick ns cs nr).1 []:=by
 rw[Bt];obtain⟨m1,m2,m3⟩:=ok.mid hp hr;have ob:=ok.beg hr;have h1:oq ns cs B (f.jk nr) []:=by
  unfold dB.jk dB.uG;have h0:oq ns cs B f.xI []:=h.same rfl rfl rfl rfl rfl fun t x hx=>⟨t,hx⟩;split
  ·split<;>exact h0.same rfl rfl rfl rfl rfl fun t x hx=>⟨t,hx⟩
  ·exact h0
 have h2:oq ns cs B ((f.jk nr).iM cs) []:=oq.wJ hp _ ob (fun x hx=>⟨(ob.lim _ x hx).1,(ob.lim _ x hx).2.1,_,hx⟩) h1;have h3:oq ns cs B ((f.jk nr).iM cs).uA []:=h2.same rfl rfl rfl rfl rfl fun t x hx=>by
  have hx:x∈(if t=((f.jk nr).iM cs).now then[]else((f.jk nr).iM cs).lim t):=hx;split at hx
  ·cases hx
  ·exact⟨t,hx⟩
 generalize((f.jk nr).iM cs).uA=g at *;have a1:=m1.jf hp (by rw[m3];exact hf.nd _);have h4:oq ns cs B (g.jf ns cs).1 []:=by refine(oq.Es hp (mG (2*cs.length) (g.fl g.now)) (s:=({g with fl:=fun t=>if t=g.now then[]else g.fl t},[])) (m1.Pp g.now) (fun x hx=>⟨(mU hx).2,(m1.fl _ x (mU hx).1).2.qY rfl (aC _)⟩) ?_).1;exact(h3.take (now:=g.now) (by omega)).perm ((OI m1).append_right _)
 have h5:=h4.steps hp (aN ns.length) a1.1 (fun u hu=>dK.1 hu) (by rw[a1.2.2.2,m2];omega);exact h5.tell
theorem oq.iV(ok:dH ns cs f N){x:Nat×Fm}(hc:x.1<2*cs.length)(hx:qR ns f x.2)(h:oq ns cs B f (x::H)):oq ns cs B (f.iV x) H:=by
 have cw:=fun c v=>aeB (x:=x) hx.c0 c v;have hg:∀c v,dz (jA f.gone x.1 x.2.cls.toNat (dz f.gone x.1 x.2.cls.toNat+1)) c v=dz f.gone c v+(Pj c v x:Nat):=fun c v=>by
  rw[iQ ok.gn hc hx.c1,cw];by_cases e:c=x.1/\v=x.2.cls.toNat
  ·rw[if_pos e,if_pos e,e.1,e.2];rfl
  ·rw[if_neg e,if_neg e];simp
 unfold dB.iV;refine oq.oG (f:={f with gone:=jA f.gone x.1 x.2.cls.toNat (dz f.gone x.1 x.2.cls.toNat+1)}) ?_ _;refine h.qY rfl (fun c v h1 h2=>?_) (fun _ _ _ _=>rfl) (fun c v h1 h2=>?_) (fun t x hx _ _=>.inl ⟨t,hx⟩) (fun _ _ _ _ _ _ _ hx=>.inl hx) (fun _ _ _ _ _ _=>rfl) fun _ _=>rfl
 ·show(yF cs f c v).wV+Im ns cs f c v+_+_=(yF cs f c v).wV+Im ns cs f c v+((ZN c v B f.fl+sm (Pj c v) H:Nat):Int)+dz (jA f.gone x.1 x.2.cls.toNat (dz f.gone x.1 x.2.cls.toNat+1)) c v;rw[hg,jK];omega
 ·show Ki ns cs f c v+_<=Ki ns cs f c v+dz (jA f.gone x.1 x.2.cls.toNat (dz f.gone x.1 x.2.cls.toNat+1)) c v;rw[hg];omega
theorem oq.Kq:∀(l:List (Nat×Fm)) {f:dB} {N:Nat},dH ns cs f N->(∀x∈l,x.1<2*cs.length/\qR ns f x.2)->oq ns cs B f (l++H)->oq ns cs B (l.foldl dB.iV f) H
 |[],_,_,_,_,h=>h
 |x::l,f,N,ok,hl,h=>by rw[dS];have hx:=hl x (bZ ..);have k:dH ns cs (f.iV x) (N+2):=((ok.gone hx.1 hx.2.c1).oG x.2);have s:=sW.iV f x;exact oq.Kq l k (fun y hy=>⟨(hl y (dx _ hy)).1,(hl y (dx _ hy)).2.qY s.rm (by rw[s.bn];exact aC _)⟩) (oq.iV (H:=l++H) ok hx.1 hx.2 h)
theorem ahD(c v B:Nat)(fl:Nat->List (Nat×Fm))(i:Nat):ZN c v B (fun t=>jJ i (fl t))+sm (Pj c v) (yw B fl i)=ZN c v B fl:=by unfold ZN yw;rw[ve,<-afV];apply yD;intro t _;have:=Sy (Pj c v) (fun x=>x.1/2==i) (fl t);have e:(fun x:Nat×Fm=>!(x.1/2==i))=fun x=>x.1/2 !=i:=rfl;rw[e]at this;unfold jJ El;dsimp only at this|-;omega
theorem oq.cut(ok:dH ns cs f N)(h:oq ns cs B f [])(i:Nat){dead:List (Nat×Fm)}(hd:dead.Perm (yw B f.fl i)):oq ns cs B (f.Kj i dead) []:=by
 unfold dB.Kj;have mem:∀x∈dead,x.1<2*cs.length/\qR ns f x.2:=fun x hx=>by have:=hd.mem_iff.1 hx;unfold yw at this;obtain⟨t,_,ht⟩:=gZ.1 this;exact ok.fl t x (iR.1 ht).1
 refine oq.Kq dead (ok.Pg i) (fun x hx=>⟨(mem x hx).1,(mem x hx).2.qY rfl (aC _)⟩) ?_;refine h.qY rfl (fun c v h1 h2=>?_) (fun _ _ _ _=>rfl) (fun _ _ _ _=>fC _) (fun t x hx _ _=>.inl ⟨t,(iR.1 (show x∈jJ i (f.lim t)from hx)).1⟩) (fun _ _ _ _ _ _ _ hx=>.inl hx) (fun _ _ _ _ _ _=>rfl) fun _ _=>rfl;have a:=ahD c v B f.fl i;have b:=La (μ:=Pj c v) hd;show(yF cs f c v).wV+Im ns cs f c v+_+dz f.gone c v=(yF cs f c v).wV+Im ns cs f c v+((ZN c v B (fun t=>jJ i (f.fl t))+_:Nat):Int)+dz f.gone c v;rw[jr,wK,b];omega
theorem oq.inj(hp:nW ns cs)(ok:dH ns cs f N)(h:oq ns cs B f [])(iN jl cls:Int)(data:List Int):oq ns cs B (f.iF ns iN jl cls data).1 []:=by
 have rcv:∀{v:Nat},iN.toNat<ns.length->1<gJ (ns.getD iN.toNat iZ)->v<f.aI.length->((dz (f.boxes.getD iN.toNat default).q 1 v).length:Int)<f.aI.getD v 0->(dz (f.boxes.getD iN.toNat default).gv 1 v).wU+1<=(dz (f.boxes.getD iN.toNat default).gv 1 v).nP:=fun{v} h1 h2 h3 h4=>by obtain⟨b1,b2,b3⟩:=ok.box _ h1;have g:=(b1.g 1 v (by rw[b2];exact h2) (by rw[b3];exact h3));have r:=h.rm _ 1 v h1 h2 h3;have r:(dz (f.boxes.getD iN.toNat default).gv 1 v).room=f.aI.getD v 0:=r;have g1:=g.f1;unfold Gv.nP;omega
 rcases zD ok iN jl cls data with⟨e,he,q⟩|⟨hr,hl,hu,p2,fm,q⟩|⟨hr,hu,_,en,_,_,_,_,p2,fm,q⟩
 ·rw[q];exact h
 ·exfalso;have k:=rcv hu p2 (by have:=fm.c1;unfold qO at this;rw[cO]at this;exact this) hl;have e:=Np k;unfold Bx.gT at hr;have cl:(qO f iN jl cls data).cls.toNat=cls.toNat+f.aX*(f.dE%2):=by unfold qO;rw[cO]
  simp only[cl]at hr;rw[e]at hr;simp at hr
 ·rw[q];simp only;obtain⟨b1,b2,b3⟩:=ok.box _ hu;have Bn:iN.toNat<f.boxes.length:=by rw[ok.bl];exact hu
  have nsw:¬qE ns iN.toNat=true:=by unfold xH at en;simp only[dD,jW]at en;rw[en.2];decide
  generalize hX:(f.boxes.getD iN.toNat default).gT 1 (qO f iN jl cls data)=R at hr;have fx:0<=(qO f iN jl cls data).cls:=fm.c0;have c1:=fm.c1;generalize hx0:qO f iN jl cls data=x at hX fx c1;have hR:R.1.tk=(qV f iN.toNat).tk/\R.1.ov=(qV f iN.toNat).ov/\(∀p v,(dz R.1.gv p v).room=(dz (qV f iN.toNat).gv p v).room)/\∀p v y,y∈dz R.1.q p v->y∈dz (qV f iN.toNat).q p v\/y.cls=(v:Int):=by
   rw[<-hX]at hr|-;unfold Bx.gT at hr|-;simp only at hr|-;have pp:1<(f.boxes.getD iN.toNat default).bE:=by rw[b2];exact p2
   have vv:x.cls.toNat<(f.boxes.getD iN.toNat default).aX:=(by rw[b3];exact c1);split
   ·rename_i e;refine⟨rfl,rfl,fun p v=>?_,fun p v y hy=>?_⟩
    ·simp only;rw[iQ b1.gv pp vv];split
     ·rename_i e2;obtain⟨rfl,rfl⟩:=e2;unfold Gv.rR;split<;>rfl
     ·rfl
    ·simp only at hy;rw[iQ b1.q pp vv]at hy;split at hy
     ·rename_i e2;obtain⟨rfl,rfl⟩:=e2;rcases dU.1 hy with q|q
      ·exact .inl q
      ·rw[dh]at q;subst q;exact .inr (by omega)
     ·exact .inl hy
   ·rename_i e;rw[if_neg e]at hr;cases hr
  obtain⟨r1,r2,r3,r4⟩:=hR;have aa:oq ns cs B (f.gQ f.dE 1) []:=by unfold dB.gQ;split<;>exact h.same rfl rfl rfl rfl rfl fun t x hx=>⟨t,hx⟩
  have ab:(f.gQ f.dE 1).boxes=f.boxes:=by unfold dB.gQ;split<;>rfl
  generalize f.gQ f.dE 1=f2 at aa ab;have bb:=zo (f:=f2) (by rw[ab];exact Bn) R.1;have ba:∀u,qV f2 u=qV f u:=fun u=>by unfold qV;rw[ab]
  rw[<-ab];generalize hg:({f2 with boxes:=f2.boxes.set iN.toNat R.1,last:=f.last+1}:dB)=g;have bb:∀i,qV g i=if i=iN.toNat then R.1 else qV f2 i:=fun i=>by rw[<-hg];exact bb i
  have er:g.aI=f2.aI:=by rw[<-hg]
  have ef:g.fl=f2.fl:=by rw[<-hg]
  have eg:g.gone=f2.gone:=by rw[<-hg]
  have ec:g.came=f2.came:=by rw[<-hg]
  have el:g.lim=f2.lim:=by rw[<-hg]
  have tt:∀c v,yF cs g c v=yF cs f2 c v:=fun c v=>by
   unfold yF;rw[bb];split
   ·rename_i e;rw[r1,e,ba]
   ·rfl
  have gg:∀c v,qE ns (bV cs c).2.2.1=true->Ew cs g c v=Ew cs f2 c v:=fun c v hn=>by unfold Ew;rw[bb,if_neg (fun e=>nsw (by rw[<-e];exact hn))]
  have rr:∀c v,Im ns cs g c v=Im ns cs f2 c v:=fun c v=>by
   unfold Im;by_cases hn:qE ns (bV cs c).2.2.1=true
   ·rw[if_pos hn,if_pos hn,gg c v hn]
   ·rw[if_neg hn,if_neg hn,ec]
  have kk:∀c v,Ki ns cs g c v=Ki ns cs f2 c v:=fun c v=>by
   unfold Ki;by_cases hn:qE ns (bV cs c).2.2.1=true
   ·rw[if_pos hn,if_pos hn,gg c v hn]
   ·rw[if_neg hn,if_neg hn,ec,er]
  refine aa.qY er (fun c v h1 h2=>by rw[tt,rr,ef,eg]) (fun c v h1 h2=>by rw[tt]) (fun c v h1 h2=>by rw[kk,eg];exact fC _) (fun t y hy h1 h2=>.inl ⟨t,by rw[el]at hy;exact hy⟩) (fun u p c y h1 h2 h3 hy=>?_) (fun u p c h1 h2 h3=>?_) fun u h1=>?_
  ·rw[bb]at hy;split at hy
   ·rename_i e;subst e;rw[ba];exact r4 p c y hy
   ·exact .inl hy
  ·rw[bb];split
   ·rename_i e;subst e;rw[ba];exact r3 p c
   ·rfl
  ·rw[bb];split
   ·rename_i e;subst e;rw[ba];exact r2
   ·rfl
end
def StQ(ns:List Nd)(f:dB)(D:Int->Nat->Nat->Nat->Option Nat)(u p:Nat)(x:Fm):Prop:=
 u≠x.jl.toNat/\qE ns x.jl.toNat=false/\(f.dE:Int)-1<=x.ep/\(qE ns u=true->(D x.ep x.jl.toNat u (YM ns (f.rt x.ep) u p)).isSome=true)
def StF(ns:List Nd)(cs:List Cb)(f:dB)(D:Int->Nat->Nat->Nat->Option Nat)(y:Nat×Fm):Prop:=
 qE ns y.2.jl.toNat=false/\(f.dE:Int)-1<=y.2.ep/\(D y.2.ep y.2.jl.toNat (bV cs y.1).2.2.1 (YM ns (f.rt y.2.ep) (bV cs y.1).2.2.1 (bV cs y.1).2.2.2)).isSome=true/\((bV cs y.1).2.2.1=y.2.jl.toNat\/qE ns (bV cs y.1).2.2.1=true)
structure Way(ns:List Nd)(cs:List Cb)(f:dB)(D:Int->Nat->Nat->Nat->Option Nat)(H:List (Nat×Fm)):Prop where
 rt:∀e:Int,0<=e->(f.dE:Int)-1<=e->e<=f.dE->∃us,RtD ns cs us (f.rt e) (D e)
 q:∀u p c x,u<ns.length->p<gJ (ns.getD u iZ)->c<f.aI.length->x∈dz (qV f u).q p c->StQ ns f D u p x
 fl:∀t y,y∈f.fl t->StF ns cs f D y
 h:∀y∈H,StF ns cs f D y
section
variable{ns:List Nd}{cs:List Cb}{f g:dB}{N B:Nat}{D:Int->Nat->Nat->Nat->Option Nat}{H G:List (Nat×Fm)}{ins outs:List Fm}
theorem Way.qY(h:Way ns cs f D H)(e1:g.dE=f.dE)(e2:g.CR=f.CR)(e3:g.JH=f.JH)(e4:g.aI=f.aI)(hq:∀u p c x,u<ns.length->p<gJ (ns.getD u iZ)->c<f.aI.length->x∈dz (qV g u).q p c->x∈dz (qV f u).q p c\/StQ ns f D u p x)(hf:∀t y,y∈g.fl t->(∃t',y∈f.fl t')\/y∈H\/StF ns cs f D y)(hh:∀y∈G,(∃t,y∈f.fl t)\/y∈H\/StF ns cs f D y):Way ns cs g D G:=by
 have er:∀e,g.rt e=f.rt e:=fun e=>by unfold dB.rt;rw[e2,e3]
 have sq:∀u p x,StQ ns f D u p x->StQ ns g D u p x:=fun u p x k=>by unfold StQ at k|-;rw[e1,er];exact k
 have sf:∀y,StF ns cs f D y->StF ns cs g D y:=fun y k=>by unfold StF at k|-;rw[e1,er];exact k
 have all:∀y,((∃t',y∈f.fl t')\/y∈H\/StF ns cs f D y)->StF ns cs g D y:=fun y k=>by
  rcases k with⟨t,k⟩|k|k
  ·exact sf y (h.fl t y k)
  ·exact sf y (h.h y k)
  ·exact sf y k
 refine⟨fun e h0 h1 h2=>by rw[e1]at h1 h2;rw[er];exact h.rt e h0 h1 h2,fun u p c x h1 h2 h3 hx=>?_,fun t y hy=>all y (hf t y hy),fun y hy=>all y (hh y hy)⟩;rw[e4]at h3;rcases hq u p c x h1 h2 h3 hx with k|k
 ·exact sq u p x (h.q u p c x h1 h2 h3 k)
 ·exact sq u p x k
theorem Way.same(h:Way ns cs f D H)(e0:g.boxes=f.boxes)(e1:g.dE=f.dE)(e2:g.CR=f.CR)(e3:g.JH=f.JH)(e4:g.aI=f.aI)(e5:∀t y,y∈g.fl t->∃t',y∈f.fl t'):Way ns cs g D H:=
 h.qY e1 e2 e3 e4 (fun u p c x _ _ _ hx=>.inl (by unfold qV at hx|-;rw[<-e0];exact hx)) (fun t y hy=>.inl (e5 t y hy)) fun y hy=>.inr (.inl hy)
theorem Way.oG(h:Way ns cs f D H)(x:Fm):Way ns cs (f.oG x) D H:=by have s:=sW.oG f x;have e:=Qt f x.ep;exact h.same e.1 s.bn s.r0 s.r1 s.rm fun t y hy=>⟨t,by rw[show(f.oG x).fl=f.fl from e.2.1]at hy;exact hy⟩
theorem Way.jh(ok:dH ns cs f N)(hp:nW ns cs)(h:Way ns cs f D H){x:Nat×Nat×Int}(hc:x.1<2*cs.length):Way ns cs (dB.jh cs f x) D H:=by
 have hu:(bV cs x.1).1<f.boxes.length:=by rw[ok.bl];exact(hp.ends hc).1
 have bb:=zo (f:=f) hu ((qV f (bV cs x.1).1).raise (bV cs x.1).2.1 x.2.1 x.2.2);exact h.qY rfl rfl rfl rfl (fun u p c y _ _ _ hy=>.inl (by
  have hy:y∈dz (qV {f with boxes:=f.boxes.set (bV cs x.1).1 ((qV f (bV cs x.1).1).raise (bV cs x.1).2.1 x.2.1 x.2.2)} u).q p c:=hy;rw[bb]at hy;split at hy
  ·rename_i e;rw[e];exact hy
  ·exact hy)) (fun t y hy=>.inl ⟨t,hy⟩) fun y hy=>.inr (.inl hy)
theorem Way.wJ(hp:nW ns cs):∀(l:List (Nat×Nat×Int)) {f:dB} {N:Nat},dH ns cs f N->(∀x∈l,x.1<2*cs.length/\x.2.1<f.aI.length)->Way ns cs f D H->Way ns cs (l.foldl (dB.jh cs) f) D H
 |[],_,_,_,_,h=>h
 |x::l,f,N,ok,hl,h=>by rw[dS];have hx:=hl x (bZ ..);have k:=ok.jh hp hx.1 hx.2;exact Way.wJ hp l k.1 (fun y hy=>by rw[k.2.1];exact hl y (dx _ hy)) (h.jh ok hp hx.1)
theorem Way.fO(hp:nW ns cs){s:dB×List Dl}{x:Nat×Fm}(ok:dH ns cs s.1 N)(h:Way ns cs s.1 D (x::H))(hc:x.1<2*cs.length)(hx:qR ns s.1 x.2):Way ns cs (dB.fO ns cs s x).1 D H/\∀d∈(dB.fO ns cs s x).2,d∈s.2\/(d.1=s.1.now/\d.2.1=d.2.2.jl.toNat):=by
 have EN:=hp.ends hc;have pl:=hp.qP EN.2.1 EN.2.2.2.1;have st:=h.h x (bZ ..);obtain⟨f,L⟩:=s;unfold dB.fO;dsimp only at h ok hx st|-;have tl:∀y∈H,(∃t,y∈f.fl t)\/y∈x::H\/StF ns cs f D y:=fun y hy=>.inr (.inl (dx _ hy));by_cases hs:qE ns (bV cs x.1).2.2.1=true
 ·rw[if_pos hs];dsimp only;refine⟨?_,fun d hd=>.inl hd⟩;obtain⟨b1,b2,b3⟩:=ok.box _ EN.2.1;have hu:(bV cs x.1).2.2.1<f.boxes.length:=by rw[ok.bl];exact EN.2.1
  have bb:=zo (f:=f) hu ((f.boxes.getD (bV cs x.1).2.2.1 default).gT (bV cs x.1).2.2.2 x.2).1;have k:Way ns cs {f with boxes:=f.boxes.set (bV cs x.1).2.2.1 ((f.boxes.getD (bV cs x.1).2.2.1 default).gT (bV cs x.1).2.2.2 x.2).1} D H:=by
   refine h.qY rfl rfl rfl rfl (fun u p c y h1 h2 h3 hy=>?_) (fun t y hy=>.inl ⟨t,hy⟩) tl;rw[bb]at hy;split at hy
   ·rename_i e;subst e;unfold Bx.gT at hy;simp only at hy;split at hy
    ·simp only at hy;rw[iQ b1.q (by rw[b2];exact pl) (by rw[b3];exact hx.c1)]at hy;split at hy
     ·rename_i e2;obtain⟨rfl,rfl⟩:=e2;rcases dU.1 hy with q|q
      ·exact .inl q
      ·rw[dh]at q;subst q;refine .inr ⟨fun e=>?_,st.1,st.2.1,fun _=>st.2.2.1⟩;have:=st.1;rw[<-e,hs]at this;cases this
     ·exact .inl hy
    ·exact .inl hy
   ·exact .inl hy
  split
  ·exact k
  ·exact k.oG _
 ·rw[if_neg hs];dsimp only;refine⟨?_,fun d hd=>?_⟩
  ·have k:Way ns cs {f with came:=jA f.came (bV cs x.1).2.2.1 x.2.cls.toNat (dz f.came (bV cs x.1).2.2.1 x.2.cls.toNat+1)} D H:=
    h.qY rfl rfl rfl rfl (fun u p c y _ _ _ hy=>.inl hy) (fun t y hy=>.inl ⟨t,hy⟩) tl
   have s:=sW.rem ({f with came:=jA f.came (bV cs x.1).2.2.1 x.2.cls.toNat (dz f.came (bV cs x.1).2.2.1 x.2.cls.toNat+1)}:dB) x.2.ep;have e:=Qt ({f with came:=jA f.came (bV cs x.1).2.2.1 x.2.cls.toNat (dz f.came (bV cs x.1).2.2.1 x.2.cls.toNat+1)}:dB) x.2.ep;exact k.same e.1 s.bn s.r0 s.r1 s.rm fun t y hy=>⟨t,by rw[e.2.1]at hy;exact hy⟩
  ·rcases dU.1 hd with q|q
   ·exact .inl q
   ·rw[dh]at q;subst q;refine .inr ⟨rfl,?_⟩;rcases st.2.2.2 with e|e
    ·exact e
    ·exact absurd e hs
theorem Way.Es(hp:nW ns cs):∀(l:List (Nat×Fm)) {s:dB×List Dl} {N:Nat},dH ns cs s.1 N->(∀x∈l,x.1<2*cs.length/\qR ns s.1 x.2)->Way ns cs s.1 D (l++H)->Way ns cs (l.foldl (dB.fO ns cs) s).1 D H/\∀d∈(l.foldl (dB.fO ns cs) s).2,d∈s.2\/(d.1=s.1.now/\d.2.1=d.2.2.jl.toNat)
 |[],_,_,_,_,h=>⟨h,fun d hd=>.inl hd⟩
 |x::l,s,N,ok,hl,h=>by
  rw[dS];have hx:=hl x (bZ ..);have k:=dH.fO ok hp hx.1 hx.2 s.2;have a:=Way.fO (H:=l++H) hp ok h hx.1 hx.2;have b:=Way.Es hp l k.1 (fun y hy=>⟨(hl y (dx _ hy)).1,(hl y (dx _ hy)).2.qY k.2.1 (by rw[k.2.2.1];exact aC _)⟩) a.1;refine⟨b.1,fun d hd=>?_⟩;rcases b.2 d hd with q|q
  ·exact a.2 d q
  ·exact .inr ⟨by rw[q.1];exact(sW.fO ns cs s x).nw,q.2⟩
theorem Way.goes(hp:nW ns cs)(ok:dH ns cs f N)(h:Way ns cs f D H){u p c k:Nat}{x:Fm}(hu:u<ns.length)(h2:p<gJ (ns.getD u iZ))(h3:c<f.aI.length)(hx:x∈dz (qV f u).q p c)(hr:lY ns cs f u p x=az k):∃i,jH cs u k=az i/\StF ns cs f D (iT cs i u,x):=by
 have st:=h.q u p c x hu h2 h3 hx;have fm:=ok.q u p c x hu h2 h3 hx;obtain⟨us,R⟩:=h.rt x.ep fm.e0 st.2.2.1 fm.e1;have tl:x.jl.toNat<ns.length:=by have:=fm.t0;have:=fm.t1;omega
 unfold lY dB.leave at hr;simp only at hr;have ph:(if(qE ns u&&(f.rt x.ep).rz u p)=true then 1 else 0)=YM ns (f.rt x.ep) u p:=rfl;rw[ph]at hr;have some1:∃d,D x.ep x.jl.toNat u (YM ns (f.rt x.ep) u p)=az d:=by
  cases hd:D x.ep x.jl.toNat u (YM ns (f.rt x.ep) u p)with
  |some d=>exact⟨d,rfl⟩
  |none=>have:=R.non _ u _ tl hu (Uk ns (f.rt x.ep) u p) st.1 hd;rw[if_pos this]at hr;cases hr
 obtain⟨d,hd⟩:=some1;cases d with
 |zero=>exact absurd (R.zero _ u _ tl hu hd) st.1
 |succ d=>
  obtain⟨i,hi,hn,Oe,ht,hv,hor,hf⟩:=R.step _ u _ d tl hu (Uk ns (f.rt x.ep) u p) hd;rw[hn,if_neg (by omega)]at hr;split at hr
  ·simp only[cO,Option.map_some,Option.some.injEq]at hr;have hu':(cs.getD i gV).a=(u:Int)\/(cs.getD i gV).b=(u:Int):=by
    rcases ht with⟨a,b⟩|⟨a,b⟩
    ·exact .inl a
    ·exact .inr a
   obtain⟨c1,c2,c3⟩:=hp.chan hi hu';obtain⟨d1,d2⟩:=hp.yu c1;rw[c2,c3,hr]at d1;exact⟨i,d1,st.2.1,st.2.2.1,by simp only;rw[hf];rfl,hor⟩
  ·cases hr
theorem Way.Ab{u:Nat}:∀(ms:List Mv) {f:dB},Way ns cs f D (ms.flatMap (fun m=>match m.2.2.1 with|none=>[]|some k=>match jH cs u k with|none=>[]|some i=>[(iT cs i u,m.2.2.2)])++H)->Way ns cs (ms.foldl (dB.lU cs u) f) D H
 |[],_,h=>h
 |m::ms,f,h=>by
  rw[dS];refine Way.Ab ms ?_;rw[dY,jX]at h;unfold dB.lU;cases hm:m.2.2.1 with
  |none=>rw[hm]at h;exact Way.oG h _
  |some k=>
   rw[hm]at h;dsimp only at h|-;cases hi:jH cs u k with
   |none=>rw[hi]at h;exact h
   |some i=>
    rw[hi]at h;dsimp only at h|-;refine h.qY rfl rfl rfl rfl (fun _ _ _ _ _ _ _ hy=>.inl hy) (fun t y hy=>?_) fun y hy=>.inr (.inl (dx _ hy));have hy:y∈(if t=f.now+(cs.getD i gV).dl.toNat then f.fl t++[(iT cs i u,m.2.2.2)]else f.fl t):=hy;split at hy
    ·rcases dU.1 hy with q|q
     ·exact .inl ⟨t,q⟩
     ·rw[dh]at q;subst q;exact .inr (.inl (bZ ..))
    ·exact .inl ⟨t,hy⟩
theorem Way.kE(hp:nW ns cs)(ok:dH ns cs f N){u:Nat}(hu:u<ns.length)(h:Way ns cs f D H):Way ns cs (f.kE ns cs u) D H:=by
 obtain⟨b1,b2,b3⟩:=ok.box u hu;have t:=(DD _ (lY ns cs f u) b1).1;have o:=t.outs;have s:=t.sub b1;have e:f.kE ns cs u=(((f.boxes.getD u default).step (lY ns cs f u)).2).foldl (dB.lU cs u) {f with boxes:=f.boxes.set u ((f.boxes.getD u default).step (lY ns cs f u)).1}:=rfl;rw[e];refine Way.Ab _ ?_;have Bn:u<f.boxes.length:=by rw[ok.bl];exact hu
 have bb:=zo (f:=f) Bn ((f.boxes.getD u default).step (lY ns cs f u)).1;refine h.qY rfl rfl rfl rfl (fun u' p c y h1 h2 h3 hy=>.inl ?_) (fun t y hy=>.inl ⟨t,hy⟩) fun y hy=>?_
 ·rw[bb]at hy;split at hy
  ·rename_i e;subst e;exact s.1 p c y hy
  ·exact hy
 ·rcases dU.1 hy with q|q
  ·obtain⟨m,hm,hy⟩:=gZ.1 q;obtain⟨q1,q2,q3⟩:=s.2 m hm;cases hk:m.2.2.1 with
   |none=>rw[hk]at hy;cases hy
   |some k=>rw[hk]at hy;dsimp only at hy;obtain⟨i,hi,st⟩:=h.goes hp ok hu (by rw[<-b2];exact q1) (by rw[<-b3];exact q2) q3 (o m hm k hk).2;rw[hi]at hy;dsimp only at hy;rw[dh]at hy;subst hy;exact .inr (.inr st)
  ·exact .inr (.inl q)
theorem Way.steps(hp:nW ns cs):∀(l:List Nat) {f:dB} {N:Nat},dH ns cs f N->(∀u∈l,u<ns.length)->Way ns cs f D H->Way ns cs (l.foldl (dB.kE ns cs) f) D H
 |[],_,_,_,_,h=>h
 |u::l,f,N,ok,hl,h=>by rw[dS];have k:=ok.kE hp (hl u (bZ ..));exact Way.steps hp l k.1 (fun y hy=>hl y (dx _ hy)) (h.kE hp ok (hl u (bZ ..)))
theorem ars(ok:dH ns cs f N)(μ:Fm->Nat){u p c:Nat}{x:Fm}{K:List Fm}(h1:u<ns.length)(h2:p<gJ (ns.getD u iZ))(h3:c<f.aI.length)(hx:x∈dz (qV f u).q p c):μ x<=Ey μ B f K:=by
 obtain⟨b1,b2,b3⟩:=ok.box u h1;have a:=Jw (μ:=μ) hx;have b:=amT (μ:=μ) b1.q (i:=p) (j:=c) (by rw[b2];exact h2) (by rw[b3];exact h3);have hb:f.boxes.getD u default∈f.boxes:=by
  have:u<f.boxes.length:=by rw[ok.bl];exact h1
  simp[bS,this]
 have c:=Jw (μ:=fun b:Bx=>qW μ b.q) hb;unfold qV at a;unfold Ey;have c:qW μ (f.boxes.getD u default).q<=sm (fun b:Bx=>qW μ b.q) f.boxes:=c;omega
theorem amj(μ:Fm->Nat){t:Nat}{y:Nat×Fm}{K:List Fm}(ht:t<B)(hy:y∈f.fl t):μ y.2<=Ey μ B f K:=by have a:=Jw (μ:=fun x:Nat×Fm=>μ x.2) hy;have b:=Jw (μ:=fun t=>sm (fun x:Nat×Fm=>μ x.2) (f.fl t)) (dK.2 ht);have a:μ y.2<=sm (fun x:Nat×Fm=>μ x.2) (f.fl t):=a;have b:sm (fun x:Nat×Fm=>μ x.2) (f.fl t)<=sm (fun t=>sm (fun x:Nat×Fm=>μ x.2) (f.fl t)) (aN B):=b;unfold Ey flW;omega
theorem Way.Eb{nr:Rt}(ok:dH ns cs f N)(hfl:∀t y,y∈f.fl t->t<B)(ac:Ac B f [] ins outs)(hm:f.mJ=true){us:List Bool}{E:Nat->Nat->Nat->Option Nat}(hr:RtD ns cs us nr E)(h:Way ns cs f D []):∃D',Way ns cs (f.uG nr) D' []:=by
 have hz:Ey (epI ((f.dE:Int)-1)) B f []=0:=by unfold dB.mJ at hm;have h1:=of_decide_eq_true hm;rw[ac.al]at h1;omega
 have e1:(f.uG nr).boxes=f.boxes/\(f.uG nr).fl=f.fl/\(f.uG nr).dE=f.dE+1/\(f.uG nr).aI=f.aI:=by unfold dB.uG;split<;>exact⟨rfl,rfl,rfl,rfl⟩
 obtain⟨b1,b2,b3,b4⟩:=e1;have r1:(f.uG nr).rt (f.dE:Int)=f.rt (f.dE:Int):=by
  unfold dB.rt dB.uG;by_cases q:(f.dE+1)%2=0
  ·rw[if_pos q];rw[if_neg (by omega),if_neg (by omega)]
  ·rw[if_neg q];rw[if_pos (by omega),if_pos (by omega)]
 have r2:(f.uG nr).rt ((f.dE:Int)+1)=nr:=by
  unfold dB.rt dB.uG;by_cases q:(f.dE+1)%2=0
  ·rw[if_pos q];rw[if_pos (by omega)]
  ·rw[if_neg q];rw[if_neg (by omega)]
 have ep:∀x:Fm,epI ((f.dE:Int)-1) x<=0->(f.dE:Int)-1<=x.ep->x.ep<=f.dE->x.ep=(f.dE:Int):=fun x k1 k2 k3=>by
  unfold epI at k1;by_cases q:x.ep=(f.dE:Int)-1
  ·rw[if_pos q]at k1;omega
  ·omega
 refine⟨fun e=>if e=(f.dE:Int)+1 then E else D e,⟨fun e h0 h1 h2=>?_,fun u p c x h1 h2 h3 hx=>?_,fun t y hy=>?_,fun y hy=>by cases hy⟩⟩
 ·rw[b3]at h1 h2;by_cases q:e=(f.dE:Int)+1
  ·rw[if_pos q,q,r2];exact⟨us,hr⟩
  ·rw[if_neg q];have q2:e=(f.dE:Int):=by omega
   rw[q2,r1];exact h.rt _ (by omega) (by omega) (by omega)
 ·rw[b4]at h3;have hx:x∈dz (qV f u).q p c:=by unfold qV at hx|-;rw[<-b1];exact hx
  have k:=h.q u p c x h1 h2 h3 hx;have fm:=ok.q u p c x h1 h2 h3 hx;have z:=ep x (by rw[<-hz];exact ars ok _ h1 h2 h3 hx) k.2.2.1 fm.e1;unfold StQ at k|-;rw[z]at k|-;rw[b3,r1];simp only;rw[if_neg (by omega)];exact⟨k.1,k.2.1,by omega,k.2.2.2⟩
 ·rw[b2]at hy;have k:=h.fl t y hy;have fm:=(ok.fl t y hy).2;have z:=ep y.2 (by rw[<-hz];exact amj _ (hfl t y hy) hy) k.2.1 fm.e1;unfold StF at k|-;rw[z]at k|-;rw[b3,r1];simp only;rw[if_neg (by omega)];exact⟨k.1,by omega,k.2.2⟩
theorem Way.rest{nr:Rt}(hp:nW ns cs)(ok:dH ns cs f N)(hf:yJ cs f)(hr:AV ns cs nr)(h1:Way ns cs (f.jk nr) D []):Way ns cs (f.tick ns cs nr).1 D []/\∀d∈(f.tick ns cs nr).2,d.1=f.now+1/\d.2.1=d.2.2.jl.toNat:=by
 rw[Bt];obtain⟨m1,m2,m3⟩:=ok.mid hp hr;have ob:=ok.beg hr;have h2:Way ns cs ((f.jk nr).iM cs) D []:=Way.wJ hp _ ob (fun x hx=>⟨(ob.lim _ x hx).1,(ob.lim _ x hx).2.1⟩) h1;have h3:Way ns cs ((f.jk nr).iM cs).uA D []:=h2.same rfl rfl rfl rfl rfl fun t y hy=>⟨t,hy⟩;generalize((f.jk nr).iM cs).uA=g at *;have a1:=m1.jf hp (by rw[m3];exact hf.nd _);have h4:=Way.Es (D:=D) (H:=[]) hp (mG (2*cs.length) (g.fl g.now)) (s:=({g with fl:=fun t=>if t=g.now then[]else g.fl t},[])) (m1.Pp g.now) (fun x hx=>⟨(mU hx).2,(m1.fl _ x (mU hx).1).2.qY rfl (aC _)⟩) (h3.qY rfl rfl rfl rfl (fun _ _ _ _ _ _ _ hx=>.inl hx) (fun t y hy=>by
  have hy:y∈(if t=g.now then[]else g.fl t):=hy;split at hy
  ·cases hy
  ·exact .inl ⟨t,hy⟩) fun y hy=>by rw[jr]at hy;exact .inl ⟨_,(mU hy).1⟩)
 refine⟨?_,fun d hd=>?_⟩
 ·have h5:=h4.1.steps hp (aN ns.length) a1.1 (fun u hu=>dK.1 hu);show Way ns cs ((nL ns cs (g.jf ns cs).1 ns.length).tell ns cs) D [];rw[zG];exact h5.same rfl rfl rfl rfl rfl fun t y hy=>⟨t,hy⟩
 ·rcases h4.2 d hd with q|q
  ·cases q
  ·exact⟨by rw[q.1];exact m2,q.2⟩
theorem Way.xI(h:Way ns cs f D []):Way ns cs f.xI D []:=h.same rfl rfl rfl rfl rfl fun t y hy=>⟨t,hy⟩
theorem Way.tick{nr:Rt}(hp:nW ns cs)(hv:fQ ⟨ns,cs⟩=0)(ok:dH ns cs f N)(hf:yJ cs f)(hr:AV ns cs nr)(hi:(f.mW&&f.mJ)=true->Az ns cs f.up nr)(ac:Ac B f [] ins outs)(hB:f.now+102<=B)(h:Way ns cs f D []):(∃D',Way ns cs (f.tick ns cs nr).1 D' [])/\∀d∈(f.tick ns cs nr).2,d.1=f.now+1/\d.2.1=d.2.2.jl.toNat:=by
 have h1:∃D',Way ns cs (f.jk nr) D' []:=by
  unfold dB.jk;split
  ·rename_i q;have q1:=hi q;obtain⟨E,hE⟩:=q1.alC hv;rw[dD]at q;refine h.xI.Eb ok.YJ (fun t y hy=>?_) (ac.same (H':=[]) rfl rfl rfl rfl rfl rfl) q.2 hE;have d:=hf.due t y hy;have d2:=(hp.dl (y.1/2) (by have:=(ok.fl t y hy).1;omega)).2;have d3:dlF cs y.1<=100:=(by unfold dlF;omega);omega
  ·exact⟨D,h.xI⟩
 obtain⟨D',h1⟩:=h1;have k:=Way.rest hp ok hf hr h1;exact⟨⟨D',k.1⟩,k.2⟩
theorem Way.cut(h:Way ns cs f D [])(i:Nat)(dead:List (Nat×Fm)):Way ns cs (f.Kj i dead) D []:=by have s:sW (f.Pg i) (f.Kj i dead):=sW.fold dB.iV sW.iV dead _;have g:=wC dead (f.Pg i);have g1:(f.Kj i dead).fl=fun t=>jJ i (f.fl t):=g.1;exact h.same g.2.1 s.bn s.r0 s.r1 s.rm fun t y hy=>⟨t,by rw[g1]at hy;exact(iR.1 hy).1⟩
theorem Way.inj(hp:nW ns cs)(ok:dH ns cs f N)(h:Way ns cs f D [])(iN jl cls:Int)(data:List Int):Way ns cs (f.iF ns iN jl cls data).1 D []:=by
 have box:∀(g:dB),0<=iN->xH ns iN=true->xH ns jl=true->iN≠jl->iN.toNat<ns.length->1<gJ (ns.getD iN.toNat iZ)->qR ns f (qO f iN jl cls data)->g.boxes=f.boxes.set iN.toNat ((f.boxes.getD iN.toNat default).gT 1 (qO f iN jl cls data)).1->g.dE=f.dE->g.CR=f.CR->g.JH=f.JH->g.aI=f.aI->g.fl=f.fl->Way ns cs g D []:=fun g k0 k1 k2 k3 hu p2 fm e0 e1 e2 e3 e4 e5=>by
  obtain⟨b1,b2,b3⟩:=ok.box _ hu;have Bn:iN.toNat<f.boxes.length:=by rw[ok.bl];exact hu
  have bb:=zo (f:=f) Bn ((f.boxes.getD iN.toNat default).gT 1 (qO f iN jl cls data)).1;refine h.qY e1 e2 e3 e4 (fun u p c y h1 h2 h3 hy=>?_) (fun t y hy=>.inl ⟨t,by rw[e5]at hy;exact hy⟩) fun y hy=>by cases hy
  have hb:qV g u=if u=iN.toNat then((f.boxes.getD iN.toNat default).gT 1 (qO f iN jl cls data)).1 else qV f u:=by rw[<-bb];unfold qV;rw[e0]
  rw[hb]at hy;split at hy
  ·rename_i e;subst e;unfold Bx.gT at hy;simp only at hy;split at hy
   ·simp only at hy;rw[iQ b1.q (by rw[b2];exact p2) (by rw[b3];exact fm.c1)]at hy;split at hy
    ·rename_i e2;obtain⟨rfl,rfl⟩:=e2;rcases dU.1 hy with q|q
     ·exact .inl q
     ·rw[dh]at q;subst q;unfold xH at k1 k2;simp only[dD,jW,decide_eq_true_eq]at k1 k2;refine .inr ⟨?_,k2.2,?_,fun q=>?_⟩
      ·show iN.toNat≠jl.toNat;omega
      ·show(f.dE:Int)-1<=(f.dE:Int);omega
      ·rw[k1.2]at q;cases q
    ·exact .inl hy
   ·exact .inl hy
  ·exact .inl hy
 rcases zD ok iN jl cls data with⟨e,he,q⟩|⟨hr,hl,hu,p2,fm,q⟩|⟨hr,hu,k0,k1,k2,k3,_,_,p2,fm,q⟩
 ·rw[q];exact h
 ·rw[q];have e1:((f.boxes.getD iN.toNat default).gT 1 (qO f iN jl cls data)).1.q=(f.boxes.getD iN.toNat default).q:=by
   obtain⟨b1,b2,b3⟩:=ok.box _ hu;exact(JZ (x:=qO f iN jl cls data) b1 (p:=1) (by rw[b2];exact p2) (by rw[b3];exact fm.c1)).2 hr
  have Bn:iN.toNat<f.boxes.length:=by rw[ok.bl];exact hu
  have bb:=zo (f:=f) Bn ((f.boxes.getD iN.toNat default).gT 1 (qO f iN jl cls data)).1;refine h.qY rfl rfl rfl rfl (fun u p c y h1 h2 h3 hy=>.inl ?_) (fun t y hy=>.inl ⟨t,hy⟩) fun y hy=>by cases hy
  rw[bb]at hy;split at hy
  ·rename_i e;subst e;rw[e1]at hy;exact hy
  ·exact hy
 ·rw[q];have k:(f.gQ f.dE 1).fl=f.fl/\(f.gQ f.dE 1).dE=f.dE/\(f.gQ f.dE 1).CR=f.CR/\(f.gQ f.dE 1).JH=f.JH/\(f.gQ f.dE 1).aI=f.aI:=by
   unfold dB.gQ;split<;>exact⟨rfl,rfl,rfl,rfl,rfl⟩
  exact box _ k0 k1 k2 k3 hu p2 fm rfl k.2.1 k.2.2.1 k.2.2.2.1 k.2.2.2.2 k.1
end
end
section
open Go.RowKit Go.Maps
theorem jL.uniq{w:aG}{P:Program}{k:TypeId}{b n n':Nat}{M M':Lit->Option aJ}(h:jL w P k b n M)(h':jL w P k b n' M'):M=M':=by
 obtain⟨D,⟨es,clock,hb,F,hs,hD⟩,h2⟩:=h;obtain⟨D',⟨es',clock',tq,F',hs',hD'⟩,h2'⟩:=h';have e:es=es':=by rw[hb]at tq;injection tq with q;injection q
 subst e;have e:D=D':=by rw[hD,hD']
 subst e;funext l;have i1:=(h2 l).1;have i2:=(h2' l).1;have j1:=(h2 l).2;have j2:=(h2' l).2;cases hm:M l with
 |none=>rw[hm]at i1;rw[i1]at i2;cases hm':M' l with
  |none=>rfl
  |some v=>rw[hm']at i2;cases i2
 |some v=>rw[hm]at i1;rw[i1]at i2;cases hm':M' l with
  |none=>rw[hm']at i2;cases i2
  |some v'=>have q1:=j1 (.bool true);have q2:=j2 (.bool true);rw[hm]at q1;rw[hm']at q2;rw[q1]at q2;injection q2 with q2;simp only[Option.getD_some]at q2;rw[q2]
theorem VG(f:dB)(x:Nat×Fm)(X:Nat->List (Nat×Fm)):({f with fl:=X}:dB).iV x={f.iV x with fl:=X}:=by
 unfold dB.iV dB.oG dB.rem dB.gQ dB.alive;simp only;split
 ·split
  ·rfl
  ·split<;>rfl
 ·split
  ·split<;>rfl
  ·split<;>rfl
theorem FH:∀(l:List (Nat×Fm)) (f:dB) (X:Nat->List (Nat×Fm)),l.foldl dB.iV {f with fl:=X}={l.foldl dB.iV f with fl:=X}
 |[],f,X=>rfl
 |x::l,f,X=>by rw[dS,VG,FH l (f.iV x) X,dS]
section
variable{Z dV:Own}{w w':aG}{b:Nat}{ns:List Nd}{cs:List Cb}{f:dB}{L:rY}{M:Lit->Option aJ}{n r Ec B:Nat}{left:Lit->Bool}
theorem gz.free{S:Nat->Prop}(h:gz Z w b ns cs f L)(hc:Ch S w w')(he:∀k,k<w.heap.size->dV k=Z k)(hM:jL w aH 3 L.mf n M)(hB:∀t v,M (.int .i64 (t:Nat))=az v->∀g,v.ownBlock=az g->g<B)(hS:∀k,S k->(Z k).1=0\/(B<=k/\(Z k).1=2/\(Z k).2.1=4)):gz dV w' b ns cs f L:=by
 have g:=h.Rf (fun k=>k=4) hc he fun k s=>by
  rcases hS k s with q|q
  ·exact .inl q
  ·exact .inr ⟨q.2.1,q.2.2⟩
 have s1:∀k,S k->(Z k).1≠1:=fun k s=>by rcases hS k s with q|q<;>omega
 refine⟨⟨g.root (by decide),g.iO.1⟩,g.plan,g.aI,g.xP,g.Kc,g.bx,g.up (by decide),g.r0,g.r1,⟨g.bk (by decide),g.IZ⟩,⟨?_,g.ZM⟩,⟨g.lim (by decide) (by decide),g.Kw⟩,g.came (by decide),g.gone (by decide),g.lost (by decide)⟩;obtain⟨n0,M0,m1,m2,m3,m4,m5⟩:=h.fl.1;obtain rfl:=m1.uniq hM;refine⟨n0,M0,ny m1 hc (fun s=>?_),m2,m3,m4,fun t v hv=>?_⟩
 ·rcases hS _ s with q|q
  ·rw[h.fl.2]at q;simp at q
  ·rw[h.fl.2]at q;simp at q
 ·obtain⟨a1,a2⟩:=m5 t v hv;refine⟨a1.jM hc he s1 fun g hg s=>?_,fun g hg=>by rw[he _ (a1.lt g hg)];exact a2 g hg⟩;rcases hS _ s with q|q
  ·rw[a2 g hg]at q;simp at q
  ·have:=hB t v hv g hg;omega
theorem gz.ahC(h:gz Z w b ns cs f L)(ho:wO w aH 3 L.mf r n M left Ec)(hn:n<=1000000000){t:Nat}(ht:t<=900000000)(Gr:(M (.int .i64 (t:Nat))).isSome=true)(v':aJ)(l':List (Nat×Fm))(hv:NH Z w v' l')(htag:∀g,v'.ownBlock=az g->Z g=(2,4,t,0)):∃w',(oz 90 (.map (az L.mf)) (ah ag t) v').run aH w=.ok () w'/\wO w' aH 3 L.mf r n (uC M (.int .i64 t) v') left Ec/\gz Z w' b ns cs {f with fl:=fun s=>if s=t then l' else f.fl s} L/\Ch (· =L.mf) w w':=by
 obtain⟨w',hrun,ho2,hg,hs⟩:=ho.put (int_keyed underlying3) underlying90 (by unfold fJ;omega) (keyOf_int_mk underlying3 (pO (t:Int) (by omega) (by omega))) Gr v';have mT:=h.fl.2;have hc:Ch (· =L.mf) w w':=(Ch.refl (· =L.mf) w).grown hg fun g hg=>.inl (mg hg).symm;have g:=h.Rf (fun k=>k=3) (dV:=Z) hc (fun _ _=>rfl) fun k s=>.inr (by rw[s,mT];exact⟨rfl,rfl⟩);refine⟨w',hrun,ho2,⟨⟨g.root (by decide),g.iO.1⟩,g.plan,g.aI,g.xP,g.Kc,g.bx,g.up (by decide),g.r0,g.r1,⟨g.bk (by decide),g.IZ⟩,⟨?_,mT⟩,⟨g.lim (by decide) (by decide),g.Kw⟩,g.came (by decide),g.gone (by decide),g.lost (by decide)⟩,hc⟩;obtain⟨n0,M0,m1,m2,m3,m4,m5⟩:=h.fl.1;obtain rfl:=m1.uniq ho.omap;have c1:∀k,k=L.mf->(Z k).1≠1:=fun k s=>by rw[s,mT];decide
 refine vH.put (n:=n) m3 m4 ht ho2.omap ⟨?_,fun g hg=>htag g hg⟩ (fun s hs=>if_neg hs) fun s v hs hv'=>?_
 ·show NH Z w' v' (if t=t then l' else f.fl t);rw[if_pos rfl];exact hv.jM hc (fun _ _=>rfl) c1 fun g hg s=>by have:=htag g hg;rw[s,mT]at this;simp at this
 ·obtain⟨a1,a2⟩:=m5 s v hv';exact⟨a1.jM hc (fun _ _=>rfl) c1 fun g hg s=>by have:=a2 g hg;rw[s,mT]at this;simp at this,fun g hg=>a2 g hg⟩
theorem gz.afm(h:gz Z w b ns cs f L)(ho:wO w aH 3 L.ml r n M left Ec)(hn:n<=1000000000){t:Nat}(ht:t<=900000000){v:aJ}(Gr:M (.int .i64 (t:Nat))=az v){w2:aG}(Pv:Ch (fun k=>v.ownBlock=az k) w w2)(hr:(Z r).1≠2)(v':aJ)(l':List (Nat×Nat×Int))(hv:JU w2 v' l')(hvo:v'.ownBlock=v.ownBlock):∃w',(oz 91 (.map (az L.ml)) (ah ag t) v').run aH w2=.ok () w'/\wO w' aH 3 L.ml r n (uC M (.int .i64 t) v') left Ec/\gz Z w' b ns cs {f with lim:=fun s=>if s=t then l' else f.lim s} L/\Ch (fun k=>k=L.ml\/v.ownBlock=az k) w w':=by
 obtain⟨n0,M0,m1,m2,m3,m4,m5⟩:=h.lim.1;obtain rfl:=m1.uniq ho.omap;have mT:=h.lim.2;obtain⟨b1,b2⟩:=m5 t v Gr;have ho1:wO w2 aH 3 L.ml r n M0 left Ec:=ho.ch Pv (fun s=>by have:=b2 _ s;rw[mT]at this;simp at this) fun s=>hr (by rw[b2 _ s]);obtain⟨w',hrun,ho2,hg,hs⟩:=ho1.put (int_keyed underlying3) underlying91 (by unfold fJ;omega) (keyOf_int_mk underlying3 (pO (t:Int) (by omega) (by omega))) (by rw[Gr];rfl) v';have hc3:Ch (· =L.ml) w2 w':=(Ch.refl (· =L.ml) w2).grown hg fun g hg=>.inl (mg hg).symm;have hc:Ch (fun k=>k=L.ml\/v.ownBlock=az k) w w':=(Pv.mono fun k _ q=>.inr q).trans hc3 fun i _ q=>.inl q;have g:=h.Rf (fun k=>k=5\/k=6) (dV:=Z) hc (fun _ _=>rfl) fun k s=>.inr (by
  rcases s with s|s
  ·rw[s,mT];exact⟨rfl,.inl rfl⟩
  ·rw[b2 k s];exact⟨rfl,.inr rfl⟩)
 refine⟨w',hrun,ho2,⟨⟨g.root (by decide),g.iO.1⟩,g.plan,g.aI,g.xP,g.Kc,g.bx,g.up (by decide),g.r0,g.r1,⟨g.bk (by decide),g.IZ⟩,⟨g.fl (by decide) (by decide),g.ZM⟩,⟨?_,mT⟩,g.came (by decide),g.gone (by decide),g.lost (by decide)⟩,hc⟩;refine vH.put (n:=n) m3 m4 ht ho2.omap ⟨?_,fun g hg=>b2 g (hvo▸hg)⟩ (fun s hs=>if_neg hs) fun s u hs hu=>?_
 ·show JU w' v' (if t=t then l' else f.lim t);rw[if_pos rfl];exact fT hv hc3 fun g hg s=>by have:=b2 g (hvo▸hg);rw[s,mT]at this;simp at this
 ·obtain⟨a1,a2⟩:=m5 s u hu;refine⟨fT a1 hc fun g hg q=>?_,fun g hg=>a2 g hg⟩;rcases q with q|q
  ·have:=a2 g hg;rw[q,mT]at this;simp at this
  ·have q1:=a2 g hg;rw[b2 g q]at q1;simp at q1;exact hs q1.symm
end
def oJ(left:Lit->Bool)(t:Nat):Bool:=left (.int .i64 (t:Nat))
def Mq(B:Nat)(fl:Nat->List (Nat×Fm))(i:Nat)(left:Nat->Bool):List (Nat×Fm):=(aN B).flatMap fun t=>if left t then[]else El i (fl t)
def Ca(f:dB)(i:Nat)(left:Nat->Bool)(dead:List (Nat×Fm)):dB:=dead.foldl dB.iV {f with up:=f.up.set i false,mW:=true,fl:=fun t=>if left t then f.fl t else jJ i (f.fl t)}
theorem aic(f:dB)(i:Nat)(left:Nat->Bool)(dead:List (Nat×Fm)):(Ca f i left dead).fl=fun t=>if left t then f.fl t else jJ i (f.fl t):=(wC dead _).1
theorem acd(f:dB)(i t:Nat)(left yZ:Nat->Bool)(dead d:List (Nat×Fm))(hl:left t=true)(h:∀s,yZ s=(left s&&!(s==t))):({d.foldl dB.iV (Ca f i left dead)with fl:=fun s=>if s=t then jJ i (f.fl t)else(d.foldl dB.iV (Ca f i left dead)).fl s}:dB)=Ca f i yZ (dead++d):=by
 unfold Ca;rw[fV];obtain⟨G,hG⟩:∃G:dB,({f with up:=f.up.set i false,mW:=true,fl:=fun t=>if left t then f.fl t else jJ i (f.fl t)}:dB)=G:=⟨_,rfl⟩;have e2:({f with up:=f.up.set i false,mW:=true,fl:=fun t=>if yZ t then f.fl t else jJ i (f.fl t)}:dB)={G with fl:=fun t=>if yZ t then f.fl t else jJ i (f.fl t)}:=by rw[<-hG]
 have e3:(fun s=>if s=t then jJ i (f.fl t)else(d.foldl dB.iV (dead.foldl dB.iV G)).fl s)=fun t=>if yZ t then f.fl t else jJ i (f.fl t):=by
  rw[(wC d _).1,(wC dead _).1,<-hG];funext s;dsimp only;rw[h s];by_cases q:s=t
  ·subst q;rw[if_pos rfl];simp
  ·rw[if_neg q];simp[q]
 have a1:=FH dead G fun t=>if yZ t then f.fl t else jJ i (f.fl t)
 have a2:=FH d (dead.foldl dB.iV G) fun t=>if yZ t then f.fl t else jJ i (f.fl t)
 rw[hG,e2,a1,a2,e3]
theorem ace(B:Nat)(fl:Nat->List (Nat×Fm))(i t:Nat)(left yZ:Nat->Bool)(hB:∀s,B<=s->fl s=[])(hl:left t=true)(h:∀s,yZ s=(left s&&!(s==t))){dead:List (Nat×Fm)}(hd:dead.Perm (Mq B fl i left)):(dead++El i (fl t)).Perm (Mq B fl i yZ):=by
 haveI:DecidableEq (Nat×Fm):=fun a b=>Classical.propDecidable _
 refine Qo fun μ=>?_;rw[nG,La hd];unfold Mq;rw[ve,ve];by_cases ht:t<B
 ·have:=zx (fun s=>sm μ (if left s=true then[]else El i (fl s))) B t (sm μ (El i (fl t))) ht;rw[if_pos hl,wK]at this;have e:sm (fun s=>sm μ (if yZ s=true then[]else El i (fl s))) (aN B)=sm (fun s=>if s=t then sm μ (El i (fl t))else sm μ (if left s=true then[]else El i (fl s))) (aN B):=by
   apply yD;intro s _;rw[h s];by_cases q:s=t
   ·subst q;rw[if_pos rfl];simp
   ·rw[if_neg q];simp[q]
  rw[e];omega
 ·have e0:fl t=[]:=hB t (by omega);have e1:El i (fl t)=[]:=by rw[e0];rfl
  rw[e1,wK];have e:sm (fun s=>sm μ (if yZ s=true then[]else El i (fl s))) (aN B)=sm (fun s=>sm μ (if left s=true then[]else El i (fl s))) (aN B):=by
   apply yD;intro s hs;have hs:=dK.1 hs;rw[h s];have q:s≠t:=by omega
   simp[q]
  rw[e];omega
end
section
open Go.RowKit Go.Maps
attribute [local go_sem ↓] Go.wp_at_zero Go.wp_at_succ
def LW(f:dB)(i:Int):Int:=if i<0\/(f.up.length:Int)<=i then 2 else 0
def De(Z:Own)(w:aG)(b:Nat)(ns:List Nd)(cs:List Cb)(f:dB)(i:Int)(e:Ending)(w':aG):Prop:=
 e=ax (ah ag (LW f i))/\∃g,akw f i g/\∃dV L',gz dV w' b ns cs g L'/\qA Z w dV w'
structure UC(Z:Own)(base t:Nat)(w:aG)(v:aJ)(l:List (Nat×Fm)):Prop where
 row:∃Q:List Fw,Q.map (·.1)=l/\w.ownsRow base 122 7 v Q.length (Q.flatMap Il)/\∀x∈Q,iX Z w x.1.2.data x.2
 tag:∀g,v.ownBlock=az g->Z g=(2,4,t,0)
def UJ(vP:Own)(w3:aG)(b:Nat)(ns:List Nd)(cs:List Cb)(L:rY)(f:dB)(i r:Nat)(wr:aG):Prop:=
 ∃dV L' left Ec n M dead,gz dV wr b ns cs (Ca f i (oJ left) dead) L'/\qA vP w3 dV wr/\Li L L'/\wO wr aH 3 L.mf r n M left Ec/\n<=1000000000/\(dV r).1=0/\(∀l v,M l=az v->∃t:Nat,l=.int .i64 t/\t<=900000000)/\(∀l,left l=true->(M l).isSome=true)/\∀B,f.now+101<=B->dead.Perm (Mq B f.fl i (oJ left))
def Ie(vU:Own)(w0:aG)(b:Nat)(ns:List Nd)(cs:List Cb)(L:rY)(F:dB)(i t:Nat)(lq:List (Nat×Fm))(v s:aJ)(wr:aG):Prop:=
 ∃(k:Nat) (dV:Own) (L':rY),k<=lq.length/\s=ah ag k/\gz dV wr b ns cs ((El i (lq.take k)).foldl dB.iV F) L'/\Ck vU w0 dV wr/\Li L L'/\UC dV w0.heap.size t wr v (jJ i (lq.take k))
def adM(xV:Own)(w3:aG)(vP:Own)(b:Nat)(ns:List Nd)(cs:List Cb)(L:rY)(F:dB)(i r:Nat)(wr:aG):Prop:=
 ∃left Ec n M,gz vP wr b ns cs {F with lim:=fun t=>if oJ left t then F.lim t else jJ i (F.lim t)} L/\qA xV w3 vP wr/\wO wr aH 3 L.ml r n M left Ec/\n<=1000000000/\(vP r).1=0/\(∀l v,M l=az v->∃t:Nat,l=.int .i64 t/\t<=900000000)/\(∀l,left l=true->(M l).isSome=true)
theorem UC.ch{Z dV:Own}{base t:Nat}{w w':aG}{v:aJ}{l:List (Nat×Fm)}{S:Nat->Prop}(h:UC Z base t w v l)(hc:Ch S w w')(he:∀k,k<w.heap.size->dV k=Z k)(hS:∀k,S k->(Z k).1≠1/\¬((Z k).1=2/\(Z k).2.1=4)):UC dV base t w' v l:=by obtain⟨⟨Q,q1,q2,q3⟩,tg⟩:=h;exact⟨⟨Q,q1,fT q2 hc fun g hg s=>(hS g s).2 (by rw[tg g hg];exact⟨rfl,rfl⟩),fun x hx=>(q3 x hx).jM hc he fun k s=>(hS k s).1⟩,fun g hg=>by rw[he _ (q2.lt g hg).2];exact tg g hg⟩
theorem UC.form{Z:Own}{base t:Nat}{w:aG}{v:aJ}{l:List (Nat×Fm)}(h:UC Z base t w v l):∃a c,v=ay a l.length c:=by obtain⟨⟨Q,q1,q2,_⟩,_⟩:=h;rw[<-q1,dW];exact dX q2
theorem Wi{α:Type}(d:Nat×α)(l:List (Nat×α))(i k:Nat)(hk:k<l.length):El i (l.take (k+1))=if((l.getD k d).1/2==i)=true then El i (l.take k)++[l.getD k d]else El i (l.take k):=by
 unfold El;have e:l.getD k d=l[k]:=by simp[bS,hk]
 rw[e,oh,cZ hk,zQ,ji];cases h:(l[k].1/2==i)with
 |true=>simp[h]
 |false=>simp[h]
theorem Qj{α:Type}(d:Nat×α)(l:List (Nat×α))(i k:Nat)(hk:k<l.length):jJ i (l.take (k+1))=if((l.getD k d).1/2==i)=true then jJ i (l.take k)else jJ i (l.take k)++[l.getD k d]:=by
 unfold jJ;have e:l.getD k d=l[k]:=by simp[bS,hk]
 rw[e,oh,cZ hk,zQ,ji];cases h:(l[k].1/2==i)with
 |true=>simp[h,bne]
 |false=>simp[h,bne]
theorem acf(f:dB)(i:Nat)(left:Nat->Bool)(h:∀t,left t=false->f.fl t=[]):Ca f i left []={f with up:=f.up.set i false,mW:=true}/\∀B,Mq B f.fl i left=[]:=by
 have e:(fun t=>if left t then f.fl t else jJ i (f.fl t))=f.fl:=by
  funext t;cases q:left t with
  |true=>rfl
  |false=>rw[h t q];rfl
 refine⟨?_,fun B=>?_⟩
 ·show({f with up:=f.up.set i false,mW:=true,fl:=fun t=>if left t then f.fl t else jJ i (f.fl t)}:dB)=_;rw[e]
 ·unfold Mq;rw[List.flatMap_eq_nil_iff];intro t _;cases q:left t with
  |true=>rfl
  |false=>rw[h t q];rfl
theorem acb(F:dB)(i:Nat)(left:Nat->Bool)(h:∀t,left t=false->F.lim t=[]):({F with lim:=fun t=>if left t then F.lim t else jJ i (F.lim t)}:dB)=F:=by
 have e:(fun t=>if left t then F.lim t else jJ i (F.lim t))=F.lim:=by
  funext t;cases q:left t with
  |true=>rfl
  |false=>rw[h t q];rfl
 rw[e]
theorem afn(F:dB)(i t:Nat)(left yZ:Nat->Bool)(hl:left t=true)(h:∀s,yZ s=(left s&&!(s==t))):({F with lim:=fun s=>if s=t then jJ i (F.lim t)else(if left s then F.lim s else jJ i (F.lim s))}:dB)={F with lim:=fun s=>if yZ s then F.lim s else jJ i (F.lim s)}:=by
 have e:(fun s=>if s=t then jJ i (F.lim t)else(if left s then F.lim s else jJ i (F.lim s)))=fun s=>if yZ s then F.lim s else jJ i (F.lim s):=by
  funext s;rw[h s];by_cases q:s=t
  ·subst q;rw[if_pos rfl];simp
  ·rw[if_neg q];simp[q]
 rw[e]
theorem Jh(left:Lit->Bool)(t s:Nat):oJ (fun x=>left x&&!x.sameKey (.int .i64 (t:Nat))) s=(oJ left s&&!(s==t)):=by
 unfold oJ;dsimp only;have kl:WideAt.IsKeyLit (.int .i64 (t:Int)):=trivial;have e:(Lit.int .i64 (s:Int)).sameKey (.int .i64 (t:Int))=(s==t):=by
  by_cases q:s=t
  ·subst q;rw[WideAt.sameKey_self kl];simp
  ·have:(s==t)=false:=by simpa using q
   rw[this];cases q2:(Lit.int .i64 (s:Int)).sameKey (.int .i64 (t:Int))with
   |false=>rfl
   |true=>rw[WideAt.sameKey_iff kl]at q2;exact absurd (Ky.1 q2) q
 rw[e]
theorem dH.ayO{ns:List Nd}{cs:List Cb}{f:dB}{N:Nat}(h:dH ns cs f N)(i:Nat)(left:Nat->Bool){dead:List (Nat×Fm)}(hd:∀x∈dead,x.1<2*cs.length/\qR ns f x.2):dH ns cs (Ca f i left dead) (N+2*dead.length)/\sW ({f with up:=f.up.set i false,mW:=true}:dB) (Ca f i left dead):=by
 have k:=h;have b:dH ns cs ({f with up:=f.up.set i false,mW:=true,fl:=fun t=>if left t then f.fl t else jJ i (f.fl t)}:dB) N:={
  k0:=k.k0,k1:=k.k1,rl:=k.rl,rv:=k.rv,bl:=k.bl,box:=k.box,q:=fun i p c x hi xh qx hx=>(k.q i p c x hi xh qx hx).qY rfl (aC _),up:=by show(f.up.set i false).length=_;rw[jN];exact k.up,r0:=k.r0,r1:=k.r1,bn:=k.bn,a0:=k.a0,a1:=k.a1,now:=k.now,last:=k.last,ll:=k.ll,cm:=k.cm,cv:=k.cv,gn:=k.gn,gv:=k.gv,lim:=k.lim,Ei:=k.Ei
  fl:=fun t x hx=>by
   have hx:x∈(if left t then f.fl t else jJ i (f.fl t)):=hx;split at hx
   ·exact⟨(k.fl t x hx).1,(k.fl t x hx).2.qY rfl (aC _)⟩
   ·have hx:=(iR.1 hx).1;exact⟨(k.fl t x hx).1,(k.fl t x hx).2.qY rfl (aC _)⟩
  Ee:=fun t=>by
   show(if left t then f.fl t else jJ i (f.fl t)).length<=N;split
   ·exact k.Ee t
   ·exact eY (pV _ _) (k.Ee t)}
 have s:=sW.fold dB.iV sW.iV dead ({f with up:=f.up.set i false,mW:=true,fl:=fun t=>if left t then f.fl t else jJ i (f.fl t)}:dB);exact⟨dH.Kq dead b fun x hx=>⟨(hd x hx).1,(hd x hx).2.qY rfl (aC _)⟩,⟨s.c,s.rm,s.up,s.r0,s.r1,s.bn,s.pe,s.nw,s.la⟩⟩
theorem aid(B:Nat)(fl:Nat->List (Nat×Fm))(i:Nat)(left:Nat->Bool):(Mq B fl i left).length<=(yw B fl i).length:=by
 rw[<-DC,<-DC];unfold Mq yw;rw[ve,ve];apply asA;intro t _;split
 ·exact bJ _
 ·exact aC _
theorem TZ(f:dB)(x:Nat×Fm)(X:Nat->List (Nat×Nat×Int)):({f with lim:=X}:dB).iV x={f.iV x with lim:=X}:=by
 unfold dB.iV dB.oG dB.rem dB.gQ dB.alive;simp only;split
 ·split
  ·rfl
  ·split<;>rfl
 ·split
  ·split<;>rfl
  ·split<;>rfl
theorem Kr:∀(l:List (Nat×Fm)) (f:dB) (X:Nat->List (Nat×Nat×Int)),l.foldl dB.iV {f with lim:=X}={l.foldl dB.iV f with lim:=X}
 |[],f,X=>rfl
 |x::l,f,X=>by rw[dS,TZ,Kr l (f.iV x) X,dS]
theorem mid_end(f:dB)(i:Nat)(left:Nat->Bool)(h:∀t,left t=false)(dead:List (Nat×Fm)):({Ca f i left dead with lim:=fun t=>jJ i ((Ca f i left dead).lim t)}:dB)=f.Kj i dead/\∀B,Mq B f.fl i left=yw B f.fl i:=by
 have e:(fun t=>if left t then f.fl t else jJ i (f.fl t))=fun t=>jJ i (f.fl t):=by funext t;rw[h t];rfl
 have el:(Ca f i left dead).lim=f.lim:=(wC dead _).2.2;refine⟨?_,fun B=>?_⟩
 ·rw[el];have:=Kr dead ({f with up:=f.up.set i false,mW:=true,fl:=fun t=>if left t then f.fl t else jJ i (f.fl t)}:dB) fun t=>jJ i (f.lim t);unfold dB.Kj dB.Pg;unfold Ca;rw[<-this,e]
 ·unfold Mq yw;congr 1;funext t;rw[h t];rfl
theorem amo{n:Nat}(h:n<=700000000):n+1<=fJ:=by unfold fJ;omega
theorem amn{n:Nat}(h:n<=700000000):(n+1)*72<=140737488355328:=by omega
theorem Ie.kept{dV xN:Own}{w5 wr wb w8:aG}{b:Nat}{ns:List Nd}{cs:List Cb}{L' L6:rY}{F:dB}{q t k n':Nat}{lq:List (Nat×Fm)}{M0:Lit->Option aJ}{v8 ka:aJ}{Q6:List Fw}{x:Fw}{o1:Obj}(hk:k<lq.length)(hx:lq.getD k (0,default)=x.1)(nJ:¬x.1.1/2=q)(M6:gz xN wr b ns cs ((El q (lq.take k)).foldl dB.iV F) L6)(N6:Ck dV w5 xN wr)(S6:Li L' L6)(OM:jL wr aH 3 L6.mf n' M0)(EB:∀s u,M0 (.int .i64 (s:Nat))=az u->∀g,u.ownBlock=az g->g<w5.heap.size)(z1:Q6.map (·.1)=jJ q (lq.take k))(z2:wr.ownsRow w5.heap.size 122 7 ka Q6.length (Q6.flatMap Il))(z3:∀x∈Q6,iX xN wr x.1.2.data x.2)(z4:∀g,ka.ownBlock=az g->xN g=(2,4,t,0))(DAT:iX xN wr x.1.2.data x.2)(hb:Below wr.heap.size wr wb)(Jp:w8.ownsRow w5.heap.size 122 7 v8 (Q6.length+1) (Q6.flatMap Il++Il x))(Bl:(wb.alloc o1).grownBy w8 ka.ownBlock)(Mm:v8.ownBlock=ka.ownBlock\/v8.ownBlock=az (wb.heap.size+1)):Ie dV w5 b ns cs L' F q t lq v8 (ah ag ((k:Int)+1)) w8:=by
 have hc8:Ch (fun j=>ka.ownBlock=az j) wr w8:=((Ch.dw hb).alloc _).grown Bl fun g hg=>.inl hg;have ob:∀j,ka.ownBlock=az j->w5.heap.size<=j/\j<wr.heap.size:=fun j hj=>z2.lt j hj;obtain⟨Oq,arp⟩:∃Oq:Own,Oq=fun j=>if v8.ownBlock=az j then(2,4,t,0)else fr xN wr.heap.size j:=⟨_,rfl⟩
 have he:∀j,j<wr.heap.size->Oq j=xN j:=fun j hj=>by
  rw[arp];dsimp only;by_cases e:v8.ownBlock=az j
  ·rw[if_pos e];rcases Mm with e1|e1
   ·rw[e1]at e;exact(z4 j e).symm
   ·rw[e1]at e;injection e with e;have:=hb.size;omega
  ·rw[if_neg e,iD hj]
 have m8:=M6.free hc8 he OM EB fun j s=>.inr ⟨(ob j s).1,by rw[z4 j s],by rw[z4 j s]⟩;have sOn:=Wi (0,default) lq q k hk;have afQ:=Qj (0,default) lq q k hk;have nb:¬(x.1.1/2==q)=true:=by simp[nJ]
 rw[hx,if_neg nb]at sOn afQ;refine⟨k+1,Oq,L6,by omega,by congr 1,by rw[sOn];exact m8,⟨N6.ch.trans hc8 fun i hi s=>?_,fun i hi=>?_⟩,S6,⟨⟨Q6++[x],?_,?_,fun y hy=>?_⟩,fun g hg=>?_⟩⟩
 ·have:=(ob i s).1;omega
 ·rw[he i (Nat.lt_of_lt_of_le hi N6.ch.size)];exact N6.ext i hi
 ·rw[afQ,fF,z1];rfl
 ·rw[bW,iH,List.flatMap_append,List.flatMap_singleton];exact Jp
 ·rcases dU.1 hy with hy|hy
  ·exact(z3 y hy).jM hc8 he fun j s=>by rw[z4 j s];simp
  ·rw[dh]at hy;subst hy;exact DAT.jM hc8 he fun j s=>by rw[z4 j s];simp
 ·rw[arp];exact if_pos hg
theorem Ie.dead{dV xN Oq:Own}{w5 wr w8:aG}{b:Nat}{ns:List Nd}{cs:List Cb}{L' L6 L8:rY}{F:dB}{q t k:Nat}{lq:List (Nat×Fm)}{ka:aJ}{x:Nat×Fm}(hk:k<lq.length)(hx:lq.getD k (0,default)=x)(he:x.1/2=q)(N6:Ck dV w5 xN wr)(S6:Li L' L6)(KP:UC xN w5.heap.size t wr ka (jJ q (lq.take k)))(m8:gz Oq w8 b ns cs (((El q (lq.take k)).foldl dB.iV F).iV x) L8)(n8:Ck xN wr Oq w8)(s8:Li L6 L8):Ie dV w5 b ns cs L' F q t lq ka (.int .i64 ((k:Int)+1)) w8:=by
 have sOn:=Wi (0,default) lq q k hk;have afQ:=Qj (0,default) lq q k hk;have nb:(x.1/2==q)=true:=by simp[he]
 rw[hx,if_pos nb]at sOn afQ;refine⟨k+1,Oq,L8,by omega,by congr 1,by rw[sOn,fV];exact m8,N6.trans n8,S6.trans s8,?_⟩;rw[afQ];exact KP.ch n8.ch n8.ext fun j s=>⟨by have:=s.1;omega,fun e=>s.2 ⟨e.1,by rw[e.2];decide,by rw[e.2];decide⟩⟩
theorem UJ.next{xV dV xN:Own}{w3 w5 wr:aG}{b:Nat}{ns:List Nd}{cs:List Cb}{L L' L6:rY}{f F:dB}{q t r n' abn:Nat}{lq:List (Nat×Fm)}{M0:Lit->Option aJ}{left:Lit->Bool}{ka:aJ}{dead:List (Nat×Fm)}(m6:gz xN wr b ns cs ((El q lq).foldl dB.iV F) L6)(n6:Ck dV w5 xN wr)(s6:Li L' L6)(sm:Li L L')(kp:UC xN w5.heap.size t wr ka (jJ q lq))(ho:wO w5 aH 3 L.mf r n' M0 (fun x=>left x&&!x.sameKey (.int .i64 (t:Nat))) abn)(hn:n'<=1000000000)(ht:t<=900000000)(Gr:(M0 (.int .i64 (t:Nat))).isSome=true)(mt:dV L.mf=(2,3,0,0))(tr:(dV r).1=0)(N5:qA xV w3 dV w5)(hkeys:∀l v,M0 l=az v->∃t:Nat,l=.int .i64 t/\t<=900000000)(ahL:∀l,left l=true->(M0 l).isSome=true)(hperm:∀B,f.now+101<=B->(dead++El q lq).Perm (Mq B f.fl q (oJ fun x=>left x&&!x.sameKey (.int .i64 (t:Nat)))))(mst:({(El q lq).foldl dB.iV F with fl:=fun s=>if s=t then jJ q lq else((El q lq).foldl dB.iV F).fl s}:dB)=Ca f q (oJ fun x=>left x&&!x.sameKey (.int .i64 (t:Nat))) (dead++El q lq)):∃w7,(oz 90 (.map (az L.mf)) (.int .i64 t) ka).run aH wr=.ok () w7/\UJ xV w3 b ns cs L f q r w7/\w7.rangeLeft L.mf r=abn/\wr.cell? ⟨b,15,aj⟩=az (.map (az L.mf)):=by
 have e6:L6.mf=L.mf:=by rw[s6.e];show L'.mf=L.mf;rw[sm.e]
 have rlt:=ho.ltR;have ho6:wO wr aH 3 L6.mf r n' M0 (fun x=>left x&&!x.sameKey (.int .i64 (t:Nat))) abn:=by
  rw[e6];refine ho.ch n6.ch (fun s=>?_) fun s=>?_
  ·unfold Tn at s;rw[mt]at s;simp at s
  ·have:=s.1;rw[tr]at this;omega
 obtain⟨⟨Q6,z1,z2,z3⟩,z4⟩:=kp;obtain⟨w7,amX,ho7,m7,c7⟩:=m6.ahC ho6 hn ht Gr ka (jJ q lq) ⟨Q6,z1,rX z2 (bJ _),z3⟩ z4;have c15:wr.cell? ⟨b,15,aj⟩=az (.map (az L6.mf)):=m6.xu;have rl:=ho7.left_eq;have mT6:=m6.fl.2;rw[e6]at rl ho7 amX c15;have N:=N5.trans n6.x;rw[mst]at m7;refine⟨w7,amX,⟨xN,L6,_,abn,n',_,_,m7,⟨N.ch.trans c7 fun i hi s=>?_,N.ext⟩,sm.trans s6,ho7,hn,?_,fun l u hu=>?_,fun l hl'=>?_,hperm⟩,rl,c15⟩
 ·show 2<=(xV i).1;rw[<-N.ext i hi,s,mT6];exact aC 2
 ·rw[n6.ext r rlt];exact tr
 ·unfold uC at hu;split at hu
  ·rename_i e5;exact⟨t,wh e5,ht⟩
  ·exact hkeys l u hu
 ·unfold uC;split
  ·rfl
  ·exact ahL l (by simp only[dD]at hl';exact hl'.1)
theorem aeG(f:dB)(N:Nat)(i:Int)(b:Nat)(ns:List Nd)(cs:List Cb)(L:rY)(Z:Own)(w:aG)(h:gz Z w b ns cs f L)(hp:nW ns cs)(qX:dH ns cs f N)(hfl:yJ cs f)(hN:N<=700000000)(B0:Nat)(hB0:f.now+101<=B0)(hgo:(yw B0 f.fl i.toNat).length<=1000000):Calls aH 16 #[pt b,ah ag i] w (De Z w b ns cs f i):=by
 have UL:=aA qX.up;have C32:=aA hp.Ll;obtain⟨w1,gK⟩:∃w1:aG,w.alloc (af #[ah ag i] 3)=w1:=⟨_,rfl⟩;have B1:Below w.heap.size w w1:=by rw[<-gK];exact(aS _ _).alloc (aC _) _
 have m1:gz (fr Z w.heap.size) w1 b ns cs f L:=h.below B1;have n1:qA Z w (fr Z w.heap.size) w1:=qA.dw B1;obtain⟨bC,hbC⟩:∃bC,w.heap.size=bC:=⟨_,rfl⟩;have VC:dG w1 bC 3 #[ah ag i]:=by rw[<-gK,<-hbC];exact dG.new w _ _
 have tC:(fr Z w.heap.size bC).1=0:=by rw[<-hbC,mH (aC _)]
 obtain⟨vP,abN⟩:∃vP,fr Z w.heap.size=vP:=⟨_,rfl⟩;rw[abN]at m1 n1 tC;have kc:w1.cell? ⟨bC,0,aj⟩=az (ah ag i):=VC.cell 0;obtain⟨a,cap,eU⟩:=m1.up.form;have c6:w1.cell? ⟨b,6,aj⟩=az (ay a f.up.length cap):=by rw[m1.xu];show az L.vu=_;rw[eU]
 have H1:aZ (∀e w',gz vP w' b ns cs f L->qA Z w vP w'->¬Zr f i->e=LW f i->De Z w b ns cs f i (ax (ah ag e)) w'):=fun e w' a1 a2 h1 h2=>⟨by rw[h2],f,.inl ⟨h1,rfl⟩,vP,L,a1,a2⟩;unfold pt;by_cases h1:i<0
 ·have d1:decide (i<0)=true:=decide_eq_true h1;have F:=aA (H1.o 2 _ m1.drew n1.drew (fun q=>by have:=q.1;omega) (by unfold LW;rw[if_pos (.inl h1)]));generalize De Z w b ns cs f i=NZ at *;clear h m1 n1 VC tC qX hp hfl hgo H1;go_enter func16,ntmps16;go_wp2_with fail;go_region;go_wp2_with fail;exact F.o
 ·have d1:decide (i<0)=false:=decide_eq_false h1;by_cases h2:(f.up.length:Int)<=i
  ·have d2:decide ((f.up.length:Int)<=i)=true:=decide_eq_true h2;have F:=aA (H1.o 2 _ m1.drew n1.drew (fun q=>by have:=q.2.1;omega) (by unfold LW;rw[if_pos (.inr h2)]));generalize De Z w b ns cs f i=NZ at *;clear h m1 n1 VC tC qX hp hfl hgo H1;go_enter func16,ntmps16;go_wp2_with fail;go_region;go_wp2_with fail;exact F.o
  ·obtain⟨q,rfl⟩:∃q:Nat,i=q:=⟨i.toNat,by omega⟩;have hk:q<f.up.length:=by omega
   have d2:decide ((f.up.length:Int)<=(q:Int))=false:=decide_eq_false h2;have ce:LW f (q:Int)=0:=(by unfold LW;rw[if_neg (by omega)]);obtain⟨gu,cu,eG⟩:=m1.up.OJ (by simp;omega);have ck:w1.cell? ⟨gu,q,aj⟩=az (.bool (f.up.getD q false)):=(by rw[m1.up.cellOf eG (by simpa using hk)];simp[bS,hk]);have fk:w1.frozen? ⟨gu,q,aj⟩=false:=(by obtain⟨g',c',e',_,k5,_⟩:=m1.up.at_ (i:=q) (by simpa using hk);rw[eG]at e';injection e' with e1;injection e1 with e1;injection e1 with e1;rw[e1];exact k5);clear c6;have c6:w1.cell? ⟨b,6,aj⟩=az (ay (az ⟨gu,0,aj⟩) f.up.length cu):=(by rw[m1.xu];show az L.vu=_;rw[eG]);have k0:(0:Int)<=(q:Int):=(by omega);have k1:(q:Int)<(f.up.length:Int):=(by omega);cases yS:f.up.getD q false with
   |false=>rw[yS]at ck;have F:=aA (H1.o 0 _ m1.drew.drew n1.drew.drew (fun z=>by have h3:=z.2.2;rw[cO,yS]at h3;cases h3) ce.symm);generalize De Z w b ns cs f (q:Int)=NZ at *;clear h m1 n1 VC tC qX hp hfl hgo H1 ce eU eG h2 yS;go_enter func16,ntmps16;go_wp2_with fail;go_region;go_wp2_with fail;go_region;go_wp2_with fail;exact F.o
   |true=>
    rw[yS]at ck;obtain⟨w2,Lp⟩:∃w2:aG,w1.drew.drew.drew.setCell ⟨gu,q,aj⟩ (.bool false)=w2:=⟨_,rfl⟩;obtain⟨g1,g2,g3⟩:=m1.drew.drew.drew.ajQ hk false eG w2 Lp.symm;obtain⟨xV,m3,n3⟩:=g3;obtain⟨w3,zZ⟩:∃w3:aG,w2.setCell ⟨b,12,aj⟩ (.bool true)=w3:=⟨_,rfl⟩;rw[zZ]at m3 n3;have c11:w3.cell? ⟨b,15,aj⟩=az (.map (az L.mf)):=m3.xu;obtain⟨n,M,o1,o2,o3,o4,o5⟩:=m3.fl.1;have OM:=aA o1;generalize Ex:De Z w b ns cs f (q:Int)=NZ;have Tf:=aA Ex;have M3:=aA m3;have N3:=aA (n1.drew.drew.drew.trans n3);have VCX:aZ (∀dV w',qA xV w3 dV w'->(dV bC).1=0/\dG w' bC 3 #[ah ag (q:Int)]):=fun dV w' n=>by have l1:=VC.lt;have t3:(xV bC).1=0:=(by rw[n3.ext bC l1];exact tC);have b3:dG w3 bC 3 #[ah ag (q:Int)]:=dG.ch (w:=w1.drew.drew.drew) VC n3.ch (by rw[tC];omega);exact⟨by rw[n.ext bC b3.lt];exact t3,b3.ch n.ch (by rw[t3];omega)⟩
    have CK:aZ (Zr f (q:Int)):=⟨k0,k1,by rw[cO];exact yS⟩;clear h m1 n1 H1 eU eG h2 yS m3 n3 o1 Ex;go_enter func16,ntmps16;go_wp2_with fail;go_region;go_wp2_with fail;go_region;go_wp2_with fail;refine fZ 6 (fun wq=>wq.cell? ⟨b,6,aj⟩=az (ay (az ⟨gu,0,aj⟩) f.up.length cu)/\wq.cell? ⟨bC,0,aj⟩=az (ah ag q)) (by kernel_rfl) ⟨c6,kc⟩ (fun aW=>?_);refine bH.tk 0 aW ?_;try simp only[bI]
    refine bH.tk 1 aW ?_;try simp only[bI]
    refine bH.tk 2 aW ?_;try simp only[bI]
    refine bH.tk 3 aW ?_;try simp only[bI]
    refine bH.tk 4 aW ?_;try simp only[bI]
    refine bH.tk 5 aW ?_;try simp only[bI]
    refine bH.one (i:=6) (by kernel_rfl) rfl (fun K hK=>?_);go_simp;refine hK.out _ _ (fun h=>absurd rfl h) (fun _=>?_);clear hK;refine bH.done (by kernel_rfl) ?_ _;try simp only[bI]
    go_wp2_with (first
     |(at_range;refine Nw _ rfl _ 90 rfl 3 120 (int_keyed underlying3) underlying90 L.mf n M rfl OM.o ?_;intro w4 hr4 hb4 hs4)
     |go_in)
    go_frame
    obtain⟨axg,hr4⟩:=hr4;obtain⟨r,hr⟩:∃r,w3.heap.size=r:=⟨_,rfl⟩;rw[hr]at hr4 hb4 hs4|-;have n4:qA xV w3 (fr xV r) w4:=(by rw[<-hr];exact qA.dw (by rw[hr];exact hb4));have m4:gz (fr xV r) w4 b ns cs {f with up:=f.up.set q false,mW:=true} L:=(by rw[<-hr];exact M3.o.below (by rw[hr];exact hb4));have ms:=acf f q (oJ fun l=>(M l).isSome) fun t ht=>o4 t (by unfold oJ at ht;simpa using ht);have START:aZ (UJ xV w3 b ns cs L f q r w4):=⟨_,L,_,axg,n,M,[],by rw[ms.1];exact m4,n4,Li.refl _,hr4,o2,by rw[mH (aC _)],o3,fun l h=>h,fun B _=>by rw[ms.2 B]⟩;have RW:aZ (w3.heap.size=r):=hr;clear hr hr4 hb4 hs4 n4 m4 ms o3 o4 o5 OM;go_loopw [5,6,7,9,54] (fun _ _ _ _ _ wr=>UJ xV w3 b ns cs L f q r wr) (fun _ _ _ _ _ wr=>wr.rangeLeft L.mf r);case atStart=>exact START.o
    case round=>
     clear START c11;obtain⟨dV,L',left,Ec,n',M',dead,m,nx,sm,ho,hn,tr,hkeys,ahL,hperm⟩:=hrel;have mlE:L'.mf=L.mf:=by rw[sm.e]
     have HO:=aA ho;have HM:=aA m;have NX:=aA nx;have SM:=aA sm;have HP:=aA hperm;have LFT:=aA ahL;clear m nx sm hperm ahL;go_wp2_with (first
      |(at_next;refine Lg _ rfl _ rfl 3 (int_keyed underlying3) L.mf r n' M' left Ec rfl HO.o ?_ ?_)
      |go_in)
     ·as_aux_lemma=>
       intro _ hl0;obtain⟨n2,M2,l1,l2,l3,l4,l5⟩:=HM.o.lim.1;have tml:=HM.o.lim.2;have OML:=aA l1;have c16:wr.cell? ⟨b,16,aj⟩=az (.map (az L'.ml)):=HM.o.xu;obtain⟨F,hF⟩:∃F,Ca f q (oJ left) dead=F:=⟨_,rfl⟩;have me:=mid_end f q (oJ left) (fun t=>hl0 _) dead;rw[hF]at HM me l4;have ME:aZ (({F with lim:=fun t=>jJ q (F.lim t)}:dB)=f.Kj q dead/\∀B,f.now+101<=B->dead.Perm (yw B f.fl q)):=⟨me.1,fun B hB=>by rw[<-me.2 B];exact HP.o B hB⟩;have lsm:∀s x,x∈F.lim s->x.1<1000000:=fun s x hx=>by have e1:F.lim=f.lim:=(by rw[<-hF];exact(wC dead _).2.2);rw[e1]at hx;have:=(qX.lim s x hx).1;have:=C32.o;omega
       have LSM:=aA lsm;have lln:∀s,(F.lim s).length<=1000000000:=fun s=>(by have e1:F.lim=f.lim:=(by rw[<-hF];exact(wC dead _).2.2);rw[e1];have:=qX.Ei s;omega);have LLN:=aA lln;clear l1 l5 me hF HO HP LFT hkeys ho lsm lln;go_wp2_with (first
        |(at_range;refine Nw _ rfl _ 91 rfl 3 114 (int_keyed underlying3) underlying91 L'.ml n2 M2 rfl OML.o ?_;intro w6 hr6 hb6 hs6)
        |go_in)
       go_frame
       obtain⟨axh,hr6⟩:=hr6;obtain⟨r2,hr2⟩:∃r,wr.heap.size=r:=⟨_,rfl⟩;rw[hr2]at hr6 hb6 hs6|-;obtain⟨zz,Ku⟩:∃zz,fr dV r2=zz:=⟨_,rfl⟩;have n6:qA xV w3 zz w6:=(by rw[<-Ku,<-hr2];exact NX.o.trans (qA.dw (by rw[hr2];exact hb6)));have m6:gz zz w6 b ns cs F L':=(by rw[<-Ku,<-hr2];exact HM.o.below (by rw[hr2];exact hb6));have t6:(zz r2).1=0:=(by rw[<-Ku,mH (aC _)]);have ls:=acb F q (oJ fun l=>(M2 l).isSome) fun t ht=>l4 t (by unfold oJ at ht;simpa using ht);have R2:aZ (w3.heap.size<=r2):=(by rw[aZ,<-hr2];exact NX.o.ch.size);have aeb:aZ (adM xV w3 zz b ns cs L' F q r2 w6):=⟨_,axh,n2,M2,by rw[ls];exact m6,n6,hr6,l2,t6,l3,fun l h=>h⟩;have T6:=aA t6;clear hr6 hb6 hs6 n6 m6 l2 l3 l4 ls t6 OML Ku hr2 c16;go_loopw [10,11] (fun _ _ wr=>adM xV w3 zz b ns cs L' F q r2 wr) (fun _ _ wr=>wr.rangeLeft L'.ml r2);case atStart=>exact aeb.out
       case round=>
        clear aeb;obtain⟨Eh,axi,n7,M7,m7,nx7,ho7,hn7,tr7,hk7,hl7⟩:=hrel;have HO7:=aA ho7;have M7H:=aA m7;have NX7:=aA nx7;clear m7 nx7;go_wp2_with (first
         |(at_next;refine Lg _ rfl _ rfl 3 (int_keyed underlying3) L'.ml r2 n7 M7 Eh axi rfl HO7.o ?_ ?_)
         |go_in)
        ·intro _ hl8;have e8:({F with lim:=fun t=>if oJ Eh t then F.lim t else jJ q (F.lim t)}:dB)=f.Kj q dead:=by
          rw[<-ME.o.1];have:(fun t=>if oJ Eh t then F.lim t else jJ q (F.lim t))=fun t=>jJ q (F.lim t):=by funext t;have:oJ Eh t=false:=hl8 _;rw[this];rfl
          rw[this]
         have F8:aZ (NZ (ax (ah ag 0)) wr):=(by rw[<-Tf.o];refine⟨by rw[ce],f.Kj q dead,.inr ⟨CK.o,dead,?_,rfl⟩,zz,L',by rw[<-e8];exact M7H.o,N3.o.trans NX7.o⟩;rw[cO];exact ME.o.2);clear e8 hk7 hl7 ho7;go_wp2_with fail;exact F8.o
        ·intro key v kl w9 alo hk hl hM ho9 tL hg9 hs9 hen;obtain⟨t,rfl,ht⟩:=hk7 kl v hM;obtain⟨z,rfl,hz,_⟩:=IL underlying3 hk;injection hz with _ hz;subst hz;obtain⟨n0,M0,p1,p2,p3,p4,p5⟩:=M7H.o.lim.1;have mlT:=M7H.o.lim.2;obtain rfl:=p1.uniq HO7.o.omap;obtain⟨nm0,tg0⟩:=p5 t v hM;have tl:oJ Eh t=true:=hl;have efl:(if oJ Eh t then F.lim t else jJ q (F.lim t))=F.lim t:=if_pos tl;have nm0:JU wr v (if oJ Eh t then F.lim t else jJ q (F.lim t)):=nm0;rw[efl]at nm0;have C9:Ch (· =r2) wr w9:=(Ch.refl (· =r2) wr).grown hg9 fun g e=>.inl (mg e).symm;have M9:gz zz w9 b ns cs {F with lim:=fun t=>if oJ Eh t then F.lim t else jJ q (F.lim t)} L':=M7H.o.jM C9 (fun _ _=>rfl) fun k s=>(by rw[s];exact T6.o);have N9:qA xV w3 zz w9:=⟨NX7.o.ch.grown hg9 fun g e=>.inr (by have:=mg e;have:=R2.o;omega),NX7.o.ext⟩;have nm9:JU w9 v (F.lim t):=fT nm0 C9 fun g hg s=>(by have h1:=tg0 g hg;have h2:=T6.o;rw[<-s,h1]at h2;simp at h2);have c16:w9.cell? ⟨b,16,aj⟩=az (.map (az L'.ml)):=M9.xu;obtain⟨la,lc,eV⟩:=dX nm9;have EV:=aA eV;have NM9:=aA nm9;have TG9:aZ (∀g,v.ownBlock=az g->zz g=(2,6,t,0)):=tg0;obtain⟨tcC,blC⟩:=VCX.o zz w9 N9;have DEL:aZ (Calls aH 59 #[v,.func (.func 60) #[] #[au (az ⟨bC,0,aj⟩)]] w9.drew (aax v (F.lim t) q w9.drew)):=aeF (F.lim t) q bC v w9.drew (LLN.o t) (LSM.o t) nm9 blC;have MBT:aZ (zz b=(2,0,0,0)/\b<w9.heap.size):=⟨M9.root.2,M9.root.1.lt⟩;have STO:aZ (∀v' w',JU w' v' (jJ q (F.lim t))->v'.ownBlock=v.ownBlock->Ch (fun k=>v.ownBlock=az k) w9.drew w'->∃w'',(oz 91 (.map (az L'.ml)) (ah ag t) v').run aH w'=.ok () w''/\adM xV w3 zz b ns cs L' F q r2 w''/\w''.rangeLeft L'.ml r2=alo):=fun v' w' h1 h2 h3=>by
          have h3':Ch (fun k=>v.ownBlock=az k) w9 w':=⟨h3.os,h3.tape,h3.output,h3.size,h3.block⟩;obtain⟨w'',e1,e2,e3,e4⟩:=M9.afm ho9 hn7 ht hM h3' (by rw[T6.o];decide) v' _ h1 h2;have e3:gz zz w'' b ns cs {F with lim:=fun s=>if s=t then jJ q (F.lim t)else(if oJ Eh s then F.lim s else jJ q (F.lim s))} L':=e3;rw[afn F q t (oJ Eh) (oJ fun x=>Eh x&&!x.sameKey (.int .i64 (t:Nat))) tl (Jh Eh t)]at e3;refine⟨w'',e1,⟨_,alo,n7,_,e3,⟨N9.ch.trans e4 fun i hi s=>?_,N9.ext⟩,e2,hn7,T6.o,fun l u hu=>?_,fun l hl'=>?_⟩,e2.left_eq⟩
          ·rcases s with s|s
           ·rw[s]at hi|-;have:=N9.ext L'.ml hi;show 2<=(xV L'.ml).1;rw[<-this,mlT];exact aC 2
           ·show 2<=(xV i).1;rw[<-N9.ext i hi,tg0 i s];exact aC 2
          ·unfold uC at hu;split at hu
           ·rename_i e5;exact⟨t,wh e5,ht⟩
           ·exact hk7 l u hu
          ·unfold uC;split
           ·rfl
           ·exact hl7 l (by simp only[dD]at hl';exact hl'.1)
         have LT9:aZ (alo<wr.rangeLeft L'.ml r2):=(by rw[aZ,HO7.o.left_eq];exact tL);clear p1 p2 p3 p4 p5 nm0 tg0 efl M9 N9 C9 nm9 ho9 hg9 hs9 hk hl hM tL tl hk7 hl7 ho7 mlT blC tcC;subst eV;go_wp2_with fail;refine fZ 8 (fun wq=>wq.cell? ⟨b,16,aj⟩=az (.map (az L'.ml))) (by kernel_rfl) c16 (fun aW=>?_);refine bH.tk 0 aW ?_;try simp only[bI]
         refine bH.tk 1 aW ?_;try simp only[bI]
         refine bH.tk 2 aW ?_;try simp only[bI]
         refine bH.tk 3 aW ?_;try simp only[bI]
         refine bH.tk 4 aW ?_;try simp only[bI]
         refine bH.tk 5 aW ?_;try simp only[bI]
         refine bH.tk 6 aW ?_;try simp only[bI]
         refine bH.one (i:=7) (by kernel_rfl) rfl (fun K hK=>?_);refine Qy (by rfl) (enters_of (P:=aH) func59 (by kernel_rfl) rfl) (by rfl) (by rfl) (by rfl) DEL.o ?_;rintro e vz ⟨v',rfl,nm',ov',ch'⟩;obtain⟨Zm,aEr,akc,arI⟩:=STO.o v' vz nm' ov' ch';have aps:=aA akc;have avV:=aA arI;have k16:vz.cell? ⟨b,16,aj⟩=az (.map (az L'.ml)):=(ch'.cell (p:=⟨b,16,aj⟩) MBT.o.2 fun s=>by have h1:=TG9.o _ s;rw[MBT.o.1]at h1;simp at h1).trans c16;obtain⟨la',lc',eV'⟩:=dX nm';subst eV';clear nm' ov' ch' akc arI;refine⟨_,rfl,?_⟩;refine hK.out _ _ (fun _=>k16) (fun bU=>?_);have aW:=bU (by decide);clear hK bU;try simp only[bI]
         clear k16;refine bH.one (i:=8) (by kernel_rfl) rfl (fun K hK=>?_);go_simp;refine hK.out _ _ (fun h=>absurd rfl h) (fun _=>?_);clear hK;refine bH.done (by kernel_rfl) ?_ _;try simp only[bI]
         go_wp2_with fail;exact⟨aps.out,by rw[avV.out];exact LT9.o⟩
     ·intro key v kl w5 abn hk hl hM ho5 tL hg5 hs5 hen;obtain⟨t,rfl,ht⟩:=hkeys kl v hM;obtain⟨z,rfl,hz,_⟩:=IL underlying3 hk;injection hz with _ hz;subst hz;have mf:=HM.o.fl.1;obtain⟨n0,M0,p1,p2,p3,p4,p5⟩:=mf;rw[mlE]at p1;obtain rfl:=p1.uniq HO.o.omap;obtain⟨fl0,tg0⟩:=p5 t v hM;have efl:(Ca f q (oJ left) dead).fl t=f.fl t:=(by rw[aic];exact if_pos hl);rw[efl]at fl0;obtain⟨lq,hlq⟩:∃lq,f.fl t=lq:=⟨_,rfl⟩;rw[hlq]at fl0;obtain⟨Q,q1,own,qd⟩:=fl0;obtain⟨la,lc,eV⟩:=dX own;subst eV;have rge:w3.heap.size<=r:=(by have:=RW.o;omega);have tr':(dV r).1=0:=tr;have C5:Ch (· =r) wr w5:=(Ch.refl (· =r) wr).grown hg5 fun g e=>.inl (mg e).symm;have M5:gz dV w5 b ns cs (Ca f q (oJ left) dead) L':=HM.o.jM C5 (fun _ _=>rfl) fun k s=>(by rw[s];exact tr');have N5:qA xV w3 dV w5:=⟨NX.o.ch.grown hg5 fun g e=>.inr (by have:=mg e;omega),NX.o.ext⟩;obtain⟨F,hF⟩:∃F,Ca f q (oJ left) dead=F:=⟨_,rfl⟩;have hBB:∀B,f.now+101<=B->∀s,B<=s->f.fl s=[]:=fun B hB s hs=>by
       cases e:f.fl s with
       |nil=>rfl
       |cons x l=>have h1:=hfl.due s x (by rw[e];exact bZ ..);have h2:=(qX.fl s x (by rw[e];exact bZ ..)).1;have h3:=hp.dl (x.1/2) (by omega);unfold dlF at h1;omega
      have aal:∀B,f.now+101<=B->(dead++El q lq).Perm (Mq B f.fl q (oJ fun x=>left x&&!x.sameKey (.int .i64 (t:Nat)))):=fun B hB=>(by rw[<-hlq];exact ace B f.fl q t (oJ left) _ (hBB B hB) hl (Jh left t) (HP.o B hB));have arJ:∀x∈dead++El q lq,x.1<2*cs.length/\qR ns f x.2:=fun x hx=>by
       have:=(aal B0 hB0).mem_iff.1 hx;unfold Mq at this;obtain⟨s,_,hs⟩:=gZ.1 this;split at hs
       ·cases hs
       ·exact qX.fl s x (iR.1 hs).1
      have arz:(dead++El q lq).length<=1000000:=(by rw[(aal B0 hB0).length_eq];exact eY (aid _ _ _ _) (by rw[cO]at hgo;exact hgo));have FK:aZ (∀k,dH ns cs ((El q (lq.take k)).foldl dB.iV F) (N+2000000)/\((El q (lq.take k)).foldl dB.iV F).aI=f.aI/\((El q (lq.take k)).foldl dB.iV F).dE=f.dE):=fun k=>by
       have e:(El q (lq.take k)).foldl dB.iV F=Ca f q (oJ left) (dead++El q (lq.take k)):=(by rw[<-hF];unfold Ca;rw[fV]);have sb:(El q (lq.take k)).Sublist (El q lq):=(List.take_sublist k lq).filter _;have r:=qX.ayO q (oJ left) (dead:=dead++El q (lq.take k)) fun x hx=>arJ x (by
        rcases dU.1 hx with h1|h1
        ·exact List.mem_append_left _ h1
        ·exact List.mem_append_right _ (sb.subset h1))
       have l1:=sb.length_le;rw[bW]at arz;rw[e];exact⟨r.1.mono (by rw[bW];omega),r.2.rm,r.2.bn⟩
      have uL:w5.ownsRow 0 122 7 (ay la Q.length lc) Q.length (Q.flatMap Il):=fT own C5 fun g hg s=>(by have:=tg0 g hg;rw[s]at this;rw[this]at tr';cases tr');have qd5:∀x∈Q,iX dV w5 x.1.2.data x.2:=fun x hx=>(qd x hx).jM C5 (fun _ _=>rfl) fun k s=>(by rw[s,tr'];decide);have akN:=aA uL;have QD5:=aA qd5;have lQ:lq.length=Q.length:=(by rw[<-q1,dW]);have EB:aZ (∀s u,M0 (.int .i64 (s:Nat))=az u->∀g,u.ownBlock=az g->g<w5.heap.size):=fun s u hu g hg=>(by rw[hs5];exact(p5 s u hu).1.lt g hg);have agT:aZ (∀xN wq,Ck dV w5 xN wq->∀k,k<Q.length->∃g,la=az ⟨g,0,aj⟩/\∀j,j<7->wq.cell? ⟨g,k*7+j,aj⟩=(Il (Q.getD k Pq))[j]?):=fun xN wq n k hk=>(by obtain⟨g,cap,e1,_,hl,ho,hc⟩:=qf (d:=Pq) Dk akN.out rfl hk;injection e1 with e1;refine⟨g,e1,fun j hj=>?_⟩;rw[n.ch.cell (p:=⟨g,k*7+j,aj⟩) hl fun s=>s.2 (by rw[tg0 g ho];simp)];exact hc k hk j hj);have LX:aZ (∀k,k<Q.length->lq.getD k (0,default)=(Q.getD k Pq).1):=fun k hk=>(by rw[<-q1];simp[bS,hk]);have FX:aZ (∀x∈lq,x.1<2*cs.length/\qR ns f x.2):=fun x hx=>(by rw[<-hlq]at hx;exact qX.fl t x hx);have LL:aZ (lq.length<=700000000):=(by have:=qX.Ee t;rw[hlq]at this;rw[aZ];omega);rw[hF]at M5;have ST2:aZ (Ie dV w5 b ns cs L' F q t lq (ay aj 0 0) (ah ag 0) w5):=⟨0,dV,L',bJ _,rfl,by simpa[El]using M5,Ck.refl _ _,Li.refl _,⟨⟨[],rfl,World.ownsRow_nil w5 _ _ _,fun x hx=>by cases hx⟩,fun g hg=>by simp[Value.ownBlock]at hg⟩⟩;have M5H:=aA M5;have N5H:=aA N5;have HO5:=aA ho5;have HIN:aZ (M0 (.int .i64 (t:Nat))=az (ay la Q.length lc)):=hM;have awu:=aA hkeys;have awv:=aA LFT.o;have STP:=aA aal;have TR:=aA tr';have aGl:aZ (r<w5.heap.size):=ho5.ltR;have MFT:aZ (dV L.mf=(2,3,0,0)):=(by rw[aZ,<-mlE];exact HM.o.fl.2);have LT5:aZ (abn<wr.rangeLeft L.mf r):=(by rw[aZ,HO.o.left_eq];exact tL);have MST:aZ (∀d X,X=({d.foldl dB.iV F with fl:=fun s=>if s=t then jJ q lq else(d.foldl dB.iV F).fl s}:dB)->X=Ca f q (oJ fun x=>left x&&!x.sameKey (.int .i64 (t:Nat))) (dead++d)):=fun d X hX=>(by rw[hX,<-hF,<-hlq];exact acd f q t (oJ left) _ dead d hl (Jh left t));clear p1 p2 p3 p4 p5 own qd uL qd5 efl tg0 C5 M5 N5 ho5 hg5 hs5 hk hl hM tL hF aal arJ arz hBB ho hkeys q1 rge;go_wp2_with fail;go_loopw [7,9,54] (fun v _ s wr=>Ie dV w5 b ns cs L' F q t lq v s wr) (fun _ _ s _=>lq.length-(aK s).toNat);case atStart=>exact ST2.o
      case round=>
       clear ST2;obtain⟨k,xN,L6,hkl,rfl,m6,n6,s6,kp6⟩:=hrel;have M6:=aA m6;have N6:=aA n6;have S6:=aA s6;have KP6:=aA kp6;by_cases yH:k<lq.length
       ·have hkq:k<Q.length:=by rw[<-lQ];exact yH
        obtain⟨g,eg,cg⟩:=agT.out xN wr n6 k hkq;have ex:=LX.o k hkq;have hm:Q.getD k Pq∈Q:=(by simp[bS,hkq]);have DX:=(QD5.o _ hm).jM n6.ch n6.ext fun j s=>(by have:=s.1;omega);have fx:=FX.o (lq.getD k (0,default)) (by simp[bS,yH]);rw[ex]at fx;have LXK:=aA ex;generalize Q.getD k Pq=x at *;obtain⟨⟨c,xi,xf,xt,xl,xe,xd⟩,xv⟩:=x;have DAT:=aA DX;obtain⟨va,vk,eV,_⟩:=DX;have eV:xv=ay va xd.length vk:=eV;subst eV;have m0:=cg 0 (by omega);have m1:=cg 1 (by omega);have m2:=cg 2 (by omega);have m3:=cg 3 (by omega);have m4':=cg 4 (by omega);have m5:=cg 5 (by omega);have m6':=cg 6 (by omega);simp only[Il,Dm,Nat.add_zero,List.getElem?_cons_zero,List.getElem?_cons_succ]at m0 m1 m2 m3 m4' m5 m6';subst eg;obtain⟨tcC,blC⟩:=VCX.o xN wr (N5H.o.trans n6.x);have OM6:aZ (jL wr aH 3 L6.mf n' M0):=by
         have e6:L6.mf=L.mf:=(by rw[s6.e];exact mlE);rw[aZ,e6];refine(HO5.o.ch n6.ch (fun s=>?_) fun s=>?_).omap
         ·unfold Tn at s;rw[MFT.o]at s;simp at s
         ·have:=s.1;rw[TR.o]at this;omega
        have kb7:k<700000000:=(by have:=LL.o;omega);have kq0:(0:Int)<=(k:Int):=(by omega);have kq1:(k:Int)<(Q.length:Int):=(by omega);have c64:c<1000000:=(by have:=fx.1;have:=C32.o;simp only at *;omega);have hd:(c:Int)/2=((c/2:Nat):Int):=(by omega);have hwk:wrap64 ((c/2:Nat):Int)=((c/2:Nat):Int):=(by unfold wrap64;omega);obtain⟨wb,Og⟩:∃wb:aG,wr.alloc (af #[ah ag (c:Int),ah ag xi,ah ag xf,ah ag xt,ah ag xl,ah ag xe,ay va xd.length vk] 122)=wb:=⟨_,rfl⟩;have WQ:aZ (Below wr.heap.size wr wb):=(by rw[<-Og];exact(aS _ _).alloc (aC _) _);obtain⟨bX,hbX⟩:∃bX,wr.heap.size=bX:=⟨_,rfl⟩;have VB:aZ (dG wb bX 122 #[ah ag (c:Int),ah ag xi,ah ag xf,ah ag xt,ah ag xl,ah ag xe,ay va xd.length vk]):=(by rw[<-Og,<-hbX];exact dG.new wr _ _);have vb0:wb.cell? ⟨bX,0,aj⟩=az (ah ag (c:Int)):=VB.o.cell 0;have kc':wb.cell? ⟨bC,0,aj⟩=az (ah ag (q:Int)):=(WQ.o.cell (p:=⟨bC,0,aj⟩) blC.lt).trans (blC.cell 0);have FXH:=aA fx;clear cg ex hm fx n6 s6 m6 c64;obtain⟨c2,Pv⟩:∃c2,c/2=c2:=⟨_,rfl⟩;have HC2:=aA Pv;rw[Pv]at hd hwk;clear Pv;by_cases hq2:c2=q
        ·as_aux_lemma=>
          subst hq2;obtain⟨ka,kc7,eK⟩:=kp6.form;subst eK;have EQ2:=HC2;obtain⟨fx1,fm⟩:=FXH.o;have fx1:c<2*cs.length:=fx1;obtain⟨cl,hcl⟩:∃cl:Nat,xl=(cl:Int):=⟨xl.toNat,by have h0:0<=xl:=fm.c0;omega⟩;subst hcl;obtain⟨OG,gr,gb⟩:=FK.o k;obtain⟨G,hG⟩:∃G,(El c2 (lq.take k)).foldl dB.iV F=G:=⟨_,rfl⟩;have m6:=M6.o;rw[hG]at OG gr gb m6;have hcr:cl<G.aI.length:=by have h0:(cl:Int).toNat<f.aI.length:=fm.c1;rw[gr];omega
          have NT:(G.gone.getD c []).length=G.aI.length:=OG.gn.row c fx1;have MB:gz (fr xN wr.heap.size) wb.drew b ns cs G L6:=(m6.below WQ.o).drew;have NB:Ck xN wr (fr xN wr.heap.size) wb.drew:=(Ck.dw WQ.o).drew;obtain⟨gc,cc2,eC,kC,_,lC,tC'⟩:=MB.gone.1.at_ (i:=c) (by simpa using fx1);obtain⟨gd,cd,eD,kD,fD,lD,tD⟩:=(MB.gone.2 c fx1).at_ (i:=cl) (by rw[dW];omega);rw[NT]at eD;unfold PW at tD;have kC':wb.cell? ⟨gc,c,aj⟩=az (ay (az ⟨gd,0,aj⟩) G.aI.length cd):=(by have e:wb.cell? ⟨gc,c,aj⟩=wb.drew.cell? ⟨gc,c,aj⟩:=rfl;rw[e,kC,List.getElem?_map,List.getElem?_range fx1,<-eD];rfl);have kD':wb.cell? ⟨gd,cl,aj⟩=az (ah ag (dz G.gone c cl)):=(by have e:wb.cell? ⟨gd,cl,aj⟩=wb.drew.cell? ⟨gd,cl,aj⟩:=rfl;rw[e,kD];exact Gq G.gone c cl (by omega));have kV:wb.cell? ⟨b,18,aj⟩=az (ay (az ⟨gc,0,aj⟩) (2*cs.length) cc2):=(by have e:wb.cell? ⟨b,18,aj⟩=wb.drew.cell? ⟨b,18,aj⟩:=rfl;rw[e,<-eC];exact MB.xu);have cvb:=OG.gv c cl fx1 hcr;have OK6:=OG.gone fx1 hcr;have Td:=MB.ahE (i:=c) (j:=cl) (g:=gd) (c:=cd) fx1 OG.gn.len (by rw[NT];exact hcr) NT eD (dz G.gone c cl+1);obtain⟨cv,hcv⟩:∃cv,dz G.gone c cl=cv:=⟨_,rfl⟩;obtain⟨G6,hG6⟩:∃G6:dB,{G with gone:=jA G.gone c cl (dz G.gone c cl+1)}=G6:=⟨_,rfl⟩;rw[hG6]at Td OK6;rw[hcv]at kD' cvb Td;obtain⟨w6,Yr⟩:∃w6:aG,wb.drew.setCell ⟨gd,cl,aj⟩ (ah ag (cv+1))=w6:=⟨_,rfl⟩;have C6:Ch (· =gd) wb.drew w6:=(by rw[<-Yr];exact(Ch.refl (fun i=>i=gd) wb.drew).setCell (p:=⟨gd,cl,aj⟩) (.inl rfl) _);rw[Yr]at Td;obtain⟨QI,m7,n7⟩:=Td;have N7:Ck xN wr QI w6:=NB.trans ⟨C6.mono fun i _ e=>by have e:i=gd:=e;unfold Tn;rw[e,tD];simp,n7.ext⟩;have nX:¬bX=gd:=fun e=>(by have h1:(fr xN wr.heap.size bX).1=0:=(by rw[<-hbX,mH (aC _)]);rw[e,tD]at h1;simp at h1);have V6:dG w6 bX 122 #[ah ag (c:Int),ah ag xi,ah ag xf,ah ag xt,ah ag (cl:Int),ah ag xe,ay va xd.length vk]:=dG.ch (S:=(· =gd)) (w:=wb.drew) VB.o C6 nX;have LS:=aA (Ja G6 ⟨xi,xf,xt,(cl:Int),xe,xd⟩ (ay va xd.length vk) b ns cs L6 QI w6 m7 (OK6.afR (by omega)) fm.e0 (by have h1:xe<=f.dE:=fm.e1;have e2:G6.dE=G.dE:=(by rw[<-hG6]);show xe<=(G6.dE:Int);omega) ⟨_,_,_,rfl⟩);unfold Nb pt at LS;have avb:aZ (∀Oq L8 w8,gz Oq w8 b ns cs (G6.oG ⟨xi,xf,xt,(cl:Int),xe,xd⟩) L8->Ck QI w6 Oq w8->Li L6 L8->Ie dV w5 b ns cs L' F c2 t lq (ay ka (jJ c2 (lq.take k)).length kc7) (ah ag ((k:Int)+1)) w8):=fun Oq L8 w8 h1 h2 h3=>
           Ie.dead (x:=(c,⟨xi,xf,xt,(cl:Int),xe,xd⟩)) yH LXK.o EQ2.o N6.o S6.o KP6.o (by rw[hG];rw[<-hG6]at h1;exact h1) (N7.trans h2) h3
          have vb4:wb.cell? ⟨bX,4,aj⟩=az (ah ag (cl:Int)):=VB.o.cell 4;have y1:w6.cell? ⟨bX,1,aj⟩=az (ah ag xi):=V6.cell 1;have y2:w6.cell? ⟨bX,2,aj⟩=az (ah ag xf):=V6.cell 2;have y3:w6.cell? ⟨bX,3,aj⟩=az (ah ag xt):=V6.cell 3;have y4:w6.cell? ⟨bX,4,aj⟩=az (ah ag (cl:Int)):=V6.cell 4;have y5:w6.cell? ⟨bX,5,aj⟩=az (ah ag xe):=V6.cell 5;have y6:w6.cell? ⟨bX,6,aj⟩=az (ay va xd.length vk):=V6.cell 6;have MSR:lq.length-(aK (ah ag ((k:Int)+1))).toNat<lq.length-(aK (ah ag (k:Int))).toNat:=(by simp[aK];omega);have fD':wb.frozen? ⟨gd,cl,aj⟩=false:=fD;have q6:IntKind.i64.wrap (cv+1)=cv+1:=IntWalk.i64_in _ (by omega);have cl0:(0:Int)<=(cl:Int):=(by omega);have cl1:(cl:Int)<(G.aI.length:Int):=(by omega);have cc0:(0:Int)<=(c:Int):=(by omega);have cc1:(c:Int)<((2*cs.length:Nat):Int):=(by omega);clear OG gr gb m6 MB NB kC kD eC eD tC' tD lC lD fD cvb OK6 hcv hG6 hG C6 m7 n7 N7 nX V6 fm hcr NT fx1 kp6;obtain⟨n2c,aqZ⟩:∃n2c,2*cs.length=n2c:=⟨_,rfl⟩;rw[aqZ]at kV cc1;clear aqZ;go_wp2_with fail;refine fZ 15 (fun wq=>wq.cell? ⟨b,18,aj⟩=az (ay (az ⟨gc,0,aj⟩) n2c cc2)/\wq.cell? ⟨bX,0,aj⟩=az (ah ag (c:Int))/\wq.cell? ⟨gc,c,aj⟩=az (ay (az ⟨gd,0,aj⟩) G.aI.length cd)/\wq.cell? ⟨bX,4,aj⟩=az (ah ag (cl:Int))/\wq.cell? ⟨gd,cl,aj⟩=az (ah ag cv)) (by kernel_rfl) ⟨kV,vb0,kC',vb4,kD'⟩ (fun aW=>?_);refine bH.tk 0 aW ?_;try simp only[bI]
          refine bH.tk 1 aW ?_;try simp only[bI]
          refine bH.tk 2 aW ?_;try simp only[bI]
          refine bH.tk 3 aW ?_;try simp only[bI]
          refine bH.tk 4 aW ?_;try simp only[bI]
          refine bH.tk 5 aW ?_;try simp only[bI]
          refine bH.tk 6 aW ?_;try simp only[bI]
          refine bH.tk 7 aW ?_;try simp only[bI]
          refine bH.tk 8 aW ?_;try simp only[bI]
          refine bH.tk 9 aW ?_;try simp only[bI]
          refine bH.tk 10 aW ?_;try simp only[bI]
          refine bH.tk 11 aW ?_;try simp only[bI]
          refine bH.tk 12 aW ?_;try simp only[bI]
          refine bH.tk 13 aW ?_;try simp only[bI]
          refine bH.tk 14 aW ?_;try simp only[bI]
          refine bH.one (i:=15) (by kernel_rfl) rfl (fun K hK=>?_);go_simp;refine hK.out _ _ (fun h=>absurd rfl h) (fun _=>?_);clear hK;refine bH.done (by kernel_rfl) ?_ _;try simp only[bI]
          clear kV kC' kD' vb4 vb0 fD';go_wp2_with (first|(go_at_call 58;(with_reducible refine LS.o.mono ?_);rintro e w8 ⟨rfl,Oq,L8,hm8,hn8,hs8⟩;have R:=aA (avb.out Oq L8 w8 hm8 hn8 hs8);clear hm8 hn8 hs8));exact⟨R.o,MSR⟩
        ·skip;have ne:((c2:Int)!=(q:Int))=true:=by simp;omega
         obtain⟨⟨Q6,z1,z2,z3⟩,z4⟩:=kp6;obtain⟨ka,kc7,eK⟩:=dX z2;subst eK;obtain⟨j0,xQ,zC,Aq,Av⟩:=info_parts PG;have OWb:aZ (wb.ownsRow w5.heap.size 122 7 (ay ka Q6.length kc7) Q6.length (Q6.flatMap Il)):=(by rw[<-Og];exact z2.alloc _);have vb1:wb.cell? ⟨bX,1,aj⟩=az (ah ag xi):=VB.o.cell 1;have vb2:wb.cell? ⟨bX,2,aj⟩=az (ah ag xf):=VB.o.cell 2;have vb3:wb.cell? ⟨bX,3,aj⟩=az (ah ag xt):=VB.o.cell 3;have vb4:wb.cell? ⟨bX,4,aj⟩=az (ah ag xl):=VB.o.cell 4;have vb5:wb.cell? ⟨bX,5,aj⟩=az (ah ag xe):=VB.o.cell 5;have vb6:wb.cell? ⟨bX,6,aj⟩=az (ay va xd.length vk):=VB.o.cell 6;have NEQ:aZ (¬c/2=q):=(by rw[aZ,HC2.o];exact hq2);have Z1:=aA z1;have Z2:=aA z2;have Z3:=aA z3;have Z4:=aA z4;have QL6:aZ (Q6.length<=700000000):=(by rw[aZ];have h1:=congrArg List.length z1;rw[dW]at h1;have h2:(jJ q (lq.take k)).length<=(lq.take k).length:=pV _ _;rw[List.length_take]at h2;omega);have SZ:aZ (w5.heap.size<=wb.heap.size+1):=(by rw[aZ];have h1:=N6.o.ch.size;have h2:=WQ.o.size;omega);have KEEP:aZ (∀(w8:aG) (v8:aJ) (o1:Obj),w8.ownsRow w5.heap.size 122 7 v8 (Q6.length+1) (Q6.flatMap Il++[ah ag (c:Int),ah ag xi,ah ag xf,ah ag xt,ah ag xl,ah ag xe,ay va xd.length vk])->(wb.alloc o1).grownBy w8 (ay ka Q6.length kc7).ownBlock->(v8.ownBlock=(ay ka Q6.length kc7).ownBlock\/v8.ownBlock=az (wb.heap.size+1))->Ie dV w5 b ns cs L' F q t lq v8 (ah ag ((k:Int)+1)) w8):=fun w8 v8 o1 h1 h2 h3=>
          Ie.kept (x:=((c,⟨xi,xf,xt,xl,xe,xd⟩),ay va xd.length vk)) yH LXK.o NEQ.o M6.o N6.o S6.o OM6.o EB.o Z1.o Z2.o Z3.o Z4.o DAT.o WQ.o h1 h2 h3
         clear z1 z2 z3 z4;go_wp2_with (at_builtin;refine gY _ rfl (.tmp 63) (.tmp 65) 120 rfl w5.heap.size 122 j0 _ 7 72 underlying120 xQ zC Aq Av rfl (by decide) _ _ _ rfl (OWb.o.alloc _) (wb.heap.size+1) (az ⟨wb.heap.size,0,aj⟩) 1 1 [ah ag (c:Int),ah ag xi,ah ag xf,ah ag xt,ah ag xl,ah ag xe,ay va xd.length vk] rfl (iE wb _ _ (n:=1) (size:=7) rfl) ?c3 ?c4 ?c5 ?c6 ?_);case c3=>exact⟨rfl,rfl,rfl,rfl,rfl,rfl,rfl⟩
         case c4=>exact amo QL6.o
         case c5=>exact amn QL6.o
         case c6=>exact SZ.o
         intro v8 w8 Jp Bl Mm;have R:=aA (KEEP.o w8 v8 _ Jp ⟨Bl.os,Bl.tape,Bl.output,Bl.size,Bl.block⟩ (by simpa using Mm));clear Jp Bl Mm;have MSR:lq.length-(aK (ah ag ((k:Int)+1))).toNat<lq.length-(aK (ah ag (k:Int))).toNat:=by simp[aK];omega
         go_wp2_with fail;exact⟨R.o,MSR⟩
       ·have hke:k=lq.length:=by omega
        rw[hke,List.take_length]at m6 kp6;obtain⟨w7,amX,asn,me7,c15⟩:=UJ.next (f:=f) m6 n6 s6 SM.o kp6 HO5.o hn ht (by rw[HIN.o];rfl) MFT.o TR.o N5H.o awu.out awv.out STP.o (MST.o _ _ rfl);have awt:=aA asn;have ME7:=aA me7;obtain⟨ka,kc7,eK⟩:=kp6.form;subst eK;clear m6 n6 s6 kp6 asn me7 hke;go_wp2_with fail;exact⟨awt.out,by rw[ME7.o];exact LT5.o⟩
end
end Go.Proofs.YtnjjkgjdhljfnaaGreat
