/- Part 0. -/
import Derived.Below
import Derived.ChangeSame
import Derived.Deep.Fields
import Derived.Deep.Slices
import Derived.Lib.SmallJoins
import Derived.OpenShut
import Derived.ProofKit
open Go.Addr renaming add->nP
open Go.DataW renaming trod->qw
open Go.Value renaming cells->xV,slice->ay
open List renaming getElem?_eq_getElem->dw,range->aO
open Option renaming none->aj,some->az
set_option maxRecDepth 100000
set_option maxHeartbeats 16000000
set_option linter.unusedVariables false
set_option linter.unusedSimpArgs false
namespace Go.Proofs.YtnjjkgjdhljfnaaGreat
open Go.ChangeShapes Go.WideShapes Go.ChangeAt Go.RowKit Go.Deep
def Ox(k:IntKind)(w:World)(a:Option Addr)(len:Nat)(zs:List Int):Prop:=
 len<=maxLen/\zs.length=len/\(∀n∈zs,(Lit.int k n).wf=true)/\
 (0<len->∃b off,a=az ⟨b,off,aj⟩/\b<w.heap.size/\∀i,i<len->w.cell? ⟨b,off+i,aj⟩=az (.int k (zs.getD i 0)))
theorem lt_of_cell{w:World}{b off:Nat}{v:Value}(h:w.cell? ⟨b,off,aj⟩=az v):b<w.heap.size:=by
 rcases Nat.lt_or_ge b w.heap.size with tK|hge
 ·exact tK
 ·simp[World.cell?,Array.getElem?_eq_none hge]at h
section
variable{H:Type}{enc:TypeId×Value->H}{P:Program}{w:World}{base:Nat}{spare:Nat->Bool}{held:Bool}
theorem RU{k:IntKind}{t e:TypeId}{a:Option Addr}{len cap:Nat}{d:DataW H}{p:List MemPlace}(ht:P.underlying t=az (.slice e))(he:P.underlying e=az (.int k))(hC:P.cellsOf e=1)(h:DataW.Trod enc P w base spare held t (ay a len cap) d p):∃zs,Ox k w a len zs:=by
 obtain⟨fuel,hf⟩:=h;rcases open_ints ht he hC hf with⟨LY,_⟩|⟨x,l,c,zs,LY,_,hl,hm,hz,_,qB,hwz⟩
 ·simp[xV]at LY;obtain⟨rfl,rfl,rfl⟩:=LY;exact⟨[],by omega,rfl,by simp,fun h=>absurd h (by omega)⟩
 ·simp[xV]at LY;obtain⟨rfl,rfl,rfl⟩:=LY;have hzl:len<=zs.length:=by rw[hz];split<;>omega
  refine⟨zs.take len,by omega,by simp;omega,fun n hn=>hwz n (List.mem_of_mem_take hn),fun h0=>?_⟩;obtain⟨b,off,spot⟩:=x;have hc0:=qB 0 (by omega);have hspot:spot=aj:=by simpa[nP]using World.cell?_spot hc0
  subst hspot;have e0:w.cell? ⟨b,off,aj⟩=az (.int k (zs.getD 0 0)):=by simpa[nP]using hc0
  refine⟨b,off,rfl,lt_of_cell e0,fun i hi=>?_⟩;have:=qB i (by omega);have e1:nP ⟨b,off,aj⟩ i=⟨b,off+i,aj⟩:=by unfold nP;split<;>simp_all
  rw[e1]at this;rw[this];simp[hi]
theorem Kt{t e:TypeId}{fs:Array Field}{fuel:Nat}{cs:List Value}{x:DataW H×List MemPlace}(ht:P.underlying t=az (.slice e))(he:P.underlying e=az (.struct fs))(hone:oneCellFields P fs=true)(hC:P.cellsOf e=fs.size)(h:qw enc P w base spare held fuel t cs=az x):(cs=[ay aj 0 0]/\x=(.nil,[]))\/∃(a:Addr) (len cap m:Nat) (D:Nat->DataW H) (Pl:Nat->List MemPlace),cs=[ay (az a) len cap]/\base<=a.block/\len<=cap/\cap<=maxLen/\m=(if spare a.block then cap else len)/\x=(.slice ((aO len).map D) ((aO (m-len)).map fun j=>D (len+j)),MemPlace.row a (m*fs.size)++(aO m).flatMap Pl)/\∀i,i<m->∃(ys:List (DataW H×List MemPlace)) (n:Nat),D i=.agg (ys.map (·.1))/\Pl i=ys.flatMap (·.2)/\ys.length=fs.size/\∀(j:Nat) (f:Field),fs[j]?=az f->∃(v:Value) (y:DataW H×List MemPlace),w.cell? (a.add (i*fs.size+j))=az v/\ys[j]?=az y/\qw enc P w base spare held n f.type [v]=az y:=by
 rcases open_slice ht h with h0|⟨a,len,cap,m,n,D,Pl,LY,hb,hl,hm,hmm,hx,hi⟩
 ·exact .inl h0
 ·refine .inr ⟨a,len,cap,m,D,Pl,LY,hb,hl,hm,hmm,by rw[hC]at hx;exact hx,fun i him=>?_⟩;obtain⟨cs',hc,ht'⟩:=hi i him;rw[hC]at hc;obtain⟨ys,n',hn',hy,hlen,hyl,hf⟩:=DataW.trod_struct he ht';obtain⟨_,hcl,hat⟩:=World.cells?_some hc;simp only[Prod.mk.injEq]at hy;refine⟨ys,n',hy.1,hy.2,hyl,fun j f hj=>?_⟩;obtain⟨ho,hk⟩:=hone_of hone j f hj;have hjl:j<fs.size:=(Array.getElem?_eq_some_iff.1 hj).1;have qB:=hat j hjl;have hv:cs'[j]?=az (cs'[j]'(by omega)):=dw (by omega);have h1:=hf j f hj;rw[ho,hk]at h1;have hone':(cs'.drop j).take 1=[cs'[j]'(by omega)]:=by
   rw[List.drop_eq_getElem_cons (by omega)];rfl
  rw[hone']at h1;have hys:ys[j]?=az (ys[j]'(by omega)):=dw (by omega);refine⟨_,_,?_,hys,h1.trans hys⟩;rw[<-Go.Deep.add_add,qB,hv]
end
end Go.Proofs.YtnjjkgjdhljfnaaGreat
