/- Part 4. -/
import Derived.Test.YtnjjkgjdhljfnaaGreatPk0
import Derived.Test.YtnjjkgjdhljfnaaGreatPk3
open Classical renaming choose->mg,choose_spec->pM
open Go renaming TypeId->dL,Value->aI,World->aG
open Go.Addr renaming add->nP
open Go.DataW renaming trod->qw,trod_int->jV
open Go.Lit renaming int->iT
open Go.Proofs.Tryz renaming prog->aH
open Go.Value renaming slice->ay
open List renaming range->aO
open Option renaming none->aj,some->az
set_option maxRecDepth 100000
set_option maxHeartbeats 16000000
set_option linter.unusedVariables false
set_option linter.unusedSimpArgs false
namespace Go.Proofs.YtnjjkgjdhljfnaaGreat
open Go.ChangeShapes Go.WideShapes Go.ChangeAt Go.RowKit Go.Deep
section
variable{H:Type}{enc:dL×aI->H}{P:Program}{w:aG}{base:Nat}{spare:Nat->Bool}{held:Bool}
theorem PQ{α:Type}{m:Nat}{c:α->List aI}{d:α}{Wf:α->Prop}{t e:dL}{fs:Array Field}{a:Option Addr}{len cap fuel:Nat}{y:DataW H×List MemPlace}(ht:P.underlying t=az (.slice e))(he:P.underlying e=az (.struct fs))(hone:oneCellFields P fs=true)(hC:P.cellsOf e=fs.size)(hm:fs.size=m)(hm0:0<m)(hread:∀vs:List aI,vs.length=m->(∀(j:Nat) (f:Field),fs[j]?=az f->∃(v:aI) (n:Nat) (y:DataW H×List MemPlace),vs[j]?=az v/\qw enc P w base spare held n f.type [v]=az y)->∃x,c x=vs/\Wf x)(h:qw enc P w base spare held fuel t [ay a len cap]=az y):∃xs:List α,xs.length=len/\gI m c d w a len xs/\(∀x∈xs,Wf x)/\len<=maxLen:=by
 rcases Kt ht he hone hC h with⟨LY,_⟩|⟨x,l,c',M,D,Pl,LY,_,hl,hmx,hM,_,hi⟩
 ·simp at LY;obtain⟨rfl,rfl,rfl⟩:=LY;exact⟨[],rfl,gI.nil w,by simp,by omega⟩
 ·simp at LY;obtain⟨rfl,rfl,rfl⟩:=LY;have hlM:len<=M:=by rw[hM];split<;>omega
  have hv:∀i,∃xx:α,i<len->(∀j,j<m->w.cell? (x.add (i*m+j))=(c xx)[j]?)/\Wf xx/\(c xx).length=m:=by
   intro i;by_cases hil:i<len
   ·obtain⟨ys,n',_,_,_,aym⟩:=hi i (by omega);have qB:∀j,∃v,j<m->w.cell? (x.add (i*m+j))=az v/\∀f,fs[j]?=az f->∃(n:Nat) (y:DataW H×List MemPlace),qw enc P w base spare held n f.type [v]=az y:=by
     intro j;by_cases hj:j<m
     ·have hjf:fs[j]?=az (fs[j]'(by omega)):=Array.getElem?_eq_getElem (by omega);obtain⟨v,y,h1,_,h2⟩:=aym j _ hjf;rw[hm]at h1;refine⟨v,fun _=>⟨h1,fun f hf=>?_⟩⟩;rw[hjf]at hf;injection hf with hf;subst hf;exact⟨n',y,h2⟩
     ·exact⟨undef,fun h=>absurd h hj⟩
    let V:Nat->aI:=fun j=>mg (qB j);have hV:∀j,j<m->w.cell? (x.add (i*m+j))=az (V j)/\∀f,fs[j]?=az f->∃(n:Nat) (y:DataW H×List MemPlace),qw enc P w base spare held n f.type [V j]=az y:=fun j=>pM (qB j);obtain⟨xx,hxx,tu⟩:=hread ((aO m).map V) (by simp) (fun j f hf=>by have hj:j<m:=(by rw[<-hm];exact(Array.getElem?_eq_some_iff.1 hf).1);obtain⟨n,y,hy⟩:=(hV j hj).2 f hf;exact⟨V j,n,y,by simp[hj],hy⟩);refine⟨xx,fun _=>⟨fun j hj=>?_,tu,by rw[hxx];simp⟩⟩;rw[(hV j hj).1,hxx];simp[hj]
   ·obtain⟨xx,_⟩:∃xx:α,True:=⟨d,trivial⟩;exact⟨xx,fun h=>absurd h hil⟩
  let X:Nat->α:=fun i=>mg (hv i);have hX:∀i,i<len->(∀j,j<m->w.cell? (x.add (i*m+j))=(c (X i))[j]?)/\Wf (X i)/\(c (X i)).length=m:=fun i=>pM (hv i);refine⟨(aO len).map X,by simp,⟨by simp,fun h0=>?_⟩,?_,by omega⟩
  ·obtain⟨b,off,spot⟩:=x;have hc0:=(hX 0 (by omega)).1 0 hm0;have hl0:=(hX 0 (by omega)).2.2;have hsome:(c (X 0))[0]?=az ((c (X 0))[0]'(by omega)):=List.getElem?_eq_getElem (by omega);rw[hsome]at hc0;have hspot:spot=aj:=(by simpa[nP]using World.cell?_spot hc0);subst hspot;have e0:w.cell? ⟨b,off,aj⟩=az ((c (X 0))[0]'(by omega)):=(by simpa[nP]using hc0);refine⟨b,off,rfl,lt_of_cell e0,fun i j hi hj=>?_⟩;have h1:=(hX i hi).1 j hj;have e1:nP ⟨b,off,aj⟩ (i*m+j)=⟨b,off+i*m+j,aj⟩:=by
    unfold nP;split
    ·next h=>(have h1:i*m=0:=by omega);(have h2:j=0:=by omega);simp
    ·simp[Nat.add_assoc]
   rw[e1]at h1;rw[h1];simp[hi]
  ·intro xx hxx;rw[List.mem_map]at hxx;obtain⟨i,hi',rfl⟩:=hxx;exact(hX i (List.mem_range.1 hi')).2.1
end
theorem Yz{w:aG}{a:Option Addr}{len:Nat}{zs:List Int}(h:Ox .i64 w a len zs):gI 1 cI 0 w a len zs/\WfI zs:=by
 refine⟨⟨h.2.1,fun h0=>?_⟩,h.2.2.1⟩;obtain⟨b,off,ha,hb,hc⟩:=h.2.2.2 h0;refine⟨b,off,ha,hb,fun i j hi hj=>?_⟩;obtain rfl:j=0:=by omega
 have:=hc i hi;simpa[cI]using this
section
variable{H:Type}{enc:dL×aI->H}{w:aG}{base:Nat}{spare:Nat->Bool}{held:Bool}
theorem Ea{P:Program}{fuel:Nat}{t e:dL}{v:aI}{y:DataW H×List MemPlace}(ht:P.underlying t=az (.slice e))(h:qw enc P w base spare held fuel t [v]=az y):∃a len cap,v=ay a len cap:=by
 rcases open_slice ht h with⟨LY,_⟩|⟨a,len,cap,m,n,D,Pl,LY,_⟩
 ·simp at LY;exact⟨aj,0,0,LY⟩
 ·simp at LY;exact⟨az a,len,cap,LY⟩
theorem three{α:Type}{l:List α}(h:l.length=3):∃a b c,l=[a,b,c]:=by
 match l,h with
 |[a,b,c],_=>exact⟨a,b,c,rfl⟩
theorem six{α:Type}{l:List α}(h:l.length=6):∃a b c d e f,l=[a,b,c,d,e,f]:=by
 match l,h with
 |[a,b,c,d,e,f],_=>exact⟨a,b,c,d,e,f,rfl⟩
theorem Yy{fuel:Nat}{v:aI}{y:DataW H×List MemPlace}(h:qw enc aH w base spare held fuel 22 [v]=az y):∃(a:Option Addr) (cap:Nat) (xs:List Nd),v=ay a xs.length cap/\gI 3 cN jk w a xs.length xs/\∀x∈xs,WfN x:=by obtain⟨a,len,cap,rfl⟩:=Ea Tryz.underlying22 h;obtain⟨xs,hl,h1,h2,_⟩:=PQ (c:=cN) (d:=jk) (Wf:=WfN) (m:=3) Tryz.underlying22 Tryz.underlying83 (by kernel_rfl) (by kernel_rfl) (by decide) (by decide) (fun vs hvs hr=>by obtain⟨a,b,c,rfl⟩:=three hvs;obtain⟨v0,n0,y0,e0,h0⟩:=hr 0 _ rfl;obtain⟨v1,n1,y1,e1,h1⟩:=hr 1 _ rfl;obtain⟨v2,n2,y2,e2,h2⟩:=hr 2 _ rfl;simp at e0 e1 e2;subst e0;subst e1;subst e2;obtain⟨s,hs,_,hw⟩:=DataW.trod_string Tryz.underlying9 h0;obtain⟨b,hb,_⟩:=DataW.trod_bool Tryz.underlying4 h1;obtain⟨n,hn,_,hwn⟩:=jV Tryz.underlying3 h2;simp at hs hb hn;subst hs;subst hb;subst hn;exact⟨⟨s,b,n⟩,rfl,hw,hwn⟩) h;subst hl;exact⟨a,cap,xs,rfl,h1,h2⟩
theorem VR{fuel:Nat}{v:aI}{y:DataW H×List MemPlace}(h:qw enc aH w base spare held fuel 23 [v]=az y):∃(a:Option Addr) (cap:Nat) (xs:List Cb),v=ay a xs.length cap/\gI 6 cC gX w a xs.length xs/\∀x∈xs,WfC x:=by obtain⟨a,len,cap,rfl⟩:=Ea Tryz.underlying23 h;obtain⟨xs,hl,h1,h2,_⟩:=PQ (c:=cC) (d:=gX) (Wf:=WfC) (m:=6) Tryz.underlying23 Tryz.underlying86 (by kernel_rfl) (by kernel_rfl) (by decide) (by decide) (fun vs hvs hr=>by obtain⟨a,b,c,d,e,f,rfl⟩:=six hvs;obtain⟨v0,n0,y0,e0,h0⟩:=hr 0 _ rfl;obtain⟨v1,n1,y1,e1,h1⟩:=hr 1 _ rfl;obtain⟨v2,n2,y2,e2,h2⟩:=hr 2 _ rfl;obtain⟨v3,n3,y3,e3,h3⟩:=hr 3 _ rfl;obtain⟨v4,n4,y4,e4,h4⟩:=hr 4 _ rfl;obtain⟨v5,n5,y5,e5,h5⟩:=hr 5 _ rfl;simp at e0 e1 e2 e3 e4 e5;subst e0;subst e1;subst e2;subst e3;subst e4;subst e5;obtain⟨i0,k0,_,w0⟩:=jV Tryz.underlying3 h0;obtain⟨i1,k1,_,w1⟩:=jV Tryz.underlying3 h1;obtain⟨i2,k2,_,w2⟩:=jV Tryz.underlying3 h2;obtain⟨i3,k3,_,w3⟩:=jV Tryz.underlying3 h3;obtain⟨i4,k4,_,w4⟩:=jV Tryz.underlying3 h4;obtain⟨i5,k5,_,w5⟩:=jV Tryz.underlying3 h5;simp at k0 k1 k2 k3 k4 k5;subst k0;subst k1;subst k2;subst k3;subst k4;subst k5;exact⟨⟨i0,i1,i2,i3,i4,i5⟩,rfl,w0,w1,w2,w3,w4,w5⟩) h;subst hl;exact⟨a,cap,xs,rfl,h1,h2⟩
theorem abT{r:Reach}{b0:Nat}{v:aI}{d:DataW H}{p:List MemPlace}(hv:Value.okWide aH w r b0 25 v)(h:DataW.Trod enc aH w base spare held 25 v d p):∃(An Ac:Option Addr) (cn cc:Nat) (pl:Pl),v=.agg #[ay An pl.ns.length cn,ay Ac pl.cs.length cc]/\jw w An Ac pl/\QI pl:=by obtain⟨v0,v1,y0,y1,n,rfl,_,_,h0,h1⟩:=Joins.open_agg2 Tryz.underlying25 (by kernel_rfl) (by kernel_rfl) hv h;obtain⟨An,cn,ns,rfl,hn,wn⟩:=Yy h0;obtain⟨Ac,cc,cs,rfl,hc,wc⟩:=VR h1;exact⟨An,Ac,cn,cc,⟨ns,cs⟩,rfl,⟨hn,hc⟩,⟨wn,wc⟩⟩
end
structure nY where
 k:Int
 a:Int
 b:Int
 c:Int
 i:Int
 data:List Int
instance:Inhabited nY:=⟨⟨0,0,0,0,0,[]⟩⟩
def ajk(x:nY):Prop:=(iT .i64 x.k).wf=true/\(iT .i64 x.a).wf=true/\(iT .i64 x.b).wf=true/\(iT .i64 x.c).wf=true/\(iT .i64 x.i).wf=true
theorem abU{w:aG}{a:Option Addr}{len:Nat}{zs:List Int}(h:Ox .u8 w a len zs):gI 1 Rq 0 w a len zs:=by
 refine⟨h.2.1,fun h0=>?_⟩;obtain⟨b,off,ha,hb,hc⟩:=h.2.2.2 h0;refine⟨b,off,ha,hb,fun i j hi hj=>?_⟩;obtain rfl:j=0:=by omega
 have:=hc i hi;simpa[Rq]using this
section
variable{H:Type}{enc:dL×aI->H}{w:aG}{base:Nat}{spare:Nat->Bool}{held:Bool}
theorem Cu{P:Program}{t e:dL}{fuel:Nat}{v:aI}{y:DataW H×List MemPlace}(ht:P.underlying t=az (.slice e))(h:qw enc P w base spare held fuel t [v]=az y):∃a l c,v=ay a l c:=by obtain⟨a,l,c,e⟩:=Joins.slice_form ht h;injection e with e;exact⟨a,l,c,e⟩
end
end Go.Proofs.YtnjjkgjdhljfnaaGreat
