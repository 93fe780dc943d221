/- Part 4 of the proof of fabricErrors.proved: CFrame FFrame. Several texts in one, blanks struck, what is not used left out. -/
import Derived.Test.YtnjjkgjdhljfnaaGreatPk0
import Derived.Test.YtnjjkgjdhljfnaaGreatPk3
set_option maxRecDepth 100000
set_option maxHeartbeats 16000000
set_option linter.unusedVariables false
set_option linter.unusedSimpArgs false
namespace Go.Proofs.YtnjjkgjdhljfnaaGreat
open Go.ChangeShapes Go.WideShapes Go.ChangeAt Go.RowKit Go.Deep
section
variable{H:Type}{enc:TypeId×Value→H}{P:Program}{w:World}{base:Nat}{spare:Nat→Bool}{held:Bool}
theorem isRec_of{α:Type}{m:Nat}{c:α→List Value}{d:α}{Wf:α→Prop}{t e:TypeId}{fs:Array Field}{a:Option Addr}{len cap fuel:Nat}{y:DataW H×List MemPlace}(ht:P.underlying t=some (.slice e))(he:P.underlying e=some (.struct fs))(hone:oneCellFields P fs=true)(hC:P.cellsOf e=fs.size)(hm:fs.size=m)(hm0:0<m)(hread:∀vs:List Value,vs.length=m→(∀(j:Nat) (f:Field),fs[j]?=some f→∃(v:Value) (n:Nat) (y:DataW H×List MemPlace),vs[j]?=some v∧DataW.trod enc P w base spare held n f.type [v]=some y)→∃x,c x=vs∧Wf x)(h:DataW.trod enc P w base spare held fuel t [.slice a len cap]=some y):∃xs:List α,xs.length=len∧IsRec m c d w a len xs∧(∀x∈xs,Wf x)∧len≤maxLen:=by
 rcases open_slice_fields ht he hone hC h with⟨hcs,_⟩|⟨x,l,c',M,D,Pl,hcs,_,hl,hmx,hM,_,hi⟩
 ·simp at hcs;obtain⟨rfl,rfl,rfl⟩:=hcs;exact⟨[],rfl,IsRec.nil w,by simp,by omega⟩
 ·simp at hcs;obtain⟨rfl,rfl,rfl⟩:=hcs;have hlM:len≤M:=by rw[hM];split<;>omega
  have hv:∀i,∃xx:α,i<len→(∀j,j<m→w.cell? (x.add (i*m+j))=(c xx)[j]?)∧Wf xx∧(c xx).length=m:=by
   intro i;by_cases hil:i<len
   ·obtain⟨ys,n',_,_,_,hfld⟩:=hi i (by omega);have hcell:∀j,∃v,j<m→w.cell? (x.add (i*m+j))=some v∧∀f,fs[j]?=some f→∃(n:Nat) (y:DataW H×List MemPlace),DataW.trod enc P w base spare held n f.type [v]=some y:=by
     intro j;by_cases hj:j<m
     ·have hjf:fs[j]?=some (fs[j]'(by omega)):=Array.getElem?_eq_getElem (by omega);obtain⟨v,y,h1,_,h2⟩:=hfld j _ hjf;rw[hm]at h1;refine⟨v,fun _=>⟨h1,fun f hf=>?_⟩⟩;rw[hjf]at hf;injection hf with hf;subst hf;exact⟨n',y,h2⟩
     ·exact⟨undef,fun h=>absurd h hj⟩
    let V:Nat→Value:=fun j=>Classical.choose (hcell j);have hV:∀j,j<m→w.cell? (x.add (i*m+j))=some (V j)∧∀f,fs[j]?=some f→∃(n:Nat) (y:DataW H×List MemPlace),DataW.trod enc P w base spare held n f.type [V j]=some y:=fun j=>Classical.choose_spec (hcell j);obtain⟨xx,hxx,hwf⟩:=hread ((List.range m).map V) (by simp) (fun j f hf=>by have hj:j<m:=(by rw[←hm];exact(Array.getElem?_eq_some_iff.1 hf).1);obtain⟨n,y,hy⟩:=(hV j hj).2 f hf;exact⟨V j,n,y,by simp[hj],hy⟩);refine⟨xx,fun _=>⟨fun j hj=>?_,hwf,by rw[hxx];simp⟩⟩;rw[(hV j hj).1,hxx];simp[hj]
   ·obtain⟨xx,_⟩:∃xx:α,True:=⟨d,trivial⟩;exact⟨xx,fun h=>absurd h hil⟩
  let X:Nat→α:=fun i=>Classical.choose (hv i);have hX:∀i,i<len→(∀j,j<m→w.cell? (x.add (i*m+j))=(c (X i))[j]?)∧Wf (X i)∧(c (X i)).length=m:=fun i=>Classical.choose_spec (hv i);refine⟨(List.range len).map X,by simp,⟨by simp,fun h0=>?_⟩,?_,by omega⟩
  ·obtain⟨b,off,spot⟩:=x;have hc0:=(hX 0 (by omega)).1 0 hm0;have hl0:=(hX 0 (by omega)).2.2;have hsome:(c (X 0))[0]?=some ((c (X 0))[0]'(by omega)):=List.getElem?_eq_getElem (by omega);rw[hsome]at hc0;have hspot:spot=none:=(by simpa[Addr.add]using World.cell?_spot hc0);subst hspot;have e0:w.cell? ⟨b,off,none⟩=some ((c (X 0))[0]'(by omega)):=(by simpa[Addr.add]using hc0);refine⟨b,off,rfl,lt_of_cell e0,fun i j hi hj=>?_⟩;have h1:=(hX i hi).1 j hj;have e1:Addr.add ⟨b,off,none⟩ (i*m+j)=⟨b,off+i*m+j,none⟩:=by
    unfold Addr.add;split
    ·next h=>(have h1:i*m=0:=by omega);(have h2:j=0:=by omega);simp
    ·simp[Nat.add_assoc]
   rw[e1]at h1;rw[h1];simp[hi]
  ·intro xx hxx;rw[List.mem_map]at hxx;obtain⟨i,hi',rfl⟩:=hxx;exact(hX i (List.mem_range.1 hi')).2.1
end
theorem isRec_ints{w:World}{a:Option Addr}{len:Nat}{zs:List Int}(h:IsInts .i64 w a len zs):IsRec 1 cI 0 w a len zs∧WfI zs:=by
 refine⟨⟨h.2.1,fun h0=>?_⟩,h.2.2.1⟩;obtain⟨b,off,ha,hb,hc⟩:=h.2.2.2 h0;refine⟨b,off,ha,hb,fun i j hi hj=>?_⟩;obtain rfl:j=0:=by omega
 have:=hc i hi;simpa[cI]using this
section
variable{H:Type}{enc:TypeId×Value→H}{w:World}{base:Nat}{spare:Nat→Bool}{held:Bool}
theorem trod_slice_form{P:Program}{fuel:Nat}{t e:TypeId}{v:Value}{y:DataW H×List MemPlace}(ht:P.underlying t=some (.slice e))(h:DataW.trod enc P w base spare held fuel t [v]=some y):∃a len cap,v=.slice a len cap:=by
 rcases open_slice ht h with⟨hcs,_⟩|⟨a,len,cap,m,n,D,Pl,hcs,_⟩
 ·simp at hcs;exact⟨none,0,0,hcs⟩
 ·simp at hcs;exact⟨some a,len,cap,hcs⟩
theorem three{α:Type}{l:List α}(h:l.length=3):∃a b c,l=[a,b,c]:=by
 match l,h with
 |[a,b,c],_=>exact⟨a,b,c,rfl⟩
theorem six{α:Type}{l:List α}(h:l.length=6):∃a b c d e f,l=[a,b,c,d,e,f]:=by
 match l,h with
 |[a,b,c,d,e,f],_=>exact⟨a,b,c,d,e,f,rfl⟩
theorem isNodes_of{fuel:Nat}{v:Value}{y:DataW H×List MemPlace}(h:DataW.trod enc Tryz.prog w base spare held fuel 22 [v]=some y):∃(a:Option Addr) (cap:Nat) (xs:List Nd),v=.slice a xs.length cap∧IsRec 3 cN nd0 w a xs.length xs∧∀x∈xs,WfN x:=by obtain⟨a,len,cap,rfl⟩:=trod_slice_form Tryz.underlying22 h;obtain⟨xs,hl,h1,h2,_⟩:=isRec_of (c:=cN) (d:=nd0) (Wf:=WfN) (m:=3) Tryz.underlying22 Tryz.underlying83 (by kernel_rfl) (by kernel_rfl) (by decide) (by decide) (fun vs hvs hr=>by obtain⟨a,b,c,rfl⟩:=three hvs;obtain⟨v0,n0,y0,e0,h0⟩:=hr 0 _ rfl;obtain⟨v1,n1,y1,e1,h1⟩:=hr 1 _ rfl;obtain⟨v2,n2,y2,e2,h2⟩:=hr 2 _ rfl;simp at e0 e1 e2;subst e0;subst e1;subst e2;obtain⟨s,hs,_,hw⟩:=DataW.trod_string Tryz.underlying9 h0;obtain⟨b,hb,_⟩:=DataW.trod_bool Tryz.underlying4 h1;obtain⟨n,hn,_,hwn⟩:=DataW.trod_int Tryz.underlying3 h2;simp at hs hb hn;subst hs;subst hb;subst hn;exact⟨⟨s,b,n⟩,rfl,hw,hwn⟩) h;subst hl;exact⟨a,cap,xs,rfl,h1,h2⟩
theorem isCables_of{fuel:Nat}{v:Value}{y:DataW H×List MemPlace}(h:DataW.trod enc Tryz.prog w base spare held fuel 23 [v]=some y):∃(a:Option Addr) (cap:Nat) (xs:List Cb),v=.slice a xs.length cap∧IsRec 6 cC cb0 w a xs.length xs∧∀x∈xs,WfC x:=by obtain⟨a,len,cap,rfl⟩:=trod_slice_form Tryz.underlying23 h;obtain⟨xs,hl,h1,h2,_⟩:=isRec_of (c:=cC) (d:=cb0) (Wf:=WfC) (m:=6) Tryz.underlying23 Tryz.underlying86 (by kernel_rfl) (by kernel_rfl) (by decide) (by decide) (fun vs hvs hr=>by obtain⟨a,b,c,d,e,f,rfl⟩:=six hvs;obtain⟨v0,n0,y0,e0,h0⟩:=hr 0 _ rfl;obtain⟨v1,n1,y1,e1,h1⟩:=hr 1 _ rfl;obtain⟨v2,n2,y2,e2,h2⟩:=hr 2 _ rfl;obtain⟨v3,n3,y3,e3,h3⟩:=hr 3 _ rfl;obtain⟨v4,n4,y4,e4,h4⟩:=hr 4 _ rfl;obtain⟨v5,n5,y5,e5,h5⟩:=hr 5 _ rfl;simp at e0 e1 e2 e3 e4 e5;subst e0;subst e1;subst e2;subst e3;subst e4;subst e5;obtain⟨i0,k0,_,w0⟩:=DataW.trod_int Tryz.underlying3 h0;obtain⟨i1,k1,_,w1⟩:=DataW.trod_int Tryz.underlying3 h1;obtain⟨i2,k2,_,w2⟩:=DataW.trod_int Tryz.underlying3 h2;obtain⟨i3,k3,_,w3⟩:=DataW.trod_int Tryz.underlying3 h3;obtain⟨i4,k4,_,w4⟩:=DataW.trod_int Tryz.underlying3 h4;obtain⟨i5,k5,_,w5⟩:=DataW.trod_int Tryz.underlying3 h5;simp at k0 k1 k2 k3 k4 k5;subst k0;subst k1;subst k2;subst k3;subst k4;subst k5;exact⟨⟨i0,i1,i2,i3,i4,i5⟩,rfl,w0,w1,w2,w3,w4,w5⟩) h;subst hl;exact⟨a,cap,xs,rfl,h1,h2⟩
theorem isPlan_of{r:Reach}{b0:Nat}{v:Value}{d:DataW H}{p:List MemPlace}(hv:Value.okWide Tryz.prog w r b0 25 v)(h:DataW.Trod enc Tryz.prog w base spare held 25 v d p):∃(An Ac:Option Addr) (cn cc:Nat) (pl:Pl),v=.agg #[.slice An pl.ns.length cn,.slice Ac pl.cs.length cc]∧IsPlan w An Ac pl∧WfP pl:=by obtain⟨v0,v1,y0,y1,n,rfl,_,_,h0,h1⟩:=Joins.open_agg2 Tryz.underlying25 (by kernel_rfl) (by kernel_rfl) hv h;obtain⟨An,cn,ns,rfl,hn,wn⟩:=isNodes_of h0;obtain⟨Ac,cc,cs,rfl,hc,wc⟩:=isCables_of h1;exact⟨An,Ac,cn,cc,⟨ns,cs⟩,rfl,⟨hn,hc⟩,⟨wn,wc⟩⟩
end
theorem array6{α:Type}{cs:Array α}(h:cs.size=6):∃c0 c1 c2 c3 c4 c5,cs=#[c0,c1,c2,c3,c4,c5]:=by
 obtain⟨l⟩:=cs
 match l,h with
 |[c0,c1,c2,c3,c4,c5],_=>exact⟨c0,c1,c2,c3,c4,c5,rfl⟩
structure Act28 where
 k:Int
 a:Int
 b:Int
 c:Int
 i:Int
 data:List Int
instance:Inhabited Act28:=⟨⟨0,0,0,0,0,[]⟩⟩
def WfAct(x:Act28):Prop:=(Lit.int .i64 x.k).wf=true∧(Lit.int .i64 x.a).wf=true∧(Lit.int .i64 x.b).wf=true∧(Lit.int .i64 x.c).wf=true∧(Lit.int .i64 x.i).wf=true
theorem isRec_u8F{w:World}{a:Option Addr}{len:Nat}{zs:List Int}(h:IsInts .u8 w a len zs):IsRec 1 cU8 0 w a len zs:=by
 refine⟨h.2.1,fun h0=>?_⟩;obtain⟨b,off,ha,hb,hc⟩:=h.2.2.2 h0;refine⟨b,off,ha,hb,fun i j hi hj=>?_⟩;obtain rfl:j=0:=by omega
 have:=hc i hi;simpa[cU8]using this
section
variable{H:Type}{enc:TypeId×Value→H}{w:World}{base:Nat}{spare:Nat→Bool}{held:Bool}
theorem trod_struct6{P:Program}{t:TypeId}{f0 f1 f2 f3 f4 f5:Field}{fuel:Nat}{cs:List Value}{x:DataW H×List MemPlace}(ht:P.underlying t=some (.struct #[f0,f1,f2,f3,f4,f5]))(h:DataW.trod enc P w base spare held fuel t cs=some x):∃y0 y1 y2 y3 y4 y5 n,cs.length=P.cellsOf t∧DataW.trod enc P w base spare held n f0.type ((cs.drop f0.offset).take (P.cellsOf f0.type))=some y0∧DataW.trod enc P w base spare held n f1.type ((cs.drop f1.offset).take (P.cellsOf f1.type))=some y1∧DataW.trod enc P w base spare held n f2.type ((cs.drop f2.offset).take (P.cellsOf f2.type))=some y2∧DataW.trod enc P w base spare held n f3.type ((cs.drop f3.offset).take (P.cellsOf f3.type))=some y3∧DataW.trod enc P w base spare held n f4.type ((cs.drop f4.offset).take (P.cellsOf f4.type))=some y4∧DataW.trod enc P w base spare held n f5.type ((cs.drop f5.offset).take (P.cellsOf f5.type))=some y5:=by
 obtain⟨xs,n,_,rfl,hl,hlen,hf⟩:=DataW.trod_struct ht h
 match xs,hlen with
 |[y0,y1,y2,y3,y4,y5],_=>exact⟨y0,y1,y2,y3,y4,y5,n,hl,by simpa using hf 0 f0 rfl,by simpa using hf 1 f1 rfl,by simpa using hf 2 f2 rfl,by simpa using hf 3 f3 rfl,by simpa using hf 4 f4 rfl,by simpa using hf 5 f5 rfl⟩
theorem open_agg6{P:Program}{r:Reach}{b0:Nat}{t:TypeId}{f0 f1 f2 f3 f4 f5:Field}{v:Value}{d:DataW H}{p:List MemPlace}(hs:P.underlying t=some (.struct #[f0,f1,f2,f3,f4,f5]))(hone:oneCellFields P #[f0,f1,f2,f3,f4,f5]=true)(hC:P.cellsOf t=6)(hv:Value.okWide P w r b0 t v)(h:DataW.Trod enc P w base spare held t v d p):∃(v0 v1 v2 v3 v4 v5:Value) (y0 y1 y2 y3 y4 y5:DataW H×List MemPlace) (n:Nat),v=.agg #[v0,v1,v2,v3,v4,v5]∧DataW.trod enc P w base spare held n f0.type [v0]=some y0∧DataW.trod enc P w base spare held n f1.type [v1]=some y1∧DataW.trod enc P w base spare held n f2.type [v2]=some y2∧DataW.trod enc P w base spare held n f3.type [v3]=some y3∧DataW.trod enc P w base spare held n f4.type [v4]=some y4∧DataW.trod enc P w base spare held n f5.type [v5]=some y5:=by obtain⟨cs,rfl,hsz⟩:=okWide_struct hs hv;obtain⟨c0,c1,c2,c3,c4,c5,rfl⟩:=array6 (hsz.trans hC);obtain⟨fuel,hf⟩:=h;obtain⟨y0,y1,y2,y3,y4,y5,n,_,h0,h1,h2,h3,h4,h5⟩:=trod_struct6 hs hf;obtain⟨o0,k0⟩:=hone_of hone 0 f0 rfl;obtain⟨o1,k1⟩:=hone_of hone 1 f1 rfl;obtain⟨o2,k2⟩:=hone_of hone 2 f2 rfl;obtain⟨o3,k3⟩:=hone_of hone 3 f3 rfl;obtain⟨o4,k4⟩:=hone_of hone 4 f4 rfl;obtain⟨o5,k5⟩:=hone_of hone 5 f5 rfl;exact⟨c0,c1,c2,c3,c4,c5,y0,y1,y2,y3,y4,y5,n,rfl,by simpa[Value.cells,o0,k0]using h0,by simpa[Value.cells,o1,k1]using h1,by simpa[Value.cells,o2,k2]using h2,by simpa[Value.cells,o3,k3]using h3,by simpa[Value.cells,o4,k4]using h4,by simpa[Value.cells,o5,k5]using h5⟩
theorem trod_slice_formF{P:Program}{t e:TypeId}{fuel:Nat}{v:Value}{y:DataW H×List MemPlace}(ht:P.underlying t=some (.slice e))(h:DataW.trod enc P w base spare held fuel t [v]=some y):∃a l c,v=.slice a l c:=by obtain⟨a,l,c,e⟩:=Joins.slice_form ht h;injection e with e;exact⟨a,l,c,e⟩
theorem isAct_of{r:Reach}{b0:Nat}{v:Value}{d:DataW H}{p:List MemPlace}(hv:Value.okWide Tryz.prog w r b0 29 v)(h:DataW.Trod enc Tryz.prog w base (fun _=>true) held 29 v d p):∃(x:Act28) (aD:Option Addr) (cD:Nat),v=.agg #[.int .i64 x.k,.int .i64 x.a,.int .i64 x.b,.int .i64 x.c,.int .i64 x.i,.slice aD x.data.length cD]∧IsRec 1 cU8 0 w aD x.data.length x.data∧WfAct x:=by obtain⟨v0,v1,v2,v3,v4,v5,y0,y1,y2,y3,y4,y5,n,rfl,h0,h1,h2,h3,h4,h5⟩:=open_agg6 Tryz.underlying29 (by kernel_rfl) (by kernel_rfl) hv h;obtain⟨i0,e0,_,w0⟩:=DataW.trod_int Tryz.underlying3 h0;obtain⟨i1,e1,_,w1⟩:=DataW.trod_int Tryz.underlying3 h1;obtain⟨i2,e2,_,w2⟩:=DataW.trod_int Tryz.underlying3 h2;obtain⟨i3,e3,_,w3⟩:=DataW.trod_int Tryz.underlying3 h3;obtain⟨i4,e4,_,w4⟩:=DataW.trod_int Tryz.underlying3 h4;simp at e0 e1 e2 e3 e4;subst e0;subst e1;subst e2;subst e3;subst e4;obtain⟨a,len,cap,rfl⟩:=trod_slice_formF Tryz.underlying27 h5;obtain⟨zs,hz⟩:∃zs,IsInts .u8 w a len zs:=isInts_of Tryz.underlying27 Tryz.underlying5 (by kernel_rfl) (⟨n,h5⟩:DataW.Trod enc Tryz.prog w base (fun _=>true) held 27 (.slice a len cap) y5.1 y5.2);obtain rfl:zs.length=len:=hz.2.1;exact⟨⟨i0,i1,i2,i3,i4,zs⟩,a,cap,rfl,isRec_u8F hz,w0,w1,w2,w3,w4⟩
end
end Go.Proofs.YtnjjkgjdhljfnaaGreat
