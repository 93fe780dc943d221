/- Part 1 of the proof of fabricErrors.proved: GValid FbP FbQ FbI FbJ FbV FbF FbNd FbNe LStab LSym. Several texts in one, blanks struck, what is not used left out. -/
import Derived.Below
import Derived.Deep.AppendLies
import Derived.Deep.Draws
import Derived.DeepKeys4
import Derived.KernelRfl
import Derived.Laws.OwnMore
import Derived.Laws.Rows
import Derived.Lib.Hide
import Derived.Maps.AppendAt
import Derived.Maps.Own
import Derived.Maps.OwnOps
import Derived.Maps.OwnSet
import Derived.Outline
import Derived.OwnWalk
import Derived.RegionTactic
import Derived.StringKeys
import Derived.Test.YtnjjkgjdhljfnaaGreatProg
import Derived.WalkKit
import Derived.WalkLawsBesides
set_option maxRecDepth 100000
set_option maxHeartbeats 16000000
set_option linter.unusedVariables false
set_option linter.unusedSimpArgs false
namespace Go.Proofs.YtnjjkgjdhljfnaaGreat
open Go.RowKit
def Blk(w:World)(g:Nat)(t:TypeId)(cs:Array Value):Prop:=w.heap[g]?=some (.cells cs t (0,0))
section
variable{w w':World}{g:Nat}{t:TypeId}{cs:Array Value}
theorem Blk.lt(h:Blk w g t cs):g<w.heap.size:=by
 rcases Nat.lt_or_ge g w.heap.size with hlt|hge
 ·exact hlt
 ·unfold Blk at h;rw[Array.getElem?_eq_none hge]at h;cases h
theorem Blk.cell(h:Blk w g t cs)(i:Nat):w.cell? ⟨g,i,none⟩=cs[i]?:=cell_of_row w g i cs t (0,0) h
theorem Blk.frozen(h:Blk w g t cs)(i:Nat):w.frozen? ⟨g,i,none⟩=false:=by unfold Blk at h;simp[World.frozen?,h]
theorem Blk.new(w:World)(t:TypeId)(cs:Array Value):Blk (w.alloc (.cells cs t)) w.heap.size t cs:=heap_alloc_new w _
theorem Blk.drew(h:Blk w g t cs):Blk w.drew g t cs:=h
theorem Blk.drewN(h:Blk w g t cs)(n:Nat):Blk (w.drewN n) g t cs:=h
theorem Blk.alloc(h:Blk w g t cs)(o:Obj):Blk (w.alloc o) g t cs:=(Below.heap_alloc w o g h.lt).trans h
theorem Blk.set_(h:Blk w g t cs)(i:Nat)(u:Value):Blk (w.setCell ⟨g,i,none⟩ u) g t (cs.setIfInBounds i u):=by unfold Blk at h⊢;simp[World.setCell,Array.getElem?_modify,h]
theorem Blk.far(h:Blk w g t cs){p:Addr}(hp:g≠p.block)(u:Value):Blk (w.setCell p u) g t cs:=(Below.heap_setCell w p u g hp).trans h
theorem Blk.below{B:Nat}(h:Blk w g t cs)(hb:Below B w w')(hg:g<B):Blk w' g t cs:=(hb.block g hg).trans h
theorem Blk.grown{row:Option Nat}(h:Blk w g t cs)(hb:w.grownBy w' row)(hg:some g≠row):Blk w' g t cs:=(hb.block g h.lt hg).trans h
end
theorem only_refl(a:World)(row:Option Nat):a.grownBy a row:=⟨rfl,rfl,rfl,Nat.le_refl _,fun _ _ _=>rfl⟩
theorem only_drew{a w:World}{row:Option Nat}(h:a.grownBy w row):a.grownBy w.drew row:=⟨h.os,h.tape,h.output,h.size,h.block⟩
theorem only_setCell{a w:World}{g:Nat}(h:a.grownBy w (some g)){p:Addr}(hp:p.block=g∨a.heap.size≤p.block)(u:Value):a.grownBy (w.setCell p u) (some g):=
 ⟨h.os,h.tape,h.output,by simpa[World.setCell]using h.size,fun i hi hne=>(Below.heap_setCell w p u i (by
  rintro rfl;rcases hp with hp|hp
  ·exact hne (by rw[hp])
  ·omega)).trans (h.block i hi hne)⟩
theorem only_of_below{a w:World}(h:Below a.heap.size a w)(row:Option Nat):a.grownBy w row:=⟨h.os,h.tape,h.output,h.size,fun i hi _=>h.block i hi⟩
end Go.Proofs.YtnjjkgjdhljfnaaGreat
namespace Go.Proofs.YtnjjkgjdhljfnaaGreat
open Go.RowKit
theorem block_of_add(a:Addr)(n:Nat):(a.add n).block=a.block:=by unfold Addr.add;split<;>rfl
theorem add_of_add(a:Addr)(i j:Nat):(a.add i).add j=a.add (i+j):=by unfold Addr.add;by_cases hi:i=0<;>by_cases hj:j=0<;>simp[hi,hj,Nat.add_assoc]
def Reads(w:World)(B size:Nat)(A:Option Addr)(n:Nat)(xs:List Value):Prop:=
 xs.length=n*size∧(0<n→∃ad,A=some ad∧ad.block<B∧∀j u,xs[j]?=some u→w.cell? (ad.add j)=some u)
section
variable{w w':World}{B B' size n:Nat}{A:Option Addr}{xs:List Value}
theorem Reads.none_:Reads w B size A 0 []:=⟨by simp,fun h=>absurd h (by omega)⟩
theorem Reads.at_{k:Nat}(h:Reads w B 1 A n xs)(hk:k<n):∃ad u,A=some ad∧ad.block<B∧xs[k]?=some u∧w.cell? (ad.add k)=some u:=by
 obtain⟨ad,e,hb,hc⟩:=h.2 (by omega);have hl:k<xs.length:=by have:=h.1;omega
 exact⟨ad,xs[k],e,hb,List.getElem?_eq_getElem hl,hc k _ (List.getElem?_eq_getElem hl)⟩
theorem Reads.keep(h:Reads w B size A n xs)(hk:∀p:Addr,p.block<B→w'.cell? p=w.cell? p):Reads w' B size A n xs:=
 ⟨h.1,fun hn=>by obtain⟨ad,e,hb,hc⟩:=h.2 hn;exact⟨ad,e,hb,fun j u hu=>(hk _ (by rw[block_of_add];exact hb)).trans (hc j u hu)⟩⟩
theorem Reads.more(h:Reads w B size A n xs)(hB:B≤B'):Reads w B' size A n xs:=
 ⟨h.1,fun hn=>by obtain⟨ad,e,hb,hc⟩:=h.2 hn;exact⟨ad,e,by omega,hc⟩⟩
theorem Reads.below(h:Reads w B size A n xs)(hb:Below B w w'):Reads w' B size A n xs:=h.keep fun _ hp=>hb.cell hp
theorem Reads.drew(h:Reads w B size A n xs):Reads w.drew B size A n xs:=h
theorem Reads.alloc(h:Reads w B size A n xs)(hB:B≤w.heap.size)(o:Obj):Reads (w.alloc o) B size A n xs:=h.keep fun p hp=>World.cell?_alloc_lt w o p (by omega)
theorem Reads.cut(h:Reads w B size A n xs){k cap:Nat}(hk:k≤n)(hc:n≤cap):Reads w B size (if cap=k then A else A.map (·.add (k*size))) (n-k) (xs.drop (k*size)):=by refine⟨by rw[List.length_drop,h.1,Nat.sub_mul],fun hn=>?_⟩;obtain⟨ad,rfl,hb,hcell⟩:=h.2 (by omega);rw[if_neg (by omega)];refine⟨ad.add (k*size),rfl,by rw[block_of_add];exact hb,fun j u hu=>?_⟩;rw[add_of_add];exact hcell _ u (by rw[←hu,List.getElem?_drop])
theorem Reads.of_own{base:Nat}{e:TypeId}{c:Nat}(h:w.ownsRow base e size (.slice A n c) n xs):Reads w w.heap.size size A n xs:=by
 refine⟨h.1,fun hn=>?_⟩;obtain⟨g,cap,hv,_,hlt⟩:=h.form hn;have hA:A=some ⟨g,0,none⟩:=by injection hv
 subst hA;exact⟨_,rfl,hlt,h.cells (g:=g) rfl⟩
end
section
variable{w w':World}{g:Nat}{t:TypeId}{cs:Array Value}
theorem Blk.ne_{g':Nat}{t':TypeId}{cs':Array Value}(h:Blk w g t cs)(h':Blk w g' t' cs')(hne:t≠t'):g≠g':=by rintro rfl;unfold Blk at h h';rw[h]at h';injection h' with h';injection h' with _ ht;exact hne ht
end
section
variable{P:Program}(w:World)
theorem run_append_of_nil(base:Nat)(t ty e:TypeId)(i:TypeInfo)(size:Nat)(ht:P.underlying t=some (.slice e))(hi:P.info? e=some i)(v:Value)(n:Nat)(xs:List Value)(hown:w.ownsRow base e size v n xs)(c:Nat):(Builtin.append_ #[t,t] ty #[v,.slice none 0 c]).run P w=.ok v w:=by
 rcases hown.2 with⟨rfl,rfl⟩|⟨g,cap,cur,rfl,_,_,hnc,_⟩
 ·simp[Builtin.append_,run_underlying ht,sizeOf,typeInfo,hi,Builtin.lenOf,Builtin.firstCells]
 ·simp[Builtin.append_,run_underlying ht,sizeOf,typeInfo,hi,Builtin.lenOf,Builtin.firstCells,hnc,storeCells]
theorem run_append_any(base:Nat)(t ty e:TypeId)(i:TypeInfo)(z:Value)(size bytes:Nat)(ht:P.underlying t=some (.slice e))(hi:P.info? e=some i)(hz:i.zero=some z)(hsize:i.size=size)(hby:i.bytes=bytes)(hzs:z.cells.size=size)(hsz:0<size)(v:Value)(n:Nat)(xs:List Value)(hown:w.ownsRow base e size v n xs)(B:Nat)(A:Option Addr)(m c:Nat)(news:List Value)(hr:Reads w B size A m news)(h1:∀u∈news,u.oneCell'=true)(h63:n+m≤maxLen)(hbytes:(n+m)*bytes≤140737488355328)(hbase:base≤w.heap.size):∃v' w',(Builtin.append_ #[t,t] ty #[v,.slice A m c]).run P w=.ok v' w'∧w'.ownsRow base e size v' (n+m) (xs++news)∧w.grownBy w' v.ownBlock∧(v'.ownBlock=v.ownBlock∨v'.ownBlock=some w.heap.size):=by
 rcases A with _|ad
 ·have hm:m=0:=by
   rcases Nat.eq_zero_or_pos m with h0|h0
   ·exact h0
   ·obtain⟨ad,h,_⟩:=hr.2 h0;cases h
  subst hm;have hn:news=[]:=List.eq_nil_of_length_eq_zero (by simpa using hr.1);subst hn;exact⟨v,w,run_append_of_nil w base t ty e i size ht hi v n xs hown c,by simpa using hown,World.grownBy.refl w _,.inl rfl⟩
 ·have hcells:∀j u,news[j]?=some u→w.cell? (ad.add j)=some u:=by
   intro j u hu;rcases Nat.eq_zero_or_pos m with h0|h0
   ·subst h0;have hn:news=[]:=List.eq_nil_of_length_eq_zero (by simpa using hr.1);subst hn;simp at hu
   ·obtain⟨ad',h,_,hc⟩:=hr.2 h0;injection h with h;subst h;exact hc j u hu
  obtain⟨v',w',hrun,h2,h3,_,h5⟩:=run_append_own_at (P:=P) w base t ty e i z size bytes ht hi hz hsize hby hzs hsz v n xs hown ad m c news hr.1 hcells h1 h63 hbytes hbase;exact⟨v',w',hrun,h2,h3,h5⟩
theorem wp_append_any{o:Oper}{a:Act}{K:Act→World→Prop}{Q:Exit→Act→World→Prop}(s x:Operand)(t:TypeId)(ho:o.op=.call {callee:=.builtin .append,args:=#[s,x],argTypes:=#[t,t]})(base:Nat)(e:TypeId)(i:TypeInfo)(z:Value)(size bytes:Nat)(ht:P.underlying t=some (.slice e))(hi:P.info? e=some i)(hz:i.zero=some z)(hsize:i.size=size)(hby:i.bytes=bytes)(hzs:z.cells.size=size)(hsz:0<size)(v:Value)(n:Nat)(xs:List Value)(hs:a.eval s=v)(hown:w.ownsRow base e size v n xs)(B:Nat)(A:Option Addr)(m c:Nat)(news:List Value)(hx:a.eval x=.slice A m c)(hr:Reads w B size A m news)(h1:∀u∈news,u.oneCell'=true)(h63:n+m≤maxLen)(hbytes:(n+m)*bytes≤140737488355328)(hbase:base≤w.heap.size)(h:∀v' w',w'.ownsRow base e size v' (n+m) (xs++news)→w.grownBy w' v.ownBlock→(v'.ownBlock=v.ownBlock∨v'.ownBlock=some w.heap.size)→K (a.put o.dst v') w'):o.wp P a w K Q:=by obtain⟨v',w',hrun,h2,h3,h4⟩:=run_append_any (P:=P) w base t o.type e i z size bytes ht hi hz hsize hby hzs hsz v n xs hown B A m c news hr h1 h63 hbytes hbase;unfold Oper.wp execOp;simp only[ho,resolve,invoke,builtin,Sem.run_bind,Sem.run_pure,Result.andThen_ok,List.map_toArray,List.map_cons,List.map_nil,hs,hx,hrun];exact h v' w' h2 h3 h4
theorem wpList_append_any{ops:Array Oper}{rest:List Oper}{o:Oper}{a:Act}{Q:Exit→Act→World→Prop}(hgd:o.guard=none)(s x:Operand)(t:TypeId)(ho:o.op=.call {callee:=.builtin .append,args:=#[s,x],argTypes:=#[t,t]})(base:Nat)(e:TypeId)(i:TypeInfo)(z:Value)(size bytes:Nat)(ht:P.underlying t=some (.slice e))(hi:P.info? e=some i)(hz:i.zero=some z)(hsize:i.size=size)(hby:i.bytes=bytes)(hzs:z.cells.size=size)(hsz:0<size)(v:Value)(n:Nat)(xs:List Value)(hs:a.eval s=v)(hown:w.ownsRow base e size v n xs)(B:Nat)(A:Option Addr)(m c:Nat)(news:List Value)(hx:a.eval x=.slice A m c)(hr:Reads w B size A m news)(h1:∀u∈news,u.oneCell'=true)(h63:n+m≤maxLen)(hbytes:(n+m)*bytes≤140737488355328)(hbase:base≤w.heap.size)(h:∀v' w',w'.ownsRow base e size v' (n+m) (xs++news)→w.grownBy w' v.ownBlock→(v'.ownBlock=v.ownBlock∨v'.ownBlock=some w.heap.size)→wpList P ops Q rest (a.put o.dst v') w'):wpList P ops Q (o::rest) a w:=
 wpList_plain hgd fun _ hK=>wp_append_any w s x t ho base e i z size bytes ht hi hz hsize hby hzs hsz v n xs hs hown B A m c news hx hr h1 h63 hbytes hbase fun v' w' h2 h3 h4=>hK _ _ (h v' w' h2 h3 h4)
theorem step_append_any{ops:Array Oper}{o:Oper}{a:Act}{K:Act→World→Prop}{Q:Exit→Act→World→Prop}{E:Prop}(hgd:o.guard=none)(s x:Operand)(t:TypeId)(ho:o.op=.call {callee:=.builtin .append,args:=#[s,x],argTypes:=#[t,t]})(base:Nat)(e:TypeId)(i:TypeInfo)(z:Value)(size bytes:Nat)(ht:P.underlying t=some (.slice e))(hi:P.info? e=some i)(hz:i.zero=some z)(hsize:i.size=size)(hby:i.bytes=bytes)(hzs:z.cells.size=size)(hsz:0<size)(v:Value)(n:Nat)(xs:List Value)(hs:a.eval s=v)(hown:w.ownsRow base e size v n xs)(B:Nat)(A:Option Addr)(m c:Nat)(news:List Value)(hx:a.eval x=.slice A m c)(hr:Reads w B size A m news)(h1:∀u∈news,u.oneCell'=true)(h63:n+m≤maxLen)(hbytes:(n+m)*bytes≤140737488355328)(hbase:base≤w.heap.size)(h:∀v' w',w'.ownsRow base e size v' (n+m) (xs++news)→w.grownBy w' v.ownBlock→(v'.ownBlock=v.ownBlock∨v'.ownBlock=some w.heap.size)→K (a.put o.dst v') w'):if Region.wanted o (yielded ops a.tmps)=true then Oper.wp P o a w K Q else E:=by
 have hw:Region.wanted o (yielded ops a.tmps)=true:=by simp[Region.wanted,hgd]
 rw[if_pos hw];exact wp_append_any w s x t ho base e i z size bytes ht hi hz hsize hby hzs hsz v n xs hs hown B A m c news hx hr h1 h63 hbytes hbase h
end
end Go.Proofs.YtnjjkgjdhljfnaaGreat
namespace Go.Proofs.YtnjjkgjdhljfnaaGreat
open Go.RowKit
section
variable{α:Type}{m:Nat}{c:α→List Value}{d:α}
def IsRec(m:Nat)(c:α→List Value)(d:α)(w:World)(a:Option Addr)(len:Nat)(xs:List α):Prop:=
 xs.length=len∧(0<len→∃b off,a=some ⟨b,off,none⟩∧b<w.heap.size∧∀i j,i<len→j<m→w.cell? ⟨b,off+i*m+j,none⟩=(c (xs.getD i d))[j]?)
theorem IsRec.nil(w:World):IsRec m c d w none 0 []:=⟨rfl,fun h=>absurd h (by omega)⟩
theorem IsRec.below{w w':World}{B len:Nat}{a:Option Addr}{xs:List α}(h:IsRec m c d w a len xs)(hB:w.heap.size≤B)(hb:Below B w w'):IsRec m c d w' a len xs:=by refine⟨h.1,fun h0=>?_⟩;obtain⟨b,off,e,hlt,hc⟩:=h.2 h0;refine⟨b,off,e,by have:=hb.size;omega,fun i j hi hj=>?_⟩;rw[hb.cell (p:=⟨b,off+i*m+j,none⟩) (by show b<B;omega)];exact hc i j hi hj
theorem IsRec.alloc{w:World}{len:Nat}{a:Option Addr}{xs:List α}(h:IsRec m c d w a len xs)(o:Obj):IsRec m c d (w.alloc o) a len xs:=h.below (Nat.le_refl _) ((Below.refl _ _).alloc (Nat.le_refl _) o)
theorem flatG_length(hc:∀x,(c x).length=m)(xs:List α):(xs.flatMap c).length=xs.length*m:=by
 induction xs with
 |nil=>simp
 |cons x l ih=>rw[List.flatMap_cons,List.length_append,ih,hc,List.length_cons,Nat.add_mul];omega
theorem flatG_at(hc:∀x,(c x).length=m)(xs:List α)(i j:Nat)(hi:i<xs.length)(hj:j<m):(xs.flatMap c)[i*m+j]?=(c (xs.getD i d))[j]?:=by
 induction xs generalizing i with
 |nil=>simp at hi
 |cons x l ih=>
  rw[List.flatMap_cons];cases i with
  |zero=>rw[Nat.zero_mul,Nat.zero_add,List.getElem?_append_left (by rw[hc];exact hj)];rfl
  |succ i=>have e1:(i+1)*m+j=(c x).length+(i*m+j):=(by rw[hc,Nat.add_mul];omega);rw[e1,List.getElem?_append_right (by omega),Nat.add_sub_cancel_left,ih i (by simpa using hi)];simp
theorem rec_of_own{w:World}{base e n:Nat}{v:Value}{xs:List α}(hc:∀x,(c x).length=m)(hm:0<m)(h:w.ownsRow base e m v n (xs.flatMap c)):∃a cap,v=.slice a n cap∧n≤cap∧IsRec m c d w a n xs∧∀x,a=some x→base≤x.block:=by
 have hl:xs.length=n:=by have:=h.1;rw[flatG_length hc]at this;exact Nat.eq_of_mul_eq_mul_right hm this
 rcases h.2 with⟨rfl,hn⟩|⟨g,cap,cur,rfl,hb,hg,hnc,_⟩
 ·subst hn;have:xs=[]:=List.eq_nil_of_length_eq_zero hl;subst this;exact⟨none,0,rfl,Nat.le_refl _,IsRec.nil w,by simp⟩
 ·refine⟨_,cap,rfl,hnc,⟨hl,fun h0=>⟨g,0,rfl,(Array.getElem?_eq_some_iff.1 hg).1,fun i j hi hj=>?_⟩⟩,by intro x e;injection e with e;subst e;exact hb⟩;have hcl:=h.cells (g:=g) rfl;have e:∀k,(⟨g,0,none⟩:Addr).add k=⟨g,0+k,none⟩:=fun k=>by unfold Addr.add;split<;>simp_all
  have hf:=flatG_at (d:=d) hc xs i j (by omega) hj;have hcj:j<(c (xs.getD i d)).length:=by rw[hc];exact hj
  have h1:=hcl (i*m+j) _ (by rw[hf];exact List.getElem?_eq_getElem hcj);rw[e]at h1;rw[←Nat.add_assoc]at h1;rw[h1,List.getElem?_eq_getElem hcj]
theorem reads_of_rec{w:World}{a:Option Addr}{len:Nat}{xs:List α}(hc:∀x,(c x).length=m)(h:IsRec m c d w a len xs):Reads w w.heap.size m a len (xs.flatMap c):=by
 refine⟨by rw[flatG_length hc,h.1],fun h0=>?_⟩;obtain⟨b,off,ha,hb,hcc⟩:=h.2 h0;refine⟨_,ha,hb,fun j u hu=>?_⟩;have hj:j<(xs.flatMap c).length:=by
  rcases Nat.lt_or_ge j (xs.flatMap c).length with h|h
  ·exact h
  ·rw[List.getElem?_eq_none h]at hu;cases hu
 rw[flatG_length hc]at hj;have hm:0<m:=by
  rcases Nat.eq_zero_or_pos m with h0|h0
  ·subst h0;simp at hj
  ·exact h0
 have e:(⟨b,off,none⟩:Addr).add j=⟨b,off+j,none⟩:=by unfold Addr.add;split<;>simp_all
 rw[e];have hq:j/m<xs.length:=Nat.div_lt_of_lt_mul (by rw[Nat.mul_comm];exact hj);have hr:j%m<m:=Nat.mod_lt _ hm;have hjj:j=j/m*m+j%m:=by rw[Nat.mul_comm];exact(Nat.div_add_mod j m).symm
 have h1:=hcc (j/m) (j%m) (by rw[←h.1];exact hq) hr;rw[hjj,flatG_at (d:=d) hc xs _ _ hq hr]at hu;rw[Nat.add_assoc,←hjj]at h1;rw[h1,hu]
end
end Go.Proofs.YtnjjkgjdhljfnaaGreat
namespace Go.Proofs.YtnjjkgjdhljfnaaGreat
open Go.RowKit
structure Nd where
 name:ByteArray
 sw:Bool
 ports:Int
structure Cb where
 a:Int
 ap:Int
 b:Int
 bp:Int
 dl:Int
 cp:Int
structure Pl where
 ns:List Nd
 cs:List Cb
def nd0:Nd:=⟨ByteArray.empty,false,0⟩
def cb0:Cb:=⟨0,0,0,0,0,0⟩
def cN(x:Nd):List Value:=[.string x.name,.bool x.sw,.int .i64 x.ports]
def cC(x:Cb):List Value:=[.int .i64 x.a,.int .i64 x.ap,.int .i64 x.b,.int .i64 x.bp,.int .i64 x.dl,.int .i64 x.cp]
def WfN(x:Nd):Prop:=x.name.size≤maxLen∧(Lit.int .i64 x.ports).wf=true
def WfC(x:Cb):Prop:=(Lit.int .i64 x.a).wf=true∧(Lit.int .i64 x.ap).wf=true∧(Lit.int .i64 x.b).wf=true∧(Lit.int .i64 x.bp).wf=true∧(Lit.int .i64 x.dl).wf=true∧(Lit.int .i64 x.cp).wf=true
def WfP(p:Pl):Prop:=(∀x∈p.ns,WfN x)∧∀x∈p.cs,WfC x
def IsPlan(w:World)(An Ac:Option Addr)(p:Pl):Prop:=IsRec 3 cN nd0 w An p.ns.length p.ns∧IsRec 6 cC cb0 w Ac p.cs.length p.cs
theorem IsPlan.below{w w':World}{B:Nat}{An Ac:Option Addr}{p:Pl}(h:IsPlan w An Ac p)(hB:w.heap.size≤B)(hb:Below B w w'):IsPlan w' An Ac p:=⟨h.1.below hB hb,h.2.below hB hb⟩
theorem IsPlan.alloc{w:World}{An Ac:Option Addr}{p:Pl}(h:IsPlan w An Ac p)(o:Obj):IsPlan (w.alloc o) An Ac p:=⟨h.1.alloc o,h.2.alloc o⟩
theorem node_at{w:World}{A:Option Addr}{len:Nat}{ns:List Nd}(h:IsRec 3 cN nd0 w A len ns)(k:Nat)(hk:k<len):∃b off,A=some ⟨b,off,none⟩∧b<w.heap.size∧ns.getD k nd0∈ns∧w.cell? ⟨b,off+k*3,none⟩=some (.string (ns.getD k nd0).name)∧w.cell? ⟨b,off+k*3+1,none⟩=some (.bool (ns.getD k nd0).sw)∧w.cell? ⟨b,off+k*3+1+1,none⟩=some (.int .i64 (ns.getD k nd0).ports):=by
 obtain⟨b,off,ha,hb,hc⟩:=h.2 (by omega);have hl:k<ns.length:=by rw[h.1];exact hk
 exact⟨b,off,ha,hb,by simp[List.getD,hl],hc k 0 hk (by omega),hc k 1 hk (by omega),hc k 2 hk (by omega)⟩
theorem cable_at{w:World}{A:Option Addr}{len:Nat}{cs:List Cb}(h:IsRec 6 cC cb0 w A len cs)(k:Nat)(hk:k<len):∃b off,A=some ⟨b,off,none⟩∧b<w.heap.size∧cs.getD k cb0∈cs∧w.cell? ⟨b,off+k*6,none⟩=some (.int .i64 (cs.getD k cb0).a)∧w.cell? ⟨b,off+k*6+1,none⟩=some (.int .i64 (cs.getD k cb0).ap)∧w.cell? ⟨b,off+k*6+2,none⟩=some (.int .i64 (cs.getD k cb0).b)∧w.cell? ⟨b,off+k*6+3,none⟩=some (.int .i64 (cs.getD k cb0).bp)∧w.cell? ⟨b,off+k*6+4,none⟩=some (.int .i64 (cs.getD k cb0).dl)∧w.cell? ⟨b,off+k*6+5,none⟩=some (.int .i64 (cs.getD k cb0).cp):=by
 obtain⟨b,off,ha,hb,hc⟩:=h.2 (by omega);have hl:k<cs.length:=by rw[h.1];exact hk
 exact⟨b,off,ha,hb,by simp[List.getD,hl],hc k 0 hk (by omega),hc k 1 hk (by omega),hc k 2 hk (by omega),hc k 3 hk (by omega),hc k 4 hk (by omega),hc k 5 hk (by omega)⟩
def isLetter(c:UInt8):Bool:=97≤c&&c≤122
def isDigit(c:UInt8):Bool:=48≤c&&c≤57
def okByte(i:Nat)(c:UInt8):Bool:=isLetter c||(decide (i≠0)&&isDigit c)
def okName(s:ByteArray):Bool:=decide (1≤s.size)&&decide (s.size≤20)&&(List.range s.size).all fun i=>okByte i (s.data.getD i 0)
def okNode(x:Nd):Bool:=okName x.name&&(if x.sw then decide (1≤x.ports)&&decide (x.ports≤8)else decide (x.ports=1))
def hasPort(ns:List Nd)(node port:Int):Bool:=decide (0≤node)&&decide (node<ns.length)&&decide (0≤port)&&decide (port<(ns.getD node.toNat nd0).ports)
def okPorts(ns:List Nd)(x:Cb):Bool:=hasPort ns x.a x.ap&&hasPort ns x.b x.bp
def twTo{β:Type}(eq:β→β→Bool)(d:β)(l:List β)(k:Nat):Bool:=(List.range k).any fun j=>(l.take j).any fun y=>eq y (l.getD j d)
def twiceB{β:Type}(eq:β→β→Bool)(d:β)(l:List β):Bool:=twTo eq d l l.length
theorem twTo_succ{β:Type}(eq:β→β→Bool)(d:β)(l:List β)(k:Nat):twTo eq d l (k+1)=(twTo eq d l k||(l.take k).any fun y=>eq y (l.getD k d)):=by unfold twTo;rw[List.range_succ,List.any_append];simp
theorem twTo_mono {β : Type} (eq : β → β → Bool) (d : β) (l : List β) (k : Nat) (h : twTo eq d l k = true) : ∀ n, k ≤ n → twTo eq d l n = true := by
  intro n hn
  induction n with
  | zero => have : k = 0 := by omega
            subst this; exact h
  | succ n ih =>
    rw [twTo_succ]
    by_cases hk : k = n + 1
    · subst hk; rw [twTo_succ] at h; exact h
    · rw [ih (by omega)]; rfl
def endsOf(cs:List Cb):List (Int×Int):=cs.flatMap fun x=>[(x.a,x.ap),(x.b,x.bp)]
def sameName(x y:Nd):Bool:=x.name.data.toList==y.name.data.toList
def samePair(x y:Int×Int):Bool:=x.1==y.1&&x.2==y.2
def repeatsB(p:Pl):Bool:=twiceB sameName nd0 p.ns||twiceB samePair (0,0) (endsOf p.cs)
def okForm(x:Cb):Bool:=decide (1≤x.dl)&&decide (x.dl≤100)&&decide (1≤x.cp)&&decide (x.cp≤1000)
def validP(p:Pl):Int:=
 if 16<p.ns.length∨32<p.cs.length then 5
 else if p.ns.all okNode=false then 1
 else if p.cs.all (okPorts p.ns)=false then 2
 else if repeatsB p=true then 8
 else if(p.cs.all fun x=>decide (x.a≠x.b))=false then 12
 else if p.cs.all okForm=false then 3
 else 0
end Go.Proofs.YtnjjkgjdhljfnaaGreat
namespace Go.Proofs.YtnjjkgjdhljfnaaGreat
open Go.RowKit
def okTo(s:ByteArray)(k:Nat):Bool:=(List.range k).all fun i=>okByte i (s.data.getD i 0)
theorem okTo_succ(s:ByteArray)(k:Nat):okTo s (k+1)=(okTo s k&&okByte k (s.data.getD k 0)):=by unfold okTo;rw[List.range_succ,List.all_append];simp
theorem okTo_mono (s : ByteArray) (k : Nat) (h : okTo s k = false) : ∀ n, k ≤ n → okTo s n = false := by
  intro n hn
  induction n with
  | zero => have : k = 0 := by omega
            subst this; exact h
  | succ n ih =>
    rw [okTo_succ]
    by_cases hk : k = n + 1
    · subst hk; rw [okTo_succ] at h; exact h
    · rw [ih (by omega)]; rfl
theorem okByte_iff(k:Nat)(c:UInt8):okByte k c=decide ((97≤(c.toNat:Int)∧(c.toNat:Int)≤122)∨(k≠0∧48≤(c.toNat:Int)∧(c.toNat:Int)≤57)):=by rw[Bool.eq_iff_iff];simp only[okByte,isLetter,isDigit,Bool.or_eq_true,Bool.and_eq_true,decide_eq_true_eq,UInt8.le_iff_toNat_le];have e1:(97:UInt8).toNat=97:=rfl;have e2:(122:UInt8).toNat=122:=rfl;have e3:(48:UInt8).toNat=48:=rfl;have e4:(57:UInt8).toNat=57:=rfl;rw[e1,e2,e3,e4];omega
theorem byte_at(s:ByteArray)(k:Nat)(h:k<s.size):s.data.getD k 0=s[k]:=by have h2:k<s.data.size:=h;unfold Array.getD;rw[dif_pos h2];rfl
theorem name_any(s:ByteArray)(w:World):Calls Tryz.prog 111 #[.string s] w fun e w'=>e=.returned (.bool (okName s))∧w=w':=by
 by_cases h1:s.size<1
 ·have hf:okName s=false:=by simp[okName];omega
  have HF:=Lib.hid hf;clear hf
  go_enter Tryz.func111,Tryz.ntmps111
  go_wp2
  go_ret
  exact⟨by rw[HF.out];rfl,rfl⟩
 by_cases h2:20<s.size
 ·have hf:okName s=false:=by simp[okName];omega
  have HF:=Lib.hid hf;clear hf
  go_enter Tryz.func111,Tryz.ntmps111
  go_wp2
  go_ret
  exact⟨by rw[HF.out];rfl,rfl⟩
 have hs:okName s=okTo s s.size:=by unfold okName okTo;rw[decide_eq_true (by omega:1≤s.size),decide_eq_true (by omega:s.size≤20)];rfl
 have HS:=Lib.hid hs;clear hs
 go_enter Tryz.func111,Tryz.ntmps111
 go_wp2
 go_loop [16] (fun i=>∃k:Nat,k≤s.size∧i=.int .i64 k∧okTo s k=true) (fun i=>s.size-(intOf i).toNat)
 case atStart=>exact⟨0,Nat.zero_le _,rfl,rfl⟩
 case round=>
  obtain⟨k,hk,rfl,hok⟩:=hrel;have HOK:=Lib.hid hok;clear hok;by_cases hlt:k<s.size
  ·have OS:Hid (okTo s (k+1)=okByte k s[k]):=by rw[Hid,okTo_succ,HOK.out,byte_at s k hlt];rfl
   have OB:=Lib.hid (okByte_iff k s[k]);by_cases hl:97≤(s[k].toNat:Int)∧(s[k].toNat:Int)≤122
   ·have fin:Hid (okTo s (k+1)=true):=by rw[Hid,OS.out,OB.out,decide_eq_true (.inl hl)]
    clear OS OB HOK;obtain⟨l1,l2⟩:=hl
    go_wp2
    all_goals
     go_round
     case rel=>exact⟨k+1,by omega,by go_num,fin.out⟩
     case measure=>simp[intOf];omega
   ·by_cases hd:k≠0∧48≤(s[k].toNat:Int)∧(s[k].toNat:Int)≤57
    ·have fin:Hid (okTo s (k+1)=true):=by rw[Hid,OS.out,OB.out,decide_eq_true (.inr hd)]
     clear OS OB HOK;obtain⟨d0,d1,d2⟩:=hd;have hk0:((k:Int)==0)=false:=by rw[beq_eq_false_iff_ne];omega
     have l1:(s[k].toNat:Int)<97:=(by omega);clear hl d0
     go_wp2
     all_goals
      go_round
      case rel=>exact⟨k+1,by omega,by go_num,fin.out⟩
      case measure=>simp[intOf];omega
    ·have fin:Hid (okName s=false):=by
      rw[Hid,HS.out];refine okTo_mono s (k+1) ?_ _ (by omega);rw[OS.out,OB.out,decide_eq_false (by omega)]
     clear OS OB HOK HS;by_cases hk0:k=0
     ·have q0:((k:Int)==0)=true:=by rw[hk0];rfl
      rcases(by omega:(s[k].toNat:Int)<97∨(97≤(s[k].toNat:Int)∧122<(s[k].toNat:Int)))with l1|⟨l1,l2⟩<;>clear hl hd hk0
      all_goals
       try(have b2:decide ((s[k].toNat:Int)≤122)=false:=decide_eq_false (by omega))
       go_wp2
       all_goals
        go_ret
        exact⟨by rw[fin.out];rfl,rfl⟩
     ·have q0:((k:Int)==0)=false:=by rw[beq_eq_false_iff_ne];omega
      rcases(by omega:((s[k].toNat:Int)<97∧(s[k].toNat:Int)<48)∨((s[k].toNat:Int)<97∧48≤(s[k].toNat:Int)∧57<(s[k].toNat:Int))∨(97≤(s[k].toNat:Int)∧122<(s[k].toNat:Int)))with⟨l1,l2⟩|⟨l1,l2,l3⟩|⟨l1,l2⟩<;>clear hl hd hk0
      all_goals
       try(have b2:decide ((s[k].toNat:Int)≤122)=false:=decide_eq_false (by omega))
       try(have b3:decide ((s[k].toNat:Int)≤57)=false:=decide_eq_false (by omega))
       go_wp2
       all_goals
        go_ret
        exact⟨by rw[fin.out];rfl,rfl⟩
  ·have e:k=s.size:=by omega
   have fin:Hid (okName s=true):=(by rw[Hid,HS.out,←e,HOK.out]);clear e HOK HS
   go_wp2
   go_ret
   exact⟨by rw[fin.out];rfl,rfl⟩
theorem node_any(x:Nd)(w:World):Calls Tryz.prog 81 #[.agg #[.string x.name,.bool x.sw,.int .i64 x.ports]] w fun e w'=>e=.returned (.bool (okNode x))∧w.alloc (.cells #[.string x.name,.bool x.sw,.int .i64 x.ports] 83)=w':=by
 obtain⟨nm,sw,po⟩:=x;simp only;cases hn:okName nm with
 |false=>
  have hf:Hid (okNode ⟨nm,sw,po⟩=false):=by simp[Hid,okNode,hn]
  have HN:=Lib.hid hn;clear hn
  go_enter Tryz.func81,Tryz.ntmps81
  go_wp2_with (go_at_call 111;refine(name_any _ _).mono ?_;rintro r w' ⟨rfl,rfl⟩;rw[HN.out])
  go_ret
  exact⟨by rw[hf.out];rfl,rfl⟩
 |true=>
  cases sw with
  |true=>
   have hf:Hid (okNode ⟨nm,true,po⟩=(decide (1≤po)&&decide (po≤8))):=(by simp[Hid,okNode,hn]);have HN:=Lib.hid hn;clear hn;by_cases h1:1≤po
   ·go_enter Tryz.func81,Tryz.ntmps81
    go_wp2_with (go_at_call 111;refine(name_any _ _).mono ?_;rintro r w' ⟨rfl,rfl⟩;rw[HN.out])
    go_ret
    refine⟨?_,rfl⟩;rw[hf.out,decide_eq_true h1]
    first|rfl|(simp;done)
   ·go_enter Tryz.func81,Tryz.ntmps81
    go_wp2_with (go_at_call 111;refine(name_any _ _).mono ?_;rintro r w' ⟨rfl,rfl⟩;rw[HN.out])
    go_ret
    refine⟨?_,rfl⟩;rw[hf.out,decide_eq_false (by omega)]
    first|rfl|(simp;done)
  |false=>
   have hf:Hid (okNode ⟨nm,false,po⟩=(po==1)):=by show _=_;simp only[okNode,hn];by_cases h:po=1<;>simp[h]
   have HN:=Lib.hid hn;clear hn
   go_enter Tryz.func81,Tryz.ntmps81
   go_wp2_with (go_at_call 111;refine(name_any _ _).mono ?_;rintro r w' ⟨rfl,rfl⟩;rw[HN.out])
   go_ret
   refine⟨?_,rfl⟩;rw[hf.out]
   first|rfl|(simp;done)
theorem port_any(p:Pl)(An Ac:Option Addr)(cn cc:Nat)(node port:Int)(w:World)(hl:p.ns.length≤1000000)(h:IsPlan w An Ac p):Calls Tryz.prog 82 #[.agg #[.slice An p.ns.length cn,.slice Ac p.cs.length cc],.int .i64 node,.int .i64 port] w fun e w'=>e=.returned (.bool (hasPort p.ns node port))∧w.alloc (.cells #[.slice An p.ns.length cn,.slice Ac p.cs.length cc] 25)=w':=by
 have H:=Lib.hid (h.alloc (.cells #[.slice An p.ns.length cn,.slice Ac p.cs.length cc] 25)).1;clear h;by_cases h1:0≤node
 ·by_cases h2:node<p.ns.length
  ·by_cases h3:0≤port
   ·have hf:Hid (hasPort p.ns node port=decide (port<(p.ns.getD node.toNat nd0).ports)):=by simp[Hid,hasPort,h1,h2,h3]
    obtain⟨k,rfl⟩:∃k:Nat,node=k:=⟨node.toNat,by omega⟩;obtain⟨b,off,ha,hb,hm,c0,c1,c2⟩:=node_at H.out k (by omega);rw[Int.toNat_natCast]at hf;generalize p.ns.getD k nd0=x at *;generalize hq:p.ns.length=ln at *;clear hq;subst ha
    go_enter Tryz.func82,Tryz.ntmps82
    go_wp2
    go_ret
    refine⟨?_,rfl⟩;rw[hf.out];rfl
   ·have hf:Hid (hasPort p.ns node port=false):=by simp[Hid,hasPort,h1,h2,h3]
    go_enter Tryz.func82,Tryz.ntmps82
    go_wp2
    go_ret
    exact⟨by rw[hf.out];rfl,rfl⟩
  ·have hf:Hid (hasPort p.ns node port=false):=by simp[Hid,hasPort,h1,h2]
   go_enter Tryz.func82,Tryz.ntmps82
   go_wp2
   go_ret
   exact⟨by rw[hf.out];rfl,rfl⟩
 ·have hf:Hid (hasPort p.ns node port=false):=by simp[Hid,hasPort,h1]
  go_enter Tryz.func82,Tryz.ntmps82
  go_wp2
  go_ret
  exact⟨by rw[hf.out];rfl,rfl⟩
end Go.Proofs.YtnjjkgjdhljfnaaGreat
namespace Go.Proofs.YtnjjkgjdhljfnaaGreat
open Go.RowKit Go.Maps
def anyElem(v:Value):Option (DataW Value×List MemPlace):=some (.held v,[])
def OMap(w:World)(P:Program)(k:TypeId)(b n:Nat)(M:Lit→Option Value):Prop:=
 ∃D:DataW Value,w.ownsMap P k anyElem b n D∧∀l,Maps.has D l=(M l).isSome∧∀z,D.atKey l (.held z)=.held ((M l).getD z)
def putM(M:Lit→Option Value)(k:Lit)(v:Value):Lit→Option Value:=fun l=>if l.sameKey k then some v else M l
section
variable{w w':World}{P:Program}{k:TypeId}{b n:Nat}{M:Lit→Option Value}
theorem OMap.made(w:World)(P:Program)(k:TypeId):OMap (w.alloc (.map #[] 0)) P k w.heap.size 0 (fun _=>none):=
 ⟨.map [],World.ownsMap_made w P k anyElem,fun l=>⟨rfl,fun z=>rfl⟩⟩
theorem OMap.lt(h:OMap w P k b n M):b<w.heap.size:=by obtain⟨D,h,_⟩:=h;exact h.lt
theorem OMap.kept{row:Option Nat}(h:OMap w P k b n M)(hg:w.grownBy w' row)(hne:some b≠row):OMap w' P k b n M:=by obtain⟨D,h,h2⟩:=h;exact⟨D,h.kept hg hne,h2⟩
theorem OMap.alloc(h:OMap w P k b n M)(o:Obj):OMap (w.alloc o) P k b n M:=by obtain⟨D,h,h2⟩:=h;exact⟨D,h.alloc o,h2⟩
theorem OMap.below{B:Nat}(h:OMap w P k b n M)(hb:Below B w w')(hlt:b<B):OMap w' P k b n M:=by obtain⟨D,⟨es,clock,e,F⟩,h2⟩:=h;exact⟨D,⟨es,clock,(hb.block b hlt).trans e,F⟩,h2⟩
theorem OMap.look{t e:TypeId}(h:OMap w P k b n M)(K:Keyed P k)(ht:P.underlying t=some (.map k e)){z:Value}(hz:(zeroValue e).run P w=.ok z w){key:Value}{kl:Lit}(hkey:keyOf P k key=some kl):(Instr.lookup t (.map (some b)) key false).run P w=.ok ((M kl).getD z) w:=by obtain⟨D,h,h2⟩:=h;obtain⟨v,ps,hrun,hv⟩:=h.lookup K ht hz (zd:=.held z) (zp:=[]) rfl hkey;rw[(h2 kl).2 z]at hv;unfold anyElem at hv;injection hv with hv;injection hv with hv;injection hv with hv;rw[←hv];exact hrun
theorem OMap.look_ok{t e:TypeId}(h:OMap w P k b n M)(K:Keyed P k)(ht:P.underlying t=some (.map k e)){z:Value}(hz:(zeroValue e).run P w=.ok z w){key:Value}{kl:Lit}(hkey:keyOf P k key=some kl):(Instr.lookup t (.map (some b)) key true).run P w=.ok (.tuple #[(M kl).getD z,.bool (M kl).isSome]) w:=by obtain⟨D,h,h2⟩:=h;obtain⟨v,ps,hrun,hv⟩:=h.look_ok K ht hz (zd:=.held z) (zp:=[]) rfl hkey;rw[(h2 kl).2 z]at hv;unfold anyElem at hv;injection hv with hv;injection hv with hv;injection hv with hv;rw[←hv,←(h2 kl).1];exact hrun
theorem OMap.store{t e:TypeId}(h:OMap w P k b n M)(K:Keyed P k)(ht:P.underlying t=some (.map k e))(hn:n<maxLen){key:Value}{kl:Lit}(hkey:keyOf P k key=some kl)(v:Value):∃w',(Instr.mapUpdate t (.map (some b)) key v).run P w=.ok () w'∧OMap w' P k b (n+1) (putM M kl v)∧w.grownBy w' (some b):=by
 obtain⟨D,h,h2⟩:=h;obtain⟨w',hrun,h3,hg⟩:=h.update K ht hn hkey (val:=v) (d:=.held v) (ps:=[]) rfl;refine⟨w',hrun,⟨_,h3,fun l=>?_⟩,hg⟩;unfold putM;by_cases hl:l=kl
 ·subst hl;rw[if_pos (WideAt.sameKey_self (K.key hkey))];exact⟨has_put_same h.isMap (K.key hkey) _,fun z=>atKey_put_same h.isMap (K.key hkey) _ _⟩
 ·rw[if_neg (by rw[WideAt.sameKey_iff (K.key hkey)];exact hl)];exact⟨by rw[has_put_other hl];exact(h2 l).1,fun z=>by rw[atKey_put_other hl];exact(h2 l).2 z⟩
end
def setM(l:List Lit):Lit→Option Value:=fun x=>if l.any (fun a=>x.sameKey a)then some (.bool true)else none
theorem setM_snoc(l:List Lit)(a:Lit):putM (setM l) a (.bool true)=setM (l++[a]):=by
 funext x;unfold putM setM;rw[List.any_append];by_cases h:x.sameKey a=true
 ·simp[h]
 ·simp[h]
theorem setM_get(l:List Lit)(a:Lit):(setM l a).getD (.bool false)=.bool (l.any fun b=>a.sameKey b):=by unfold setM;cases l.any fun b=>a.sameKey b<;>rfl
section
variable{P:Program}(w:World){ops:Array Oper}{rest:List Oper}{o:Oper}{a:Act}{Q:Exit→Act→World→Prop}
theorem wpList_look(hg:o.guard=none)(m x:Operand)(t:TypeId)(hop:o.op=Op.lookup t m x false)(k e:TypeId)(K:Keyed P k)(ht:P.underlying t=some (.map k e))(z:Value)(hz:(zeroValue e).run P w=.ok z w)(b n:Nat)(M:Lit→Option Value)(hm:a.eval m=.map (some b))(hown:OMap w P k b n M)(key:Value)(kl:Lit)(hx:a.eval x=key)(hkey:keyOf P k key=some kl)(hK:wpList P ops Q rest (a.put o.dst ((M kl).getD z)) w):wpList P ops Q (o::rest) a w:=by refine wpList_plain hg fun K' hK'=>?_;have hrun:=hown.look K ht hz hkey;unfold Oper.wp;simp[execOp,hop,hm,hx,hrun,Result.andThen];exact hK' _ _ hK
theorem wpList_look_ok(hg:o.guard=none)(m x:Operand)(t:TypeId)(hop:o.op=Op.lookup t m x true)(k e:TypeId)(K:Keyed P k)(ht:P.underlying t=some (.map k e))(z:Value)(hz:(zeroValue e).run P w=.ok z w)(b n:Nat)(M:Lit→Option Value)(hm:a.eval m=.map (some b))(hown:OMap w P k b n M)(key:Value)(kl:Lit)(hx:a.eval x=key)(hkey:keyOf P k key=some kl)(hK:wpList P ops Q rest (a.put o.dst (.tuple #[(M kl).getD z,.bool (M kl).isSome])) w):wpList P ops Q (o::rest) a w:=by refine wpList_plain hg fun K' hK'=>?_;have hrun:=hown.look_ok K ht hz hkey;unfold Oper.wp;simp[execOp,hop,hm,hx,hrun,Result.andThen];exact hK' _ _ hK
theorem wpList_put(hg:o.guard=none)(m x v:Operand)(t:TypeId)(hop:o.op=Op.mapUpdate t m x v)(k e:TypeId)(K:Keyed P k)(ht:P.underlying t=some (.map k e))(b n:Nat)(M:Lit→Option Value)(hm:a.eval m=.map (some b))(hown:OMap w P k b n M)(hn:n<maxLen)(key val:Value)(kl:Lit)(hx:a.eval x=key)(hv:a.eval v=val)(hkey:keyOf P k key=some kl)(hK:∀w',OMap w' P k b (n+1) (putM M kl val)→w.grownBy w' (some b)→wpList P ops Q rest (a.put o.dst undef) w'):wpList P ops Q (o::rest) a w:=by refine wpList_plain hg fun K' hK'=>?_;obtain⟨w',hrun,r1,r2⟩:=hown.store K ht hn hkey val;unfold Oper.wp;simp[execOp,hop,hm,hx,hv,hrun,Result.andThen];exact hK' _ _ (hK w' r1 r2)
end
end Go.Proofs.YtnjjkgjdhljfnaaGreat
namespace Go.Proofs.YtnjjkgjdhljfnaaGreat
open Go.RowKit Go.Maps
theorem lawStr:Keyed Tryz.prog 9:=string_keyed Tryz.underlying9
theorem zeroBool2(w:World):(zeroValue 4).run Tryz.prog w=.ok (.bool false) w:=by kernel_rfl
theorem laidOutK:laidOutB Tryz.prog=true:=by kernel_rfl
theorem rowArr2:(73:TypeId)<Tryz.prog.types.size:=of_decide_eq_true (by kernel_rfl)
theorem cellsArr2:Tryz.prog.cellsOf 73=2:=by kernel_rfl
theorem cellsInt:Tryz.prog.cellsOf 3=1:=by kernel_rfl
theorem deepArr2:Tryz.prog.keyType 73=true:=by kernel_rfl
theorem wideArr2:(match Tryz.prog.underlying 73 with|some (.array _ _)|some (.struct _)=>true|_=>false)=true:=by rw[Tryz.underlying73]
theorem deepArr2m:Tryz.prog.keyTypeAt 2 73=true:=by kernel_rfl
theorem lawArr2k:WideMaps.KeyLaw Tryz.prog 73:=deep_law_laid laidOutK (m:=2) (by omega) rowArr2 deepArr2m wideArr2
theorem lawArr2:Keyed Tryz.prog 73:=Keyed.of_law lawArr2k
theorem formedArr2{c0 c1:Value}:(Value.agg #[c0,c1]).formed Tryz.prog 73=true:=by simp[Value.formed,Tryz.underlying73,cellsArr2]
def pk(x:Int×Int):Lit:=.string (keyBytes [.int .i64 x.1,.int .i64 x.2])
theorem keyArr2{a b:Int}(ha:(Lit.int .i64 a).wf=true)(hb:(Lit.int .i64 b).wf=true):keyOf Tryz.prog 73 (.agg #[.int .i64 a,.int .i64 b])=some (pk (a,b)):=by unfold keyOf;rw[Tryz.underlying73];simp only[deepArr2,formedArr2,Bool.and_self,if_true];have hs:∃n,Tryz.prog.types.size=n+1:=⟨Tryz.prog.types.size-1,by have h:0<Tryz.prog.types.size:=Nat.lt_of_le_of_lt (Nat.zero_le _) rowArr2;omega⟩;obtain⟨n,hn⟩:=hs;rw[hn];simp[Program.keyLits,Tryz.underlying73,Tryz.underlying3,cellsArr2,cellsInt,Value.cells,ha,hb,List.range_succ,pk]
theorem pk_inj{x y:Int×Int}(hx:(Lit.int .i64 x.1).wf=true∧(Lit.int .i64 x.2).wf=true)(hy:(Lit.int .i64 y.1).wf=true∧(Lit.int .i64 y.2).wf=true)(h:pk x=pk y):x=y:=by have h1:=keyArr2 hx.1 hx.2;have h2:=keyArr2 hy.1 hy.2;rw[show(y.1,y.2)=y from rfl,←h]at h2;have:=lawArr2.inj h1 h2;simp at this;exact Prod.ext this.1 this.2
end Go.Proofs.YtnjjkgjdhljfnaaGreat
namespace Go.Proofs.YtnjjkgjdhljfnaaGreat
open Go.RowKit Go.Maps
theorem take_snocG{α:Type}(d:α)(l:List α)(k:Nat)(h:k<l.length):l.take (k+1)=l.take k++[l.getD k d]:=by rw[List.take_succ_eq_append_getElem h];simp[List.getD,h]
def nameLits(ns:List Nd)(k:Nat):List Lit:=(ns.take k).map fun x=>.string x.name.data.toList
theorem nameLits_snoc(ns:List Nd)(k:Nat)(h:k<ns.length):nameLits ns (k+1)=nameLits ns k++[.string (ns.getD k nd0).name.data.toList]:=by unfold nameLits;rw[take_snocG nd0 ns k h,List.map_append];rfl
theorem nameLits_any(ns:List Nd)(k:Nat)(x:Nd):((nameLits ns k).any fun b=>(Lit.string x.name.data.toList).sameKey b)=(ns.take k).any fun y=>sameName y x:=by unfold nameLits;rw[List.any_map];congr 1;funext y;show(x.name.data.toList==y.name.data.toList)=(y.name.data.toList==x.name.data.toList);exact BEq.comm
def endLits(es:List (Int×Int))(k:Nat):List Lit:=(es.take k).map pk
theorem endLits_snoc(es:List (Int×Int))(k:Nat)(h:k<es.length):endLits es (k+1)=endLits es k++[pk (es.getD k (0,0))]:=by unfold endLits;rw[take_snocG (0,0) es k h,List.map_append];rfl
def WfE(x:Int×Int):Prop:=(Lit.int .i64 x.1).wf=true∧(Lit.int .i64 x.2).wf=true
theorem endLits_any(es:List (Int×Int))(k:Nat)(x:Int×Int)(hw:∀y∈es,WfE y)(hx:WfE x):((endLits es k).any fun b=>(pk x).sameKey b)=(es.take k).any fun y=>samePair y x:=by
 unfold endLits;rw[List.any_map,Bool.eq_iff_iff,List.any_eq_true,List.any_eq_true];have key:∀y∈es,((pk x).sameKey (pk y)=true↔samePair y x=true):=by
  intro y hy;have h1:((pk x).sameKey (pk y)=true)↔pk x=pk y:=by unfold pk;simp only[Lit.sameKey];simp
  rw[h1];constructor
  ·intro h;have:=pk_inj hx (hw y hy) h;rw[this];simp[samePair]
  ·intro h;simp[samePair]at h;have:y=x:=Prod.ext h.1 h.2;rw[this]
 constructor
 ·rintro⟨y,hy,h⟩;exact⟨y,hy,(key y (List.mem_of_mem_take hy)).1 h⟩
 ·rintro⟨y,hy,h⟩;exact⟨y,hy,(key y (List.mem_of_mem_take hy)).2 h⟩
theorem endsOf_length(cs:List Cb):(endsOf cs).length=2*cs.length:=by
 unfold endsOf
 induction cs with
 |nil=>rfl
 |cons x l ih=>rw[List.flatMap_cons,List.length_append,ih];simp;omega
theorem endsOf_at(cs:List Cb)(k:Nat)(h:k<cs.length):(endsOf cs).getD (2*k) (0,0)=((cs.getD k cb0).a,(cs.getD k cb0).ap)∧(endsOf cs).getD (2*k+1) (0,0)=((cs.getD k cb0).b,(cs.getD k cb0).bp):=by
 unfold endsOf
 induction cs generalizing k with
 |nil=>simp at h
 |cons x l ih=>
  cases k with
  |zero=>exact⟨rfl,rfl⟩
  |succ k=>have:=ih k (by simpa using h);rw[show 2*(k+1)=2*k+2 by omega,show 2*k+2+1=2*k+1+2 by omega];rw[List.flatMap_cons];exact this
theorem endsOf_wf(cs:List Cb)(h:∀x∈cs,WfC x):∀y∈endsOf cs,WfE y:=by
 intro y hy;unfold endsOf at hy;rw[List.mem_flatMap]at hy;obtain⟨x,hx,hy⟩:=hy;have:=h x hx;simp at hy;rcases hy with rfl|rfl
 ·exact⟨this.1,this.2.1⟩
 ·exact⟨this.2.2.1,this.2.2.2.1⟩
theorem run_ix0(a b c d:Value)(w:World):(Instr.index 199 (.agg #[a,b,c,d]) (.int .i64 0)).run Tryz.prog w=.ok (.agg #[a,b]) w:=by kernel_rfl
theorem run_ix1(a b c d:Value)(w:World):(Instr.index 199 (.agg #[a,b,c,d]) (.int .i64 1)).run Tryz.prog w=.ok (.agg #[c,d]) w:=by kernel_rfl
def RelN(ns:List Nd)(w1:World)(b:Nat)(i:Value)(wr:World):Prop:=
 ∃k:Nat,k≤ns.length∧i=.int .i64 k∧OMap wr Tryz.prog 9 b k (setM (nameLits ns k))∧twTo sameName nd0 ns k=false∧Below b w1 wr
def RelE(es:List (Int×Int))(w1:World)(b:Nat)(e:Nat)(wr:World):Prop:=
 OMap wr Tryz.prog 73 b e (setM (endLits es e))∧twTo samePair (0,0) es e=false∧Below b w1 wr
def RelC(cs:List Cb)(w1:World)(b:Nat)(i:Value)(wr:World):Prop:=
 ∃k:Nat,k≤cs.length∧i=.int .i64 k∧RelE (endsOf cs) w1 b (2*k) wr
def RelC2(cs:List Cb)(w1:World)(b k:Nat)(i:Value)(wr:World):Prop:=
 ∃j:Nat,j≤2∧i=.int .i64 j∧RelE (endsOf cs) w1 b (2*k+j) wr
theorem repeats_any(p:Pl)(An Ac:Option Addr)(cn cc:Nat)(w:World)(hl:p.ns.length≤1000000)(hl2:p.cs.length≤1000000)(hwf:WfP p)(h:IsPlan w An Ac p):Calls Tryz.prog 83 #[.agg #[.slice An p.ns.length cn,.slice Ac p.cs.length cc]] w fun e w'=>e=.returned (.bool (repeatsB p))∧Below w.heap.size w w':=by
 obtain⟨ns,cs⟩:=p;simp only at hl hl2⊢;have H:=Lib.hid h;have HW:=Lib.hid hwf;clear h hwf;have hmm:=@run_makeMap Tryz.prog;have HB0:Hid ((w.alloc (.cells #[.slice An ns.length cn,.slice Ac cs.length cc] 25)).cell? ⟨w.heap.size,0,none⟩=some (.slice An ns.length cn)):=by show _=_;simp[go_sem]
 have HB1:Hid ((w.alloc (.cells #[.slice An ns.length cn,.slice Ac cs.length cc] 25)).cell? ⟨w.heap.size,1,none⟩=some (.slice Ac cs.length cc)):=by show _=_;simp[go_sem]
 have H1:=Lib.hid (H.out.alloc (.cells #[.slice An ns.length cn,.slice Ac cs.length cc] 25));have HBW:Hid (Below w.heap.size w (w.alloc (.cells #[.slice An ns.length cn,.slice Ac cs.length cc] 25))):=(Below.refl _ _).alloc (Nat.le_refl _) _;have hsz:(w.alloc (.cells #[.slice An ns.length cn,.slice Ac cs.length cc] 25)).heap.size=w.heap.size+1:=by simp
 clear H
 go_enter Tryz.func83,Tryz.ntmps83
 go_wp2_with fail
 clear hmm
 go_loopw [15] (fun i wr=>RelN ns (w.alloc (.cells #[.slice An ns.length cn,.slice Ac cs.length cc] 25)) (w.heap.size+1) i wr) (fun i _=>ns.length-(intOf i).toNat)
 case atStart=>
  refine⟨0,Nat.zero_le _,rfl,?_,rfl,?_⟩
  ·have:=OMap.made (w.alloc (.cells #[.slice An ns.length cn,.slice Ac cs.length cc] 25)) Tryz.prog 9;rw[hsz]at this;exact this
  ·rw[←hsz];exact(Below.refl _ _).alloc (Nat.le_refl _) _
 case round=>
  generalize w.alloc (.cells #[.slice An ns.length cn,.slice Ac cs.length cc] 25)=w1 at *;obtain⟨k,hk,rfl,om,htw,bel⟩:=hrel;have HTW:=Lib.hid htw;clear htw;have bs:=bel.size;have HP:=Lib.hid (H1.out.below (by omega) bel);by_cases hkr:k<ns.length
  ·obtain⟨bb,off,ha,hbb,hmem,c0,c1,c2⟩:=node_at HP.out.1 k hkr;have hwn:(ns.getD k nd0).name.size≤maxLen:=(HW.out.1 _ hmem).1;have NS:=Lib.hid (nameLits_snoc ns k hkr);have NA:=Lib.hid (nameLits_any ns k (ns.getD k nd0));have TS:=Lib.hid (twTo_succ sameName nd0 ns k);generalize ns.getD k nd0=x at *;have HK:Hid (keyOf Tryz.prog 9 (.string x.name)=some (.string x.name.data.toList)):=WideMaps.keyOf_string_mk Tryz.underlying9 hwn;subst ha;have SG:=Lib.hid (setM_get (nameLits ns k) (.string x.name.data.toList));cases hin:(ns.take k).any fun y=>sameName y x with
   |true=>
    have TG:Hid ((setM (nameLits ns k) (.string x.name.data.toList)).getD (.bool false)=.bool true):=(by show _=_;rw[SG.out,NA.out,hin]);have FIN:Hid (repeatsB ⟨ns,cs⟩=true):=(by show _=_;unfold repeatsB twiceB;rw[twTo_mono sameName nd0 ns (k+1) (by rw[TS.out,hin];simp) ns.length (by omega)];rfl);have BW:Hid (Below w.heap.size w (wr.alloc (.cells #[.string x.name,.bool x.sw,.int .i64 x.ports] 83))):=
     (HBW.out.trans (bel.mono (by omega))).alloc (by have:=HBW.out.size;omega) _
    clear NS NA SG TS hin hmem hwn HTW HP
    go_wp2_with (at_lookup;refine wpList_look _ rfl _ _ 197 rfl 9 4 lawStr Tryz.underlying197 (.bool false) (zeroBool2 _) (w.heap.size+1) _ _ rfl (om.alloc _) _ (.string x.name.data.toList) rfl HK.out ?_;rw[TG.out])
    go_ret
    exact⟨by rw[FIN.out];rfl,BW.out⟩
   |false=>
    have TG:Hid ((setM (nameLits ns k) (.string x.name.data.toList)).getD (.bool false)=.bool false):=(by show _=_;rw[SG.out,NA.out,hin]);have TW:Hid (twTo sameName nd0 ns (k+1)=false):=(by show _=_;rw[TS.out,HTW.out,hin];rfl);clear SG NA TS hin hmem hwn HTW HP
    go_wp2_with (first|(at_lookup;refine wpList_look _ rfl _ _ 197 rfl 9 4 lawStr Tryz.underlying197 (.bool false) (zeroBool2 _) (w.heap.size+1) _ _ rfl (om.alloc _) _ (.string x.name.data.toList) rfl HK.out ?_;rw[TG.out])|(at_mapUpdate;refine wpList_put _ rfl _ _ _ 197 rfl 9 4 lawStr Tryz.underlying197 (w.heap.size+1) k _ rfl (om.alloc _) ?d1 _ _ (.string x.name.data.toList) rfl rfl HK.out ?_))
    case d1=>unfold maxLen;omega
    intro w2 om2 gr2;have R:RelN ns w1 (w.heap.size+1) (.int .i64 ((k+1:Nat):Int)) w2:=by
     refine⟨k+1,by omega,rfl,?_,TW.out,?_⟩
     ·rw[NS.out,←setM_snoc];exact om2
     ·exact(bel.alloc (by omega) _).grown gr2 (by simp;omega) (by intro g e;injection e with e;omega)
    clear om2 gr2 om
    go_wp2
    exact⟨by simpa using R,by simp[intOf];omega⟩
  ·obtain rfl:k=ns.length:=by omega
   have d0:wr.cell? ⟨w.heap.size,0,none⟩=some (.slice An ns.length cn):=(by rw[bel.cell (by show w.heap.size<_;omega)];exact HB0.out);have d1:wr.cell? ⟨w.heap.size,1,none⟩=some (.slice Ac cs.length cc):=(by rw[bel.cell (by show w.heap.size<_;omega)];exact HB1.out);have BW:=Lib.hid (HBW.out.trans (bel.mono (by omega)));have bw:w.heap.size<wr.heap.size:=(by omega);clear HB0 HB1 H1 HBW om;have hmm:=@run_makeMap Tryz.prog;obtain⟨w2,rfl⟩:∃w2:World,w2=wr:=⟨_,rfl⟩
   go_wp2_with fail
   clear hmm
   go_loopw [31] (fun i wr=>RelC cs w2 w2.heap.size i wr) (fun i _=>cs.length-(intOf i).toNat)
   case atStart=>exact⟨0,Nat.zero_le _,rfl,OMap.made _ _ _,rfl,(Below.refl _ _).alloc (Nat.le_refl _) _⟩
   case round=>
    obtain⟨k,hk2,rfl,om,htw,belC⟩:=hrel;have bc:=belC.size;have HPC:=Lib.hid (HP.out.below (Nat.le_refl _) belC);have hlt2:w2.heap.size<wr.heap.size:=om.lt;have OM:=Lib.hid om;have HT2:=Lib.hid htw;clear om htw;by_cases hkc:k<cs.length
    ·obtain⟨bb,off,ha,hbb,hmem,c0,c1,c2,c3,c4,c5⟩:=cable_at HPC.out.2 k hkc;have EL:=Lib.hid (endsOf_length cs);have EA:=Lib.hid (endsOf_at cs k hkc);have EW:=Lib.hid (endsOf_wf cs HW.out.2);have WX:=Lib.hid (HW.out.2 _ hmem);generalize cs.getD k cb0=x at *;subst ha;obtain⟨xa,xap,xb,xbp,xdl,xcp⟩:=x;simp only at c0 c1 c2 c3 c4 c5;have ST:Hid (RelE (endsOf cs) w2 w2.heap.size (2*k+0) (wr.alloc (.cells #[.int .i64 xa,.int .i64 xap,.int .i64 xb,.int .i64 xbp,.int .i64 xdl,.int .i64 xcp] 86))):=
      ⟨OM.out.alloc _,HT2.out,belC.alloc bc _⟩
     clear OM HT2 hmem HPC
     go_wp2_with fail
     clear c0 c1 c2 c3 c4 c5
     go_loopw [46] (fun i wr=>RelC2 cs w2 w2.heap.size k i wr) (fun i _=>2-(intOf i).toNat)
     case atStart=>exact⟨0,by omega,rfl,ST.out⟩
     case round=>
      clear ST;obtain⟨j,hj,rfl,om,htw,belE⟩:=hrel;have be:=belE.size;have HTE:=Lib.hid htw;clear htw;by_cases hj2:j<2
      ·obtain⟨y0,y1,hy,hyv⟩:∃y0 y1,(endsOf cs).getD (2*k+j) (0,0)=(y0,y1)∧((j=0∧y0=xa∧y1=xap)∨(j=1∧y0=xb∧y1=xbp)):=by
        rcases(by omega:j=0∨j=1)with rfl|rfl
        ·exact⟨xa,xap,EA.out.1,.inl ⟨rfl,rfl,rfl⟩⟩
        ·exact⟨xb,xbp,EA.out.2,.inr ⟨rfl,rfl,rfl⟩⟩
       have wy:WfE (y0,y1):=by
        rcases hyv with⟨_,rfl,rfl⟩|⟨_,rfl,rfl⟩
        ·exact⟨WX.out.1,WX.out.2.1⟩
        ·exact⟨WX.out.2.2.1,WX.out.2.2.2.1⟩
       have hle:2*k+j<(endsOf cs).length:=(by rw[EL.out];omega);have ES:=Lib.hid (endLits_snoc (endsOf cs) (2*k+j) hle);have NA:=Lib.hid (endLits_any (endsOf cs) (2*k+j) (y0,y1) EW.out wy);have TS:=Lib.hid (twTo_succ samePair (0,0) (endsOf cs) (2*k+j));rw[hy]at ES TS;have HK:Hid (keyOf Tryz.prog 73 (.agg #[.int .i64 y0,.int .i64 y1])=some (pk (y0,y1))):=keyArr2 wy.1 wy.2;have SG:=Lib.hid (setM_get (endLits (endsOf cs) (2*k+j)) (pk (y0,y1)));clear hy wy;cases hin:((endsOf cs).take (2*k+j)).any fun y=>samePair y (y0,y1)with
       |true=>
        have TG:Hid ((setM (endLits (endsOf cs) (2*k+j)) (pk (y0,y1))).getD (.bool false)=.bool true):=(by show _=_;rw[SG.out,NA.out,hin]);have FIN:Hid (repeatsB ⟨ns,cs⟩=true):=(by show _=_;unfold repeatsB twiceB;simp only;rw[twTo_mono samePair (0,0) (endsOf cs) (2*k+j+1) (by rw[TS.out,hin];simp) (endsOf cs).length hle];simp);have BWE:Hid (Below w.heap.size w (wr.alloc (.cells #[.int .i64 y0,.int .i64 y1] 73))):=
         (BW.out.trans (belE.mono (by omega))).alloc (by omega) _
        clear ES NA SG TS hin HTE EW EL EA WX HP HW;have ix0:=run_ix0;have ix1:=run_ix1;rcases hyv with⟨rfl,rfl,rfl⟩|⟨rfl,rfl,rfl⟩
        all_goals
         go_wp2_with (at_lookup;refine wpList_look _ rfl _ _ 198 rfl 73 4 lawArr2 Tryz.underlying198 (.bool false) (zeroBool2 _) w2.heap.size _ _ rfl (om.alloc _) _ _ rfl HK.out ?_;rw[TG.out])
         go_ret
         exact⟨by rw[FIN.out];rfl,BWE.out⟩
       |false=>
        have TG:Hid ((setM (endLits (endsOf cs) (2*k+j)) (pk (y0,y1))).getD (.bool false)=.bool false):=(by show _=_;rw[SG.out,NA.out,hin]);have TW:Hid (twTo samePair (0,0) (endsOf cs) (2*k+j+1)=false):=(by show _=_;rw[TS.out,HTE.out,hin];rfl);clear SG NA TS hin HTE EW EL EA WX HP HW hle;have ix0:=run_ix0;have ix1:=run_ix1;rcases hyv with⟨rfl,rfl,rfl⟩|⟨rfl,rfl,rfl⟩
        ·go_wp2_with (first|(at_lookup;refine wpList_look _ rfl _ _ 198 rfl 73 4 lawArr2 Tryz.underlying198 (.bool false) (zeroBool2 _) w2.heap.size _ _ rfl (om.alloc _) _ _ rfl HK.out ?_;rw[TG.out])|(at_mapUpdate;refine wpList_put _ rfl _ _ _ 198 rfl 73 4 lawArr2 Tryz.underlying198 w2.heap.size (2*k+0) _ rfl (om.alloc _) ?d1 _ _ _ rfl rfl HK.out ?_))
         case d1=>unfold maxLen;omega
         intro w3 om3 gr3;have R:RelC2 cs w2 w2.heap.size k (.int .i64 ((0+1:Nat):Int)) w3:=by
          refine⟨0+1,by omega,rfl,?_,TW.out,?_⟩
          ·rw[←Nat.add_assoc,ES.out,←setM_snoc];exact om3
          ·exact(belE.alloc be _).grown gr3 (by simp;omega) (by intro g e;injection e with e;omega)
         clear om3 gr3 om
         go_wp2
         exact⟨by simpa using R,by simp[intOf]⟩
        ·go_wp2_with (first|(at_lookup;refine wpList_look _ rfl _ _ 198 rfl 73 4 lawArr2 Tryz.underlying198 (.bool false) (zeroBool2 _) w2.heap.size _ _ rfl (om.alloc _) _ _ rfl HK.out ?_;rw[TG.out])|(at_mapUpdate;refine wpList_put _ rfl _ _ _ 198 rfl 73 4 lawArr2 Tryz.underlying198 w2.heap.size (2*k+1) _ rfl (om.alloc _) ?d1 _ _ _ rfl rfl HK.out ?_))
         case d1=>unfold maxLen;omega
         intro w3 om3 gr3;have R:RelC2 cs w2 w2.heap.size k (.int .i64 ((1+1:Nat):Int)) w3:=by
          refine⟨1+1,by omega,rfl,?_,TW.out,?_⟩
          ·rw[←Nat.add_assoc,ES.out,←setM_snoc];exact om3
          ·exact(belE.alloc be _).grown gr3 (by simp;omega) (by intro g e;injection e with e;omega)
         clear om3 gr3 om
         go_wp2
         exact⟨by simpa using R,by simp[intOf]⟩
      ·obtain rfl:j=2:=by omega
       have R:Hid (RelC cs w2 w2.heap.size (.int .i64 ((k+1:Nat):Int)) wr):=⟨k+1,by omega,rfl,om,HTE.out,belE⟩;clear om HTE
       go_wp2
       exact⟨by simpa using R.out,by simp[intOf];omega⟩
    ·obtain rfl:k=cs.length:=by omega
     have FIN:Hid (repeatsB ⟨ns,cs⟩=false):=(by show _=_;unfold repeatsB twiceB;simp only;rw[endsOf_length,HT2.out,HTW.out];rfl);have BWE:=Lib.hid (BW.out.trans (belC.mono (by omega)));clear HTW HT2 OM HPC HP
     go_wp2_with fail
     go_ret
     exact⟨by rw[FIN.out];rfl,BWE.out⟩
end Go.Proofs.YtnjjkgjdhljfnaaGreat
namespace Go.Proofs.YtnjjkgjdhljfnaaGreat
open Go.RowKit Go.Maps
def RelAll{α:Type}(f:α→Bool)(xs:List α)(B:Nat)(w1:World)(i:Value)(wr:World):Prop:=
 ∃k:Nat,k≤xs.length∧i=.int .i64 k∧(xs.take k).all f=true∧Below B w1 wr
theorem all_snoc{α:Type}(f:α→Bool)(d:α)(xs:List α)(k:Nat)(h:k<xs.length):(xs.take (k+1)).all f=((xs.take k).all f&&f (xs.getD k d)):=by rw[take_snocG d xs k h,List.all_append];simp
theorem all_bad{α:Type}(f:α→Bool)(d:α)(xs:List α)(k:Nat)(h:k<xs.length)(hf:f (xs.getD k d)=false):xs.all f=false:=by rw[List.all_eq_false];exact⟨xs.getD k d,by simp[List.getD,h],by rw[hf];simp⟩
section
variable{p:Pl}
theorem validP5(h:16<p.ns.length∨32<p.cs.length):validP p=5:=by unfold validP;rw[if_pos h]
theorem validP1(h:¬(16<p.ns.length∨32<p.cs.length))(h1:p.ns.all okNode=false):validP p=1:=by unfold validP;rw[if_neg h,if_pos h1]
theorem validP2(h:¬(16<p.ns.length∨32<p.cs.length))(h1:p.ns.all okNode=true)(h2:p.cs.all (okPorts p.ns)=false):validP p=2:=by unfold validP;rw[if_neg h,if_neg (by rw[h1];simp),if_pos h2]
theorem validP8(h:¬(16<p.ns.length∨32<p.cs.length))(h1:p.ns.all okNode=true)(h2:p.cs.all (okPorts p.ns)=true)(h3:repeatsB p=true):validP p=8:=by unfold validP;rw[if_neg h,if_neg (by rw[h1];simp),if_neg (by rw[h2];simp),if_pos h3]
theorem validP12(h:¬(16<p.ns.length∨32<p.cs.length))(h1:p.ns.all okNode=true)(h2:p.cs.all (okPorts p.ns)=true)(h3:repeatsB p=false)(h4:(p.cs.all fun x=>decide (x.a≠x.b))=false):validP p=12:=by unfold validP;rw[if_neg h,if_neg (by rw[h1];simp),if_neg (by rw[h2];simp),if_neg (by rw[h3];simp),if_pos h4]
theorem validP3(h:¬(16<p.ns.length∨32<p.cs.length))(h1:p.ns.all okNode=true)(h2:p.cs.all (okPorts p.ns)=true)(h3:repeatsB p=false)(h4:(p.cs.all fun x=>decide (x.a≠x.b))=true)(h5:p.cs.all okForm=false):validP p=3:=by unfold validP;rw[if_neg h,if_neg (by rw[h1];simp),if_neg (by rw[h2];simp),if_neg (by rw[h3];simp),if_neg (by rw[h4];simp),if_pos h5]
theorem validP0(h:¬(16<p.ns.length∨32<p.cs.length))(h1:p.ns.all okNode=true)(h2:p.cs.all (okPorts p.ns)=true)(h3:repeatsB p=false)(h4:(p.cs.all fun x=>decide (x.a≠x.b))=true)(h5:p.cs.all okForm=true):validP p=0:=by unfold validP;rw[if_neg h,if_neg (by rw[h1];simp),if_neg (by rw[h2];simp),if_neg (by rw[h3];simp),if_neg (by rw[h4];simp),if_neg (by rw[h5];simp)]
end
theorem port_any2(ns:List Nd)(cs:List Cb)(An Ac:Option Addr)(cn cc:Nat)(node port:Int)(w:World)(hl:ns.length≤1000000)(h:IsPlan w An Ac ⟨ns,cs⟩)(r:Bool)(hr:hasPort ns node port=r)(ob:Obj)(hob:Obj.cells #[.slice An ns.length cn,.slice Ac cs.length cc] 25=ob):Calls Tryz.prog 82 #[.agg #[.slice An ns.length cn,.slice Ac cs.length cc],.int .i64 node,.int .i64 port] w fun e w'=>e=.returned (.bool r)∧w.alloc ob=w':=by subst hr;subst hob;exact port_any ⟨ns,cs⟩ An Ac cn cc node port w hl h
theorem gvalid_any(p:Pl)(An Ac:Option Addr)(cn cc:Nat)(w:World)(hl:p.ns.length≤1000000)(hl2:p.cs.length≤1000000)(hwf:WfP p)(h:IsPlan w An Ac p):Calls Tryz.prog 35 #[.agg #[.slice An p.ns.length cn,.slice Ac p.cs.length cc]] w fun e w'=>e=.returned (.int .i64 (validP p))∧Below w.heap.size w w':=by
 obtain⟨ns,cs⟩:=p;simp only at hl hl2⊢;have H:=Lib.hid h;have HW:=Lib.hid hwf;clear h hwf;have HB0:Hid ((w.alloc (.cells #[.slice An ns.length cn,.slice Ac cs.length cc] 25)).cell? ⟨w.heap.size,0,none⟩=some (.slice An ns.length cn)):=by show _=_;simp[go_sem]
 have HB1:Hid ((w.alloc (.cells #[.slice An ns.length cn,.slice Ac cs.length cc] 25)).cell? ⟨w.heap.size,1,none⟩=some (.slice Ac cs.length cc)):=by show _=_;simp[go_sem]
 have H1:=Lib.hid (H.out.alloc (.cells #[.slice An ns.length cn,.slice Ac cs.length cc] 25));have HBW:Hid (Below w.heap.size w (w.alloc (.cells #[.slice An ns.length cn,.slice Ac cs.length cc] 25))):=(Below.refl _ _).alloc (Nat.le_refl _) _;have hsz:(w.alloc (.cells #[.slice An ns.length cn,.slice Ac cs.length cc] 25)).heap.size=w.heap.size+1:=by simp
 clear H;by_cases h16:16<ns.length
 ·have FIN:=Lib.hid (validP5 (p:=⟨ns,cs⟩) (.inl h16))
  go_enter Tryz.func35,Tryz.ntmps35
  go_wp2_with fail
  go_ret
  exact⟨by rw[FIN.out];rfl,HBW.out⟩
 by_cases h32:32<cs.length
 ·have FIN:=Lib.hid (validP5 (p:=⟨ns,cs⟩) (.inr h32))
  go_enter Tryz.func35,Tryz.ntmps35
  go_wp2_with fail
  go_ret
  exact⟨by rw[FIN.out];rfl,HBW.out⟩
 have V:Hid (¬(16<(⟨ns,cs⟩:Pl).ns.length∨32<(⟨ns,cs⟩:Pl).cs.length)):=by
  rintro(h|h)
  ·exact h16 h
  ·exact h32 h
 go_enter Tryz.func35,Tryz.ntmps35
 go_wp2_with fail
 go_loopw [24] (fun i wr=>RelAll okNode ns (w.heap.size+1) (w.alloc (.cells #[.slice An ns.length cn,.slice Ac cs.length cc] 25)) i wr) (fun i _=>ns.length-(intOf i).toNat)
 case atStart=>exact⟨0,Nat.zero_le _,rfl,rfl,Below.refl _ _⟩
 case round=>
  generalize w.alloc (.cells #[.slice An ns.length cn,.slice Ac cs.length cc] 25)=w1 at *;obtain⟨k,hk,rfl,hall,bel⟩:=hrel;have bs:=bel.size;have HA:=Lib.hid hall;clear hall;have HP:=Lib.hid (H1.out.below (by omega) bel);by_cases hkr:k<ns.length
  ·obtain⟨bb,off,ha,hbb,hmem,c0,c1,c2⟩:=node_at HP.out.1 k hkr;have AS:=Lib.hid (all_snoc okNode nd0 ns k hkr);have AB:=Lib.hid (all_bad okNode nd0 ns k hkr);generalize ns.getD k nd0=x at *;subst ha;cases hx:okNode x with
   |false=>
    have FIN:=Lib.hid (validP1 (p:=⟨ns,cs⟩) V.out (AB.out hx));have HX:=Lib.hid hx;have BW:Hid (Below w.heap.size w ((wr.alloc (.cells #[.string x.name,.bool x.sw,.int .i64 x.ports] 83)).alloc (.cells #[.string x.name,.bool x.sw,.int .i64 x.ports] 83))):=
     ((HBW.out.trans (bel.mono (by omega))).alloc (by omega) _).alloc (by simp;omega) _
    clear hx AS AB HA HP hmem V
    go_wp2_with (go_at_call 81;refine(node_any x _).mono ?_;rintro r w' ⟨rfl,rfl⟩;rw[HX.out])
    go_ret
    exact⟨by rw[FIN.out];rfl,BW.out⟩
   |true=>
    have HX:=Lib.hid hx;have R:Hid (RelAll okNode ns (w.heap.size+1) w1 (.int .i64 ((k+1:Nat):Int)) ((wr.alloc (.cells #[.string x.name,.bool x.sw,.int .i64 x.ports] 83)).alloc (.cells #[.string x.name,.bool x.sw,.int .i64 x.ports] 83))):=
     ⟨k+1,by omega,rfl,by rw[AS.out,HA.out,hx];rfl,(bel.alloc (by omega) _).alloc (by simp;omega) _⟩
    clear hx AS AB HA HP hmem V
    go_wp2_with (go_at_call 81;refine(node_any x _).mono ?_;rintro r w' ⟨rfl,rfl⟩;rw[HX.out])
    exact⟨by simpa using R.out,by simp[intOf];omega⟩
  ·obtain rfl:k=ns.length:=by omega
   rw[List.take_length]at HA;have d0:wr.cell? ⟨w.heap.size,0,none⟩=some (.slice An ns.length cn):=by rw[bel.cell (by show w.heap.size<_;omega)];exact HB0.out
   have d1:wr.cell? ⟨w.heap.size,1,none⟩=some (.slice Ac cs.length cc):=(by rw[bel.cell (by show w.heap.size<_;omega)];exact HB1.out);have BW:=Lib.hid (HBW.out.trans (bel.mono (by omega)));have bw:w.heap.size<wr.heap.size:=(by omega);have D0:=Lib.hid d0;have D1:=Lib.hid d1;clear HB0 HB1 H1 HBW bel bs hsz hk hkr;obtain⟨w2,rfl⟩:∃w2:World,w2=wr:=⟨_,rfl⟩
   go_wp2_with fail
   go_loopw [35] (fun i wr=>RelAll (okPorts ns) cs w2.heap.size w2 i wr) (fun i _=>cs.length-(intOf i).toNat)
   case atStart=>exact⟨0,Nat.zero_le _,rfl,rfl,Below.refl _ _⟩
   case round=>
    clear d0 d1;obtain⟨k,hk,rfl,hall,belC⟩:=hrel;have bc:=belC.size;have HC:=Lib.hid hall;clear hall;have HPC:=Lib.hid (HP.out.below (Nat.le_refl _) belC);have e0:wr.cell? ⟨w.heap.size,0,none⟩=some (.slice An ns.length cn):=by rw[belC.cell (by exact bw)];exact D0.out
    have e1:wr.cell? ⟨w.heap.size,1,none⟩=some (.slice Ac cs.length cc):=(by rw[belC.cell (by exact bw)];exact D1.out);have bwr:w.heap.size<wr.heap.size:=(by omega);by_cases hkr:k<cs.length
    ·obtain⟨bb,off,ha,hbb,hmem,c0,c1,c2,c3,c4,c5⟩:=cable_at HPC.out.2 k hkr;have AS:=Lib.hid (all_snoc (okPorts ns) cb0 cs k hkr);have AB:=Lib.hid (all_bad (okPorts ns) cb0 cs k hkr);generalize cs.getD k cb0=x at *;have HAn:Hid (IsPlan wr An (some ⟨bb,off,none⟩) ⟨ns,cs⟩):=(by rw[←ha];exact HPC.out);subst ha;obtain⟨xa,xap,xb,xbp,xdl,xcp⟩:=x;simp only at c0 c1 c2 c3 c4 c5;clear hmem HPC;obtain⟨ob,hob⟩:∃ob,Obj.cells #[Value.slice An ns.length cn,.slice (some ⟨bb,off,none⟩) cs.length cc] 25=ob:=⟨_,rfl⟩;have HOB:=Lib.hid hob;clear hob;cases hx:hasPort ns xa xap with
     |false=>
      have FIN:=Lib.hid (validP2 (p:=⟨ns,cs⟩) V.out HA.out (AB.out (by simp[okPorts,hx])));have HX:=Lib.hid hx;have BW2:Hid (Below w.heap.size w ((wr.alloc (.cells #[.int .i64 xa,.int .i64 xap,.int .i64 xb,.int .i64 xbp,.int .i64 xdl,.int .i64 xcp] 86)).alloc ob)):=
       ((BW.out.trans (belC.mono (by omega))).alloc (by omega) _).alloc (by simp;omega) _
      clear hx AS AB HA HC HP V
      go_wp2_with (go_at_call 82;refine(port_any2 ns cs An _ cn cc xa xap _ hl (HAn.out.alloc _) _ HX.out ob HOB.out).mono ?_;rintro r w' ⟨rfl,rfl⟩)
      go_ret
      exact⟨by rw[FIN.out];rfl,BW2.out⟩
     |true=>
      have HX:=Lib.hid hx;have BB:Hid (Below w2.heap.size w2 (((wr.alloc (.cells #[.int .i64 xa,.int .i64 xap,.int .i64 xb,.int .i64 xbp,.int .i64 xdl,.int .i64 xcp] 86)).alloc ob).alloc ob)):=
       ((belC.alloc bc _).alloc (by simp;omega) _).alloc (by simp;omega) _
      cases hy:hasPort ns xb xbp with
      |false=>
       have FIN:=Lib.hid (validP2 (p:=⟨ns,cs⟩) V.out HA.out (AB.out (by simp[okPorts,hy])));have HY:=Lib.hid hy;clear hx hy AS AB HA HC HP V
       go_wp2_with fail
       refine(port_any2 ns cs An _ cn cc xa xap _ hl (HAn.out.alloc _) _ HX.out ob HOB.out).mono ?_;rintro r w' ⟨rfl,rfl⟩
       go_wp2_with fail
       refine(port_any2 ns cs An _ cn cc xb xbp _ hl ((HAn.out.alloc _).alloc _) _ HY.out ob HOB.out).mono ?_;rintro r w' ⟨rfl,rfl⟩
       go_wp2_with fail
       go_ret
       exact⟨by rw[FIN.out];rfl,BW.out.trans (BB.out.mono (by omega))⟩
      |true=>
       have HY:=Lib.hid hy;have R:Hid (RelAll (okPorts ns) cs w2.heap.size w2 (.int .i64 ((k+1:Nat):Int)) (((wr.alloc (.cells #[.int .i64 xa,.int .i64 xap,.int .i64 xb,.int .i64 xbp,.int .i64 xdl,.int .i64 xcp] 86)).alloc ob).alloc ob)):=
        ⟨k+1,by omega,rfl,by rw[AS.out,HC.out];simp[okPorts,hx,hy],BB.out⟩
       clear hx hy AS AB HA HC HP V BB
       go_wp2_with fail
       refine(port_any2 ns cs An _ cn cc xa xap _ hl (HAn.out.alloc _) _ HX.out ob HOB.out).mono ?_;rintro r w' ⟨rfl,rfl⟩
       go_wp2_with fail
       refine(port_any2 ns cs An _ cn cc xb xbp _ hl ((HAn.out.alloc _).alloc _) _ HY.out ob HOB.out).mono ?_;rintro r w' ⟨rfl,rfl⟩
       go_wp2_with fail
       exact⟨by simpa using R.out,by simp[intOf];omega⟩
    ·obtain rfl:k=cs.length:=by omega
     rw[List.take_length]at HC;have BW2:=Lib.hid (BW.out.trans (belC.mono (by omega)));clear BW D0 D1 HP belC;cases hr:repeatsB ⟨ns,cs⟩with
     |true=>
      have FIN:=Lib.hid (validP8 (p:=⟨ns,cs⟩) V.out HA.out HC.out hr);have HR:=Lib.hid hr;clear hr V HA HC
      go_wp2_with fail
      refine(repeats_any ⟨ns,cs⟩ An Ac cn cc _ hl hl2 HW.out HPC.out).mono ?_;rintro r w' ⟨rfl,bel3⟩;rw[HR.out]
      go_wp2_with fail
      go_ret
      exact⟨by rw[FIN.out];rfl,BW2.out.trans (bel3.mono (by omega))⟩
     |false=>
      have HR:=Lib.hid hr;clear hr
      go_wp2_with fail
      refine(repeats_any ⟨ns,cs⟩ An Ac cn cc _ hl hl2 HW.out HPC.out).mono ?_;rintro r w' ⟨rfl,bel3⟩;rw[HR.out];have f0:w'.cell? ⟨w.heap.size,0,none⟩=some (.slice An ns.length cn):=(by rw[bel3.cell (by exact bwr)];exact e0);have f1:w'.cell? ⟨w.heap.size,1,none⟩=some (.slice Ac cs.length cc):=(by rw[bel3.cell (by exact bwr)];exact e1);have HP3:=Lib.hid (HPC.out.below (Nat.le_refl _) bel3);have BW3:=Lib.hid (BW2.out.trans (bel3.mono (by omega)));have bw3:w.heap.size<w'.heap.size:=(by have:=bel3.size;omega);have F0:=Lib.hid f0;have F1:=Lib.hid f1;clear bel3 HPC BW2 e0 e1 bwr bc;generalize w'=w3 at *
      go_wp2_with fail
      go_loopw [61] (fun i wr=>RelAll (fun x:Cb=>decide (x.a≠x.b)) cs w3.heap.size w3 i wr) (fun i _=>cs.length-(intOf i).toNat)
      case atStart=>exact⟨0,Nat.zero_le _,rfl,rfl,Below.refl _ _⟩
      case round=>
       clear f0 f1;obtain⟨k,hk,rfl,hall,belD⟩:=hrel;have bd:=belD.size;have HD:=Lib.hid hall;clear hall;have HPD:=Lib.hid (HP3.out.below (Nat.le_refl _) belD);by_cases hkr:k<cs.length
       ·obtain⟨bb,off,ha,hbb,hmem,c0,c1,c2,c3,c4,c5⟩:=cable_at HPD.out.2 k hkr;have AS:=Lib.hid (all_snoc (fun x:Cb=>decide (x.a≠x.b)) cb0 cs k hkr);have AB:=Lib.hid (all_bad (fun x:Cb=>decide (x.a≠x.b)) cb0 cs k hkr);generalize cs.getD k cb0=x at *;subst ha;obtain⟨xa,xap,xb,xbp,xdl,xcp⟩:=x;simp only at c0 c1 c2 c3 c4 c5;have BB:Hid (Below w3.heap.size w3 (wr.alloc (.cells #[.int .i64 xa,.int .i64 xap,.int .i64 xb,.int .i64 xbp,.int .i64 xdl,.int .i64 xcp] 86))):=belD.alloc bd _;by_cases hab:xa=xb
        ·have FIN:=Lib.hid (validP12 (p:=⟨ns,cs⟩) V.out HA.out HC.out HR.out (AB.out (by simp[hab])));have hq:(xa==xb)=true:=by rw[hab];simp
         clear hmem AS AB HA HC HR V HD HPD hab
         go_wp2_with fail
         go_ret
         exact⟨by rw[FIN.out];rfl,BW3.out.trans (BB.out.mono (by omega))⟩
        ·have R:Hid (RelAll (fun x:Cb=>decide (x.a≠x.b)) cs w3.heap.size w3 (.int .i64 ((k+1:Nat):Int)) (wr.alloc (.cells #[.int .i64 xa,.int .i64 xap,.int .i64 xb,.int .i64 xbp,.int .i64 xdl,.int .i64 xcp] 86))):=
          ⟨k+1,by omega,rfl,by rw[AS.out,HD.out];simp[hab],BB.out⟩
         have hq:(xa==xb)=false:=(by rw[beq_eq_false_iff_ne];exact hab);clear hmem AS AB HA HC HR V HD HPD hab BB
         go_wp2_with fail
         exact⟨by simpa using R.out,by simp[intOf];omega⟩
       ·obtain rfl:k=cs.length:=by omega
        rw[List.take_length]at HD;have g0:wr.cell? ⟨w.heap.size,0,none⟩=some (.slice An ns.length cn):=by rw[belD.cell (by exact bw3)];exact F0.out
        have g1:wr.cell? ⟨w.heap.size,1,none⟩=some (.slice Ac cs.length cc):=(by rw[belD.cell (by exact bw3)];exact F1.out);have BW4:=Lib.hid (BW3.out.trans (belD.mono (by omega)));have bw4:w.heap.size<wr.heap.size:=(by omega);clear BW3 F0 F1 HP3 belD;obtain⟨w4,rfl⟩:∃w4:World,w4=wr:=⟨_,rfl⟩
        go_wp2_with fail
        go_loopw [74] (fun i wr=>RelAll okForm cs w4.heap.size w4 i wr) (fun i _=>cs.length-(intOf i).toNat)
        case atStart=>exact⟨0,Nat.zero_le _,rfl,rfl,Below.refl _ _⟩
        case round=>
         clear g0 g1;obtain⟨k,hk,rfl,hall,belF⟩:=hrel;have bf:=belF.size;have HF:=Lib.hid hall;clear hall;have HPF:=Lib.hid (HPD.out.below (Nat.le_refl _) belF);by_cases hkr:k<cs.length
         ·obtain⟨bb,off,ha,hbb,hmem,c0,c1,c2,c3,c4,c5⟩:=cable_at HPF.out.2 k hkr;have AS:=Lib.hid (all_snoc okForm cb0 cs k hkr);have AB:=Lib.hid (all_bad okForm cb0 cs k hkr);generalize cs.getD k cb0=x at *;subst ha;obtain⟨xa,xap,xb,xbp,xdl,xcp⟩:=x;simp only at c0 c1 c2 c3 c4 c5;have BB:Hid (Below w4.heap.size w4 (wr.alloc (.cells #[.int .i64 xa,.int .i64 xap,.int .i64 xb,.int .i64 xbp,.int .i64 xdl,.int .i64 xcp] 86))):=belF.alloc bf _;by_cases hok:1≤xdl∧xdl≤100∧1≤xcp∧xcp≤1000
          ·have R:Hid (RelAll okForm cs w4.heap.size w4 (.int .i64 ((k+1:Nat):Int)) (wr.alloc (.cells #[.int .i64 xa,.int .i64 xap,.int .i64 xb,.int .i64 xbp,.int .i64 xdl,.int .i64 xcp] 86))):=
            ⟨k+1,by omega,rfl,by rw[AS.out,HF.out];simp[okForm,hok],BB.out⟩
           obtain⟨q1,q2,q3,q4⟩:=hok;clear hmem AS AB HA HC HR HD V HF HPF HPD BB
           go_wp2_with fail
           exact⟨by simpa using R.out,by simp[intOf];omega⟩
          ·have FIN:=Lib.hid (validP3 (p:=⟨ns,cs⟩) V.out HA.out HC.out HR.out HD.out (AB.out (by
            simp only[okForm];rw[Bool.eq_false_iff];intro h;simp at h;exact hok ⟨h.1.1.1,h.1.1.2,h.1.2,h.2⟩)))
           clear hmem AS AB HA HC HR HD V HF HPF HPD;rcases(by omega:xdl<1∨(1≤xdl∧100<xdl)∨(1≤xdl∧xdl≤100∧xcp<1)∨(1≤xdl∧xdl≤100∧1≤xcp∧1000<xcp))with q1|⟨q1,q2⟩|⟨q1,q2,q3⟩|⟨q1,q2,q3,q4⟩<;>clear hok
           all_goals
            go_wp2_with fail
            go_ret
            exact⟨by rw[FIN.out];rfl,BW4.out.trans (BB.out.mono (by omega))⟩
         ·obtain rfl:k=cs.length:=by omega
          rw[List.take_length]at HF;have FIN:=Lib.hid (validP0 (p:=⟨ns,cs⟩) V.out HA.out HC.out HR.out HD.out HF.out);have BW5:=Lib.hid (BW4.out.trans (belF.mono (by omega)));clear HA HC HR HD V HF HPF HPD
          go_wp2_with fail
          go_ret
          exact⟨by rw[FIN.out];rfl,BW5.out⟩
end Go.Proofs.YtnjjkgjdhljfnaaGreat
namespace Go.Proofs.YtnjjkgjdhljfnaaGreat
structure Fm where
 id:Int
 frm:Int
 to':Int
 cls:Int
 ep:Int
 data:List Int
instance:Inhabited Fm:=⟨⟨0,0,0,0,0,[]⟩⟩
structure Gv where
 room:Int
 rec':Int
 freed:Int
instance:Inhabited Gv:=⟨⟨0,0,0⟩⟩
structure Tk where
 sent:Int
 lim:Int
instance:Inhabited Tk:=⟨⟨0,0⟩⟩
def Gv.limit(g:Gv):Int:=g.room+g.freed
def Gv.receive(g:Gv):Gv×Bool:=if g.limit≤g.rec' then(g,false)else({g with rec':=g.rec'+1},true)
def Gv.free(g:Gv):Gv:=if g.rec'≤g.freed then g else{g with freed:=g.freed+1}
def Tk.raise(t:Tk)(l:Int):Tk:=if l<0∨1099511627776<l then t else{t with lim:=max t.lim l}
def Tk.take(t:Tk):Tk:=if t.lim≤t.sent then t else{t with sent:=t.sent+1}
def Tk.left(t:Tk):Int:=t.lim-t.sent
def firstC(n from':Nat)(s:Nat→Bool):Option Nat:=((List.range n).map fun st=>(from'+st)%n).find? s
structure Bar where
 grant:List Nat
 acc:List Nat
structure Mat where
 mt:List (Option Nat)
 taken:List Bool
 bar:Bar
def grants(n:Nat)(req:Nat→Nat→Bool)(m:Mat):List (Option Nat):=
 (List.range n).map fun k=>if m.taken.getD k false then none else firstC n (m.bar.grant.getD k 0) fun i=>(m.mt.getD i none).isNone&&req i k
def accept1(n:Nat)(g:List (Option Nat))(adv:Bool)(m:Mat)(i:Nat):Mat:=
 match firstC n (m.bar.acc.getD i 0) (fun k=>g.getD k none==some i)with
 |none=>m
 |some k=>⟨m.mt.set i (some k),m.taken.set k true,if adv then⟨m.bar.grant.set k ((i+1)%n),m.bar.acc.set i ((k+1)%n)⟩else m.bar⟩
def roundX(n:Nat)(req:Nat→Nat→Bool)(adv:Bool)(m:Mat):Mat:=(List.range n).foldl (accept1 n (grants n req m) adv) m
def matchX(n:Nat)(req:Nat→Nat→Bool)(b:Bar):List (Option Nat)×Bar:=
 let m:=(List.range n).foldl (fun m r=>roundX n req (r==0) m) ⟨List.replicate n none,List.replicate 8 false,b⟩
 (m.mt,m.bar)
structure Bx where
 ports:Nat
 classes:Nat
 q:List (List (List Fm))
 gv:List (List Gv)
 tk:List (List Tk)
 ptr:List Nat
 bar:Bar
 ov:Nat
instance:Inhabited Bx:=⟨⟨0,0,[],[],[],[],⟨[],[]⟩,0⟩⟩
def set2{α:Type}[Inhabited α](l:List (List α))(i j:Nat)(x:α):List (List α):=l.set i ((l.getD i []).set j x)
def get2{α:Type}[Inhabited α](l:List (List α))(i j:Nat):α:=(l.getD i []).getD j default
def newBx(ports:Nat)(rooms:List Int):Bx where
 ports:=ports
 classes:=rooms.length
 q:=List.replicate ports (List.replicate rooms.length [])
 gv:=List.replicate ports (rooms.map fun r=>⟨r,0,0⟩)
 tk:=List.replicate ports (rooms.map fun _=>⟨0,0⟩)
 ptr:=List.replicate 8 0
 bar:=⟨List.replicate 8 0,List.replicate 8 0⟩
 ov:=0
def Bx.arrive(b:Bx)(port:Nat)(f:Fm):Bx×Bool:=
 let c:=f.cls.toNat;let r:=(get2 b.gv port c).receive
 if r.2 then({b with gv:=set2 b.gv port c r.1,q:=set2 b.q port c (get2 b.q port c++[f])},true)else({b with ov:=b.ov+1},false)
def Bx.raise(b:Bx)(port c:Nat)(l:Int):Bx:={b with tk:=set2 b.tk port c ((get2 b.tk port c).raise l)}
def Bx.pop(b:Bx)(port c:Nat):Bx:={b with q:=set2 b.q port c (get2 b.q port c).tail,gv:=set2 b.gv port c (get2 b.gv port c).free}
def lookQ(ports:Nat)(route:Fm→Option Nat):List Fm→Nat×Option Nat
 |[]=>(0,none)
 |f::l=>match route f with
  |some k=>if k<ports then(0,some k)else let r:=lookQ ports route l;(r.1+1,r.2)
  |none=>let r:=lookQ ports route l;(r.1+1,r.2)
abbrev Mv:=Nat×Nat×Option Nat×Fm
def popN(port c:Nat):Nat→Bx×List Mv→Bx×List Mv
 |0,s=>s
 |n+1,s=>popN port c n (s.1.pop port c,s.2++[(port,c,none,(get2 s.1.q port c).headD default)])
def pairsB(b:Bx):List (Nat×Nat):=(List.range b.ports).flatMap fun p=>(List.range b.classes).map fun c=>(p,c)
def readyB(outs:Nat→Nat→Option Nat)(b:Bx)(i k c:Nat):Bool:=outs i c==some k&&decide (0<(get2 b.tk k c).left)
def moveI(outs:Nat→Nat→Option Nat)(i k:Nat)(s:Bx×List Mv):Bx×List Mv:=
 match firstC s.1.classes (s.1.ptr.getD i 0) (readyB outs s.1 i k)with
 |none=>s
 |some c=>
  let f:=(get2 s.1.q i c).headD default;let b1:=s.1.pop i c
  ({b1 with tk:=set2 b1.tk k c (get2 b1.tk k c).take,ptr:=b1.ptr.set i ((c+1)%b1.classes)},s.2++[(i,c,some k,f)])
def Bx.step(b:Bx)(route:Nat→Fm→Option Nat):Bx×List Mv:=
 let lk:=fun p c=>lookQ b.ports (route p) (get2 b.q p c);let outs:=fun p c=>(lk p c).2;let s1:=(pairsB b).foldl (fun s pc=>popN pc.1 pc.2 (lk pc.1 pc.2).1 s) (b,[]);let req:=fun i k=>(List.range b.classes).any fun c=>readyB outs s1.1 i k c;let m:=matchX b.ports req s1.1.bar;let s2:Bx×List Mv:=({s1.1 with bar:=m.2},s1.2)
 (List.range b.ports).foldl (fun s i=>match m.1.getD i none with|none=>s|some k=>moveI outs i k s) s2
structure Rt where
 next:Nat→Nat→Nat→Int
 falls:Nat→Nat→Bool
instance:Inhabited Rt:=⟨⟨fun _ _ _=>-1,fun _ _=>false⟩⟩
structure Fab where
 classes:Nat
 rooms:List Int
 boxes:List Bx
 up:List Bool
 rt0:Rt
 rt1:Rt
 bnow:Nat
 al0:Int
 al1:Int
 pend:Bool
 now:Nat
 last:Nat
 fl:Nat→List (Nat×Fm)
 lim:Nat→List (Nat×Nat×Int)
 came:List (List Int)
 gone:List (List Int)
 lost:List Fm
section
variable(ns:List Nd)(cs:List Cb)
def endsF(c:Nat):Nat×Nat×Nat×Nat:=
 let x:=cs.getD (c/2) cb0
 if c%2=0 then(x.a.toNat,x.ap.toNat,x.b.toNat,x.bp.toNat)else(x.b.toNat,x.bp.toNat,x.a.toNat,x.ap.toNat)
def chanF(cable node:Nat):Nat:=if(cs.getD cable cb0).a=(node:Int)then 2*cable else 2*cable+1
def cableAt(node port:Nat):Option Nat:=(List.range cs.length).find? fun i=>
 let x:=cs.getD i cb0
 (x.a==(node:Int)&&x.ap==(port:Int))||(x.b==(node:Int)&&x.bp==(port:Int))
def isSw(node:Nat):Bool:=(ns.getD node nd0).sw
def Fab.rt(f:Fab)(ep:Int):Rt:=if ep%2=0 then f.rt0 else f.rt1
def Fab.alive(f:Fab)(ep:Int):Int:=if ep<0∨(f.bnow:Int)<ep∨ep<(f.bnow:Int)-1 then 0 else if ep%2=0 then f.al0 else f.al1
def Fab.addAl(f:Fab)(ep d:Int):Fab:=if ep%2=0 then{f with al0:=f.al0+d}else{f with al1:=f.al1+d}
def Fab.rem(f:Fab)(ep:Int):Fab:=if f.alive ep=0 then f else f.addAl ep (-1)
def Fab.lose(f:Fab)(x:Fm):Fab:=let g:=f.rem x.ep;{g with lost:=g.lost++[x]}
def Fab.leave(f:Fab)(node port:Nat)(x:Fm):Option Nat:=
 let r:=f.rt x.ep;let cable:=r.next node (if isSw ns node&&r.falls node port then 1 else 0) x.to'.toNat
 if cable<0 then none else if f.up.getD cable.toNat false then some (chanF cs cable.toNat node)else none
def endF(node:Int):Bool:=decide (0≤node)&&decide (node<ns.length)&&!isSw ns node.toNat
def Fab.inject(f:Fab)(frm to' cls:Int)(data:List Int):Fab×Int×Int:=
 if !endF ns frm||!endF ns to'||decide (cls<0)||decide ((f.classes:Int)≤cls)||decide (64<data.length)then(f,0,2)
 else if frm=to' then(f,0,12)
 else
  let v:=cls.toNat+f.classes*(f.bnow%2)
  if f.rooms.getD v 0≤(get2 (f.boxes.getD frm.toNat default).q 1 v).length then(f,0,5)
  else
   let x:Fm:=⟨f.last+1,frm,to',v,f.bnow,data⟩;let r:=(f.boxes.getD frm.toNat default).arrive 1 x
   if r.2 then({f.addAl f.bnow 1 with boxes:=f.boxes.set frm.toNat r.1,last:=f.last+1},f.last+1,0)else({f with boxes:=f.boxes.set frm.toNat r.1},0,5)
def Fab.raise1(f:Fab)(x:Nat×Nat×Int):Fab:=
 let e:=endsF cs x.1
 {f with boxes:=f.boxes.set e.1 ((f.boxes.getD e.1 default).raise e.2.1 x.2.1 x.2.2)}
abbrev Dl:=Nat×Nat×Fm
def Fab.arrive1(s:Fab×List Dl)(x:Nat×Fm):Fab×List Dl:=
 let f:=s.1;let e:=endsF cs x.1
 if isSw ns e.2.2.1 then
  let r:=(f.boxes.getD e.2.2.1 default).arrive e.2.2.2 x.2;let g:={f with boxes:=f.boxes.set e.2.2.1 r.1}
  (if r.2 then g else g.lose x.2,s.2)
 else
  let g:={f with came:=set2 f.came e.2.2.1 x.2.cls.toNat (get2 f.came e.2.2.1 x.2.cls.toNat+1)}
  (g.rem x.2.ep,s.2++[(f.now,e.2.2.1,x.2)])
def byChan(n:Nat)(l:List (Nat×Fm)):List (Nat×Fm):=(List.range n).flatMap fun c=>l.filter fun x=>x.1==c
def Fab.arriveF(f:Fab):Fab×List Dl:=
 (byChan (2*cs.length) (f.fl f.now)).foldl (Fab.arrive1 ns cs) ({f with fl:=fun t=>if t=f.now then[]else f.fl t},[])
def Fab.move1(node:Nat)(f:Fab)(m:Mv):Fab:=match m.2.2.1 with
 |none=>f.lose m.2.2.2
 |some k=>match cableAt cs node k with
  |none=>f
  |some i=>
   let due:=f.now+(cs.getD i cb0).dl.toNat
   {f with fl:=fun t=>if t=due then f.fl t++[(chanF cs i node,m.2.2.2)]else f.fl t}
def Fab.stepN(f:Fab)(node:Nat):Fab:=
 let r:=(f.boxes.getD node default).step fun port x=>(f.leave ns cs node port x).map fun c=>(endsF cs c).2.1
 r.2.foldl (Fab.move1 cs node) {f with boxes:=f.boxes.set node r.1}
def Fab.tell1(f:Fab)(c v:Nat):Fab:=
 let e:=endsF cs c;let due:=f.now+(cs.getD (c/2) cb0).dl.toNat;let l:=if isSw ns e.2.2.1 then(get2 (f.boxes.getD e.2.2.1 default).gv e.2.2.2 v).limit else f.rooms.getD v 0+get2 f.came e.2.2.1 v
 {f with lim:=fun t=>if t=due then f.lim t++[(c,v,l+get2 f.gone c v)]else f.lim t}
def Fab.tell(f:Fab):Fab:=
 (List.range (2*cs.length)).foldl (fun f c=>if f.up.getD (c/2) false then(List.range f.rooms.length).foldl (fun f v=>f.tell1 ns cs c v) f else f) f
def Fab.mayAdv(f:Fab):Bool:=decide (f.alive ((f.bnow:Int)-1)≤0)
def Fab.tick(f:Fab)(nr:Rt):Fab×List Dl:=
 let f1:={f with now:=f.now+1};let f2:=if f1.pend&&f1.mayAdv then(if(f1.bnow+1)%2=0 then{f1 with pend:=false,bnow:=f1.bnow+1,rt0:=nr}else{f1 with pend:=false,bnow:=f1.bnow+1,rt1:=nr})else f1
 let f3:=(f2.lim f2.now).foldl (Fab.raise1 cs) f2;let f4:={f3 with lim:=fun t=>if t=f3.now then[]else f3.lim t};let r:=f4.arriveF ns cs;let f5:=(List.range ns.length).foldl (Fab.stepN ns cs) r.1
 (f5.tell ns cs,r.2)
def newFab(rooms:List Int)(r:Rt):Fab where
 classes:=rooms.length
 rooms:=rooms++rooms
 boxes:=ns.map fun n=>newBx (if n.sw then n.ports.toNat else 2) (rooms++rooms)
 up:=cs.map fun _=>true
 rt0:=r
 rt1:=default
 bnow:=0
 al0:=0
 al1:=0
 pend:=false
 now:=0
 last:=0
 fl:=fun _=>[]
 lim:=fun _=>[]
 came:=ns.map fun _=>(rooms++rooms).map fun _=>0
 gone:=(List.range (2*cs.length)).map fun _=>(rooms++rooms).map fun _=>0
 lost:=[]
end
theorem getD_set_at{α:Type}(l:List α){i:Nat}(x d:α)(h:i<l.length):(l.set i x).getD i d=x:=by simp[List.getD,h]
theorem getD_set_far{α:Type}(l:List α){i j:Nat}(x d:α)(h:j≠i):(l.set i x).getD j d=l.getD j d:=by simp[List.getD,List.getElem?_set,Ne.symm h]
theorem rep0(n k:Nat):(List.replicate n (0:Nat)).getD k 0=0:=by simp only[List.getD,List.getElem?_replicate];split<;>rfl
structure Dim2{α:Type}(l:List (List α))(n m:Nat):Prop where
 len:l.length=n
 row:∀i,i<n→(l.getD i []).length=m
section
variable{α:Type}[Inhabited α]{l:List (List α)}{n m i j a b:Nat}{x:α}
theorem Dim2.set_(h:Dim2 l n m)(i j:Nat)(x:α):Dim2 (set2 l i j x) n m:=by
 unfold set2;refine⟨by rw[List.length_set];exact h.len,fun k hk=>?_⟩;by_cases e:k=i
 ·subst e;rw[getD_set_at _ _ _ (by rw[h.len];exact hk),List.length_set];exact h.row k hk
 ·rw[getD_set_far _ _ _ e];exact h.row k hk
theorem get2_set2(h:Dim2 l n m)(hi:i<n)(hj:j<m)(a b:Nat):get2 (set2 l i j x) a b=if a=i∧b=j then x else get2 l a b:=by
 unfold get2 set2;by_cases e:a=i
 ·subst e;rw[getD_set_at _ _ _ (by rw[h.len];exact hi)];by_cases e2:b=j
  ·subst e2;rw[if_pos ⟨rfl,rfl⟩,getD_set_at _ _ _ (by rw[h.row a hi];exact hj)]
  ·rw[if_neg (by simp[e2]),getD_set_far _ _ _ e2]
 ·rw[if_neg (by simp[e]),getD_set_far _ _ _ e]
theorem get2_same(h:Dim2 l n m)(hi:i<n)(hj:j<m):get2 (set2 l i j x) i j=x:=by rw[get2_set2 h hi hj,if_pos ⟨rfl,rfl⟩]
theorem get2_far(h:Dim2 l n m)(hi:i<n)(hj:j<m)(hne:¬(a=i∧b=j)):get2 (set2 l i j x) a b=get2 l a b:=by rw[get2_set2 h hi hj,if_neg hne]
omit [Inhabited α] in
theorem Dim2.rep(n m:Nat)(x:α):Dim2 (List.replicate n (List.replicate m x)) n m:=
 ⟨by simp,fun i hi=>by simp[List.getD,hi]⟩
theorem get2_rep{n:Nat}{r:List α}(hi:i<n):get2 (List.replicate n r) i j=r.getD j default:=by simp[get2,List.getD,hi]
end
theorem set2_get2{α:Type}[Inhabited α](l:List (List α)){n m i j:Nat}(h:Dim2 l n m)(hi:i<n)(hj:j<m):set2 l i j (get2 l i j)=l:=by
 unfold set2 get2;have e1:(l.getD i []).set j ((l.getD i []).getD j default)=l.getD i []:=by
  apply List.ext_getElem?;intro k;rw[List.getElem?_set];by_cases e:j=k
  ·subst e;have:j<(l.getD i []).length:=by rw[h.row i hi];exact hj
   simp only[if_pos,this];simp[List.getD,this]at this⊢;simp[this]
  ·rw[if_neg e]
 rw[e1];apply List.ext_getElem?;intro k;rw[List.getElem?_set];by_cases e:i=k
 ·subst e;have:i<l.length:=by rw[h.len];exact hi
  simp[List.getD,this]
 ·rw[if_neg e]
structure GvOk(x:Gv)(q N:Nat):Prop where
 r0:1≤x.room
 r1:x.room≤64
 f0:0≤x.freed
 f1:x.rec'=x.freed+q
 n1:x.rec'≤N
 full:x.rec'≤x.room+x.freed
structure TkOk(x:Tk)(N:Nat):Prop where
 s0:0≤x.sent
 s1:x.sent≤N
 l0:0≤x.lim
 l1:x.lim≤1099511627776
 le:x.sent≤x.lim
structure BarOk(b:Bar)(n:Nat):Prop where
 gl:b.grant.length=8
 al:b.acc.length=8
 g:∀k,b.grant.getD k 0<n
 a:∀k,b.acc.getD k 0<n
structure BxOk(X:Bx)(N:Nat):Prop where
 p0:1≤X.ports
 p1:X.ports≤8
 c0:1≤X.classes
 c1:X.classes≤8
 q:Dim2 X.q X.ports X.classes
 gv:Dim2 X.gv X.ports X.classes
 tk:Dim2 X.tk X.ports X.classes
 g:∀p c,p<X.ports→c<X.classes→GvOk (get2 X.gv p c) (get2 X.q p c).length N
 t:∀p c,p<X.ports→c<X.classes→TkOk (get2 X.tk p c) N
 pl:X.ptr.length=8
 pt:∀p,X.ptr.getD p 0<X.classes
 bar:BarOk X.bar X.ports
 ov:X.ov≤N
section
variable{X:Bx}{N M:Nat}
theorem BxOk.mono(h:BxOk X N)(hM:N≤M):BxOk X M:=
 ⟨h.p0,h.p1,h.c0,h.c1,h.q,h.gv,h.tk,fun p c hp hc=>let a:=h.g p c hp hc;⟨a.r0,a.r1,a.f0,a.f1,by have:=a.n1;omega,a.full⟩,fun p c hp hc=>let a:=h.t p c hp hc;⟨a.s0,by have:=a.s1;omega,a.l0,a.l1,a.le⟩,h.pl,h.pt,h.bar,by have:=h.ov;omega⟩
theorem BxOk.qlen(h:BxOk X N){p c:Nat}(hp:p<X.ports)(hc:c<X.classes):(get2 X.q p c).length≤64:=by have a:=h.g p c hp hc;have:=a.r1;have:=a.f1;have:=a.full;omega
theorem BxOk.arrive(h:BxOk X N){p:Nat}{f:Fm}(hp:p<X.ports)(hc:f.cls.toNat<X.classes):BxOk (X.arrive p f).1 (N+1):=by
 unfold Bx.arrive Gv.receive;have hg:=h.g p f.cls.toNat hp hc;by_cases hf:(get2 X.gv p f.cls.toNat).limit≤(get2 X.gv p f.cls.toNat).rec'
 ·simp only[if_pos hf,Bool.false_eq_true,if_false];have h2:=h.mono (show N≤N+1 by omega);exact⟨h2.p0,h2.p1,h2.c0,h2.c1,h2.q,h2.gv,h2.tk,h2.g,h2.t,h2.pl,h2.pt,h2.bar,by have:=h.ov;simp;omega⟩
 ·simp only[if_neg hf,if_true];have h2:=h.mono (show N≤N+1 by omega);refine⟨h2.p0,h2.p1,h2.c0,h2.c1,h.q.set_ _ _ _,h.gv.set_ _ _ _,h2.tk,fun a c ha hc'=>?_,h2.t,h2.pl,h2.pt,h2.bar,h2.ov⟩;rw[get2_set2 h.gv hp hc,get2_set2 h.q hp hc];by_cases e:a=p∧c=f.cls.toNat
  ·rw[if_pos e,if_pos e];unfold Gv.limit at hf;have e1:=hg.f1;have e2:=hg.n1;have e3:=hg.r0;have e4:=hg.r1;have e5:=hg.f0;exact⟨e3,e4,e5,by simp[e1];omega,by simp;omega,by simp;omega⟩
  ·rw[if_neg e,if_neg e];exact h2.g a c ha hc'
theorem BxOk.raise(h:BxOk X N){p c:Nat}(hp:p<X.ports)(hc:c<X.classes)(l:Int):BxOk (X.raise p c l) N:=by
 unfold Bx.raise Tk.raise;have ht:=h.t p c hp hc;refine⟨h.p0,h.p1,h.c0,h.c1,h.q,h.gv,h.tk.set_ _ _ _,h.g,fun a b ha hb=>?_,h.pl,h.pt,h.bar,h.ov⟩;simp only;rw[get2_set2 h.tk hp hc];by_cases e:a=p∧b=c
 ·rw[if_pos e];split
  ·exact ht
  ·have e1:=ht.s0;have e2:=ht.s1;have e3:=ht.l0;have e4:=ht.l1;have e5:=ht.le;exact⟨e1,e2,by simp;omega,by simp;omega,by simp;omega⟩
 ·rw[if_neg e];exact h.t a b ha hb
theorem BxOk.pop(h:BxOk X N){p c:Nat}(hp:p<X.ports)(hc:c<X.classes)(hq:0<(get2 X.q p c).length):BxOk (X.pop p c) N:=by
 unfold Bx.pop Gv.free;have hg:=h.g p c hp hc;have e1:=hg.f1;have e2:=hg.n1;have e3:=hg.r0;have e4:=hg.r1;have e5:=hg.f0;have e6:=hg.full;refine⟨h.p0,h.p1,h.c0,h.c1,h.q.set_ _ _ _,h.gv.set_ _ _ _,h.tk,fun a b ha hb=>?_,h.t,h.pl,h.pt,h.bar,h.ov⟩;simp only;rw[get2_set2 h.gv hp hc,get2_set2 h.q hp hc];by_cases e:a=p∧b=c
 ·rw[if_pos e,if_pos e,if_neg (by omega)];exact⟨e3,e4,by simp;omega,by simp;omega,by simp;omega,by simp;omega⟩
 ·rw[if_neg e,if_neg e];exact h.g a b ha hb
theorem BxOk.setBar(h:BxOk X N){b:Bar}(hb:BarOk b X.ports):BxOk {X with bar:=b} N:=⟨h.p0,h.p1,h.c0,h.c1,h.q,h.gv,h.tk,h.g,h.t,h.pl,h.pt,hb,h.ov⟩
theorem BxOk.setTk(h:BxOk X N){p c:Nat}(hp:p<X.ports)(hc:c<X.classes){t:Tk}(ht:TkOk t N):BxOk {X with tk:=set2 X.tk p c t} N:=
 ⟨h.p0,h.p1,h.c0,h.c1,h.q,h.gv,h.tk.set_ _ _ _,h.g,fun a b ha hb=>by
  simp only;rw[get2_set2 h.tk hp hc];split
  ·exact ht
  ·exact h.t a b ha hb,h.pl,h.pt,h.bar,h.ov⟩
end
theorem BxOk.new{ports:Nat}{rooms:List Int}(p0:1≤ports)(p1:ports≤8)(c0:1≤rooms.length)(c1:rooms.length≤8)(hr:∀r∈rooms,1≤r∧r≤64)(N:Nat):BxOk (newBx ports rooms) N where
 p0:=p0
 p1:=p1
 c0:=c0
 c1:=c1
 q:=Dim2.rep _ _ _
 gv:=⟨by simp[newBx],fun i hi=>by simp only[newBx]at hi⊢;simp[List.getD,hi]⟩
 tk:=⟨by simp[newBx],fun i hi=>by simp only[newBx]at hi⊢;simp[List.getD,hi]⟩
 g:=fun p c hp hc=>by
  simp only[newBx]at hp hc⊢;have e0:∀(r:List Gv),get2 (List.replicate ports r) p c=r.getD c default:=fun r=>get2_rep hp;have e00:∀(r:List (List Fm)),get2 (List.replicate ports r) p c=r.getD c default:=fun r=>get2_rep hp;rw[e0,e00];have e:(rooms.map fun r=>(⟨r,0,0⟩:Gv)).getD c default=⟨rooms[c],0,0⟩:=by simp[List.getD,hc]
  have e2:(List.replicate rooms.length ([]:List Fm)).getD c default=[]:=by simp[List.getD,hc]
  rw[e,e2];have:=hr _ (List.getElem_mem hc);exact⟨this.1,this.2,Int.le_refl _,by simp,Int.natCast_nonneg _,by simp;omega⟩
 t:=fun p c hp hc=>by
  simp only[newBx]at hp hc⊢;have e0:∀(r:List Tk),get2 (List.replicate ports r) p c=r.getD c default:=fun r=>get2_rep hp;rw[e0];have e:(rooms.map fun _=>(⟨0,0⟩:Tk)).getD c default=⟨0,0⟩:=by simp[List.getD,hc]
  rw[e];exact⟨Int.le_refl _,Int.natCast_nonneg _,Int.le_refl _,by decide,Int.le_refl _⟩
 pl:=by simp[newBx]
 pt:=fun p=>by simp only[newBx];rw[rep0];omega
 bar:=⟨by simp[newBx],by simp[newBx],fun k=>by simp only[newBx];rw[rep0];omega,fun k=>by simp only[newBx];rw[rep0];omega⟩
 ov:=by simp[newBx]
section
variable{α β:Type}
def sm(μ:α→Nat)(l:List α):Nat:=(l.map μ).sum
theorem sm_nil(μ:α→Nat):sm μ []=0:=rfl
theorem sm_cons(μ:α→Nat)(x:α)(l:List α):sm μ (x::l)=μ x+sm μ l:=by simp[sm]
theorem sm_mem{μ:α→Nat}{l:List α}{x:α}(h:x∈l):μ x≤sm μ l:=by
 induction l with
 |nil=>simp at h
 |cons y l ih=>
  rw[sm_cons];rcases List.mem_cons.1 h with rfl|h
  ·omega
  ·have:=ih h;omega
theorem perm_of_sm[DecidableEq α]{a b:List α}(h:∀μ:α→Nat,sm μ a=sm μ b):a.Perm b:=by
 rw[List.perm_iff_count];intro x;have:=h fun y=>if y=x then 1 else 0
 have e:∀l:List α,sm (fun y=>if y=x then 1 else 0) l=l.count x:=fun l=>by
  induction l with
  |nil=>rfl
  |cons y l ih=>rw[sm_cons,ih,List.count_cons];simp only[beq_iff_eq];omega
 rw[e,e]at this;exact this
end
inductive Mi(route:Nat→Fm→Option Nat):Bx→Mv→Bx→Prop
 |drop (b:Bx) (p c:Nat) (f:Fm) (l:List Fm):p<b.ports→c<b.classes→get2 b.q p c=f::l→(∀k,route p f=some k→¬k<b.ports)→Mi route b (p,c,none,f) (b.pop p c)
 |move (b:Bx) (i c k:Nat) (f:Fm) (l:List Fm) (pt:List Nat):i<b.ports→c<b.classes→k<b.ports→get2 b.q i c=f::l→route i f=some k→0<(get2 b.tk k c).left→
  pt.length=8→(∀p,pt.getD p 0<b.classes)→Mi route b (i,c,some k,f) {b.pop i c with tk:=set2 b.tk k c (get2 b.tk k c).take,ptr:=pt}
inductive Tr(route:Nat→Fm→Option Nat):Bx→List Mv→Bx→Prop
 |nil (b:Bx):Tr route b [] b
 |cons {b b1 b2:Bx} {m:Mv} {ms:List Mv}:Mi route b m b1→Tr route b1 ms b2→Tr route b (m::ms) b2
 |bar {b b2:Bx} {ms:List Mv} (x:Bar):BarOk x b.ports→Tr route {b with bar:=x} ms b2→Tr route b ms b2
section
variable{route:Nat→Fm→Option Nat}{b b1 b2:Bx}{m:Mv}{ms ns:List Mv}{N:Nat}
theorem Tr.append(h:Tr route b ms b1)(k:Tr route b1 ns b2):Tr route b (ms++ns) b2:=by
 induction h with
 |nil b=>exact k
 |cons hm _ ih=>exact .cons hm (ih k)
 |bar x hx _ ih=>exact .bar x hx (ih k)
theorem Tr.one(h:Mi route b m b1):Tr route b [m] b1:=.cons h (.nil _)
theorem Tk.take_ok{t:Tk}{N:Nat}(h:TkOk t N)(hl:0<t.left):TkOk t.take (N+1):=by unfold Tk.left at hl;unfold Tk.take;have a:=h.s0;have b:=h.s1;have c:=h.l0;have d:=h.l1;have e:=h.le;rw[if_neg (by omega)];exact⟨by simp;omega,by simp;omega,c,d,by simp;omega⟩
theorem Mi.ok(h:Mi route b m b1)(hb:BxOk b N):BxOk b1 (N+1):=by
 cases h with
 |drop p c f l hp hc hq hr=>exact(hb.pop hp hc (by rw[hq];simp)).mono (Nat.le_succ _)
 |move i c k f l pt hi hc hk hq hr hl hpl hpt=>have h1:=(hb.pop hi hc (by rw[hq];simp)).mono (Nat.le_succ N);have ht:=Tk.take_ok (hb.t k c hk hc) hl;have h2:=h1.setTk (p:=k) (c:=c) hk hc ht;exact⟨h2.p0,h2.p1,h2.c0,h2.c1,h2.q,h2.gv,h2.tk,h2.g,h2.t,hpl,hpt,h2.bar,h2.ov⟩
theorem Mi.dims(h:Mi route b m b1):b1.ports=b.ports∧b1.classes=b.classes∧b1.ov=b.ov:=by cases h<;>exact⟨rfl,rfl,rfl⟩
theorem Tr.dims(h:Tr route b ms b1):b1.ports=b.ports∧b1.classes=b.classes∧b1.ov=b.ov:=by
 induction h with
 |nil b=>exact⟨rfl,rfl,rfl⟩
 |cons hm _ ih=>have:=hm.dims;exact⟨ih.1.trans this.1,ih.2.1.trans this.2.1,ih.2.2.trans this.2.2⟩
 |bar x hx _ ih=>exact ih
end
theorem getD_out{α:Type}(l:List α){i:Nat}(d:α)(h:l.length≤i):l.getD i d=d:=by simp[List.getD,h]
theorem firstC_spec{n f k:Nat}{s:Nat→Bool}(h:firstC n f s=some k):k<n∧s k=true:=by unfold firstC at h;have h1:=List.find?_some h;have h2:=List.mem_of_find?_eq_some h;simp only[List.mem_map,List.mem_range]at h2;obtain⟨a,ha,rfl⟩:=h2;exact⟨Nat.mod_lt _ (by omega),h1⟩
theorem firstC_is{n f:Nat}{s:Nat→Bool}{k:Nat}(hk:k<n)(hs:s k=true):∃j,firstC n f s=some j:=by
 unfold firstC;cases h:((List.range n).map fun st=>(f+st)%n).find? s with
 |some j=>exact⟨j,rfl⟩
 |none=>
  rw[List.find?_eq_none]at h;exfalso;refine h k ?_ hs;rw[List.mem_map];have hn:0<n:=by omega
  refine⟨(k+n-f%n)%n,List.mem_range.2 (Nat.mod_lt _ hn),?_⟩;have h3:=Nat.mod_lt f hn;have h4:(f+(k+n-f%n)%n)%n=(f%n+(k+n-f%n))%n:=by rw[Nat.add_mod,Nat.mod_mod,←Nat.add_mod,←Nat.mod_add_mod]
  rw[h4,show f%n+(k+n-f%n)=k+n by omega,Nat.add_mod_right,Nat.mod_eq_of_lt hk]
structure MaOk(n:Nat)(m:Mat):Prop where
 ml:m.mt.length=n
 tl:m.taken.length=8
 lt:∀i k,m.mt.getD i none=some k→k<n∧m.taken.getD k false=true
 inj:∀i j k,m.mt.getD i none=some k→m.mt.getD j none=some k→i=j
 bar:BarOk m.bar n
theorem grants_atP{n k:Nat}(rq:Nat→Nat→Bool)(m:Mat)(hk:k<n):(grants n rq m).getD k none=if m.taken.getD k false then none else firstC n (m.bar.grant.getD k 0) fun i=>(m.mt.getD i none).isNone&&rq i k:=by unfold grants;rw[List.getD,List.getElem?_map,List.getElem?_range hk];rfl
theorem grants_of{n k i:Nat}{rq:Nat→Nat→Bool}{m:Mat}(h:(grants n rq m).getD k none=some i):k<n∧i<n∧m.taken.getD k false=false∧m.mt.getD i none=none∧rq i k=true:=by
 by_cases hk:k<n
 ·rw[grants_atP rq m hk]at h;by_cases ht:m.taken.getD k false=true
  ·rw[if_pos ht]at h;cases h
  ·rw[if_neg ht]at h;obtain⟨h1,h2⟩:=firstC_spec h;simp only[Bool.and_eq_true,Option.isNone_iff_eq_none]at h2;exact⟨hk,h1,by simpa using ht,h2.1,h2.2⟩
 ·rw[getD_out _ _ (by simp[grants];omega)]at h;cases h
structure RdOk(n:Nat)(g:List (Option Nat))(m0 m:Mat)(i:Nat):Prop where
 ok:MaOk n m
 new:∀j k,m.mt.getD j none=some k→m0.mt.getD j none=some k∨(g.getD k none=some j∧j<i)
 keep:∀j,m0.mt.getD j none≠none→m.mt.getD j none=m0.mt.getD j none
theorem BarOk.set'{b:Bar}{n i k x y:Nat}(h:BarOk b n)(hx:x<n)(hy:y<n):BarOk ⟨b.grant.set k x,b.acc.set i y⟩ n:=
 ⟨by simp[h.gl],by simp[h.al],fun j=>by
  by_cases e:j=k
  ·subst e;by_cases hj:j<b.grant.length
   ·simp only;rw[getD_set_at _ _ _ hj];exact hx
   ·simp only;rw[List.set_eq_of_length_le (by omega)];exact h.g j
  ·simp only;rw[getD_set_far _ _ _ e];exact h.g j,fun j=>by
  by_cases e:j=i
  ·subst e;by_cases hj:j<b.acc.length
   ·simp only;rw[getD_set_at _ _ _ hj];exact hy
   ·simp only;rw[List.set_eq_of_length_le (by omega)];exact h.a j
  ·simp only;rw[getD_set_far _ _ _ e];exact h.a j⟩
theorem accept1_ok{n:Nat}{rq:Nat→Nat→Bool}{adv:Bool}{m0 m:Mat}{i:Nat}(hn:n≤8)(h0:MaOk n m0)(h:RdOk n (grants n rq m0) m0 m i)(hi:i<n):RdOk n (grants n rq m0) m0 (accept1 n (grants n rq m0) adv m i) (i+1):=by
 unfold accept1;cases hf:firstC n (m.bar.acc.getD i 0) (fun k=>(grants n rq m0).getD k none==some i)with
 |none=>exact⟨h.ok,fun j k hj=>by rcases h.new j k hj with q|q;exact .inl q;exact .inr ⟨q.1,by omega⟩,h.keep⟩
 |some k=>
  obtain⟨hk,hg⟩:=firstC_spec hf;simp only[beq_iff_eq]at hg;obtain⟨_,_,ht0,hm0,_⟩:=grants_of hg;have il:i<m.mt.length:=by rw[h.ok.ml];exact hi
  have kl:k<m.taken.length:=by rw[h.ok.tl];omega
  have nk:∀j,m.mt.getD j none≠some k:=fun j e=>by
   rcases h.new j k e with q|q
   ·have:=(h0.lt j k q).2;rw[ht0]at this;cases this
   ·have:=q.1;rw[hg]at this;injection this with this;omega
  refine⟨⟨by simp[h.ok.ml],by simp[h.ok.tl],fun j x hj=>?_,fun j j' x hj hj'=>?_,?_⟩,fun j x hj=>?_,fun j hj=>?_⟩
  ·simp only at hj⊢;by_cases e:j=i
   ·subst e;rw[getD_set_at _ _ _ il]at hj;injection hj with hj;subst hj;exact⟨hk,getD_set_at _ _ _ kl⟩
   ·rw[getD_set_far _ _ _ e]at hj;have:=h.ok.lt j x hj;refine⟨this.1,?_⟩;by_cases e2:x=k
    ·subst e2;exact getD_set_at _ _ _ kl
    ·rw[getD_set_far _ _ _ e2];exact this.2
  ·simp only at hj hj';by_cases e:j=i
   ·by_cases e':j'=i
    ·omega
    ·subst e;rw[getD_set_at _ _ _ il]at hj;injection hj with hj;subst hj;rw[getD_set_far _ _ _ e']at hj';exact absurd hj' (nk j')
   ·rw[getD_set_far _ _ _ e]at hj;by_cases e':j'=i
    ·subst e';rw[getD_set_at _ _ _ il]at hj';injection hj' with hj';subst hj';exact absurd hj (nk j)
    ·rw[getD_set_far _ _ _ e']at hj';exact h.ok.inj j j' x hj hj'
  ·simp only;split
   ·exact h.ok.bar.set' (Nat.mod_lt _ (by omega)) (Nat.mod_lt _ (by omega))
   ·exact h.ok.bar
  ·simp only at hj;by_cases e:j=i
   ·subst e;rw[getD_set_at _ _ _ il]at hj;injection hj with hj;subst hj;exact .inr ⟨hg,by omega⟩
   ·rw[getD_set_far _ _ _ e]at hj;rcases h.new j x hj with q|q
    ·exact .inl q
    ·exact .inr ⟨q.1,by omega⟩
  ·simp only;by_cases e:j=i
   ·subst e;exact absurd hm0 hj
   ·rw[getD_set_far _ _ _ e];exact h.keep j hj
theorem round_ok{n:Nat}{rq:Nat→Nat→Bool}{adv:Bool}{m0:Mat}(hn:n≤8)(h0:MaOk n m0):RdOk n (grants n rq m0) m0 (roundX n rq adv m0) n:=by
 unfold roundX;have:∀i,i≤n→RdOk n (grants n rq m0) m0 ((List.range i).foldl (accept1 n (grants n rq m0) adv) m0) i:=by
  intro i
  induction i with
  |zero=>exact fun _=>⟨h0,fun j k h=>.inl h,fun _ _=>rfl⟩
  |succ i ih=>intro hi;rw[List.range_succ,List.foldl_append];exact accept1_ok hn h0 (ih (by omega)) (by omega)
 exact this n (Nat.le_refl _)
structure MatchOk(n:Nat)(rq:Nat→Nat→Bool)(m:List (Option Nat)):Prop where
 lt:∀i k,m.getD i none=some k→i<n∧k<n∧rq i k=true
 inj:∀i j k,m.getD i none=some k→m.getD j none=some k→i=j
theorem match_ok{n:Nat}{rq:Nat→Nat→Bool}{b:Bar}(hn:n≤8)(hb:BarOk b n):MatchOk n rq (matchX n rq b).1∧BarOk (matchX n rq b).2 n:=by
 unfold matchX;have:∀r,MaOk n ((List.range r).foldl (fun m r=>roundX n rq (r==0) m) ⟨List.replicate n none,List.replicate 8 false,b⟩)∧
  ∀i k,((List.range r).foldl (fun m r=>roundX n rq (r==0) m) ⟨List.replicate n none,List.replicate 8 false,b⟩).mt.getD i none=some k→rq i k=true:=by
  intro r
  induction r with
  |zero=>
   have e:∀i,(List.replicate n (none:Option Nat)).getD i none=none:=fun i=>by simp only[List.getD,List.getElem?_replicate];split<;>rfl
   refine⟨⟨by simp,by simp,fun i k h=>?_,fun i j k h=>?_,hb⟩,fun i k h=>?_⟩<;>(simp only[List.range_zero,List.foldl_nil]at h;rw[e]at h;cases h)
  |succ r ih=>
   rw[List.range_succ,List.foldl_append];have h1:=round_ok (rq:=rq) (adv:=(r==0)) hn ih.1;refine⟨h1.ok,fun i k h=>?_⟩;rcases h1.new i k h with q|q
   ·exact ih.2 i k q
   ·exact(grants_of q.1).2.2.2.2
 have h1:=this n;refine⟨⟨fun i k h=>⟨?_,(h1.1.lt i k h).1,h1.2 i k h⟩,h1.1.inj⟩,h1.1.bar⟩;by_cases hi:i<n
 ·exact hi
 ·rw[getD_out _ _ (by rw[h1.1.ml];omega)]at h;cases h
theorem match_some{n:Nat}{rq:Nat→Nat→Bool}{b:Bar}(hn:n≤8)(hb:BarOk b n){i k:Nat}(hi:i<n)(hk:k<n)(h:rq i k=true):∃j x,(matchX n rq b).1.getD j none=some x:=by
 unfold matchX;have hN:MaOk n ⟨List.replicate n none,List.replicate 8 false,b⟩:=by
  have e:∀i,(List.replicate n (none:Option Nat)).getD i none=none:=fun i=>by simp only[List.getD,List.getElem?_replicate];split<;>rfl
  refine⟨by simp,by simp,fun i k h=>?_,fun i j k h=>?_,hb⟩<;>(simp only at h;rw[e]at h;cases h)
 have:∀r,0<r→MaOk n ((List.range r).foldl (fun m r=>roundX n rq (r==0) m) ⟨List.replicate n none,List.replicate 8 false,b⟩)∧
  ∃j x,((List.range r).foldl (fun m r=>roundX n rq (r==0) m) ⟨List.replicate n none,List.replicate 8 false,b⟩).mt.getD j none=some x:=by
  intro r
  induction r with
  |zero=>omega
  |succ r ih=>
   intro _;rw[List.range_succ,List.foldl_append];by_cases hr:0<r
   ·obtain⟨h1,j,x,h2⟩:=ih hr;have h3:=round_ok (rq:=rq) (adv:=(r==0)) hn h1;exact⟨h3.ok,j,x,by rw[←h2];exact h3.keep j (by rw[h2];simp)⟩
   ·obtain rfl:r=0:=by omega
    simp only[List.range_zero,List.foldl_nil,List.foldl_cons];have h3:=round_ok (rq:=rq) (adv:=((0:Nat)==0)) hn hN;refine⟨h3.ok,?_⟩;have eN:∀i,(List.replicate n (none:Option Nat)).getD i none=none:=fun i=>by simp only[List.getD,List.getElem?_replicate];split<;>rfl
    have eT:(List.replicate 8 false).getD k false=false:=by simp only[List.getD,List.getElem?_replicate];split<;>rfl
    obtain⟨i0,hg⟩:∃i0,(grants n rq ⟨List.replicate n none,List.replicate 8 false,b⟩).getD k none=some i0:=(by obtain⟨i0,h0⟩:=firstC_is (f:=b.grant.getD k 0) (s:=fun i=>((List.replicate n (none:Option Nat)).getD i none).isNone&&rq i k) hi (by have:=eN i;simp only[this,h];rfl);refine⟨i0,?_⟩;have hx:(grants n rq ⟨List.replicate n none,List.replicate 8 false,b⟩).getD k none=(if(List.replicate 8 false).getD k false then none else firstC n (b.grant.getD k 0) fun i=>((List.replicate n (none:Option Nat)).getD i none).isNone&&rq i k):=(by unfold grants;simp only[List.getD,List.getElem?_map,List.getElem?_range hk,Option.map_some,Option.getD_some]);rw[hx,eT];exact h0);have hi0:=(grants_of hg).2.1;unfold roundX;generalize hG:grants n rq ⟨List.replicate n none,List.replicate 8 false,b⟩=G at hg;have hstep:∀t,t≤n→RdOk n G ⟨List.replicate n none,List.replicate 8 false,b⟩ ((List.range t).foldl (accept1 n G ((0:Nat)==0)) ⟨List.replicate n none,List.replicate 8 false,b⟩) t∧(i0<t→∃j x,((List.range t).foldl (accept1 n G ((0:Nat)==0)) ⟨List.replicate n none,List.replicate 8 false,b⟩).mt.getD j none=some x):=by
     intro t
     induction t with
     |zero=>exact fun _=>⟨⟨hN,fun j k h=>.inl h,fun _ _=>rfl⟩,fun h=>by omega⟩
     |succ t ih2=>
      intro ht;obtain⟨r1,r2⟩:=ih2 (by omega);rw[List.range_succ,List.foldl_append,List.foldl_cons,List.foldl_nil];have r3:RdOk n G ⟨List.replicate n none,List.replicate 8 false,b⟩ (accept1 n G ((0:Nat)==0) ((List.range t).foldl (accept1 n G ((0:Nat)==0)) ⟨List.replicate n none,List.replicate 8 false,b⟩) t) (t+1):=by rw[←hG]at r1⊢;exact accept1_ok hn hN r1 (by omega)
      refine⟨r3,fun hlt=>?_⟩;generalize(List.range t).foldl (accept1 n G ((0:Nat)==0)) ⟨List.replicate n none,List.replicate 8 false,b⟩=M at r1 r2 r3⊢;by_cases e:i0=t
      ·subst e;obtain⟨k1,h1⟩:=firstC_is (n:=n) (f:=M.bar.acc.getD i0 0) (s:=fun k=>G.getD k none==some i0) hk (beq_iff_eq.2 hg);refine⟨i0,k1,?_⟩;unfold accept1;rw[h1];exact getD_set_at _ _ _ (by rw[r1.ok.ml];exact hi0)
      ·obtain⟨j,x,h2⟩:=r2 (by omega);unfold accept1;cases hf:firstC n (M.bar.acc.getD t 0) (fun k=>G.getD k none==some t)with
       |none=>exact⟨j,x,h2⟩
       |some k1=>exact⟨t,k1,getD_set_at _ _ _ (by rw[r1.ok.ml];omega)⟩
    exact(hstep n (Nat.le_refl _)).2 hi0
 exact(this n (by omega)).2
theorem lookQ_spec(ports:Nat)(rt:Fm→Option Nat)(l:List Fm):(lookQ ports rt l).1≤l.length∧(∀x∈l.take (lookQ ports rt l).1,∀k,rt x=some k→¬k<ports)∧(∀k,(lookQ ports rt l).2=some k→∃f r,l.drop (lookQ ports rt l).1=f::r∧rt f=some k∧k<ports)∧((lookQ ports rt l).2=none→(lookQ ports rt l).1=l.length):=by
 induction l with
 |nil=>simp[lookQ]
 |cons f l ih=>
  by_cases h:∃k,rt f=some k∧k<ports
  ·obtain⟨k,hk,hl⟩:=h;have e:lookQ ports rt (f::l)=(0,some k):=by unfold lookQ;simp[hk,hl]
   rw[e];exact⟨Nat.zero_le _,by simp,fun j hj=>⟨f,l,rfl,by simpa[hk]using hj,by simp at hj;omega⟩,by simp⟩
  ·have e:lookQ ports rt (f::l)=((lookQ ports rt l).1+1,(lookQ ports rt l).2):=by
    rw[lookQ];cases hr:rt f with
    |none=>rfl
    |some k=>simp only;rw[if_neg (fun q=>h ⟨k,hr,q⟩)]
   rw[e];refine⟨by simp;exact ih.1,fun x hx=>?_,ih.2.2.1,fun hn=>by simp;exact ih.2.2.2 hn⟩;simp only[List.take_succ_cons,List.mem_cons]at hx;rcases hx with rfl|hx
   ·exact fun k hk hl=>h ⟨k,hk,hl⟩
   ·exact ih.2.1 x hx
structure Dr(b b':Bx):Prop where
 tk:b'.tk=b.tk
 bar:b'.bar=b.bar
 ptr:b'.ptr=b.ptr
theorem popN_tr{route:Nat→Fm→Option Nat}{p c N:Nat}(n:Nat)(b:Bx)(acc:List Mv)(l:List Fm)(hb:BxOk b N)(hp:p<b.ports)(hc:c<b.classes)(hq:get2 b.q p c=l)(hn:n≤l.length)(hr:∀x∈l.take n,∀k,route p x=some k→¬k<b.ports):∃ms b',popN p c n (b,acc)=(b',acc++ms)∧Tr route b ms b'∧get2 b'.q p c=l.drop n∧(∀a d,¬(a=p∧d=c)→get2 b'.q a d=get2 b.q a d)∧Dr b b'∧BxOk b' N∧(∀m∈ms,m.2.2.1=none)∧ms.length=n:=by
 induction n generalizing b acc l with
 |zero=>exact⟨[],b,by simp[popN],.nil _,by simpa using hq,fun _ _ _=>rfl,⟨rfl,rfl,rfl⟩,hb,by simp,rfl⟩
 |succ n ih=>
  cases l with
  |nil=>simp at hn
  |cons f l=>
   have hq1:get2 (b.pop p c).q p c=l:=(by show get2 (set2 b.q p c (get2 b.q p c).tail) p c=l;rw[get2_same hb.q hp hc,hq];rfl);obtain⟨ms,b',h1,h2,h3,h4,h5,h6,h7,h8⟩:=ih (b.pop p c) (acc++[(p,c,none,f)]) l (hb.pop hp hc (by rw[hq];simp)) hp hc hq1 (by simpa using hn) (fun x hx=>hr x (by simp[hx]));refine⟨(p,c,none,f)::ms,b',?_,.cons (.drop b p c f l hp hc hq (hr f (by simp))) h2,h3,fun a d hne=>?_,⟨h5.tk,h5.bar,h5.ptr⟩,h6,?_,by simp[h8]⟩
   ·show popN p c n (b.pop p c,acc++[(p,c,none,(get2 b.q p c).headD default)])=_;rw[hq,List.headD_cons,h1];simp
   ·rw[h4 a d hne];show get2 (set2 b.q p c _) a d=_;exact get2_far hb.q hp hc hne
   ·intro m hm;rcases List.mem_cons.1 hm with rfl|hm
    ·rfl
    ·exact h7 m hm
theorem drops_tr{route:Nat→Fm→Option Nat}{N:Nat}(n:Nat→Nat→Nat)(L:List (Nat×Nat))(b:Bx)(acc:List Mv)(hb:BxOk b N)(hL:L.Nodup)(hin:∀pc∈L,pc.1<b.ports∧pc.2<b.classes)(hn:∀p c,(p,c)∈L→n p c≤(get2 b.q p c).length)(hr:∀p c,(p,c)∈L→∀x∈(get2 b.q p c).take (n p c),∀k,route p x=some k→¬k<b.ports):∃ms b',L.foldl (fun s pc=>popN pc.1 pc.2 (n pc.1 pc.2) s) (b,acc)=(b',acc++ms)∧Tr route b ms b'∧(∀a d,get2 b'.q a d=if(a,d)∈L then(get2 b.q a d).drop (n a d)else get2 b.q a d)∧Dr b b'∧BxOk b' N∧(∀m∈ms,m.2.2.1=none)∧ms.length=sm (fun pc=>n pc.1 pc.2) L:=by
 induction L generalizing b acc with
 |nil=>exact⟨[],b,by simp,.nil _,fun _ _=>rfl,⟨rfl,rfl,rfl⟩,hb,by simp,rfl⟩
 |cons pc L ih=>
  obtain⟨p,c⟩:=pc;have hpc:=hin (p,c) (by simp);simp only at hpc;obtain⟨ms,b1,h1,h2,h3,h4,h5,h6,h7,h8⟩:=popN_tr (route:=route) (p:=p) (c:=c) (n p c) b acc _ hb hpc.1 hpc.2 rfl (hn p c (by simp)) (hr p c (by simp));have hd:=h2.dims;have hnd:=List.nodup_cons.1 hL;have same:∀a d,(a,d)∈L→get2 b1.q a d=get2 b.q a d:=fun a d ha=>h4 a d fun e=>by obtain⟨rfl,rfl⟩:=e;exact hnd.1 ha
  obtain⟨ms2,b2,k1,k2,k3,k4,k5,k6,k7⟩:=ih b1 (acc++ms) h6 hnd.2 (fun x hx=>by have:=hin x (by simp[hx]);rw[hd.1,hd.2.1];exact this)
   (fun a d ha=>by rw[same a d ha];exact hn a d (by simp[ha])) (fun a d ha=>by rw[same a d ha,hd.1];exact hr a d (by simp[ha]))
  refine⟨ms++ms2,b2,?_,h2.append k2,fun a d=>?_,⟨k4.tk.trans h5.tk,k4.bar.trans h5.bar,k4.ptr.trans h5.ptr⟩,k5,fun m hm=>?_,?_⟩
  ·rw[List.foldl_cons,h1,k1,List.append_assoc]
  ·rw[k3];by_cases e:(a,d)=(p,c)
   ·injection e with e1 e2;subst e1 e2;rw[if_neg hnd.1,if_pos (by simp),h3]
   ·rw[h4 a d (fun q=>e (by rw[q.1,q.2]))];by_cases e2:(a,d)∈L
    ·rw[if_pos e2,if_pos (by simp[e2])]
    ·rw[if_neg e2,if_neg (by simp[e2];intro h;exact fun q=>e (by rw[h,q]))]
  ·rcases List.mem_append.1 hm with h|h
   ·exact h7 m h
   ·exact k6 m h
  ·rw[List.length_append,sm_cons,h8,k7]
theorem pairs_nodup(a c:Nat):((List.range a).flatMap fun p=>(List.range c).map fun d=>(p,d)).Nodup:=by
 unfold List.Nodup;rw[List.pairwise_flatMap];refine⟨fun p _=>?_,?_⟩
 ·rw[List.pairwise_map];exact List.Pairwise.imp (fun{x y} h e=>h (by injection e)) (List.nodup_range (n:=c))
 ·refine List.Pairwise.imp (fun{x y} h u hu v hv e=>?_) (List.nodup_range (n:=a));simp only[List.mem_map]at hu hv;obtain⟨_,_,rfl⟩:=hu;obtain⟨_,_,rfl⟩:=hv;injection e with e1 e2;exact h e1
theorem pairs_mem{b:Bx}{p c:Nat}:(p,c)∈pairsB b↔p<b.ports∧c<b.classes:=by
 unfold pairsB;simp only[List.mem_flatMap,List.mem_range,List.mem_map,Prod.mk.injEq];constructor
 ·rintro⟨a,ha,d,hd,rfl,rfl⟩;exact⟨ha,hd⟩
 ·rintro⟨h1,h2⟩;exact⟨p,h1,c,h2,rfl,rfl⟩
def outsOf(ms:List Mv):List Nat:=ms.filterMap fun m=>m.2.2.1
theorem mem_outsOf{ms:List Mv}{k:Nat}:k∈outsOf ms↔∃m∈ms,m.2.2.1=some k:=by unfold outsOf;rw[List.mem_filterMap]
structure Ph(route:Nat→Fm→Option Nat)(M:List (Option Nat))(b0 b:Bx)(ms:List Mv)(i N:Nat):Prop where
 tr:Tr route b0 ms b
 ok:BxOk b (N+ms.length)
 q:∀j c,i≤j→get2 b.q j c=get2 b0.q j c
 out:∀m∈ms,∃k,m.2.2.1=some k∧m.1<i∧M.getD m.1 none=some k
 nd:(outsOf ms).Nodup
 none:ms=[]→b=b0
theorem moves_tr{route:Nat→Fm→Option Nat}{N:Nat}{outs:Nat→Nat→Option Nat}{M:List (Option Nat)}(b0:Bx)(acc:List Mv)(hb:BxOk b0 N)(inj:∀i j k,M.getD i none=some k→M.getD j none=some k→i=j)(ho:∀p c k,p<b0.ports→c<b0.classes→outs p c=some k→∃f l,get2 b0.q p c=f::l∧route p f=some k∧k<b0.ports)(hM:∀i k,M.getD i none=some k→i<b0.ports∧k<b0.ports)(i:Nat)(hi:i≤b0.ports):∃ms b,(List.range i).foldl (fun s i=>match M.getD i none with|none=>s|some k=>moveI outs i k s) (b0,acc)=(b,acc++ms)∧Ph route M b0 b ms i N∧((∃j k,j<i∧M.getD j none=some k∧∃c,c<b0.classes∧readyB outs b0 j k c=true)→ms≠[]):=by
 induction i with
 |zero=>exact⟨[],b0,by simp,⟨.nil _,hb,fun _ _ _=>rfl,by simp,by simp[outsOf],fun _=>rfl⟩,fun⟨j,k,h,_⟩=>by omega⟩
 |succ i ih=>
  obtain⟨ms,b,h1,h2,h3⟩:=ih (by omega);rw[List.range_succ,List.foldl_append,h1,List.foldl_cons,List.foldl_nil];have skip:Ph route M b0 b ms (i+1) N:=⟨h2.tr,h2.ok,fun j c hj=>h2.q j c (by omega),fun m hm=>by obtain⟨k,a,b,c⟩:=h2.out m hm;exact⟨k,a,by omega,c⟩,h2.nd,h2.none⟩;cases hm:M.getD i none with
  |none=>
   refine⟨ms,b,rfl,skip,fun⟨j,k,hj,hk,hc⟩=>?_⟩;by_cases e:j=i
   ·subst e;rw[hm]at hk;cases hk
   ·exact h3 ⟨j,k,by omega,hk,hc⟩
  |some k=>
   simp only;unfold moveI;have hd:=h2.tr.dims;cases hf:firstC b.classes (b.ptr.getD i 0) (readyB outs b i k)with
   |none=>
    refine⟨ms,b,rfl,skip,fun⟨j,k',hj,hk,c,hc,hr⟩=>?_⟩;by_cases e:j=i
    ·subst e;rw[hm]at hk;injection hk with hk;subst hk;intro hms;have:=h2.none hms;subst this;obtain⟨x,hx⟩:=firstC_is (f:=b.ptr.getD j 0) hc hr;rw[hf]at hx;cases hx
    ·exact h3 ⟨j,k',by omega,hk,c,hc,hr⟩
   |some c=>
    obtain⟨hc,hr⟩:=firstC_spec hf;unfold readyB at hr;simp only[Bool.and_eq_true,beq_iff_eq,decide_eq_true_eq]at hr;have hc0:c<b0.classes:=(by rw[←hd.2.1];exact hc);obtain⟨f,l,hq,hro,hk⟩:=ho i c k (by omega) hc0 hr.1;have hq':get2 b.q i c=f::l:=(by rw[h2.q i c (Nat.le_refl _)];exact hq);have mi:Mi route b (i,c,some k,f) {b.pop i c with tk:=set2 b.tk k c (get2 b.tk k c).take,ptr:=b.ptr.set i ((c+1)%b.classes)}:=
     .move b i c k f l _ (by rw[hd.1];omega) hc (by rw[hd.1];exact hk) hq' hro hr.2 (by simp[h2.ok.pl]) (fun p=>by
      by_cases e:p=i
      ·subst e;by_cases hp:p<b.ptr.length
       ·rw[getD_set_at _ _ _ hp];exact Nat.mod_lt _ (by omega)
       ·rw[List.set_eq_of_length_le (by omega)];exact h2.ok.pt p
      ·rw[getD_set_far _ _ _ e];exact h2.ok.pt p)
    refine⟨ms++[(i,c,some k,f)],_,?_,⟨h2.tr.append (.one mi),?_,fun j d hj=>?_,fun m hm'=>?_,?_,fun h=>absurd h (by simp)⟩,fun _=>by simp⟩
    ·simp only;rw[hq',List.headD_cons,List.append_assoc];rfl
    ·have:=mi.ok h2.ok;rw[List.length_append];exact this.mono (by simp;omega)
    ·rw[←h2.q j d (by omega)];show get2 (set2 b.q i c _) j d=_;exact get2_far h2.ok.q (by rw[hd.1];omega) hc (by omega)
    ·rcases List.mem_append.1 hm' with h|h
     ·obtain⟨k,a,b,c⟩:=h2.out m h;exact⟨k,a,by omega,c⟩
     ·simp only[List.mem_singleton]at h;subst h;exact⟨k,rfl,Nat.lt_succ_self _,hm⟩
    ·unfold outsOf;rw[List.filterMap_append];simp only[List.filterMap_cons,List.filterMap_nil];rw[List.nodup_append];refine⟨h2.nd,by simp,fun x hx y hy=>?_⟩;simp only[List.mem_singleton]at hy;subst hy;intro e;subst e;obtain⟨m,hm1,hm2⟩:=mem_outsOf.1 hx;obtain⟨k',a,b,c'⟩:=h2.out m hm1;rw[hm2]at a;injection a with a;subst a;have:=inj _ _ _ c' hm;omega
theorem step_tr{N:Nat}(b:Bx)(route:Nat→Fm→Option Nat)(hb:BxOk b N):Tr route b (b.step route).2 (b.step route).1∧(outsOf (b.step route).2).Nodup∧((∃p c f l,p<b.ports∧c<b.classes∧get2 b.q p c=f::l∧∀k,route p f=some k→k<b.ports→0<(get2 b.tk k c).left)→(b.step route).2≠[]):=by
 unfold Bx.step;simp only;have hl:∀p c,_:=fun p c=>lookQ_spec b.ports (route p) (get2 b.q p c);obtain⟨ms,b1,h1,h2,h3,h4,h5,h6,h7⟩:=drops_tr (route:=route) (fun p c=>(lookQ b.ports (route p) (get2 b.q p c)).1) (pairsB b) b [] hb (pairs_nodup _ _) (fun pc h=>pairs_mem.1 h) (fun p c _=>(hl p c).1) (fun p c _=>(hl p c).2.1);rw[h1];simp only[List.nil_append];have hd:=h2.dims;generalize hreq:(fun i k=>(List.range b.classes).any fun c=>readyB (fun p c=>(lookQ b.ports (route p) (get2 b.q p c)).2) b1 i k c)=req;obtain⟨mo,bo⟩:=match_ok (rq:=req) (n:=b.ports) (b:=b1.bar) hb.p1 (by rw[←hd.1];exact h5.bar);have msm:∀i k,i<b.ports→k<b.ports→req i k=true→_:=fun i k=>match_some (n:=b.ports) (rq:=req) (b:=b1.bar) (i:=i) (k:=k) hb.p1 (by rw[←hd.1];exact h5.bar);generalize matchX b.ports req b1.bar=M at mo bo msm;have ok2:BxOk {b1 with bar:=M.2} N:=h5.setBar (by rw[hd.1];exact bo);have hout:∀p c k,p<b.ports→c<b.classes→(lookQ b.ports (route p) (get2 b.q p c)).2=some k→∃f l,get2 b1.q p c=f::l∧route p f=some k∧k<b.ports:=fun p c k hp hc hk=>by rw[h3,if_pos (pairs_mem.2 ⟨hp,hc⟩)];exact(hl p c).2.2.1 k hk
 obtain⟨ms2,b2,k1,k2,k3⟩:=moves_tr (route:=route) (N:=N) (outs:=fun p c=>(lookQ b.ports (route p) (get2 b.q p c)).2) (M:=M.1) {b1 with bar:=M.2} ms ok2 mo.inj
  (fun p c k hp hc hk=>by simp only[hd.1,hd.2.1]at hp hc⊢;exact hout p c k hp hc hk) (fun i k h=>by simp only[hd.1];exact⟨(mo.lt i k h).1,(mo.lt i k h).2.1⟩) b.ports (by simp[hd.1])
 generalize hF:List.foldl _ _ (List.range b.ports)=F;have hF2:F=(b2,ms++ms2):=hF.symm.trans k1;clear hF;subst hF2;simp only;refine⟨h2.append (.bar M.2 (by rw[hd.1];exact bo) k2.tr),?_,?_⟩
 ·have e:outsOf ms=[]:=by
   unfold outsOf;rw[List.filterMap_eq_nil_iff];exact h6
  have e2:outsOf (ms++ms2)=outsOf ms++outsOf ms2:=by unfold outsOf;rw[List.filterMap_append]
  rw[e2,e];exact k2.nd
 ·rintro⟨p,c,f,l,hp,hc,hq,hr⟩;by_cases hx:∃k,route p f=some k∧k<b.ports
  ·obtain⟨k,hk1,hk2⟩:=hx;have hlk:lookQ b.ports (route p) (get2 b.q p c)=(0,some k):=by rw[hq];unfold lookQ;simp[hk1,hk2]
   have hre:readyB (fun p c=>(lookQ b.ports (route p) (get2 b.q p c)).2) b1 p k c=true:=(by unfold readyB;simp only[hlk,Bool.and_eq_true,beq_self_eq_true,decide_eq_true_eq,true_and];rw[h4.tk];exact hr k hk1 hk2);have hrq:req p k=true:=(by rw[←hreq];simp only[List.any_eq_true,List.mem_range];exact⟨c,hc,hre⟩);obtain⟨j,x,hj⟩:=msm p k hp hk2 hrq;have hjx:=(mo.lt j x hj).2.2;rw[←hreq]at hjx;simp only[List.any_eq_true,List.mem_range]at hjx;obtain⟨d,hd1,hd2⟩:=hjx;have:=k3 ⟨j,x,(mo.lt j x hj).1,hj,d,by simp only[hd.2.1];exact hd1,by unfold readyB at hd2⊢;exact hd2⟩;simp[this]
  ·have h0:0<(lookQ b.ports (route p) (get2 b.q p c)).1:=by
    have e:lookQ b.ports (route p) (get2 b.q p c)=((lookQ b.ports (route p) l).1+1,(lookQ b.ports (route p) l).2):=by
     rw[hq,lookQ];cases hr:route p f with
     |none=>rfl
     |some k=>simp only;rw[if_neg (fun q=>hx ⟨k,hr,q⟩)]
    rw[e];simp
   have h8:0<ms.length:=(by rw[h7];have:=sm_mem (μ:=fun pc:Nat×Nat=>(lookQ b.ports (route pc.1) (get2 b.q pc.1 pc.2)).1) (pairs_mem.2 ⟨hp,hc⟩);simp only at this;omega);intro e;rw[List.append_eq_nil_iff]at e;rw[e.1]at h8;simp at h8
theorem popN_snoc(p c j:Nat)(s:Bx×List Mv):popN p c (j+1) s=((popN p c j s).1.pop p c,(popN p c j s).2++[(p,c,none,(get2 (popN p c j s).1.q p c).headD default)]):=by
 induction j generalizing s with
 |zero=>rfl
 |succ j ih=>rw[popN,ih];rfl
def pairsTo(m p c:Nat):List (Nat×Nat):=((List.range p).flatMap fun a=>(List.range m).map fun d=>(a,d))++(List.range c).map fun d=>(p,d)
theorem pairsTo_c(m p c:Nat):pairsTo m p (c+1)=pairsTo m p c++[(p,c)]:=by unfold pairsTo;rw[List.range_succ,List.map_append,List.append_assoc];rfl
theorem pairsTo_p(m p:Nat):pairsTo m (p+1) 0=pairsTo m p m:=by unfold pairsTo;rw[List.range_succ,List.flatMap_append];simp
theorem pairsTo_mem{m p c a d:Nat}:(a,d)∈pairsTo m p c↔(a<p∧d<m)∨(a=p∧d<c):=by
 unfold pairsTo;simp only[List.mem_append,List.mem_flatMap,List.mem_range,List.mem_map,Prod.mk.injEq];constructor
 ·rintro(⟨x,hx,y,hy,rfl,rfl⟩|⟨y,hy,rfl,rfl⟩)
  ·exact .inl ⟨hx,hy⟩
  ·exact .inr ⟨rfl,hy⟩
 ·rintro(⟨h1,h2⟩|⟨rfl,h2⟩)
  ·exact .inl ⟨a,h1,d,h2,rfl,rfl⟩
  ·exact .inr ⟨d,h2,rfl,rfl⟩
theorem pairsTo_nodup(m p c:Nat):(pairsTo m p c).Nodup:=by
 have h0:(pairsTo m p c).Nodup:=by
  unfold pairsTo;rw[List.nodup_append];refine⟨pairs_nodup p m,?_,fun x hx y hy e=>?_⟩
  ·unfold List.Nodup;rw[List.pairwise_map];exact List.Pairwise.imp (fun{x y} h e=>h (by injection e)) (List.nodup_range (n:=c))
  ·simp only[List.mem_flatMap,List.mem_range,List.mem_map]at hx hy;obtain⟨a,ha,d,hd,rfl⟩:=hx;obtain⟨d',hd',rfl⟩:=hy;injection e with e1 e2;omega
 exact h0
section
variable(X:Bx)(route:Nat→Fm→Option Nat)
def dropN(p c:Nat):Nat:=(lookQ X.ports (route p) (get2 X.q p c)).1
def outN(p c:Nat):Option Nat:=(lookQ X.ports (route p) (get2 X.q p c)).2
def dropsAt(p c:Nat):Bx×List Mv:=(pairsTo X.classes p c).foldl (fun s pc=>popN pc.1 pc.2 (dropN X route pc.1 pc.2) s) (X,[])
def dropsJ(p c j:Nat):Bx×List Mv:=popN p c j (dropsAt X route p c)
theorem dropsAt_p(p:Nat):dropsAt X route (p+1) 0=dropsAt X route p X.classes:=by unfold dropsAt;rw[pairsTo_p]
theorem dropsJ_all(p c:Nat):dropsJ X route p c (dropN X route p c)=dropsAt X route p (c+1):=by unfold dropsJ dropsAt;rw[pairsTo_c,List.foldl_append];rfl
theorem dropsJ_succ(p c j:Nat):dropsJ X route p c (j+1)=((dropsJ X route p c j).1.pop p c,(dropsJ X route p c j).2++[(p,c,none,(get2 (dropsJ X route p c j).1.q p c).headD default)]):=popN_snoc p c j _
def dropsEnd:Bx×List Mv:=dropsAt X route X.ports 0
def reqN(i k:Nat):Bool:=(List.range X.classes).any fun c=>readyB (outN X route) (dropsEnd X route).1 i k c
def matN:List (Option Nat)×Bar:=matchX X.ports (reqN X route) (dropsEnd X route).1.bar
def moveN(M:List (Option Nat))(s:Bx×List Mv)(i:Nat):Bx×List Mv:=match M.getD i none with|none=>s|some k=>moveI (outN X route) i k s
def movesAt(i:Nat):Bx×List Mv:=(List.range i).foldl (moveN X route (matN X route).1) ({(dropsEnd X route).1 with bar:=(matN X route).2},(dropsEnd X route).2)
theorem movesAt_succ(i:Nat):movesAt X route (i+1)=moveN X route (matN X route).1 (movesAt X route i) i:=by unfold movesAt;rw[List.range_succ,List.foldl_append];rfl
theorem step_is:X.step route=movesAt X route X.ports:=by
 have e:pairsB X=pairsTo X.classes X.ports 0:=by unfold pairsB pairsTo;simp
 unfold Bx.step movesAt matN reqN dropsEnd dropsAt;simp only[e];rfl
variable{X route}{N:Nat}
theorem dropsJ_ok(hb:BxOk X N){p c j:Nat}(hp:p<X.ports)(hc:c<X.classes)(hj:j≤dropN X route p c):BxOk (dropsJ X route p c j).1 N∧(dropsJ X route p c j).1.ports=X.ports∧(dropsJ X route p c j).1.classes=X.classes∧get2 (dropsJ X route p c j).1.q p c=(get2 X.q p c).drop j∧(dropsJ X route p c j).2.length≤64*64∧dropN X route p c≤(get2 X.q p c).length:=by
 have hl:∀p c,_:=fun p c=>lookQ_spec X.ports (route p) (get2 X.q p c);obtain⟨ms,b1,h1,h2,h3,h4,h5,h6,h7⟩:=drops_tr (route:=route) (dropN X route) (pairsTo X.classes p c) X [] hb (pairsTo_nodup _ _ _)
  (fun pc h=>by rcases pairsTo_mem.1 h with q|q<;>omega) (fun p c _=>(hl p c).1) (fun p c _=>(hl p c).2.1)
 have hd:=h2.dims;have hq:get2 b1.q p c=get2 X.q p c:=by rw[h3,if_neg (fun h=>by rcases pairsTo_mem.1 h with q|q<;>omega)]
 have e1:dropsAt X route p c=(b1,ms):=by unfold dropsAt;rw[h1];rfl
 obtain⟨ms2,b2,k1,k2,k3,k4,k5,k6,k7,k8⟩:=popN_tr (route:=route) (p:=p) (c:=c) j b1 ms _ h5 (by omega) (by omega) hq (Nat.le_trans hj (hl p c).1)
  (fun x hx=>by
   rw[hd.1];refine(hl p c).2.1 x ?_;have hle:j≤(lookQ X.ports (route p) (get2 X.q p c)).1:=hj;have:(get2 X.q p c).take j=((get2 X.q p c).take (lookQ X.ports (route p) (get2 X.q p c)).1).take j:=by rw[List.take_take,Nat.min_eq_left hle]
   rw[this]at hx;exact List.mem_of_mem_take hx)
 have hd2:=k2.dims;unfold dropsJ;rw[e1,k1];refine⟨k6,hd2.1.trans hd.1,hd2.2.1.trans hd.2.1,k3,?_,(hl p c).1⟩;simp only[List.length_append];rw[h7,k8];have hw:∀(L:List (Nat×Nat)),L.Nodup→(∀pc∈L,pc.1<X.ports∧pc.2<X.classes)→sm (fun pc=>dropN X route pc.1 pc.2) L≤64*L.length:=fun L _ hL=>by
  clear h1 h2 h3 h7 e1
  induction L with
  |nil=>simp[sm_nil]
  |cons x L ih=>rw[sm_cons,List.length_cons];have h1:=hL x (by simp);have h2:=hb.qlen h1.1 h1.2;have h3:=(hl x.1 x.2).1;have h4:=ih (by rename_i h;exact(List.nodup_cons.1 h).2) (fun y hy=>hL y (by simp[hy]));unfold dropN at *;omega
 have h8:=hw (pairsTo X.classes p c) (pairsTo_nodup _ _ _) (fun pc h=>by rcases pairsTo_mem.1 h with q|q<;>omega);have h9:(pairsTo X.classes p c).length=p*X.classes+c:=by unfold pairsTo;rw[List.length_append,List.length_flatMap,List.length_map,List.length_range];simp[List.map_const']
 rw[h9]at h8;have hp1:=hb.p1;have hc1:=hb.c1;have h10:p*X.classes≤p*8:=Nat.mul_le_mul_left _ hc1;have h11:=hb.qlen hp hc;have h12:=(hl p c).1;have h13:p*X.classes+c+1≤64:=by have:(p+1)*X.classes≤X.ports*X.classes:=Nat.mul_le_mul_right _ hp;have h14:X.ports*X.classes≤8*8:=Nat.mul_le_mul hp1 hc1;rw[Nat.succ_mul]at this;omega
 unfold dropN at hj;omega
theorem dropsEnd_ok(hb:BxOk X N):BxOk (dropsEnd X route).1 N∧(dropsEnd X route).1.ports=X.ports∧(dropsEnd X route).1.classes=X.classes∧(dropsEnd X route).2.length≤64*64∧(∀p c k,p<X.ports→c<X.classes→outN X route p c=some k→∃f l,get2 (dropsEnd X route).1.q p c=f::l∧route p f=some k∧k<X.ports):=by
 have hl:∀p c,_:=fun p c=>lookQ_spec X.ports (route p) (get2 X.q p c);obtain⟨ms,b1,h1,h2,h3,h4,h5,h6,h7⟩:=drops_tr (route:=route) (dropN X route) (pairsTo X.classes X.ports 0) X [] hb (pairsTo_nodup _ _ _)
  (fun pc h=>by rcases pairsTo_mem.1 h with q|q<;>omega) (fun p c _=>(hl p c).1) (fun p c _=>(hl p c).2.1)
 have hd:=h2.dims;have e1:dropsEnd X route=(b1,ms):=by unfold dropsEnd dropsAt;rw[h1];rfl
 rw[e1];refine⟨h5,hd.1,hd.2.1,?_,fun p c k hp hc hk=>?_⟩
 ·have h0:=hb.p0;have h8:=(dropsJ_ok (route:=route) hb (p:=X.ports-1) (c:=X.classes-1) (j:=dropN X route (X.ports-1) (X.classes-1)) (by omega) (by have:=hb.c0;omega) (Nat.le_refl _)).2.2.2.2.1;rw[dropsJ_all,show X.classes-1+1=X.classes by have:=hb.c0;omega,←dropsAt_p,show X.ports-1+1=X.ports by omega]at h8;rw[show dropsAt X route X.ports 0=dropsEnd X route from rfl,e1]at h8;exact h8
 ·show ∃f l,get2 b1.q p c=f::l∧_;rw[h3,if_pos (pairsTo_mem.2 (.inl ⟨hp,hc⟩))];exact(hl p c).2.2.1 k hk
theorem matN_ok(hb:BxOk X N):MatchOk X.ports (reqN X route) (matN X route).1∧BarOk (matN X route).2 X.ports:=by have h:=(dropsEnd_ok (route:=route) hb);exact match_ok hb.p1 (by rw[←h.2.1];exact h.1.bar)
theorem movesAt_ok(hb:BxOk X N){i:Nat}(hi:i≤X.ports):BxOk (movesAt X route i).1 (N+8)∧(movesAt X route i).1.ports=X.ports∧(movesAt X route i).1.classes=X.classes∧(movesAt X route i).2.length≤64*64+8∧(∀j c,i≤j→get2 (movesAt X route i).1.q j c=get2 (dropsEnd X route).1.q j c):=by
 have h:=(dropsEnd_ok (route:=route) hb);have m:=matN_ok (route:=route) hb;have hB:BxOk {(dropsEnd X route).1 with bar:=(matN X route).2} N:=h.1.setBar (by rw[h.2.1];exact m.2);obtain⟨ms,b,h1,h2,h3⟩:=moves_tr (route:=route) (N:=N) (outs:=outN X route) (M:=(matN X route).1) {(dropsEnd X route).1 with bar:=(matN X route).2} (dropsEnd X route).2 hB m.1.inj
  (fun p c k hp hc hk=>by simp only[h.2.1,h.2.2.1]at hp hc⊢;exact h.2.2.2.2 p c k hp hc hk) (fun i k hk=>by simp only[h.2.1];exact⟨(m.1.lt i k hk).1,(m.1.lt i k hk).2.1⟩) i (by simp only[h.2.1];exact hi)
 have e:movesAt X route i=(b,(dropsEnd X route).2++ms):=h1;have hd:=h2.tr.dims;have hms:ms.length≤8:=by
  have h4:ms.length=(outsOf ms).length:=by
   have:∀l:List Mv,(∀m∈l,∃k,m.2.2.1=some k)→l.length=(outsOf l).length:=fun l hl=>by
    induction l with
    |nil=>rfl
    |cons x l ih=>obtain⟨k,hk⟩:=hl x (by simp);unfold outsOf at *;rw[List.filterMap_cons,hk,List.length_cons,List.length_cons,ih fun m hm=>hl m (by simp[hm])]
   exact this ms fun m hm=>by obtain⟨k,a,_⟩:=h2.out m hm;exact⟨k,a⟩
  have h5:(outsOf ms).length≤8:=by have h6:∀k∈outsOf ms,k<8:=fun k hk=>(by obtain⟨x,hx1,hx2⟩:=mem_outsOf.1 hk;obtain⟨k',a,b,c⟩:=h2.out x hx1;rw[hx2]at a;injection a with a;subst a;have:=(m.1.lt _ _ c).2.1;have:=hb.p1;omega);have h7:(outsOf ms).Perm ((outsOf ms).filter (· ∈List.range 8)):=(by rw[List.filter_eq_self.2 (fun k hk=>by simpa using h6 k hk)]);have h8:∀l:List Nat,l.Nodup→(∀k∈l,k<8)→l.length≤8:=fun l hn hl=>(by have:=List.Nodup.length_le_of_subset hn (l₂:=List.range 8) (fun k hk=>by simpa using hl k hk);simpa using this);exact h8 _ h2.nd h6
  omega
 rw[e];refine⟨h2.ok.mono (by omega),hd.1.trans h.2.1,hd.2.1.trans h.2.2.1,?_,fun j c hj=>h2.q j c hj⟩;simp only[List.length_append];have:=h.2.2.2.1;omega
end
structure PlF(ns:List Nd)(cs:List Cb):Prop where
 n16:ns.length≤16
 c32:cs.length≤32
 a0:∀i,i<cs.length→0≤(cs.getD i cb0).a∧(cs.getD i cb0).a<ns.length
 b0:∀i,i<cs.length→0≤(cs.getD i cb0).b∧(cs.getD i cb0).b<ns.length
 ap:∀i,i<cs.length→0≤(cs.getD i cb0).ap∧(cs.getD i cb0).ap<(ns.getD (cs.getD i cb0).a.toNat nd0).ports
 bp:∀i,i<cs.length→0≤(cs.getD i cb0).bp∧(cs.getD i cb0).bp<(ns.getD (cs.getD i cb0).b.toNat nd0).ports
 ab:∀i,i<cs.length→(cs.getD i cb0).a≠(cs.getD i cb0).b
 dl:∀i,i<cs.length→1≤(cs.getD i cb0).dl∧(cs.getD i cb0).dl≤100
 sw:∀i,i<ns.length→1≤(ns.getD i nd0).ports∧(ns.getD i nd0).ports≤8∧((ns.getD i nd0).sw=false→(ns.getD i nd0).ports=1)
 inj:∀k j,k<2*cs.length→j<2*cs.length→(endsOf cs).getD k (0,0)=(endsOf cs).getD j (0,0)→k=j
theorem ends_lenF(cs:List Cb):(endsOf cs).length=2*cs.length:=by
 unfold endsOf
 induction cs with
 |nil=>rfl
 |cons x cs ih=>rw[List.flatMap_cons,List.length_append,ih,List.length_cons];simp;omega
theorem ends_at(cs:List Cb){i:Nat}(h:i<cs.length):(endsOf cs).getD (2*i) (0,0)=((cs.getD i cb0).a,(cs.getD i cb0).ap)∧(endsOf cs).getD (2*i+1) (0,0)=((cs.getD i cb0).b,(cs.getD i cb0).bp):=by
 induction cs generalizing i with
 |nil=>simp at h
 |cons x cs ih=>
  have e:endsOf (x::cs)=(x.a,x.ap)::(x.b,x.bp)::endsOf cs:=by unfold endsOf;rw[List.flatMap_cons];rfl
  rw[e];cases i with
  |zero=>exact⟨rfl,rfl⟩
  |succ i=>have:=ih (i:=i) (by simpa using h);rw[show 2*(i+1)=2*i+1+1 by omega];simp only[List.getD_cons_succ];exact this
theorem getD_all{α:Type}{p:α→Bool}{l:List α}{d:α}(h:l.all p=true){i:Nat}(hi:i<l.length):p (l.getD i d)=true:=by rw[List.all_eq_true]at h;exact h _ (by simp[List.getD,hi])
theorem plan_of{ns:List Nd}{cs:List Cb}(h:validP ⟨ns,cs⟩=0):PlF ns cs:=by
 unfold validP at h;simp only at h;by_cases h1:16<ns.length∨32<cs.length
 ·rw[if_pos h1]at h;cases h
 rw[if_neg h1]at h;by_cases h2:ns.all okNode=false
 ·rw[if_pos h2]at h;cases h
 rw[if_neg h2]at h;by_cases h3:cs.all (okPorts ns)=false
 ·rw[if_pos h3]at h;cases h
 rw[if_neg h3]at h;by_cases h4:repeatsB ⟨ns,cs⟩=true
 ·rw[if_pos h4]at h;cases h
 rw[if_neg h4]at h;by_cases h5:(cs.all fun x=>decide (x.a≠x.b))=false
 ·rw[if_pos h5]at h;cases h
 rw[if_neg h5]at h;by_cases h6:cs.all okForm=false
 ·rw[if_pos h6]at h;cases h
 simp only[Bool.not_eq_false]at h2 h3 h5 h6;have hp:∀i,i<cs.length→okPorts ns (cs.getD i cb0)=true:=fun i hi=>getD_all h3 hi;have hport:∀{a p:Int},hasPort ns a p=true→(0≤a∧a<ns.length)∧0≤p∧p<(ns.getD a.toNat nd0).ports:=fun{a p} hh=>by unfold hasPort at hh;simp only[Bool.and_eq_true,decide_eq_true_eq]at hh;exact⟨⟨hh.1.1.1,hh.1.1.2⟩,hh.1.2,hh.2⟩
 have hpp:∀i,i<cs.length→_:=fun i hi=>by have:=hp i hi;unfold okPorts at this;rw[Bool.and_eq_true]at this;exact(⟨hport this.1,hport this.2⟩:_∧_)
 refine⟨by omega,by omega,fun i hi=>(hpp i hi).1.1,fun i hi=>(hpp i hi).2.1,fun i hi=>(hpp i hi).1.2,fun i hi=>(hpp i hi).2.2,fun i hi=>by simpa using getD_all (d:=cb0) h5 hi,fun i hi=>?_,fun i hi=>?_,fun k j hk hj e=>?_⟩
 ·have:=getD_all (d:=cb0) h6 hi;unfold okForm at this;simp only[Bool.and_eq_true,decide_eq_true_eq]at this;exact⟨this.1.1.1,this.1.1.2⟩
 ·have:=getD_all (d:=nd0) h2 hi;unfold okNode at this;rw[Bool.and_eq_true]at this;have h7:=this.2;by_cases hs:(ns.getD i nd0).sw=true
  ·rw[if_pos hs]at h7;simp only[Bool.and_eq_true,decide_eq_true_eq]at h7;exact⟨h7.1,h7.2,fun e=>by rw[hs]at e;cases e⟩
  ·rw[if_neg hs]at h7;simp only[decide_eq_true_eq]at h7;rw[h7];exact⟨by decide,by decide,fun _=>rfl⟩
 ·have h8:twiceB samePair (0,0) (endsOf cs)=false:=by
   unfold repeatsB at h4;simp only[Bool.or_eq_true,not_or,Bool.not_eq_true]at h4;exact h4.2
  have key:∀k j,k<j→j<2*cs.length→(endsOf cs).getD k (0,0)=(endsOf cs).getD j (0,0)→False:=fun k j hkj hj e=>by
   have:twiceB samePair (0,0) (endsOf cs)=true:=by
    unfold twiceB twTo;rw[List.any_eq_true];refine⟨j,List.mem_range.2 (by rw[ends_lenF];exact hj),?_⟩;rw[List.any_eq_true];refine⟨(endsOf cs).getD k (0,0),?_,by rw[e];unfold samePair;simp⟩;have hl:k<((endsOf cs).take j).length:=by rw[List.length_take,ends_lenF];omega
    have e2:(endsOf cs).getD k (0,0)=((endsOf cs).take j)[k]:=by
     rw[List.getElem_take];have:k<(endsOf cs).length:=by rw[ends_lenF];omega
     simp[List.getD,this]
    rw[e2];exact List.getElem_mem hl
   rw[h8]at this;cases this
  rcases Nat.lt_trichotomy k j with q|q|q
  ·exact(key k j q hj e).elim
  ·exact q
  ·exact(key j k q hk e.symm).elim
section
variable{ns:List Nd}{cs:List Cb}(h:PlF ns cs)
include h
theorem PlF.ports8{i:Nat}(hi:i<ns.length):1≤(if(ns.getD i nd0).sw then(ns.getD i nd0).ports.toNat else 2)∧(if(ns.getD i nd0).sw then(ns.getD i nd0).ports.toNat else 2)≤8:=by have:=h.sw i hi;split<;>omega
theorem PlF.ends{c:Nat}(hc:c<2*cs.length):(endsF cs c).1<ns.length∧(endsF cs c).2.2.1<ns.length∧((endsF cs c).2.1:Int)<(ns.getD (endsF cs c).1 nd0).ports∧((endsF cs c).2.2.2:Int)<(ns.getD (endsF cs c).2.2.1 nd0).ports∧(endsF cs c).1≠(endsF cs c).2.2.1:=by
 have hi:c/2<cs.length:=by omega
 have a:=h.a0 _ hi;have b:=h.b0 _ hi;have ap:=h.ap _ hi;have bp:=h.bp _ hi;have ab:=h.ab _ hi;unfold endsF;simp only;by_cases e:c%2=0
 ·rw[if_pos e];simp only;refine⟨by omega,by omega,?_,?_,by omega⟩
  ·rw[Int.toNat_of_nonneg ap.1];exact ap.2
  ·rw[Int.toNat_of_nonneg bp.1];exact bp.2
 ·rw[if_neg e];simp only;refine⟨by omega,by omega,?_,?_,by omega⟩
  ·rw[Int.toNat_of_nonneg bp.1];exact bp.2
  ·rw[Int.toNat_of_nonneg ap.1];exact ap.2
theorem PlF.portLt{i p:Nat}(hi:i<ns.length)(hp:(p:Int)<(ns.getD i nd0).ports):p<(if(ns.getD i nd0).sw then(ns.getD i nd0).ports.toNat else 2):=by
 have:=h.sw i hi;cases e:(ns.getD i nd0).sw with
 |true=>rw[if_pos rfl];omega
 |false=>have:=this.2.2 e;rw[if_neg (by simp)];omega
theorem PlF.cable{c:Nat}(hc:c<2*cs.length):cableAt cs (endsF cs c).1 (endsF cs c).2.1=some (c/2)∧chanF cs (c/2) (endsF cs c).1=c:=by
 have hi:c/2<cs.length:=by omega
 have A:=h.a0 _ hi;have B:=h.b0 _ hi;have C:=h.ap _ hi;have D:=h.bp _ hi;have ab:=h.ab _ hi;have k1:=ends_at cs hi;refine⟨?_,?_⟩
 ·unfold cableAt;rw[List.find?_range_eq_some];refine⟨?_,by simpa using hi,fun j hj=>?_⟩
  ·unfold endsF;simp only;by_cases p1:c%2=0
   ·rw[if_pos p1];simp only[Int.toNat_of_nonneg A.1,Int.toNat_of_nonneg C.1];simp
   ·rw[if_neg p1];simp only[Int.toNat_of_nonneg B.1,Int.toNat_of_nonneg D.1];simp
  ·have hjl:j<cs.length:=by omega
   have k2:=ends_at cs hjl;have key:∀x y,x<2*cs.length→y<2*cs.length→(endsOf cs).getD x (0,0)=(endsOf cs).getD y (0,0)→x=y:=h.inj;simp only[Bool.not_eq_true',Bool.or_eq_false_iff,Bool.and_eq_false_iff,beq_eq_false_iff_ne,ne_eq];unfold endsF;simp only;by_cases p1:c%2=0
   ·rw[if_pos p1];simp only[Int.toNat_of_nonneg A.1,Int.toNat_of_nonneg C.1];constructor
    ·by_cases q:(cs.getD j cb0).a=(cs.getD (c/2) cb0).a
     ·exact .inr fun q2=>by have:=key (2*j) (2*(c/2)) (by omega) (by omega) (by rw[k1.1,k2.1,q,q2]);omega
     ·exact .inl q
    ·by_cases q:(cs.getD j cb0).b=(cs.getD (c/2) cb0).a
     ·exact .inr fun q2=>by have:=key (2*j+1) (2*(c/2)) (by omega) (by omega) (by rw[k1.1,k2.2,q,q2]);omega
     ·exact .inl q
   ·rw[if_neg p1];simp only[Int.toNat_of_nonneg B.1,Int.toNat_of_nonneg D.1];constructor
    ·by_cases q:(cs.getD j cb0).a=(cs.getD (c/2) cb0).b
     ·exact .inr fun q2=>by have:=key (2*j) (2*(c/2)+1) (by omega) (by omega) (by rw[k1.2,k2.1,q,q2]);omega
     ·exact .inl q
    ·by_cases q:(cs.getD j cb0).b=(cs.getD (c/2) cb0).b
     ·exact .inr fun q2=>by have:=key (2*j+1) (2*(c/2)+1) (by omega) (by omega) (by rw[k1.2,k2.2,q,q2]);omega
     ·exact .inl q
 ·unfold chanF endsF;simp only;by_cases p1:c%2=0
  ·rw[if_pos p1];simp only[Int.toNat_of_nonneg A.1];rw[if_pos trivial];omega
  ·rw[if_neg p1];simp only[Int.toNat_of_nonneg B.1];rw[if_neg ab];omega
theorem PlF.chan{i u:Nat}(hi:i<cs.length)(hu:(cs.getD i cb0).a=(u:Int)∨(cs.getD i cb0).b=(u:Int)):chanF cs i u<2*cs.length∧chanF cs i u/2=i∧(endsF cs (chanF cs i u)).1=u:=by
 have A:=h.a0 _ hi;have B:=h.b0 _ hi;have ab:=h.ab _ hi;unfold chanF;by_cases e:(cs.getD i cb0).a=(u:Int)
 ·rw[if_pos e];refine⟨by omega,by omega,?_⟩;unfold endsF;rw[if_pos (by omega),show 2*i/2=i by omega,e];rfl
 ·rw[if_neg e];refine⟨by omega,by omega,?_⟩;have e2:(cs.getD i cb0).b=(u:Int):=by rcases hu with q|q;exact absurd q e;exact q
  unfold endsF;rw[if_neg (by omega),show(2*i+1)/2=i by omega,e2];rfl
end
def portsOfN(n:Nd):Nat:=if n.sw then n.ports.toNat else 2
structure FmOk(ns:List Nd)(f:Fab)(x:Fm):Prop where
 c0:0≤x.cls
 c1:x.cls.toNat<f.rooms.length
 e0:0≤x.ep
 e1:x.ep≤f.bnow
 t0:0≤x.to'
 t1:x.to'<ns.length
 d:x.data.length≤64
def RtOk(ns:List Nd)(cs:List Cb)(r:Rt):Prop:=∀i p t,i<ns.length→p<2→t<ns.length→(r.next i p t<cs.length∧-2≤r.next i p t)∧(0≤r.next i p t→(cs.getD (r.next i p t).toNat cb0).a=(i:Int)∨(cs.getD (r.next i p t).toNat cb0).b=(i:Int))
structure FabOk(ns:List Nd)(cs:List Cb)(f:Fab)(N:Nat):Prop where
 k0:1≤f.classes
 k1:f.classes≤4
 rl:f.rooms.length=2*f.classes
 rv:∀r∈f.rooms,1≤r∧r≤64
 bl:f.boxes.length=ns.length
 box:∀i,i<ns.length→BxOk (f.boxes.getD i default) N∧(f.boxes.getD i default).ports=portsOfN (ns.getD i nd0)∧(f.boxes.getD i default).classes=f.rooms.length
 q:∀i p c x,i<ns.length→p<portsOfN (ns.getD i nd0)→c<f.rooms.length→x∈get2 (f.boxes.getD i default).q p c→FmOk ns f x
 up:f.up.length=cs.length
 r0:RtOk ns cs f.rt0
 r1:0<f.bnow→RtOk ns cs f.rt1
 bn:f.bnow≤f.now
 a0:0≤f.al0∧f.al0≤N
 a1:0≤f.al1∧f.al1≤N
 now:f.now≤N
 last:f.last≤N
 ll:f.lost.length≤N
 cm:Dim2 f.came ns.length f.rooms.length
 cv:∀i v,i<ns.length→v<f.rooms.length→0≤get2 f.came i v∧get2 f.came i v≤N
 gn:Dim2 f.gone (2*cs.length) f.rooms.length
 gv:∀c v,c<2*cs.length→v<f.rooms.length→0≤get2 f.gone c v∧get2 f.gone c v≤N
 fl:∀t x,x∈f.fl t→x.1<2*cs.length∧FmOk ns f x.2
 lim:∀t x,x∈f.lim t→x.1<2*cs.length∧x.2.1<f.rooms.length∧0≤x.2.2∧x.2.2≤1000000000000000
 fll:∀t,(f.fl t).length≤N
 lil:∀t,(f.lim t).length≤N
section
variable{ns:List Nd}{cs:List Cb}{f:Fab}{N M:Nat}
theorem FabOk.mono(h:FabOk ns cs f N)(hM:N≤M):FabOk ns cs f M where
 k0:=h.k0
 k1:=h.k1
 rl:=h.rl
 rv:=h.rv
 bl:=h.bl
 box:=fun i hi=>⟨(h.box i hi).1.mono hM,(h.box i hi).2⟩
 q:=h.q
 up:=h.up
 r0:=h.r0
 r1:=h.r1
 bn:=h.bn
 a0:=by have:=h.a0;omega
 a1:=by have:=h.a1;omega
 now:=by have:=h.now;omega
 last:=by have:=h.last;omega
 ll:=by have:=h.ll;omega
 cm:=h.cm
 cv:=fun i v hi hv=>by have:=h.cv i v hi hv;omega
 gn:=h.gn
 gv:=fun i v hi hv=>by have:=h.gv i v hi hv;omega
 fl:=h.fl
 lim:=h.lim
 fll:=fun t=>by have:=h.fll t;omega
 lil:=fun t=>by have:=h.lil t;omega
end
section
variable{ns:List Nd}{cs:List Cb}{f:Fab}{N M:Nat}
theorem FmOk.to_{f':Fab}{x:Fm}(h:FmOk ns f x)(e1:f'.rooms=f.rooms)(e2:f.bnow≤f'.bnow):FmOk ns f' x:=⟨h.c0,by rw[e1];exact h.c1,h.e0,by have:=h.e1;omega,h.t0,h.t1,h.d⟩
theorem FabOk.setBox(h:FabOk ns cs f N)(hM:N≤M){u:Nat}(hu:u<ns.length){X:Bx}(hX:BxOk X M)(hp:X.ports=portsOfN (ns.getD u nd0))(hc:X.classes=f.rooms.length)(hq:∀p c x,p<portsOfN (ns.getD u nd0)→c<f.rooms.length→x∈get2 X.q p c→FmOk ns f x):FabOk ns cs {f with boxes:=f.boxes.set u X} M:=by
 have k:=h.mono hM;have bl:=h.bl;exact{
  k0:=k.k0,k1:=k.k1,rl:=k.rl,rv:=k.rv,bl:=by show(f.boxes.set u X).length=ns.length;rw[List.length_set];exact bl
  box:=fun i hi=>by
   show BxOk ((f.boxes.set u X).getD i default) M∧((f.boxes.set u X).getD i default).ports=_∧((f.boxes.set u X).getD i default).classes=_;by_cases e:i=u
   ·subst e;rw[getD_set_at _ _ _ (by omega)];exact⟨hX,hp,hc⟩
   ·rw[getD_set_far _ _ _ e];exact k.box i hi
  q:=fun i p c x hi hp' hc' hx=>by
   have hx:x∈get2 ((f.boxes.set u X).getD i default).q p c:=hx;by_cases e:i=u
   ·subst e;rw[getD_set_at _ _ _ (by omega)]at hx;exact(hq p c x hp' hc' hx).to_ rfl (Nat.le_refl _)
   ·rw[getD_set_far _ _ _ e]at hx;exact(k.q i p c x hi hp' hc' hx).to_ rfl (Nat.le_refl _)
  up:=k.up,r0:=k.r0,r1:=k.r1,bn:=k.bn,a0:=k.a0,a1:=k.a1,now:=k.now,last:=k.last,ll:=k.ll,cm:=k.cm,cv:=k.cv,gn:=k.gn,gv:=k.gv
  fl:=fun t x hx=>⟨(k.fl t x hx).1,(k.fl t x hx).2.to_ rfl (Nat.le_refl _)⟩,lim:=k.lim,fll:=k.fll,lil:=k.lil}
theorem arrive_same(X:Bx)(p:Nat)(x:Fm):(X.arrive p x).1.ports=X.ports∧(X.arrive p x).1.classes=X.classes:=by unfold Bx.arrive;simp only;split<;>exact⟨rfl,rfl⟩
theorem arrive_mem{X:Bx}(hX:BxOk X N){p:Nat}{x y:Fm}(hp:p<X.ports)(hc:x.cls.toNat<X.classes){p' c':Nat}(h:y∈get2 (X.arrive p x).1.q p' c'):y∈get2 X.q p' c'∨y=x:=by
 unfold Bx.arrive at h;simp only at h;split at h
 ·simp only at h;rw[get2_set2 hX.q hp hc]at h;split at h
  ·rename_i e;rcases List.mem_append.1 h with h|h
   ·left;rw[e.1,e.2];exact h
   ·right;simpa using h
  ·exact .inl h
 ·exact .inl h
theorem FabOk.arrive(h:FabOk ns cs f N){u p:Nat}{x:Fm}(hu:u<ns.length)(hp:p<portsOfN (ns.getD u nd0))(hx:FmOk ns f x):FabOk ns cs {f with boxes:=f.boxes.set u ((f.boxes.getD u default).arrive p x).1} (N+1):=by
 obtain⟨b1,b2,b3⟩:=h.box u hu;have s:=arrive_same (f.boxes.getD u default) p x;refine h.setBox (by omega) hu (b1.arrive (by rw[b2];exact hp) (by rw[b3];exact hx.c1)) (by rw[s.1,b2]) (by rw[s.2,b3]) fun p' c' y hp' hc' hy=>?_;rcases arrive_mem b1 (by rw[b2];exact hp) (by rw[b3];exact hx.c1) hy with q|q
 ·exact h.q u p' c' y hu hp' hc' q
 ·rw[q];exact hx
theorem FabOk.raise(h:FabOk ns cs f N){u p c:Nat}(l:Int)(hu:u<ns.length)(hp:p<portsOfN (ns.getD u nd0))(hc:c<f.rooms.length):FabOk ns cs {f with boxes:=f.boxes.set u ((f.boxes.getD u default).raise p c l)} N:=by obtain⟨b1,b2,b3⟩:=h.box u hu;exact h.setBox (Nat.le_refl _) hu (b1.raise (by rw[b2];exact hp) (by rw[b3];exact hc) l) b2 b3 fun p' c' y hp' hc' hy=>h.q u p' c' y hu hp' hc' hy
theorem FabOk.addAl(h:FabOk ns cs f N)(hM:N≤M)(e d:Int)(h0:0≤(f.addAl e d).al0∧(f.addAl e d).al0≤M)(h1:0≤(f.addAl e d).al1∧(f.addAl e d).al1≤M):FabOk ns cs (f.addAl e d) M:=by
 have k:=h.mono hM;have E:f.addAl e d={f with al0:=(f.addAl e d).al0,al1:=(f.addAl e d).al1}:=by unfold Fab.addAl;split<;>rfl
 generalize(f.addAl e d).al0=x at *;generalize(f.addAl e d).al1=y at *;rw[E];exact{
  k0:=k.k0,k1:=k.k1,rl:=k.rl,rv:=k.rv,bl:=k.bl,box:=k.box,q:=fun i p c x hi hp' hc' hx=>(k.q i p c x hi hp' hc' hx).to_ rfl (Nat.le_refl _),up:=k.up,r0:=k.r0,r1:=k.r1,bn:=k.bn,a0:=h0,a1:=h1,now:=k.now,last:=k.last,ll:=k.ll,cm:=k.cm,cv:=k.cv,gn:=k.gn,gv:=k.gv
  fl:=fun t x hx=>⟨(k.fl t x hx).1,(k.fl t x hx).2.to_ rfl (Nat.le_refl _)⟩,lim:=k.lim,fll:=k.fll,lil:=k.lil}
theorem FabOk.rem(h:FabOk ns cs f N)(e:Int):FabOk ns cs (f.rem e) N:=by
 unfold Fab.rem;split
 ·exact h
 ·rename_i hz;have a0:=h.a0;have a1:=h.a1;refine h.addAl (Nat.le_refl _) e (-1) ?_ ?_
  all_goals
   unfold Fab.alive at hz;unfold Fab.addAl;split at hz
   ·exact absurd rfl hz
   ·split
    ·rename_i h2;rw[if_pos h2]at hz;simp only;omega
    ·rename_i h2;rw[if_neg h2]at hz;simp only;omega
theorem FabOk.lose(h:FabOk ns cs f N)(x:Fm):FabOk ns cs (f.lose x) (N+1):=by
 have k:=(h.rem x.ep).mono (show N≤N+1 by omega);have hl:=(h.rem x.ep).ll;unfold Fab.lose;simp only;generalize f.rem x.ep=g at *;exact{
  k0:=k.k0,k1:=k.k1,rl:=k.rl,rv:=k.rv,bl:=k.bl,box:=k.box,q:=fun i p c x hi hp' hc' hx=>(k.q i p c x hi hp' hc' hx).to_ rfl (Nat.le_refl _),up:=k.up,r0:=k.r0,r1:=k.r1,bn:=k.bn,a0:=k.a0,a1:=k.a1,now:=k.now,last:=k.last
  ll:=by show(g.lost++[x]).length≤N+1;rw[List.length_append];simp only[List.length_cons,List.length_nil];omega
  cm:=k.cm,cv:=k.cv,gn:=k.gn,gv:=k.gv,fl:=fun t x hx=>⟨(k.fl t x hx).1,(k.fl t x hx).2.to_ rfl (Nat.le_refl _)⟩,lim:=k.lim,fll:=k.fll,lil:=k.lil}
theorem FabOk.setLast(h:FabOk ns cs f N){l:Nat}(hl:l≤N):FabOk ns cs {f with last:=l} N:=by
 have k:=h;exact{
  k0:=k.k0,k1:=k.k1,rl:=k.rl,rv:=k.rv,bl:=k.bl,box:=k.box,q:=fun i p c x hi hp' hc' hx=>(k.q i p c x hi hp' hc' hx).to_ rfl (Nat.le_refl _),up:=k.up,r0:=k.r0,r1:=k.r1,bn:=k.bn,a0:=k.a0,a1:=k.a1,now:=k.now,last:=hl,ll:=k.ll,cm:=k.cm,cv:=k.cv,gn:=k.gn,gv:=k.gv,fl:=fun t x hx=>⟨(k.fl t x hx).1,(k.fl t x hx).2.to_ rfl (Nat.le_refl _)⟩,lim:=k.lim,fll:=k.fll,lil:=k.lil}
theorem FabOk.inject(h:FabOk ns cs f N)(frm to' cls:Int)(data:List Int):FabOk ns cs (f.inject ns frm to' cls data).1 (N+1):=by
 have k:=h.mono (show N≤N+1 by omega);unfold Fab.inject;split
 ·exact k
 ·rename_i hb;split
  ·exact k
  ·simp only;split
   ·exact k
   ·simp only[Bool.or_eq_true,Bool.not_eq_true',decide_eq_true_eq,not_or,Bool.not_eq_false,Int.not_lt,Int.not_le]at hb;obtain⟨⟨⟨⟨b1,b2⟩,b3⟩,b4⟩,b5⟩:=hb;unfold endF at b1 b2;simp only[Bool.and_eq_true,decide_eq_true_eq]at b1 b2;have hu:frm.toNat<ns.length:=by omega
    have vl:cls.toNat+f.classes*(f.bnow%2)<f.rooms.length:=by rw[h.rl];rcases(show f.bnow%2=0∨f.bnow%2=1 by omega)with q|q<;>rw[q]<;>omega
    have p2:1<portsOfN (ns.getD frm.toNat nd0):=(by have e:(ns.getD frm.toNat nd0).sw=false:=(by have:=b1.2;unfold isSw at this;simpa using this);unfold portsOfN;rw[e,if_neg (by decide)];omega);have a:=h.arrive (u:=frm.toNat) (p:=1) (x:=⟨f.last+1,frm,to',((cls.toNat+f.classes*(f.bnow%2):Nat):Int),f.bnow,data⟩) hu p2 ⟨by simp only;omega,by simp only[Int.toNat_natCast];exact vl,by simp only;omega,Int.le_refl _,b2.1.1,b2.1.2,by simp only;omega⟩;generalize(f.boxes.getD frm.toNat default).arrive 1 ⟨f.last+1,frm,to',((cls.toNat+f.classes*(f.bnow%2):Nat):Int),f.bnow,data⟩=r at *;split
    ·have a0:=h.a0;have a1:=h.a1;have c:=a.addAl (Nat.le_refl _) f.bnow 1 (by unfold Fab.addAl;split<;>(simp only;omega)) (by unfold Fab.addAl;split<;>(simp only;omega));have d:=c.setLast (l:=f.last+1) (by have:=h.last;omega);have E:({f.addAl f.bnow 1 with boxes:=f.boxes.set frm.toNat r.1,last:=f.last+1}:Fab)={(Fab.addAl {f with boxes:=f.boxes.set frm.toNat r.1} f.bnow 1)with last:=f.last+1}:=by unfold Fab.addAl;split<;>rfl
     rw[E];exact d
    ·exact a
theorem FabOk.flDel(h:FabOk ns cs f N)(now:Nat):FabOk ns cs {f with fl:=fun t=>if t=now then[]else f.fl t} N:=by
 have k:=h;exact{
  k0:=k.k0,k1:=k.k1,rl:=k.rl,rv:=k.rv,bl:=k.bl,box:=k.box,q:=fun i p c x hi hp' hc' hx=>(k.q i p c x hi hp' hc' hx).to_ rfl (Nat.le_refl _),up:=k.up,r0:=k.r0,r1:=k.r1,bn:=k.bn,a0:=k.a0,a1:=k.a1,now:=k.now,last:=k.last,ll:=k.ll,cm:=k.cm,cv:=k.cv,gn:=k.gn,gv:=k.gv,lim:=k.lim,lil:=k.lil
  fl:=fun t x hx=>by
   have hx:x∈(if t=now then[]else f.fl t):=hx;split at hx
   ·cases hx
   ·exact⟨(k.fl t x hx).1,(k.fl t x hx).2.to_ rfl (Nat.le_refl _)⟩
  fll:=fun t=>by
   show(if t=now then[]else f.fl t).length≤N;split
   ·exact Nat.zero_le _
   ·exact k.fll t}
theorem FabOk.limDel(h:FabOk ns cs f N)(now:Nat):FabOk ns cs {f with lim:=fun t=>if t=now then[]else f.lim t} N:=by
 have k:=h;exact{
  k0:=k.k0,k1:=k.k1,rl:=k.rl,rv:=k.rv,bl:=k.bl,box:=k.box,q:=fun i p c x hi hp' hc' hx=>(k.q i p c x hi hp' hc' hx).to_ rfl (Nat.le_refl _),up:=k.up,r0:=k.r0,r1:=k.r1,bn:=k.bn,a0:=k.a0,a1:=k.a1,now:=k.now,last:=k.last,ll:=k.ll,cm:=k.cm,cv:=k.cv,gn:=k.gn,gv:=k.gv,fl:=fun t x hx=>⟨(k.fl t x hx).1,(k.fl t x hx).2.to_ rfl (Nat.le_refl _)⟩,fll:=k.fll
  lim:=fun t x hx=>by
   have hx:x∈(if t=now then[]else f.lim t):=hx;split at hx
   ·cases hx
   ·exact k.lim t x hx
  lil:=fun t=>by
   show(if t=now then[]else f.lim t).length≤N;split
   ·exact Nat.zero_le _
   ·exact k.lil t}
theorem FabOk.flPut(h:FabOk ns cs f N)(due:Nat){x:Nat×Fm}(h1:x.1<2*cs.length)(h2:FmOk ns f x.2):FabOk ns cs {f with fl:=fun t=>if t=due then f.fl t++[x]else f.fl t} (N+1):=by
 have k:=h.mono (show N≤N+1 by omega);exact{
  k0:=k.k0,k1:=k.k1,rl:=k.rl,rv:=k.rv,bl:=k.bl,box:=k.box,q:=fun i p c x hi hp' hc' hx=>(k.q i p c x hi hp' hc' hx).to_ rfl (Nat.le_refl _),up:=k.up,r0:=k.r0,r1:=k.r1,bn:=k.bn,a0:=k.a0,a1:=k.a1,now:=k.now,last:=k.last,ll:=k.ll,cm:=k.cm,cv:=k.cv,gn:=k.gn,gv:=k.gv,lim:=k.lim,lil:=k.lil
  fl:=fun t y hx=>by
   have hx:y∈(if t=due then f.fl t++[x]else f.fl t):=hx;split at hx
   ·rcases List.mem_append.1 hx with hx|hx
    ·exact⟨(k.fl t y hx).1,(k.fl t y hx).2.to_ rfl (Nat.le_refl _)⟩
    ·rw[List.mem_singleton]at hx;subst hx;exact⟨h1,h2.to_ rfl (Nat.le_refl _)⟩
   ·exact⟨(k.fl t y hx).1,(k.fl t y hx).2.to_ rfl (Nat.le_refl _)⟩
  fll:=fun t=>by
   have:=h.fll t;show(if t=due then f.fl t++[x]else f.fl t).length≤N+1;split
   ·rw[List.length_append];simp only[List.length_cons,List.length_nil];omega
   ·omega}
theorem FabOk.came(h:FabOk ns cs f N){u v:Nat}(hu:u<ns.length)(hv:v<f.rooms.length):FabOk ns cs {f with came:=set2 f.came u v (get2 f.came u v+1)} (N+1):=by
 have k:=h.mono (show N≤N+1 by omega);exact{
  k0:=k.k0,k1:=k.k1,rl:=k.rl,rv:=k.rv,bl:=k.bl,box:=k.box,q:=fun i p c x hi hp' hc' hx=>(k.q i p c x hi hp' hc' hx).to_ rfl (Nat.le_refl _),up:=k.up,r0:=k.r0,r1:=k.r1,bn:=k.bn,a0:=k.a0,a1:=k.a1,now:=k.now,last:=k.last,ll:=k.ll,gn:=k.gn,gv:=k.gv,fl:=fun t x hx=>⟨(k.fl t x hx).1,(k.fl t x hx).2.to_ rfl (Nat.le_refl _)⟩,fll:=k.fll,lim:=k.lim,lil:=k.lil
  cm:=h.cm.set_ u v _
  cv:=fun i j hi hj=>by have h1:=h.cv u v hu hv;have h2:=h.cv i j hi hj;show 0≤get2 (set2 f.came u v (get2 f.came u v+1)) i j∧get2 (set2 f.came u v (get2 f.came u v+1)) i j≤((N+1:Nat):Int);rw[get2_set2 h.cm hu hv];split<;>omega}
theorem FabOk.nowInc(h:FabOk ns cs f N):FabOk ns cs {f with now:=f.now+1} (N+1):=by
 have k:=h.mono (show N≤N+1 by omega);exact{
  k0:=k.k0,k1:=k.k1,rl:=k.rl,rv:=k.rv,bl:=k.bl,box:=k.box,q:=fun i p c x hi hp' hc' hx=>(k.q i p c x hi hp' hc' hx).to_ rfl (Nat.le_refl _),up:=k.up,r0:=k.r0,r1:=k.r1,a0:=k.a0,a1:=k.a1,last:=k.last,ll:=k.ll,cm:=k.cm,cv:=k.cv,gn:=k.gn,gv:=k.gv,fl:=fun t x hx=>⟨(k.fl t x hx).1,(k.fl t x hx).2.to_ rfl (Nat.le_refl _)⟩,fll:=k.fll,lim:=k.lim,lil:=k.lil
  bn:=by show f.bnow≤f.now+1;have:=h.bn;omega
  now:=by show f.now+1≤N+1;have:=h.now;omega}
end
theorem pop_sub{b:Bx}{N:Nat}(hb:BxOk b N){p c:Nat}(hp:p<b.ports)(hc:c<b.classes){p' c':Nat}{x:Fm}(h:x∈get2 (set2 b.q p c (get2 b.q p c).tail) p' c'):x∈get2 b.q p' c':=by
 rw[get2_set2 hb.q hp hc]at h;split at h
 ·rename_i e;rw[e.1,e.2];exact List.mem_of_mem_tail h
 ·exact h
theorem Mi.sub{route:Nat→Fm→Option Nat}{b b1:Bx}{m:Mv}{N:Nat}(h:Mi route b m b1)(hb:BxOk b N):(∀p c x,x∈get2 b1.q p c→x∈get2 b.q p c)∧m.1<b.ports∧m.2.1<b.classes∧m.2.2.2∈get2 b.q m.1 m.2.1∧b1.ports=b.ports∧b1.classes=b.classes:=by
 cases h with
 |drop p c f l h1 h2 h3 h4=>exact⟨fun p' c' x hx=>pop_sub hb h1 h2 hx,h1,h2,by show f∈get2 b.q p c;rw[h3];exact List.mem_cons_self ..,rfl,rfl⟩
 |move i c k f l pt h1 h2 h3 h4 h5 h6 h7 h8=>exact⟨fun p' c' x hx=>pop_sub hb h1 h2 hx,h1,h2,by show f∈get2 b.q i c;rw[h4];exact List.mem_cons_self ..,rfl,rfl⟩
theorem Tr.sub{route:Nat→Fm→Option Nat}{b b1:Bx}{ms:List Mv}(h:Tr route b ms b1):∀{N:Nat},BxOk b N→(∀p c x,x∈get2 b1.q p c→x∈get2 b.q p c)∧(∀m∈ms,m.1<b.ports∧m.2.1<b.classes∧m.2.2.2∈get2 b.q m.1 m.2.1):=by
 induction h with
 |nil b=>exact fun _=>⟨fun _ _ _ h=>h,fun m hm=>by cases hm⟩
 |cons mi _ ih=>
  intro N hb;have s:=mi.sub hb;have k:=ih (mi.ok hb);refine⟨fun p c x hx=>s.1 p c x (k.1 p c x hx),fun m hm=>?_⟩;rcases List.mem_cons.1 hm with e|e
  ·subst e;exact⟨s.2.1,s.2.2.1,s.2.2.2.1⟩
  ·have q:=k.2 m e;rw[s.2.2.2.2.1,s.2.2.2.2.2]at q;exact⟨q.1,q.2.1,s.1 _ _ _ q.2.2⟩
 |bar x hx _ ih=>intro N hb;exact ih (hb.setBar hx)
theorem FabOk.stepBox{ns:List Nd}{cs:List Cb}{f:Fab}{N:Nat}(h:FabOk ns cs f N){u:Nat}(hu:u<ns.length)(route:Nat→Fm→Option Nat):FabOk ns cs {f with boxes:=f.boxes.set u ((f.boxes.getD u default).step route).1} (N+8)∧∀m∈((f.boxes.getD u default).step route).2,FmOk ns f m.2.2.2:=by obtain⟨b1,b2,b3⟩:=h.box u hu;have t:=(step_tr _ route b1).1.sub b1;have k:=movesAt_ok (route:=route) b1 (Nat.le_refl _);rw[←step_is]at k;refine⟨h.setBox (by omega) hu k.1 (by rw[k.2.1,b2]) (by rw[k.2.2.1,b3]) fun p c x hp hc hx=>h.q u p c x hu hp hc (t.1 p c x hx),fun m hm=>?_⟩;obtain⟨q1,q2,q3⟩:=t.2 m hm;exact h.q u m.1 m.2.1 _ hu (by rw[←b2];exact q1) (by rw[←b3];exact q2) q3
theorem lose_same(f:Fab)(x:Fm):(f.lose x).rooms=f.rooms∧(f.lose x).bnow=f.bnow∧(f.lose x).now=f.now:=by
 unfold Fab.lose Fab.rem Fab.addAl;simp only;split
 ·exact⟨rfl,rfl,rfl⟩
 ·split<;>exact⟨rfl,rfl,rfl⟩
theorem cableAt_some{cs:List Cb}{u k i:Nat}(h:cableAt cs u k=some i):i<cs.length∧((cs.getD i cb0).a=(u:Int)∨(cs.getD i cb0).b=(u:Int)):=by
 unfold cableAt at h;have h1:=List.mem_of_find?_eq_some h;have h2:=List.find?_some h;simp only[Bool.or_eq_true,Bool.and_eq_true,beq_iff_eq]at h2;refine⟨List.mem_range.1 h1,?_⟩;rcases h2 with q|q
 ·exact .inl q.1
 ·exact .inr q.1
theorem FabOk.move1{ns:List Nd}{cs:List Cb}{f:Fab}{N:Nat}(h:FabOk ns cs f N)(hp:PlF ns cs){u:Nat}(hu:u<ns.length){m:Mv}(hm:FmOk ns f m.2.2.2):FabOk ns cs (f.move1 cs u m) (N+1)∧(f.move1 cs u m).rooms=f.rooms∧(f.move1 cs u m).bnow=f.bnow∧(f.move1 cs u m).now=f.now:=by
 unfold Fab.move1;cases m.2.2.1 with
 |none=>exact⟨h.lose _,lose_same f _⟩
 |some k=>
  dsimp only;cases e:cableAt cs u k with
  |none=>exact⟨h.mono (Nat.le_succ N),rfl,rfl,rfl⟩
  |some i=>obtain⟨c1,c2⟩:=cableAt_some e;exact⟨h.flPut _ (x:=(chanF cs i u,m.2.2.2)) (hp.chan c1 c2).1 hm,rfl,rfl,rfl⟩
theorem FabOk.moves{ns:List Nd}{cs:List Cb}(hp:PlF ns cs){u:Nat}(hu:u<ns.length):∀(ms:List Mv) {f:Fab} {N:Nat},FabOk ns cs f N→(∀m∈ms,FmOk ns f m.2.2.2)→FabOk ns cs (ms.foldl (Fab.move1 cs u) f) (N+ms.length)∧(ms.foldl (Fab.move1 cs u) f).rooms=f.rooms∧(ms.foldl (Fab.move1 cs u) f).bnow=f.bnow∧(ms.foldl (Fab.move1 cs u) f).now=f.now
 |[],_,_,h,_=>⟨h,rfl,rfl,rfl⟩
 |m::ms,f,N,h,hm=>by have k:=h.move1 hp hu (hm m (List.mem_cons_self ..));have r:=FabOk.moves hp hu ms k.1 fun m' h'=>(hm m' (List.mem_cons_of_mem _ h')).to_ k.2.1 (by rw[k.2.2.1];exact Nat.le_refl _);rw[List.foldl_cons];refine⟨r.1.mono (by rw[List.length_cons];omega),r.2.1.trans k.2.1,r.2.2.1.trans k.2.2.1,r.2.2.2.trans k.2.2.2⟩
theorem FabOk.stepN{ns:List Nd}{cs:List Cb}{f:Fab}{N:Nat}(h:FabOk ns cs f N)(hp:PlF ns cs){u:Nat}(hu:u<ns.length):FabOk ns cs (f.stepN ns cs u) (N+5000)∧(f.stepN ns cs u).rooms=f.rooms∧(f.stepN ns cs u).bnow=f.bnow∧(f.stepN ns cs u).now=f.now:=by obtain⟨k1,k2⟩:=h.stepBox hu fun port x=>(f.leave ns cs u port x).map fun c=>(endsF cs c).2.1;have len:=(movesAt_ok (route:=fun port x=>(f.leave ns cs u port x).map fun c=>(endsF cs c).2.1) (h.box u hu).1 (Nat.le_refl _)).2.2.2.1;rw[←step_is]at len;have r:=FabOk.moves hp hu _ k1 fun m hm=>(k2 m hm).to_ rfl (Nat.le_refl _);unfold Fab.stepN;exact⟨r.1.mono (by omega),r.2.1,r.2.2.1,r.2.2.2⟩
theorem rem_rooms(f:Fab)(e:Int):(f.rem e).rooms=f.rooms∧(f.rem e).bnow=f.bnow∧(f.rem e).now=f.now:=by
 unfold Fab.rem Fab.addAl;split
 ·exact⟨rfl,rfl,rfl⟩
 ·split<;>exact⟨rfl,rfl,rfl⟩
theorem FabOk.arrive1{ns:List Nd}{cs:List Cb}{f:Fab}{N:Nat}(h:FabOk ns cs f N)(hp:PlF ns cs){x:Nat×Fm}(hc:x.1<2*cs.length)(hx:FmOk ns f x.2)(D:List Dl):FabOk ns cs (Fab.arrive1 ns cs (f,D) x).1 (N+2)∧(Fab.arrive1 ns cs (f,D) x).1.rooms=f.rooms∧(Fab.arrive1 ns cs (f,D) x).1.bnow=f.bnow∧(Fab.arrive1 ns cs (f,D) x).1.now=f.now:=by
 have EN:=hp.ends hc;have pl:=hp.portLt EN.2.1 EN.2.2.2.1;unfold Fab.arrive1;dsimp only;by_cases hs:isSw ns (endsF cs x.1).2.2.1=true
 ·rw[if_pos hs];have a:=h.arrive EN.2.1 (p:=(endsF cs x.1).2.2.2) (show _<portsOfN _ from pl) hx;dsimp only;split
  ·exact⟨a.mono (by omega),rfl,rfl,rfl⟩
  ·have l:=a.lose x.2;have s:=lose_same ({f with boxes:=f.boxes.set (endsF cs x.1).2.2.1 ((f.boxes.getD (endsF cs x.1).2.2.1 default).arrive (endsF cs x.1).2.2.2 x.2).1}:Fab) x.2;exact⟨l,s⟩
 ·rw[if_neg hs];have a:=(h.came EN.2.1 hx.c1).rem x.2.ep;have s:=rem_rooms ({f with came:=set2 f.came (endsF cs x.1).2.2.1 x.2.cls.toNat (get2 f.came (endsF cs x.1).2.2.1 x.2.cls.toNat+1)}:Fab) x.2.ep;exact⟨a.mono (by omega),s⟩
theorem FabOk.raise1{ns:List Nd}{cs:List Cb}{f:Fab}{N:Nat}(h:FabOk ns cs f N)(hp:PlF ns cs){x:Nat×Nat×Int}(hc:x.1<2*cs.length)(hv:x.2.1<f.rooms.length):FabOk ns cs (Fab.raise1 cs f x) N∧(Fab.raise1 cs f x).rooms=f.rooms∧(Fab.raise1 cs f x).bnow=f.bnow∧(Fab.raise1 cs f x).now=f.now:=by have EN:=hp.ends hc;have pl:=hp.portLt EN.1 EN.2.2.1;unfold Fab.raise1;exact⟨h.raise x.2.2 EN.1 (show _<portsOfN _ from pl) hv,rfl,rfl,rfl⟩
theorem FabOk.raises{ns:List Nd}{cs:List Cb}(hp:PlF ns cs):∀(l:List (Nat×Nat×Int)) {f:Fab} {N:Nat},FabOk ns cs f N→(∀x∈l,x.1<2*cs.length∧x.2.1<f.rooms.length)→FabOk ns cs (l.foldl (Fab.raise1 cs) f) N∧(l.foldl (Fab.raise1 cs) f).rooms=f.rooms∧(l.foldl (Fab.raise1 cs) f).bnow=f.bnow∧(l.foldl (Fab.raise1 cs) f).now=f.now
 |[],_,_,h,_=>⟨h,rfl,rfl,rfl⟩
 |x::l,f,N,h,hl=>by
  have k:=h.raise1 hp (hl x (List.mem_cons_self ..)).1 (hl x (List.mem_cons_self ..)).2;have r:=FabOk.raises hp l k.1 fun y hy=>by rw[k.2.1];exact hl y (List.mem_cons_of_mem _ hy)
  rw[List.foldl_cons];exact⟨r.1,r.2.1.trans k.2.1,r.2.2.1.trans k.2.2.1,r.2.2.2.trans k.2.2.2⟩
theorem FabOk.steps{ns:List Nd}{cs:List Cb}(hp:PlF ns cs):∀(l:List Nat) {f:Fab} {N:Nat},FabOk ns cs f N→(∀u∈l,u<ns.length)→FabOk ns cs (l.foldl (Fab.stepN ns cs) f) (N+l.length*5000)∧(l.foldl (Fab.stepN ns cs) f).rooms=f.rooms∧(l.foldl (Fab.stepN ns cs) f).bnow=f.bnow∧(l.foldl (Fab.stepN ns cs) f).now=f.now
 |[],_,_,h,_=>⟨by simpa using h,rfl,rfl,rfl⟩
 |u::l,f,N,h,hl=>by have k:=h.stepN hp (hl u (List.mem_cons_self ..));have r:=FabOk.steps hp l k.1 fun y hy=>hl y (List.mem_cons_of_mem _ hy);rw[List.foldl_cons];exact⟨r.1.mono (by rw[List.length_cons];omega),r.2.1.trans k.2.1,r.2.2.1.trans k.2.2.1,r.2.2.2.trans k.2.2.2⟩
section
variable{α:Type}{key:α→Int}
def Stb(key:α→Int)(l l':List α):Prop:=∀k,l'.filter (fun x=>key x==k)=l.filter (fun x=>key x==k)
def SrtK(key:α→Int)(l:List α):Prop:=l.Pairwise (fun x y=>key x≤key y)
theorem Stb.refl(l:List α):Stb key l l:=fun _=>rfl
theorem Stb.trans{a b c:List α}(h:Stb key a b)(h2:Stb key b c):Stb key a c:=fun k=>(h2 k).trans (h k)
theorem Stb.symm{a b:List α}(h:Stb key a b):Stb key b a:=fun k=>(h k).symm
theorem Stb.app{a b c d:List α}(h:Stb key a b)(h2:Stb key c d):Stb key (a++c) (b++d):=fun k=>by rw[List.filter_append,List.filter_append,h k,h2 k]
theorem Stb.rot {u v : List α} (h : ∀ x ∈ u, ∀ y ∈ v, key x ≠ key y) : Stb key (u ++ v) (v ++ u) := fun k => by
  rw [List.filter_append, List.filter_append]
  by_cases hu : ∃ x ∈ u, key x = k
  · obtain ⟨x, hx, rfl⟩ := hu
    have : v.filter (fun y => key y == key x) = [] := by
      rw [List.filter_eq_nil_iff]
      intro y hy e
      exact h x hx y hy (by have e2 : key y = key x := by simpa using e
                            exact e2.symm)
    rw [this]; simp
  · have : u.filter (fun y => key y == k) = [] := by
      rw [List.filter_eq_nil_iff]
      intro y hy e
      exact hu ⟨y, hy, by simpa using e⟩
    rw [this]; simp
theorem Stb.mem{l l':List α}(h:Stb key l l'){x:α}:x∈l'↔x∈l:=by have a:x∈l.filter (fun y=>key y==key x)↔x∈l∧(key x==key x)=true:=List.mem_filter;have b:x∈l'.filter (fun y=>key y==key x)↔x∈l'∧(key x==key x)=true:=List.mem_filter;rw[h (key x)]at b;simp only[beq_self_eq_true,and_true]at a b;exact b.symm.trans a
theorem Stb.uniq:∀{l l':List α},SrtK key l→SrtK key l'→Stb key l l'→l=l'
 |[],l',_,_,h=>by
  cases l' with
  |nil=>rfl
  |cons y t=>exact absurd ((h.mem (x:=y)).1 (List.mem_cons_self ..)) (by simp)
 |x::t,l',s,s',h=>by
  cases l' with
  |nil=>exact absurd ((h.mem (x:=x)).2 (List.mem_cons_self ..)) (by simp)
  |cons y t'=>
   have kx:∀z∈x::t,key x≤key z:=fun z hz=>by
    rcases List.mem_cons.1 hz with rfl|hz
    ·exact Int.le_refl _
    ·exact List.rel_of_pairwise_cons s hz
   have ky:∀z∈y::t',key y≤key z:=fun z hz=>by
    rcases List.mem_cons.1 hz with rfl|hz
    ·exact Int.le_refl _
    ·exact List.rel_of_pairwise_cons s' hz
   have e:key x=key y:=Int.le_antisymm (kx y ((h.mem).1 (List.mem_cons_self ..))) (ky x ((h.mem).2 (List.mem_cons_self ..)));have f:=h (key x);rw[List.filter_cons,List.filter_cons,if_pos (by simp[e]),if_pos (by simp)]at f;injection f with f1 f2;subst f1;have g:Stb key t t':=fun k=>by
    have f:=h k;rw[List.filter_cons,List.filter_cons]at f;by_cases q:key y=k
    ·rw[if_pos (by simpa using q),if_pos (by simpa using q)]at f;injection f
    ·rw[if_neg (by simpa using q),if_neg (by simpa using q)]at f;exact f
   rw[Stb.uniq (List.Pairwise.of_cons s) (List.Pairwise.of_cons s') g]
theorem Stb.length:∀{l l':List α},Stb key l l'→l'.length=l.length
 |[],l',h=>by
  cases l' with
  |nil=>rfl
  |cons y t=>exact absurd ((h.mem (x:=y)).1 (List.mem_cons_self ..)) (by simp)
 |x::t,l',h=>by
  obtain⟨a,b,e,ha⟩:∃a b,l'=a++x::b∧∀z∈a,key z≠key x:=by
   have f:=h (key x);rw[List.filter_cons,if_pos (by simp)]at f;clear h
   induction l' with
   |nil=>simp at f
   |cons y r ih=>
    rw[List.filter_cons]at f;by_cases q:key y=key x
    ·rw[if_pos (by simpa using q)]at f;injection f with f1 f2;subst f1;exact⟨[],r,rfl,fun z hz=>(by cases hz)⟩
    ·rw[if_neg (by simpa using q)]at f;obtain⟨a,b,e,ha⟩:=ih f;exact⟨y::a,b,by rw[e];rfl,fun z hz=>by
      rcases List.mem_cons.1 hz with rfl|hz
      ·exact q
      ·exact ha z hz⟩
  subst e;have g:Stb key t (a++b):=fun k=>by
   have f:=h k;rw[List.filter_append,List.filter_cons,List.filter_cons]at f;rw[List.filter_append];by_cases q:key x=k
   ·have ea:a.filter (fun y=>key y==k)=[]:=by
     rw[List.filter_eq_nil_iff];intro z hz e;exact ha z hz (by rw[q];simpa using e)
    rw[ea,if_pos (by simpa using q),if_pos (by simpa using q)]at f;rw[ea];injection f
   ·rw[if_neg (by simpa using q),if_neg (by simpa using q)]at f;exact f
  have:=Stb.length g;simp only[List.length_append,List.length_cons]at this⊢;omega
end
section
variable{α:Type}{key:α→Int}
theorem SrtK.app{l m:List α}:SrtK key (l++m)↔SrtK key l∧SrtK key m∧∀x∈l,∀y∈m,key x≤key y:=List.pairwise_append
theorem sym_join{X U V Y S1 S2:List α}(hA:SrtK key (X++U))(hB:SrtK key (V++Y))(hvu:∀u∈U,∀v∈V,key v<key u)(hxy:∀x∈X,∀y∈Y,key x≤key y)(s1:SrtK key S1)(s2:SrtK key S2)(t1:Stb key (X++V) S1)(t2:Stb key (U++Y) S2):SrtK key (S1++S2)∧Stb key ((X++U)++(V++Y)) (S1++S2):=by
 obtain⟨_,_,a3⟩:=SrtK.app.1 hA;obtain⟨_,_,b3⟩:=SrtK.app.1 hB;refine⟨SrtK.app.2 ⟨s1,s2,fun x hx y hy=>?_⟩,?_⟩
 ·rcases List.mem_append.1 (t1.mem.1 hx)with q|q<;>rcases List.mem_append.1 (t2.mem.1 hy)with r|r
  ·exact a3 x q y r
  ·exact hxy x q y r
  ·exact Int.le_of_lt (hvu y r x q)
  ·exact b3 x q y r
 ·have h1:Stb key (X++((U++V)++Y)) (X++((V++U)++Y)):=(Stb.refl X).app ((Stb.rot fun u hu v hv e=>by have:=hvu u hu v hv;omega).app (Stb.refl Y));have h2:=h1.trans (show Stb key (X++((V++U)++Y)) (S1++S2)from by
   have:=t1.app t2
   rwa [show(X++V)++(U++Y)=X++((V++U)++Y) by simp]at this)
  rwa [show X++((U++V)++Y)=(X++U)++(V++Y) by simp]at h2
theorem ins_ok{S1 S2:List α}{x:α}(h:SrtK key (S1++S2))(h1:∀y∈S1,key y≤key x)(h2:∀y∈S2,key x<key y):SrtK key (S1++x::S2)∧Stb key ((S1++S2)++[x]) (S1++x::S2):=by
 obtain⟨a1,a2,a3⟩:=SrtK.app.1 h;refine⟨SrtK.app.2 ⟨a1,List.pairwise_cons.2 ⟨fun y hy=>Int.le_of_lt (h2 y hy),a2⟩,fun y hy z hz=>?_⟩,?_⟩
 ·rcases List.mem_cons.1 hz with rfl|hz
  ·exact h1 y hy
  ·exact a3 y hy z hz
 ·have:=(Stb.refl (key:=key) S1).app (Stb.rot (key:=key) (u:=S2) (v:=[x]) fun y hy z hz e=>by
   rw[List.mem_singleton]at hz;subst hz;have:=h2 y hy;omega)
  simpa using this
variable{d:α}
end
end Go.Proofs.YtnjjkgjdhljfnaaGreat
