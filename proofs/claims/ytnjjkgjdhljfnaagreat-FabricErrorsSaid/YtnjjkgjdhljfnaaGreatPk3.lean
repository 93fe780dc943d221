/- Part 3 of the proof of fabricErrors.proved: CBase FbCh COrder CVisit CTable. Several texts in one, blanks struck, what is not used left out. -/
import Derived.BigQuiet
import Derived.BigRegion
import Derived.Deep.QuietTactic
import Derived.Deep.RegionHeld3
import Derived.Deep.RegionLaw
import Derived.IntWalk
import Derived.LoopTactic
import Derived.Maps.RangeWalk
import Derived.Test.YtnjjkgjdhljfnaaGreatPk1
import Derived.Test.YtnjjkgjdhljfnaaGreatPk2
set_option maxRecDepth 100000
set_option maxHeartbeats 16000000
set_option linter.unusedVariables false
set_option linter.unusedSimpArgs false
namespace Go.Proofs.YtnjjkgjdhljfnaaGreat
open Go.RowKit Go.Maps
abbrev Dp:=Int×Int×Int
def d0:Dp:=(0,0,0)
def cD(d:Dp):List Value:=[.int .i64 d.1,.int .i64 d.2.1,.int .i64 d.2.2]
theorem below_drewN{B:Nat}{a w:World}(h:Below B a w)(n:Nat):Below B a (w.drewN n):=⟨h.os,h.tape,h.output,h.size,h.block⟩
def cI(n:Int):List Value:=[.int .i64 n]
theorem cI_length(n:Int):(cI n).length=1:=rfl
theorem cI_one(l:List Int):∀u∈l.flatMap cI,u.oneCell'=true:=by intro u hu;rw[List.mem_flatMap]at hu;obtain⟨d,_,hd⟩:=hu;simp only[cI,List.mem_cons,List.not_mem_nil,or_false]at hd;subst hd;rfl
theorem infoInt:(Tryz.prog.info? 3).map (fun i=>(i.zero,i.size,i.bytes))=some (some (.int .i64 0),1,8):=by kernel_rfl
def IntsPost(l:List Int)(w:World)(e:Ending)(w':World):Prop:=
 ∃v,e=.returned v∧w'.ownsRow w.heap.size 3 1 v l.length (l.flatMap cI)∧Below w.heap.size w w'
theorem pair_idx{m i j i' j':Nat}(hj:j<m)(hj':j'<m)(h:i*m+j=i'*m+j'):i=i'∧j=j':=by
 have h1:(i*m+j)/m=i:=by rw[Nat.mul_comm,Nat.mul_add_div (by omega)];simp[Nat.div_eq_of_lt hj]
 have h2:(i'*m+j')/m=i':=by rw[Nat.mul_comm,Nat.mul_add_div (by omega)];simp[Nat.div_eq_of_lt hj']
 have e:i=i':=by rw[←h1,←h2,h]
 subst e;exact⟨rfl,by omega⟩
theorem idx_lt{m n i j:Nat}(hi:i<n)(hj:j<m):i*m+j<n*m:=by
 have h1:i*m+j<(i+1)*m:=by rw[Nat.add_mul];omega
 exact Nat.lt_of_lt_of_le h1 (Nat.mul_le_mul_right m hi)
def RBlk(w:World)(g:Nat)(t:TypeId)(m n:Nat)(c:Nat→List Value):Prop:=
 ∃arr,Blk w g t arr∧arr.size=n*m∧∀i j,i<n→j<m→arr[i*m+j]?=(c i)[j]?
def setR(c:Nat→List Value)(i j:Nat)(v:Value):Nat→List Value:=fun x=>if x=i then(c i).set j v else c x
section
variable{w w':World}{g:Nat}{t:TypeId}{m n:Nat}{c:Nat→List Value}
theorem RBlk.lt(h:RBlk w g t m n c):g<w.heap.size:=by obtain⟨arr,h,_⟩:=h;exact h.lt
theorem RBlk.cell(h:RBlk w g t m n c){i j:Nat}(hi:i<n)(hj:j<m):w.cell? ⟨g,i*m+j,none⟩=(c i)[j]?:=by obtain⟨arr,h,hs,hc⟩:=h;rw[h.cell,hc i j hi hj]
theorem RBlk.frozen(h:RBlk w g t m n c)(i:Nat):w.frozen? ⟨g,i,none⟩=false:=by obtain⟨arr,h,_⟩:=h;exact h.frozen i
theorem RBlk.drew(h:RBlk w g t m n c):RBlk w.drew g t m n c:=h
theorem RBlk.drewN(h:RBlk w g t m n c)(q:Nat):RBlk (w.drewN q) g t m n c:=h
theorem RBlk.alloc(h:RBlk w g t m n c)(o:Obj):RBlk (w.alloc o) g t m n c:=by obtain⟨arr,h,r⟩:=h;exact⟨arr,h.alloc o,r⟩
theorem RBlk.far(h:RBlk w g t m n c){p:Addr}(hp:g≠p.block)(u:Value):RBlk (w.setCell p u) g t m n c:=by obtain⟨arr,h,r⟩:=h;exact⟨arr,h.far hp u,r⟩
theorem RBlk.below{B:Nat}(h:RBlk w g t m n c)(hb:Below B w w')(hg:g<B):RBlk w' g t m n c:=by obtain⟨arr,h,r⟩:=h;exact⟨arr,h.below hb hg,r⟩
theorem RBlk.grown{row:Option Nat}(h:RBlk w g t m n c)(hb:w.grownBy w' row)(hg:some g≠row):RBlk w' g t m n c:=by obtain⟨arr,h,r⟩:=h;exact⟨arr,h.grown hb hg,r⟩
theorem RBlk.congr{c':Nat→List Value}(h:RBlk w g t m n c)(e:∀i,i<n→c i=c' i):RBlk w g t m n c':=by obtain⟨arr,h,hs,hc⟩:=h;exact⟨arr,h,hs,fun i j hi hj=>by rw[←e i hi];exact hc i j hi hj⟩
theorem RBlk.set_(h:RBlk w g t m n c){i j:Nat}(hi:i<n)(hj:j<m)(v:Value):RBlk (w.setCell ⟨g,i*m+j,none⟩ v) g t m n (setR c i j v):=by
 obtain⟨arr,h,hs,hc⟩:=h;have hlt:=idx_lt hi hj;refine⟨_,h.set_ _ v,by simpa using hs,fun i' j' hi' hj'=>?_⟩;have h0:=hc i j hi hj;have hjl:j<(c i).length:=by
  rcases Nat.lt_or_ge j (c i).length with h|h
  ·exact h
  ·rw[List.getElem?_eq_none h,Array.getElem?_eq_none_iff]at h0;omega
 unfold setR;rw[Array.getElem?_setIfInBounds];by_cases e:i*m+j=i'*m+j'
 ·obtain⟨rfl,rfl⟩:=pair_idx hj hj' e;rw[if_pos rfl,if_pos (by omega),if_pos rfl,List.getElem?_set_self hjl]
 ·rw[if_neg e,hc i' j' hi' hj'];by_cases e2:i'=i
  ·subst e2;have:j≠j':=fun e3=>e (by rw[e3]);rw[if_pos rfl,List.getElem?_set_ne this]
  ·rw[if_neg e2]
end
section
variable{P:Program}(w:World){ops:Array Oper}{rest:List Oper}{o:Oper}{a:Act}{K:Act→World→Prop}{Q:Exit→Act→World→Prop}{E':Prop}
end
section
variable{P:Program}(w:World){ops:Array Oper}{rest:List Oper}{o:Oper}{a:Act}{Q:Exit→Act→World→Prop}
theorem wpList_make_rec(hg:o.guard=none)(l c:Operand)(t:TypeId)(hop:o.op=Op.makeSlice t l c)(e:TypeId)(i:TypeInfo)(z:Value)(size:Nat)(h1:P.underlying t=some (.slice e))(h2:P.info? e=some i)(h3:i.zero=some z)(h4:i.size=size)(kl kc:IntKind)(L C:Int)(n:Nat)(hl:a.eval l=.int kl L)(hc:a.eval c=.int kc C)(hL:L=(n:Int))(hC:C=(n:Int))(b2:i.bytes*n≤281474976710656)(b3:n≤maxLen)(hK:wpList P ops Q rest (a.put o.dst (.slice (some ⟨w.heap.size,0,none⟩) n n)) (w.alloc (.cells (madeCells z.cells (n*size)) e))):wpList P ops Q (o::rest) a w:=by
 refine wpList_plain hg fun K hK'=>?_;have h63':(n:Int)≤9223372036854775807:=by have h:=b3;simp[maxLen]at h;omega
 have hb':(i.bytes:Int)*(n:Int)≤281474976710656:=by
  have h:((i.bytes*n:Nat):Int)≤281474976710656:=by omega
  rwa [Int.natCast_mul]at h
 have hrun:=run_make (P:=P) w t e i z h1 h2 h3 kl kc n n (by omega) (Int.le_refl _) hb' h63';subst hL;subst hC;subst h4;simp only[Int.toNat_natCast]at hrun;unfold Oper.wp;simp[execOp,hop,hl,hc,hrun,Result.andThen];exact hK' _ _ hK
end
theorem RBlk.made(w:World){t:TypeId}{m n:Nat}{z:Array Value}(hz:z.size=m)(hm:0<m):RBlk (w.alloc (.cells (madeCells z (n*m)) t)) w.heap.size t m n (fun _=>z.toList):=by
 refine⟨_,Blk.new _ _ _,size_madeCells _ _,fun i j hi hj=>?_⟩;have hlt:=idx_lt hi hj;unfold madeCells;rw[Array.getElem?_map,Array.getElem?_range,if_pos hlt];have hmod:(i*m+j)%z.size=j:=by rw[hz,Nat.add_comm,Nat.mul_comm,Nat.add_mul_mod_self_left,Nat.mod_eq_of_lt hj]
 simp only[Option.map_some,hmod];rw[Array.getElem?_toList,getElem!_pos z j (by omega),Array.getElem?_eq_getElem (by omega)]
abbrev IM(w:World)(b:Nat)(E:Ens):Prop:=IMap Tryz.prog 3 3 w b E
theorem zeroInt(w:World):(zeroValue 3).run Tryz.prog w=.ok (.int .i64 0) w:=by kernel_rfl
def WfI(r:List Int):Prop:=∀x∈r,(Lit.int .i64 x).wf=true
theorem dep_at{w:World}{A:Option Addr}{len:Nat}{ds:List Dp}(h:IsRec 3 cD d0 w A len ds)(k:Nat)(hk:k<len):∃b off,A=some ⟨b,off,none⟩∧b<w.heap.size∧ds.getD k d0∈ds∧w.cell? ⟨b,off+k*3,none⟩=some (.int .i64 (ds.getD k d0).1)∧w.cell? ⟨b,off+k*3+1,none⟩=some (.int .i64 (ds.getD k d0).2.1)∧w.cell? ⟨b,off+k*3+1+1,none⟩=some (.int .i64 (ds.getD k d0).2.2):=by
 obtain⟨b,off,ha,hb,hc⟩:=h.2 (by omega);have hl:k<ds.length:=by rw[h.1];exact hk
 exact⟨b,off,ha,hb,by simp[List.getD,hl],hc k 0 hk (by omega),hc k 1 hk (by omega),hc k 2 hk (by omega)⟩
theorem wf_small(n:Int)(h0:-1000000000000000000≤n)(h1:n≤1000000000000000000):(Lit.int .i64 n).wf=true:=by
 have e1:IntKind.i64.min=-9223372036854775808:=by decide
 have e2:IntKind.i64.max=9223372036854775807:=by decide
 simp only[Lit.wf,Bool.and_eq_true,decide_eq_true_eq,e1,e2];omega
theorem int_at{w:World}{A:Option Addr}{len:Nat}{l:List Int}(h:IsRec 1 cI 0 w A len l)(k:Nat)(hk:k<len):∃b off,A=some ⟨b,off,none⟩∧b<w.heap.size∧l.getD k 0∈l∧w.cell? ⟨b,off+k,none⟩=some (.int .i64 (l.getD k 0)):=by
 obtain⟨b,off,ha,hb,hc⟩:=h.2 (by omega);have hl:k<l.length:=by rw[h.1];exact hk
 refine⟨b,off,ha,hb,by simp[List.getD,hl],?_⟩;have:=hc k 0 hk (by omega);simpa[cI]using this
def cB(b:Bool):List Value:=[.bool b]
theorem bool_at{w:World}{A:Option Addr}{len:Nat}{l:List Bool}(h:IsRec 1 cB false w A len l)(k:Nat)(hk:k<len):∃b off,A=some ⟨b,off,none⟩∧b<w.heap.size∧l.getD k false∈l∧w.cell? ⟨b,off+k,none⟩=some (.bool (l.getD k false)):=by
 obtain⟨b,off,ha,hb,hc⟩:=h.2 (by omega);have hl:k<l.length:=by rw[h.1];exact hk
 refine⟨b,off,ha,hb,by simp[List.getD,hl],?_⟩;have:=hc k 0 hk (by omega);simpa[cB]using this
theorem infoBool:(Tryz.prog.info? 4).map (fun i=>(i.zero,i.size,i.bytes))=some (some (.bool false),1,1):=by kernel_rfl
theorem RBlk.set1{w:World}{g:Nat}{t:TypeId}{n:Nat}{c:Nat→List Value}(h:RBlk w g t 1 n c){i:Nat}(hi:i<n)(v:Value):RBlk (w.setCell ⟨g,i,none⟩ v) g t 1 n (setR c i 0 v):=by have h1:=h.set_ (j:=0) hi (by omega) v;rw[show i*1+0=i from by omega]at h1;exact h1
theorem own_mono{w:World}{base base':Nat}{e:TypeId}{size:Nat}{v:Value}{n:Nat}{xs:List Value}(h:w.ownsRow base e size v n xs)(hb:base'≤base):w.ownsRow base' e size v n xs:=by
 refine⟨h.1,?_⟩;rcases h.2 with h|⟨g,cap,cur,h1,h2,h3⟩
 ·exact .inl h
 ·exact .inr ⟨g,cap,cur,h1,by omega,h3⟩
theorem own_keptJ{w w':World}{base:Nat}{e:TypeId}{size n g:Nat}{v:Value}{xs:List Value}(h:w.ownsRow base e size v n xs)(hg:w.grownBy w' (some g))(hne:∀q,v.ownBlock=some q→q≠g):w'.ownsRow base e size v n xs:=
 h.kept hg (by
  cases hb:v.ownBlock with
  |none=>exact .inl rfl
  |some q=>exact .inr (by intro e;first|(injection e with e;exact hne q hb e)|(injection e with e;exact hne q hb e.symm)))
theorem own_empty(w:World)(e size:Nat):(w.alloc (.cells #[] e)).ownsRow w.heap.size e size (.slice (some ⟨w.heap.size,0,none⟩) 0 0) 0 []:=by refine⟨by simp,.inr ⟨w.heap.size,0,#[],rfl,Nat.le_refl _,heap_alloc_new w _,?_⟩⟩;simp
theorem cloneI_any(a:Option Addr)(c:Nat)(l:List Int)(w:World)(hl:l.length≤1000000)(hne:0<l.length)(h:IsRec 1 cI 0 w a l.length l):Calls Tryz.prog 38 #[.slice a l.length c] w (IntsPost l w):=by
 obtain⟨b,off,rfl,hb,_⟩:=h.2 hne;have RA:=Lib.hid ((reads_of_rec cI_length h).alloc (Nat.le_refl _) (.cells #[] 3));have fo:=Lib.hid (cI_one l);clear h hb;obtain⟨i0,hi0,hz0,hz1,hz2⟩:=info_parts infoInt;have hnil:∀(w:World) (a:Option Addr) (n c n' c':Nat),(binOp .eql 26 (.slice a n c) (.slice none n' c')).run Tryz.prog w=.ok (.bool a.isNone) w:=fun w a n c n' c'=>Lib.run_eql_slice_nil w 26 3 a n c n' c' Tryz.underlying26
 go_enter Tryz.func38,Tryz.ntmps38
 go_wp2_with (at_builtin;refine wpList_append_any _ rfl (.tmp 5) (.tmp 6) 26 rfl w.heap.size 3 i0 _ 1 8 Tryz.underlying26 hi0 hz0 hz1 hz2 rfl (by decide) _ 0 [] rfl (own_empty w 3 1) w.heap.size _ l.length c (l.flatMap cI) rfl RA.out fo.out ?c3 ?c4 ?c5 ?_)
 case c3=>unfold maxLen;omega
 case c4=>omega
 case c5=>simp
 intro v1 w1 own1 gr1 _
 try simp only[Nat.zero_add,List.nil_append]at own1
 have bel:Hid (Below w.heap.size w w1):=((Below.refl _ _).alloc (Nat.le_refl _) _).grown gr1 (by simp) (by intro g e;simp[Value.ownBlock]at e;omega);have F:Hid (IntsPost l w (.returned v1) w1):=⟨v1,rfl,own1,bel.out⟩;clear own1 gr1
 go_wp2_with fail
 go_ret
 exact F.out
theorem mem_take_snoc{α:Type}{d:α}{P:α→Prop}{l:List α}{k:Nat}(hk:k<l.length)(h:∀x∈l.take k,P x)(hx:P (l.getD k d)):∀x∈l.take (k+1),P x:=by
 intro y hy;rw[take_snocG d l k hk,List.mem_append]at hy;rcases hy with hy|hy
 ·exact h y hy
 ·simp only[List.mem_singleton]at hy;rw[hy];exact hx
theorem all_of_take{α:Type}{p:α→Bool}{l:List α}(h:∀x∈l.take l.length,p x=true):l.all p=true:=by rw[List.take_length]at h;exact List.all_eq_true.2 h
structure Ch(S:Nat→Prop)(w w':World):Prop where
 os:w'.os=w.os
 tape:w'.tape=w.tape
 output:w'.output=w.output
 size:w.heap.size≤w'.heap.size
 block:∀k,k<w.heap.size→¬S k→w'.heap[k]?=w.heap[k]?
section
variable{S S':Nat→Prop}{a b c w w':World}
theorem Ch.refl(S:Nat→Prop)(w:World):Ch S w w:=⟨rfl,rfl,rfl,Nat.le_refl _,fun _ _ _=>rfl⟩
theorem Ch.mono(h:Ch S w w')(hs:∀k,k<w.heap.size→S k→S' k):Ch S' w w':=⟨h.os,h.tape,h.output,h.size,fun k hk hn=>h.block k hk fun q=>hn (hs k hk q)⟩
theorem Ch.trans(h:Ch S a b)(k:Ch S' b c)(hs:∀i,i<a.heap.size→S' i→S i):Ch S a c:=
 ⟨k.os.trans h.os,k.tape.trans h.tape,k.output.trans h.output,Nat.le_trans h.size k.size,fun i hi hn=>(k.block i (Nat.lt_of_lt_of_le hi h.size) fun q=>hn (hs i hi q)).trans (h.block i hi hn)⟩
theorem Ch.drew(h:Ch S a w):Ch S a w.drew:=⟨h.os,h.tape,h.output,h.size,h.block⟩
theorem Ch.drewN(h:Ch S a w)(n:Nat):Ch S a (w.drewN n):=⟨h.os,h.tape,h.output,h.size,h.block⟩
theorem Ch.of_below(h:Below w.heap.size w w'):Ch S w w':=⟨h.os,h.tape,h.output,h.size,fun k hk _=>h.block k hk⟩
theorem Ch.below{B:Nat}(h:Ch S w w')(hB:B≤w.heap.size)(hs:∀k,S k→B≤k):Below B w w':=⟨h.os,h.tape,h.output,h.size,fun k hk=>h.block k (by omega) fun q=>by have:=hs k q;omega⟩
theorem Ch.alloc(h:Ch S a w)(o:Obj):Ch S a (w.alloc o):=h.trans (S':=fun _=>False) (Ch.of_below ((Below.refl _ _).alloc (Nat.le_refl _) o)) (fun _ _ q=>q.elim)
theorem Ch.thenBelow(h:Ch S a b)(k:Below b.heap.size b c):Ch S a c:=h.trans (S':=fun _=>False) (Ch.of_below k) (fun _ _ q=>q.elim)
theorem Ch.setCell(h:Ch S a w){p:Addr}(hp:S p.block∨a.heap.size≤p.block)(u:Value):Ch S a (w.setCell p u):=
 ⟨h.os,h.tape,h.output,by simpa[World.setCell]using h.size,fun k hk hn=>(Below.heap_setCell w p u k (fun e=>by
  rcases hp with q|q
  ·exact hn (e▸q)
  ·omega)).trans (h.block k hk hn)⟩
theorem Ch.grown(h:Ch S a w){row:Option Nat}(hg:w.grownBy w' row)(hr:∀g,row=some g→S g∨a.heap.size≤g):Ch S a w':=
 ⟨hg.os.trans h.os,hg.tape.trans h.tape,hg.output.trans h.output,Nat.le_trans h.size hg.size,fun k hk hn=>(hg.block k (Nat.lt_of_lt_of_le hk h.size) fun e=>by
  rcases hr k e.symm with q|q
  ·exact hn q
  ·omega).trans (h.block k hk hn)⟩
theorem Blk.ch{g:Nat}{t:TypeId}{cs:Array Value}(h:Blk w g t cs)(hc:Ch S w w')(hg:¬S g):Blk w' g t cs:=(hc.block g h.lt hg).trans h
theorem Ch.cell{p:Addr}(hc:Ch S w w')(hp:p.block<w.heap.size)(hg:¬S p.block):w'.cell? p=w.cell? p:=World.cell?_of_block (hc.block _ hp hg)
theorem IsRec.ch{α:Type}{m:Nat}{c:α→List Value}{d:α}{p:Option Addr}{len:Nat}{xs:List α}(h:IsRec m c d w p len xs)(hc:Ch S w w')(hg:∀x,p=some x→¬S x.block):IsRec m c d w' p len xs:=by refine⟨h.1,fun h0=>?_⟩;obtain⟨b,off,e,hlt,hcc⟩:=h.2 h0;refine⟨b,off,e,Nat.lt_of_lt_of_le hlt hc.size,fun i j hi hj=>?_⟩;rw[hc.cell (p:=⟨b,off+i*m+j,none⟩) hlt (hg ⟨b,off,none⟩ e)];exact hcc i j hi hj
theorem own_ch{base:Nat}{e:TypeId}{m n:Nat}{v:Value}{xs:List Value}(h:w.ownsRow base e m v n xs)(hc:Ch S w w')(hg:∀g,v.ownBlock=some g→¬S g):w'.ownsRow base e m v n xs:=by
 refine⟨h.1,?_⟩;rcases h.2 with q|⟨g,cap,cur,rfl,hb,hh,rest⟩
 ·exact .inl q
 ·exact .inr ⟨g,cap,cur,rfl,hb,(hc.block g (Array.getElem?_eq_some_iff.1 hh).1 (hg g rfl)).trans hh,rest⟩
end
abbrev Tg:=Nat×Nat×Nat×Nat
abbrev Own:=Nat→Tg
structure Nx(τ:Own)(o:Nat)(w:World)(τ':Own)(w':World):Prop where
 ch:Ch (fun k=>(τ k).1=o) w w'
 ext:∀k,k<w.heap.size→τ' k=τ k
 fresh:∀k,w.heap.size≤k→k<w'.heap.size→(τ' k).1=o∨(τ' k).1≤1
section
variable{τ τ' τ'':Own}{o o2:Nat}{w w' w'':World}
theorem Nx.trans(h:Nx τ o w τ' w')(k:Nx τ' o w' τ'' w''):Nx τ o w τ'' w'' where
 ch:=h.ch.trans k.ch fun i hi e=>by rw[h.ext i hi]at e;exact e
 ext:=fun i hi=>(k.ext i (Nat.lt_of_lt_of_le hi h.ch.size)).trans (h.ext i hi)
 fresh:=fun i h1 h2=>by
  by_cases hi:i<w'.heap.size
  ·rw[k.ext i hi];exact h.fresh i h1 hi
  ·exact k.fresh i (by omega) h2
theorem Nx.drew(h:Nx τ o w τ' w'):Nx τ o w τ' w'.drew:=⟨h.ch.drew,h.ext,h.fresh⟩
def tagTo(τ:Own)(n:Nat)(t:Tg):Own:=fun k=>if k<n then τ k else t
def tag1(τ:Own)(g:Nat)(t:Tg):Own:=fun k=>if k=g then t else τ k
theorem tag1_at(τ:Own)(g:Nat)(t:Tg):tag1 τ g t g=t:=if_pos rfl
theorem tag1_ne(τ:Own){g k:Nat}(t:Tg)(h:k≠g):tag1 τ g t k=τ k:=if_neg h
end
def cU8(x:Int):List Value:=[.int .u8 x]
def IsDat(τ:Own)(w:World)(x:List Int)(v:Value):Prop:=∃a cap,v=.slice a x.length cap∧IsRec 1 cU8 0 w a x.length x∧(∀p,a=some p→(τ p.block).1=1∧p.block<w.heap.size)∧x.length≤64
theorem IsDat.nx{τ τ':Own}{o:Nat}{w w':World}{x:List Int}{v:Value}(h:IsDat τ w x v)(k:Nx τ o w τ' w')(ho:2≤o):IsDat τ' w' x v:=by
 obtain⟨a,cap,e,h1,h2,h3⟩:=h;refine⟨a,cap,e,h1.ch k.ch fun p hp q=>?_,fun p hp=>?_,h3⟩
 ·have:=(h2 p hp).1;omega
 ·have:=h2 p hp;exact⟨by rw[k.ext _ this.2];exact this.1,Nat.lt_of_lt_of_le this.2 k.ch.size⟩
structure IsGv(w:World)(g h:Nat)(x:Gv):Prop where
 p:Blk w g 204 #[.slice (some ⟨h,0,none⟩) 1 1]
 c:Blk w h 206 #[.int .i64 x.room,.int .i64 x.rec',.int .i64 x.freed]
structure IsTk(w:World)(g h:Nat)(x:Tk):Prop where
 p:Blk w g 209 #[.slice (some ⟨h,0,none⟩) 1 1]
 c:Blk w h 228 #[.int .i64 x.sent,.int .i64 x.lim]
theorem IsGv.ch{S:Nat→Prop}{w w':World}{g h:Nat}{x:Gv}(a:IsGv w g h x)(hc:Ch S w w')(h1:¬S g)(h2:¬S h):IsGv w' g h x:=⟨a.p.ch hc h1,a.c.ch hc h2⟩
theorem IsTk.ch{S:Nat→Prop}{w w':World}{g h:Nat}{x:Tk}(a:IsTk w g h x)(hc:Ch S w w')(h1:¬S g)(h2:¬S h):IsTk w' g h x:=⟨a.p.ch hc h1,a.c.ch hc h2⟩
theorem IsGv.drew{w:World}{g h:Nat}{x:Gv}(a:IsGv w g h x):IsGv w.drew g h x:=⟨a.p,a.c⟩
def lvAt(lv:List Int)(i:Int):Int:=lv.getD i.toNat 0
def levelOk(n:Nat)(x:Int):Bool:=decide (-1≤x)&&decide (x<n)
def leads(lv:List Int)(i:Nat)(c:Cb):Bool:=if lvAt lv c.a=lvAt lv c.b-1 then c.b==(i:Int)else if lvAt lv c.b=lvAt lv c.a-1 then c.a==(i:Int)else false
def ledTo(cs:List Cb)(lv:List Int)(k i:Nat):Bool:=(cs.take k).any (leads lv i)
def nodeOk(cs:List Cb)(lv:List Int)(i:Nat):Bool:=!(decide (0<lv.getD i 0))||ledTo cs lv cs.length i
def orderB(p:Pl)(lv:List Int):Bool:=
 decide (validP p=0)&&decide (lv.length=p.ns.length)&&lv.all (levelOk p.ns.length)&&decide (lv.countP (· ==0)=1)&&(List.range lv.length).all (nodeOk p.cs lv)
theorem cab_node{ns:List Nd}{cs:List Cb}(h:validP ⟨ns,cs⟩=0){c:Cb}(hc:c∈cs):(0≤c.a∧c.a<ns.length)∧0≤c.b∧c.b<ns.length:=by
 have hp:cs.all (okPorts ns)=true:=by
  cases hq:cs.all (okPorts ns)with
  |true=>rfl
  |false=>
   unfold validP at h;simp only[hq]at h;split at h
   ·cases h
   ·split at h
    ·cases h
    ·cases h
 have h2:=List.all_eq_true.1 hp _ hc;unfold okPorts hasPort at h2;simp only[Bool.and_eq_true,decide_eq_true_eq]at h2;exact⟨⟨h2.1.1.1.1,h2.1.1.1.2⟩,h2.2.1.1.1,h2.2.1.1.2⟩
theorem valid_sizes{ns:List Nd}{cs:List Cb}(h:validP ⟨ns,cs⟩=0):ns.length≤16∧cs.length≤32:=by
 unfold validP at h;split at h
 ·cases h
 ·rename_i h1;simp only at h1;omega
section
variable{p:Pl}{lv:List Int}
theorem ob1(h:validP p≠0):orderB p lv=false:=by unfold orderB;rw[decide_eq_false h];rfl
theorem ob2(h:lv.length≠p.ns.length):orderB p lv=false:=by unfold orderB;rw[decide_eq_false h];simp
theorem ob3(h:lv.all (levelOk p.ns.length)=false):orderB p lv=false:=by unfold orderB;rw[h];simp
theorem ob4(h:lv.countP (· ==0)≠1):orderB p lv=false:=by unfold orderB;rw[decide_eq_false h];simp
theorem ob5(h:(List.range lv.length).all (nodeOk p.cs lv)=false):orderB p lv=false:=by unfold orderB;rw[h];simp
theorem ob0(h1:validP p=0)(h2:lv.length=p.ns.length)(h3:lv.all (levelOk p.ns.length)=true)(h4:lv.countP (· ==0)=1)(h5:(List.range lv.length).all (nodeOk p.cs lv)=true):orderB p lv=true:=by unfold orderB;rw[decide_eq_true h1,decide_eq_true h2,h3,decide_eq_true h4,h5];rfl
end
theorem beqN(a i:Nat):(((a:Int)==(i:Int)):Bool)=(a==i):=by rw[Bool.eq_iff_iff,beq_iff_eq,beq_iff_eq];omega
theorem nat_ne{n:Nat}(h:((n:Int)!=1)=true):n≠1:=by
 have:¬((n:Int)=1):=by simpa using h
 omega
theorem nat_eq{n:Nat}(h:((n:Int)!=1)=false):n=1:=by
 have:(n:Int)=1:=by simpa using h
 omega
theorem countP_snoc(lv:List Int)(k:Nat)(h:k<lv.length):(lv.take (k+1)).countP (· ==0)=(lv.take k).countP (· ==0)+if lv.getD k 0==0 then 1 else 0:=by rw[take_snocG 0 lv k h,List.countP_append,List.countP_singleton]
def RelO1(lv:List Int)(n:Nat)(w2:World)(r i:Value)(wr:World):Prop:=
 ∃k:Nat,k≤lv.length∧i=.int .i64 k∧r=.int .i64 (((lv.take k).countP (· ==0):Nat):Int)∧(∀x∈lv.take k,levelOk n x=true)∧w2=wr
def RelO2(cs:List Cb)(lv:List Int)(n:Nat)(w2:World)(i:Value)(wr:World):Prop:=
 ∃k:Nat,k≤cs.length∧i=.int .i64 k∧RBlk wr w2.heap.size 4 1 n (fun i=>[.bool (ledTo cs lv k i)])∧Below w2.heap.size w2 wr
def RelO3(cs:List Cb)(lv:List Int)(i:Value):Prop:=
 ∃k:Nat,k≤lv.length∧i=.int .i64 k∧((List.range k).all (nodeOk cs lv))=true
theorem ledTo_step(cs:List Cb)(lv:List Int)(k i:Nat)(h:k<cs.length):ledTo cs lv (k+1) i=(ledTo cs lv k i||leads lv i (cs.getD k cb0)):=by unfold ledTo;rw[take_snocG cb0 cs k h,List.any_append];simp
theorem order_any(p:Pl)(lv:List Int)(An Ac Al:Option Addr)(cn cc cl:Nat)(w:World)(hl:p.ns.length≤1000000)(hl2:p.cs.length≤1000000)(hwf:WfP p)(hlv:lv.length≤1000000)(hwl:WfI lv)(h:IsPlan w An Ac p)(h2:IsRec 1 cI 0 w Al lv.length lv):Calls Tryz.prog 114 #[.agg #[.slice An p.ns.length cn,.slice Ac p.cs.length cc],.agg #[.slice Al lv.length cl]] w fun e w'=>e=.returned (.bool (orderB p lv))∧Below w.heap.size w w':=by
 obtain⟨ns,cs⟩:=p;simp only at hl hl2⊢;have HW:=Lib.hid hwf;obtain⟨w1,hw1⟩:∃w1:World,(w.alloc (.cells #[.slice An ns.length cn,.slice Ac cs.length cc] 25)).alloc (.cells #[.slice Al lv.length cl] 169)=w1:=⟨_,rfl⟩;have s0:w1.cell? ⟨w.heap.size,0,none⟩=some (.slice An ns.length cn):=by rw[←hw1];simp[go_sem]
 have s1:w1.cell? ⟨w.heap.size,1,none⟩=some (.slice Ac cs.length cc):=by rw[←hw1];simp[go_sem]
 have s2:w1.cell? ⟨w.heap.size+1,0,none⟩=some (.slice Al lv.length cl):=by rw[←hw1];simp[go_sem]
 have sz1:w.heap.size+1<w1.heap.size:=by rw[←hw1];simp
 have BW0:Below w.heap.size w w1:=by rw[←hw1];exact((Below.refl _ _).alloc (Nat.le_refl _) _).alloc (by simp) _
 have H1:=Lib.hid (h.below (Nat.le_refl _) BW0);have L1:=Lib.hid (h2.below (Nat.le_refl _) BW0);have HW1:=Lib.hid hw1;have KC:Hid (∀w',Below w1.heap.size w1 w'→w'.cell? ⟨w.heap.size,0,none⟩=some (.slice An ns.length cn)∧w'.cell? ⟨w.heap.size,1,none⟩=some (.slice Ac cs.length cc)∧w'.cell? ⟨w.heap.size+1,0,none⟩=some (.slice Al lv.length cl)∧w.heap.size+1<w'.heap.size∧Below w.heap.size w w'):=
  fun w' hb=>⟨(hb.cell (by show w.heap.size<_;omega)).trans s0,(hb.cell (by show w.heap.size<_;omega)).trans s1,(hb.cell (by exact sz1)).trans s2,by have:=hb.size;omega,BW0.trans (hb.mono (by omega))⟩
 clear h h2 hw1 hwf BW0;by_cases hv:validP ⟨ns,cs⟩=0
 ·have HV:=Lib.hid hv;obtain⟨n16,c32⟩:=valid_sizes hv;clear hv
  go_enter Tryz.func114,Tryz.ntmps114
  go_wp2_with fail
  rw[HW1.out];refine(gvalid_any ⟨ns,cs⟩ An Ac cn cc _ hl hl2 HW.out H1.out).mono ?_;rintro e w2 ⟨rfl,bel2⟩;rw[HV.out];have B2:=Lib.hid bel2;clear s0 s1 s2;obtain⟨u0,u1,u2,sz2,bw2⟩:=KC.out w2 bel2;have BF2:=Lib.hid bw2;clear bel2 bw2;by_cases hll:lv.length=ns.length
  ·have q1:((lv.length:Int)!=(ns.length:Int))=false:=by simp[hll]
   have HLL:=Lib.hid hll;have L2:=Lib.hid (L1.out.below (Nat.le_refl _) B2.out);have C2:=Lib.hid ((H1.out.below (Nat.le_refl _) B2.out).2);have hn16:lv.length≤16:=(by omega);clear hll
   go_wp2_with fail
   clear q1
   go_loopw [5,28] (fun r i wr=>RelO1 lv ns.length w2 r i wr) (fun _ i _=>lv.length-(RowKit.intOf i).toNat)
   case atStart=>exact⟨0,Nat.zero_le _,rfl,rfl,by simp,rfl⟩
   case round=>
    obtain⟨k,hk,rfl,rfl,hall,rfl⟩:=hrel;have HA:=Lib.hid hall;clear hall;have hcl:(lv.take k).countP (· ==0)≤16:=Nat.le_trans List.countP_le_length (by rw[List.length_take];omega);by_cases hkr:k<lv.length
    ·obtain⟨b1,o1,ha1,hb1,hm1,e1⟩:=int_at L2.out k hkr;have CS:=Lib.hid (countP_snoc lv k hkr);have HS:Hid (levelOk ns.length (lv.getD k 0)=true→∀x∈lv.take (k+1),levelOk ns.length x=true):=fun h=>mem_take_snoc (d:=0) (P:=fun x=>levelOk ns.length x=true) hkr HA.out h;have HB:Hid (levelOk ns.length (lv.getD k 0)=false→lv.all (levelOk ns.length)=false):=fun h=>(by rw[List.all_eq_false];exact⟨_,hm1,by rw[h];simp⟩);have wfx:=hwl _ hm1;generalize lv.getD k 0=x at *;subst ha1;clear hm1;generalize hcc:(lv.take k).countP (· ==0)=cnt at *;have HCC:=Lib.hid hcc;clear hcc;cases hlo:levelOk ns.length x with
     |false=>
      have FIN:=Lib.hid (ob3 (p:=⟨ns,cs⟩) (lv:=lv) (HB.out hlo));have hb:x< -1∨(-1≤x∧(ns.length:Int)≤x):=by
       simp[levelOk]at hlo;rcases Int.lt_or_le x (-1)with h|h
       ·exact .inl h
       ·exact .inr ⟨h,hlo h⟩
      clear hlo HB HS CS;rcases hb with h1|⟨h1,h2⟩
      all_goals
       go_wp2_with fail
       go_ret
       exact⟨by rw[FIN.out];rfl,BF2.out⟩
     |true=>
      have hb:-1≤x∧x<ns.length:=(by simpa[levelOk]using hlo);obtain⟨x1,x2⟩:=hb;have HS2:=Lib.hid (HS.out hlo);clear hlo HB HS;cases hz:x==0 with
      |true=>
       have R:Hid (RelO1 lv ns.length w2 (.int .i64 ((cnt:Int)+1)) (.int .i64 ((k+1:Nat):Int)) w2):=⟨k+1,by omega,rfl,by rw[CS.out,hz];rfl,HS2.out,rfl⟩;clear CS HCC
       go_wp2_with fail
       exact⟨by simpa using R.out,by simp[RowKit.intOf];omega⟩
      |false=>
       have R:Hid (RelO1 lv ns.length w2 (.int .i64 (cnt:Int)) (.int .i64 ((k+1:Nat):Int)) w2):=⟨k+1,by omega,rfl,by rw[CS.out,hz];rfl,HS2.out,rfl⟩;clear CS HCC
       go_wp2_with fail
       exact⟨by simpa using R.out,by simp[RowKit.intOf];omega⟩
    ·obtain rfl:k=lv.length:=by omega
     rw[List.take_length];have AL:=Lib.hid (all_of_take HA.out);generalize hcc:lv.countP (· ==0)=cnt at *;rw[List.take_length,hcc]at hcl;cases h1:(cnt:Int)!=1 with
     |true=>
      have FIN:Hid (orderB ⟨ns,cs⟩ lv=false):=ob4 (by rw[hcc];exact nat_ne h1);clear hcc HA
      go_wp2_with fail
      go_ret
      exact⟨by rw[FIN.out];rfl,BF2.out⟩
     |false=>
      have C1:Hid (lv.countP (· ==0)=1):=(by rw[Hid,hcc];exact nat_eq h1);clear hcc HA;obtain⟨j0,hj0,hy0,hy1,hy2⟩:=info_parts infoBool;have sz20:w.heap.size<w2.heap.size:=(by omega);obtain⟨o4,ho4⟩:∃o4,Obj.cells (madeCells #[.bool false] ns.length) 4=o4:=⟨_,rfl⟩;have HO4:=Lib.hid ho4;clear ho4
      go_wp2_with (at_make;refine wpList_make_rec _ rfl _ _ 52 rfl 4 j0 _ 1 Tryz.underlying52 hj0 hy0 hy1 .i64 .i64 _ _ ns.length rfl rfl ?m1 ?m2 (by rw[hy2];omega) (by unfold maxLen;omega) ?_)
      case m1=>rfl
      case m2=>rfl
      rw[HO4.out];obtain⟨w4,hw4⟩:∃w4:World,w2.alloc o4=w4:=⟨_,rfl⟩;have ST:Hid (RelO2 cs lv ns.length w2 (.int .i64 0) w4):=by
       refine⟨0,Nat.zero_le _,rfl,?_,?_⟩
       ·rw[←hw4,←HO4.out];have:=RBlk.made w2 (m:=1) (n:=ns.length) (t:=4) (z:=#[.bool false]) rfl (by decide);rw[Nat.mul_one]at this;exact this.congr fun i hi=>rfl
       ·rw[←hw4];exact(Below.refl _ _).alloc (Nat.le_refl _) _
      have k4:Below w2.heap.size w2 w4:=(by rw[←hw4];exact(Below.refl _ _).alloc (Nat.le_refl _) _);obtain⟨v0,v1,v2,_,_⟩:=KC.out w4 (B2.out.trans (k4.mono B2.out.size));rw[hw4];clear hw4 HO4 u0 u1 u2 hj0 hy0 hy1 hy2 k4
      go_wp2_with fail
      go_loopw [55] (fun i wr=>RelO2 cs lv ns.length w2 i wr) (fun i _=>cs.length-(RowKit.intOf i).toNat)
      case atStart=>exact ST.out
      case round=>
       clear ST v0 v1 v2;obtain⟨k,hk,rfl,rb,bel⟩:=hrel;have bs:=bel.size;have RB:=Lib.hid rb;have gl:=rb.lt;clear rb;obtain⟨u0,u1,u2,sz3,bw3⟩:=KC.out wr (B2.out.trans (bel.mono B2.out.size));have BF3:=Lib.hid bw3;clear bw3;by_cases hkr:k<cs.length
       ·obtain⟨bb,off,ha,hbb,hmem,c0,c1,c2,c3,c4,c5⟩:=cable_at (C2.out.below (Nat.le_refl _) bel) k hkr;obtain⟨⟨na0,na1⟩,nb0,nb1⟩:=cab_node HV.out hmem;have LS:=Lib.hid (fun i=>ledTo_step cs lv k i hkr);generalize cs.getD k cb0=x at *;obtain⟨xa,xap,xb,xbp,xd,xc⟩:=x;simp only at c0 c1 c2 c3 c4 c5 na0 na1 nb0 nb1;subst ha;clear hmem;obtain⟨ia,rfl⟩:∃ia:Nat,xa=ia:=⟨xa.toNat,by omega⟩;obtain⟨ib,rfl⟩:∃ib:Nat,xb=ib:=⟨xb.toNat,by omega⟩;have hlln:=HLL.out;have ja:ia<lv.length:=(by omega);have jb:ib<lv.length:=(by omega);have iaw:(ia:Int)<(lv.length:Int):=(by omega);have ibw:(ib:Int)<(lv.length:Int):=(by omega);have iaz:(0:Int)≤(ia:Int):=(by omega);have ibz:(0:Int)≤(ib:Int):=(by omega);have hian:ia<ns.length:=(by omega);have hibn:ib<ns.length:=(by omega);obtain⟨wa,hwa⟩:∃wa:World,wr.alloc (.cells #[.int .i64 ia,.int .i64 xap,.int .i64 ib,.int .i64 xbp,.int .i64 xd,.int .i64 xc] 86)=wa:=⟨_,rfl⟩;have belA:Below wr.heap.size wr wa:=hwa▸(Below.refl _ _).alloc (Nat.le_refl _) _;have bel2a:=bel.trans (belA.mono bs);obtain⟨bl,ol,hal,hbl,hma,ea⟩:=int_at (L2.out.below (Nat.le_refl _) bel2a) ia ja;obtain⟨bl',ol',hal',_,hmb,eb⟩:=int_at (L2.out.below (Nat.le_refl _) bel2a) ib jb;rw[hal]at hal';injection hal' with hal';injection hal' with hal1 hal2;subst hal1;subst hal2;have la:=List.all_eq_true.1 AL.out _ hma;have lb:=List.all_eq_true.1 AL.out _ hmb;have LD:Hid (∀i,leads lv i ⟨ia,xap,ib,xbp,xd,xc⟩=if lv.getD ia 0=lv.getD ib 0-1 then ib==i else if lv.getD ib 0=lv.getD ia 0-1 then ia==i else false):=fun i=>by
         unfold leads lvAt;simp only[Int.toNat_natCast,beqN]
        generalize lv.getD ia 0=va at *;generalize lv.getD ib 0=vb at *;have la':-1≤va∧va<ns.length:=by simpa[levelOk]using la
        have lb':-1≤vb∧vb<ns.length:=(by simpa[levelOk]using lb);obtain⟨la1,la2⟩:=la';obtain⟨lb1,lb2⟩:=lb';subst hal;have t0:wa.cell? ⟨wr.heap.size,0,none⟩=some (.int .i64 ia):=(by rw[←hwa];simp[go_sem]);have t2:wa.cell? ⟨wr.heap.size,2,none⟩=some (.int .i64 ib):=(by rw[←hwa];simp[go_sem]);have RBA:Hid (RBlk wa w2.heap.size 4 1 ns.length (fun i=>[.bool (ledTo cs lv k i)])):=RB.out.below belA gl;have ua2:wa.cell? ⟨w.heap.size+1,0,none⟩=some (.slice (some ⟨bl,ol,none⟩) lv.length cl):=(belA.cell (by exact sz3)).trans u2;have cya:∀i,i<ns.length→wa.cell? ⟨w2.heap.size,i,none⟩=some (.bool (ledTo cs lv k i)):=fun i hi=>(by have:=RBA.out.cell (i:=i) (j:=0) hi (by omega);simpa using this);have ya:=cya ia hian;have yb:=cya ib hibn;have fa:wa.frozen? ⟨w2.heap.size,ia,none⟩=false:=RBA.out.frozen _;have fb:wa.frozen? ⟨w2.heap.size,ib,none⟩=false:=RBA.out.frozen _;have HWA:=Lib.hid hwa;have BELA:=Lib.hid bel2a;have ws1:IntKind.i64.wrap (vb-1)=vb-1:=IntWalk.i64_in _ (by omega);have ws2:IntKind.i64.wrap (va-1)=va-1:=IntWalk.i64_in _ (by omega);have sza:wr.heap.size<wa.heap.size:=(by rw[←hwa];simp);clear hwa cya belA bel bel2a hma hmb la lb hlln;have STP:Hid (∀q i,i<ns.length→(∀j,j<ns.length→leads lv j ⟨ia,xap,ib,xbp,xd,xc⟩=(i==j))→RelO2 cs lv ns.length w2 (.int .i64 ((k+1:Nat):Int)) ((wa.drewN q).setCell ⟨w2.heap.size,i,none⟩ (.bool true))):=fun q i hi hld=>by
         refine⟨k+1,by omega,rfl,?_,(below_drewN BELA.out q).setCell (Nat.le_refl _) _⟩;refine((RBA.out.drewN q).set1 hi _).congr fun j hj=>?_;unfold setR;rw[LS.out j,hld j hj];by_cases e:j=i
         ·subst e;simp
         ·have:¬i=j:=fun h=>e h.symm;simp[e,this]
        have STN:Hid (∀q,(∀j,j<ns.length→leads lv j ⟨ia,xap,ib,xbp,xd,xc⟩=false)→RelO2 cs lv ns.length w2 (.int .i64 ((k+1:Nat):Int)) (wa.drewN q)):=fun q hld=>by refine⟨k+1,by omega,rfl,?_,below_drewN BELA.out q⟩;refine(RBA.out.drewN q).congr fun j hj=>?_;rw[LS.out j,hld j hj];simp
        go_wp2_with fail
        rw[HWA.out];clear HWA c0 c1 c2 c3 c4 c5 u0 u1 u2;cases h1:va==vb-1 with
        |true=>
         have LQ:Hid (∀j,j<ns.length→leads lv j ⟨ia,xap,ib,xbp,xd,xc⟩=(ib==j)):=fun j hj=>(by rw[LD.out,if_pos (by simpa using h1)]);have SQ:=Lib.hid (fun q=>STP.out q ib hibn LQ.out);clear LD LS STP STN LQ ws2
         go_quiet (fail)
         clear ws1
         go_wp2_with fail
         exact⟨by simpa using SQ.out _,by simp[RowKit.intOf];omega⟩
        |false=>
         have n1:¬va=vb-1:=(by simpa using h1);cases h2:vb==va-1 with
         |true=>
          have LQ:Hid (∀j,j<ns.length→leads lv j ⟨ia,xap,ib,xbp,xd,xc⟩=(ia==j)):=fun j hj=>(by rw[LD.out,if_neg n1,if_pos (by simpa using h2)]);have SQ:=Lib.hid (fun q=>STP.out q ia hian LQ.out);clear LD LS STP STN LQ n1
          go_quiet (fail)
          go_wp2_with fail
          go_quiet (fail)
          clear ws1 ws2
          go_wp2_with fail
          exact⟨by simpa using SQ.out _,by simp[RowKit.intOf];omega⟩
         |false=>
          have n2:¬vb=va-1:=(by simpa using h2);have LQ:Hid (∀j,j<ns.length→leads lv j ⟨ia,xap,ib,xbp,xd,xc⟩=false):=fun j hj=>(by rw[LD.out,if_neg n1,if_neg n2]);have SQ:=Lib.hid (fun q=>STN.out q LQ.out);clear LD LS STP STN LQ n1 n2
          go_quiet (fail)
          go_wp2_with fail
          go_quiet (fail)
          clear ws1 ws2
          go_wp2_with fail
          exact⟨by simpa using SQ.out _,by simp[RowKit.intOf];omega⟩
       ·obtain rfl:k=cs.length:=by omega
        have L6:=Lib.hid (L2.out.below (Nat.le_refl _) bel);have hlln:=HLL.out;have hlln1:lv.length≤ns.length:=(by omega);clear hlln bel
        go_wp2_with fail
        go_loop [101] (fun i=>RelO3 cs lv i) (fun i=>lv.length-(RowKit.intOf i).toNat)
        case atStart=>exact⟨0,Nat.zero_le _,rfl,rfl⟩
        case round=>
         obtain⟨k,hk,rfl,hall⟩:=hrel;have HA:=Lib.hid hall;clear hall;by_cases hkr:k<lv.length
         ·obtain⟨b1,o1,ha1,hb1,hm1,e1⟩:=int_at L6.out k hkr;have AS:Hid ((List.range (k+1)).all (nodeOk cs lv)=((List.range k).all (nodeOk cs lv)&&nodeOk cs lv k)):=by rw[Hid,List.range_succ,List.all_append];simp
          have AB:Hid (nodeOk cs lv k=false→(List.range lv.length).all (nodeOk cs lv)=false):=fun h=>(by rw[List.all_eq_false];exact⟨k,List.mem_range.2 hkr,by rw[h];simp⟩);have ND:Hid (nodeOk cs lv k=(!(decide (0<lv.getD k 0))||ledTo cs lv cs.length k)):=rfl;have cy:wr.cell? ⟨w2.heap.size,k,none⟩=some (.bool (ledTo cs lv cs.length k)):=(by have:=RB.out.cell (i:=k) (j:=0) (by omega) (by omega);simpa using this);have i1:(k:Int)<(ns.length:Int):=(by omega);have i0:(0:Int)≤(k:Int):=(by omega);generalize lv.getD k 0=x at *;generalize ledTo cs lv cs.length k=b at *;subst ha1;clear hm1;cases h0:decide (0<x)with
          |false=>
           have R:Hid (RelO3 cs lv (.int .i64 ((k+1:Nat):Int))):=⟨k+1,by omega,rfl,by rw[AS.out,HA.out,ND.out,h0];rfl⟩;clear AS AB ND
           go_wp2_with fail
           exact⟨by simpa using R.out,by simp[RowKit.intOf];omega⟩
          |true=>
           cases b with
           |true=>
            have R:Hid (RelO3 cs lv (.int .i64 ((k+1:Nat):Int))):=⟨k+1,by omega,rfl,by rw[AS.out,HA.out,ND.out,h0];rfl⟩;clear AS AB ND
            go_wp2_with fail
            exact⟨by simpa using R.out,by simp[RowKit.intOf];omega⟩
           |false=>
            have FIN:Hid (orderB ⟨ns,cs⟩ lv=false):=ob5 (AB.out (by rw[ND.out,h0];rfl));clear AS AB ND
            go_wp2_with fail
            go_ret
            exact⟨by rw[FIN.out];rfl,BF3.out⟩
         ·obtain rfl:k=lv.length:=by omega
          have FIN:Hid (orderB ⟨ns,cs⟩ lv=true):=ob0 HV.out HLL.out AL.out C1.out HA.out
          go_wp2_with fail
          go_ret
          exact⟨by rw[FIN.out];rfl,BF3.out⟩
  ·have q1:((lv.length:Int)!=(ns.length:Int))=true:=by simp;omega
   have FIN:=Lib.hid (ob2 (p:=⟨ns,cs⟩) (lv:=lv) hll);clear hll
   go_wp2_with fail
   go_ret
   exact⟨by rw[FIN.out];rfl,BF2.out⟩
 ·have FIN:=Lib.hid (ob1 (lv:=lv) hv);have q1:(validP ⟨ns,cs⟩!=0)=true:=by simpa using hv
  go_enter Tryz.func114,Tryz.ntmps114
  go_wp2_with fail
  rw[HW1.out];refine(gvalid_any ⟨ns,cs⟩ An Ac cn cc _ hl hl2 HW.out H1.out).mono ?_;rintro e w2 ⟨rfl,bel2⟩;obtain⟨u0,u1,u2,sz2,bw2⟩:=KC.out w2 bel2;have BF2:=Lib.hid bw2;generalize validP ⟨ns,cs⟩=vv at *;clear bel2 bw2 s0 s1 s2 hv
  go_wp2_with fail
  go_ret
  exact⟨by rw[FIN.out];rfl,BF2.out⟩
end Go.Proofs.YtnjjkgjdhljfnaaGreat
namespace Go.Proofs.YtnjjkgjdhljfnaaGreat
open Go.RowKit Go.Maps
structure KB(B:Nat)(X:List Nat)(w w':World):Prop where
 os:w'.os=w.os
 tape:w'.tape=w.tape
 output:w'.output=w.output
 size:w.heap.size≤w'.heap.size
 block:∀i,i<B→i∉X→w'.heap[i]?=w.heap[i]?
section
variable{B:Nat}{X:List Nat}{w w' w'':World}
theorem KB.refl(B:Nat)(X:List Nat)(w:World):KB B X w w:=⟨rfl,rfl,rfl,Nat.le_refl _,fun _ _ _=>rfl⟩
theorem KB.grown{row:Option Nat}(h:KB B X w w')(hB:B≤w.heap.size)(hg:w'.grownBy w'' row)(hr:∀g,row=some g→g∈X∨B≤g):KB B X w w'':=
 ⟨hg.os.trans h.os,hg.tape.trans h.tape,hg.output.trans h.output,Nat.le_trans h.size hg.size,fun i hi hx=>(hg.block i (by have:=h.size;omega) (fun e=>by
  rcases hr i e.symm with h1|h1
  ·exact hx h1
  ·omega)).trans (h.block i hi hx)⟩
theorem KB.alloc(h:KB B X w w')(hB:B≤w.heap.size)(o:Obj):KB B X w (w'.alloc o):=h.grown hB (World.grownBy_alloc w' o none) (fun g e=>by cases e)
theorem KB.below(h:KB B X w w')(hB:B≤w.heap.size)(hb:Below w'.heap.size w' w''):KB B X w w'':=h.grown hB (only_of_below hb none) (fun g e=>by cases e)
theorem KB.setCell(h:KB B X w w')(hB:B≤w.heap.size){p:Addr}(hp:p.block∈X∨B≤p.block)(v:Value):KB B X w (w'.setCell p v):=
 ⟨h.os,h.tape,h.output,by simpa[World.setCell]using h.size,fun i hi hx=>(Below.heap_setCell w' p v i (by
  rintro rfl;rcases hp with h1|h1
  ·exact hx h1
  ·omega)).trans (h.block i hi hx)⟩
theorem KB.drewN(h:KB B X w w')(n:Nat):KB B X w (w'.drewN n):=⟨h.os,h.tape,h.output,h.size,h.block⟩
theorem KB.drew(h:KB B X w w'):KB B X w w'.drew:=⟨h.os,h.tape,h.output,h.size,h.block⟩
theorem KB.blk{g:Nat}{t:TypeId}{cs:Array Value}(h:KB B X w w')(hb:Blk w g t cs)(hg:g<B)(hx:g∉X):Blk w' g t cs:=(h.block g hg hx).trans hb
theorem KB.toBelow{A:Nat}(h:KB B X w w')(hA:A≤B)(hX:∀g∈X,A≤g):Below A w w':=⟨h.os,h.tape,h.output,h.size,fun i hi=>h.block i (by omega) (fun hm=>by have:=hX i hm;omega)⟩
end
def ptr(b:Nat):Value:=.pointer (some ⟨b,0,none⟩)
end Go.Proofs.YtnjjkgjdhljfnaaGreat
namespace Go.Proofs.YtnjjkgjdhljfnaaGreat
open Go.RowKit Go.Maps
theorem Blk.one{w:World}{g:Nat}{t:TypeId}{v:Value}(h:Blk w g t #[v]):w.cell? ⟨g,0,none⟩=some v∧w.frozen? ⟨g,0,none⟩=false:=⟨by rw[h.cell];rfl,h.frozen 0⟩
theorem Blk.set0{w:World}{g:Nat}{t:TypeId}{v:Value}(h:Blk w g t #[v])(u:Value):Blk (w.setCell ⟨g,0,none⟩ u) g t #[u]:=by have:=h.set_ 0 u;simpa using this
section
variable{P:Program}(w:World){ops:Array Oper}{rest:List Oper}{o:Oper}{a:Act}{Q:Exit→Act→World→Prop}
end
theorem ownsRow_pos{W:World}{base:Nat}{e:TypeId}{size:Nat}{v:Value}{k:Nat}{xs:List Value}(hk:0<k)(h:W.ownsRow base e size v k xs):∃g cap,v=.slice (some ⟨g,0,none⟩) k cap:=by
 rcases h.2 with⟨_,h0⟩|⟨g,cap,_,rfl,_⟩
 ·omega
 ·exact⟨g,cap,rfl⟩
end Go.Proofs.YtnjjkgjdhljfnaaGreat
namespace Go.Proofs.YtnjjkgjdhljfnaaGreat
open Go.RowKit Go.Maps
abbrev Row2:=List Int×List Int
def acrossV(x:Cb)(node:Int):Int×Bool:=if node=x.a then(x.b,true)else if node=x.b then(x.a,true)else(0,false)
theorem across_any(x:Cb)(node:Int)(w:World):Calls Tryz.prog 117 #[.agg #[.int .i64 x.a,.int .i64 x.ap,.int .i64 x.b,.int .i64 x.bp,.int .i64 x.dl,.int .i64 x.cp],.int .i64 node] w fun e w'=>e=.returned (.tuple #[.int .i64 (acrossV x node).1,.bool (acrossV x node).2])∧Below w.heap.size w w':=by
 obtain⟨xa,xap,xb,xbp,xd,xc⟩:=x;simp only;have B:Hid (Below w.heap.size w (w.alloc (.cells #[.int .i64 xa,.int .i64 xap,.int .i64 xb,.int .i64 xbp,.int .i64 xd,.int .i64 xc] 86))):=(Below.refl _ _).alloc (Nat.le_refl _) _;cases h1:node==xa with
 |true=>
  have F:Hid (acrossV ⟨xa,xap,xb,xbp,xd,xc⟩ node=(xb,true)):=by rw[Hid];unfold acrossV;rw[if_pos (by simpa using h1)]
  go_enter Tryz.func117,Tryz.ntmps117
  go_wp2_with fail
  go_ret2
  exact⟨by rw[F.out];rfl,B.out⟩
 |false=>
  cases h2:node==xb with
  |true=>
   have F:Hid (acrossV ⟨xa,xap,xb,xbp,xd,xc⟩ node=(xa,true)):=by rw[Hid];unfold acrossV;rw[if_neg (by simpa using h1),if_pos (by simpa using h2)]
   go_enter Tryz.func117,Tryz.ntmps117
   go_wp2_with fail
   go_ret2
   exact⟨by rw[F.out];rfl,B.out⟩
  |false=>
   have F:Hid (acrossV ⟨xa,xap,xb,xbp,xd,xc⟩ node=(0,false)):=by rw[Hid];unfold acrossV;rw[if_neg (by simpa using h1),if_neg (by simpa using h2)]
   go_enter Tryz.func117,Tryz.ntmps117
   go_wp2_with fail
   go_ret2
   exact⟨by rw[F.out];rfl,B.out⟩
section
variable{p:Pl}{T:List Row2}
end
end Go.Proofs.YtnjjkgjdhljfnaaGreat
