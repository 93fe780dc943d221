/- Part 3. -/
import Derived.BigQuiet
import Derived.BigRegion
import Derived.Deep.QuietTactic
import Derived.Deep.RegionHeld3
import Derived.Deep.RegionLaw
import Derived.IntWalk
import Derived.LoopTactic
import Derived.Maps.RangeWalk
import Derived.Test.YtnjjkgjdhljfnaaGreatPk2
open Go.Proofs.Tryz
open Bool renaming and_eq_true->cZ
open Go renaming Addr->fA,TypeId->dL,Value->aI,World->aG,madeCells->dS,maxLen->fB
open Go.Ending renaming returned->ax
open Go.IntKind renaming i64->ag
open Go.IntWalk renaming i64_in->fE
open Go.Lib renaming hid->aA
open Go.Obj renaming cells->af
open Go.Proofs.Tryz renaming prog->aH
open Go.RowKit renaming Below->aN,Hid->aY,intOf->aJ
open Go.RowKit.Below renaming heap_setCell->nz,refl->aQ
open Go.Value renaming int->ah,pointer->au,slice->ay
open Go.World renaming setCell->iK
open Int renaming toNat_natCast->cK
open List renaming all_eq_false->sK,all_eq_true->jL,getD->bJ,range->aO,take_length->dY
open Nat renaming le_refl->aC,le_trans->dZ,lt_of_lt_of_le->bW,mul_comm->tV,zero_le->bS
open Option renaming none->aj,some->az
set_option maxRecDepth 100000
set_option maxHeartbeats 16000000
set_option linter.unusedVariables false
set_option linter.unusedSimpArgs false
namespace Go.Proofs.YtnjjkgjdhljfnaaGreat
open Go.RowKit Go.Maps
section
abbrev Dp:=Int×Int×Int
def d0:Dp:=(0,0,0)
def cD(d:Dp):List aI:=[ah ag d.1,ah ag d.2.1,ah ag d.2.2]
theorem below_drewN{B:Nat}{a w:aG}(h:aN B a w)(n:Nat):aN B a (w.drewN n):=⟨h.os,h.tape,h.output,h.size,h.block⟩
def cI(n:Int):List aI:=[ah ag n]
theorem qK(n:Int):(cI n).length=1:=rfl
theorem alk(l:List Int):∀u∈l.flatMap cI,u.oneCell'=true:=by intro u hu;rw[List.mem_flatMap]at hu;obtain⟨d,_,hd⟩:=hu;simp only[cI,List.mem_cons,List.not_mem_nil,or_false]at hd;subst hd;rfl
theorem aez(l:List Int):l.flatMap cI=l.map (ah .i64):=by
 induction l with
 |nil=>rfl
 |cons x l ih=>rw[List.flatMap_cons,ih];rfl
theorem Dc:(Tryz.prog.info? 3).map (fun i=>(i.zero,i.size,i.bytes))=az (az (ah ag 0),1,8):=by kernel_rfl
def xP(l:List Int)(w:aG)(e:Ending)(w':aG):Prop:=
 ∃v,e=ax v/\w'.ownsRow w.heap.size 3 1 v l.length (l.flatMap cI)/\aN w.heap.size w w'
theorem afD{m i j i' j':Nat}(hj:j<m)(hj':j'<m)(h:i*m+j=i'*m+j'):i=i'/\j=j':=by
 have h1:(i*m+j)/m=i:=by rw[tV,Nat.mul_add_div (by omega)];simp[Nat.div_eq_of_lt hj]
 have h2:(i'*m+j')/m=i':=by rw[tV,Nat.mul_add_div (by omega)];simp[Nat.div_eq_of_lt hj']
 have e:i=i':=by rw[<-h1,<-h2,h]
 subst e;exact⟨rfl,by omega⟩
theorem aeZ{m n i j:Nat}(hi:i<n)(hj:j<m):i*m+j<n*m:=by
 have h1:i*m+j<(i+1)*m:=by rw[Nat.add_mul];omega
 exact bW h1 (Nat.mul_le_mul_right m hi)
def qP(w:aG)(g:Nat)(t:dL)(m n:Nat)(c:Nat->List aI):Prop:=
 ∃arr,dh w g t arr/\arr.size=n*m/\∀i j,i<n->j<m->arr[i*m+j]?=(c i)[j]?
def Jq(c:Nat->List aI)(i j:Nat)(v:aI):Nat->List aI:=fun x=>if x=i then(c i).set j v else c x
section
variable{w w':aG}{g:Nat}{t:dL}{m n:Nat}{c:Nat->List aI}
theorem qP.lt(h:qP w g t m n c):g<w.heap.size:=by obtain⟨arr,h,_⟩:=h;exact h.lt
theorem qP.cell(h:qP w g t m n c){i j:Nat}(hi:i<n)(hj:j<m):w.cell? ⟨g,i*m+j,aj⟩=(c i)[j]?:=by obtain⟨arr,h,hs,hc⟩:=h;rw[h.cell,hc i j hi hj]
theorem qP.frozen(h:qP w g t m n c)(i:Nat):w.frozen? ⟨g,i,aj⟩=false:=by obtain⟨arr,h,_⟩:=h;exact h.frozen i
theorem qP.drew(h:qP w g t m n c):qP w.drew g t m n c:=h
theorem qP.drewN(h:qP w g t m n c)(q:Nat):qP (w.drewN q) g t m n c:=h
theorem qP.alloc(h:qP w g t m n c)(o:Obj):qP (w.alloc o) g t m n c:=by obtain⟨arr,h,r⟩:=h;exact⟨arr,h.alloc o,r⟩
theorem qP.AU(h:qP w g t m n c){p:fA}(hp:g≠p.block)(u:aI):qP (w.setCell p u) g t m n c:=by obtain⟨arr,h,r⟩:=h;exact⟨arr,h.AU hp u,r⟩
theorem qP.below{B:Nat}(h:qP w g t m n c)(hb:aN B w w')(hg:g<B):qP w' g t m n c:=by obtain⟨arr,h,r⟩:=h;exact⟨arr,h.below hb hg,r⟩
theorem qP.grown{row:Option Nat}(h:qP w g t m n c)(hb:w.grownBy w' row)(hg:az g≠row):qP w' g t m n c:=by obtain⟨arr,h,r⟩:=h;exact⟨arr,h.grown hb hg,r⟩
theorem qP.congr{c':Nat->List aI}(h:qP w g t m n c)(e:∀i,i<n->c i=c' i):qP w g t m n c':=by obtain⟨arr,h,hs,hc⟩:=h;exact⟨arr,h,hs,fun i j hi hj=>by rw[<-e i hi];exact hc i j hi hj⟩
theorem qP.jd(h:qP w g t m n c){i j:Nat}(hi:i<n)(hj:j<m)(v:aI):qP (w.setCell ⟨g,i*m+j,aj⟩ v) g t m n (Jq c i j v):=by
 obtain⟨arr,h,hs,hc⟩:=h;have tK:=aeZ hi hj;refine⟨_,h.jd _ v,by simpa using hs,fun i' j' hi' hj'=>?_⟩;have h0:=hc i j hi hj;have hjl:j<(c i).length:=by
  rcases Nat.lt_or_ge j (c i).length with h|h
  ·exact h
  ·rw[List.getElem?_eq_none h,Array.getElem?_eq_none_iff]at h0;omega
 unfold Jq;rw[Array.getElem?_setIfInBounds];by_cases e:i*m+j=i'*m+j'
 ·obtain⟨rfl,rfl⟩:=afD hj hj' e;rw[if_pos rfl,if_pos (by omega),if_pos rfl,List.getElem?_set_self hjl]
 ·rw[if_neg e,hc i' j' hi' hj'];by_cases e2:i'=i
  ·subst e2;have:j≠j':=fun e3=>e (by rw[e3]);rw[if_pos rfl,List.getElem?_set_ne this]
  ·rw[if_neg e2]
end
section
variable{P:Program}(w:aG){ops:Array Oper}{rest:List Oper}{o:Oper}{a:Act}{Q:Exit->Act->aG->Prop}
theorem ko(hg:o.guard=aj)(l c:Operand)(t:dL)(hop:o.op=Op.makeSlice t l c)(e:dL)(i:TypeInfo)(z:aI)(size:Nat)(h1:P.underlying t=az (.slice e))(h2:P.info? e=az i)(h3:i.zero=az z)(h4:i.size=size)(kl kc:IntKind)(L C:Int)(n:Nat)(hl:a.eval l=.int kl L)(hc:a.eval c=.int kc C)(hL:L=(n:Int))(hC:C=(n:Int))(b2:i.bytes*n<=281474976710656)(b3:n<=fB)(hK:wpList P ops Q rest (a.put o.dst (ay (az ⟨w.heap.size,0,aj⟩) n n)) (w.alloc (af (dS z.cells (n*size)) e))):wpList P ops Q (o::rest) a w:=by
 refine wpList_plain hg fun K hK'=>?_;have h63':(n:Int)<=9223372036854775807:=by have h:=b3;simp[fB]at h;omega
 have sV:(i.bytes:Int)*(n:Int)<=281474976710656:=by
  have h:((i.bytes*n:Nat):Int)<=281474976710656:=by omega
  rwa [Int.natCast_mul]at h
 have hrun:=run_make (P:=P) w t e i z h1 h2 h3 kl kc n n (by omega) (Int.le_refl _) sV h63';subst hL;subst hC;subst h4;simp only[cK]at hrun;unfold Oper.wp;simp[execOp,hop,hl,hc,hrun,Result.andThen];exact hK' _ _ hK
end
theorem qP.made(w:aG){t:dL}{m n:Nat}{z:Array aI}(hz:z.size=m)(hm:0<m):qP (w.alloc (af (dS z (n*m)) t)) w.heap.size t m n (fun _=>z.toList):=by
 refine⟨_,dh.new _ _ _,size_madeCells _ _,fun i j hi hj=>?_⟩;have tK:=aeZ hi hj;unfold dS;rw[Array.getElem?_map,Array.getElem?_range,if_pos tK];have hmod:(i*m+j)%z.size=j:=by rw[hz,Nat.add_comm,tV,Nat.add_mul_mod_self_left,Nat.mod_eq_of_lt hj]
 simp only[Option.map_some,hmod];rw[Array.getElem?_toList,getElem!_pos z j (by omega),Array.getElem?_eq_getElem (by omega)]
abbrev IM(w:aG)(b:Nat)(E:Ens):Prop:=avR aH 3 3 w b E
theorem uS(w:aG):(zeroValue 3).run aH w=.ok (ah ag 0) w:=by kernel_rfl
def WfI(r:List Int):Prop:=∀x∈r,(Lit.int .i64 x).wf=true
theorem axG{w:aG}{A:Option fA}{len:Nat}{ds:List Dp}(h:gI 3 cD d0 w A len ds)(k:Nat)(hk:k<len):∃b off,A=az ⟨b,off,aj⟩/\b<w.heap.size/\ds.getD k d0∈ds/\w.cell? ⟨b,off+k*3,aj⟩=az (ah ag (ds.getD k d0).1)/\w.cell? ⟨b,off+k*3+1,aj⟩=az (ah ag (ds.getD k d0).2.1)/\w.cell? ⟨b,off+k*3+1+1,aj⟩=az (ah ag (ds.getD k d0).2.2):=by
 obtain⟨b,off,ha,hb,hc⟩:=h.2 (by omega);have hl:k<ds.length:=by rw[h.1];exact hk
 exact⟨b,off,ha,hb,by simp[bJ,hl],hc k 0 hk (by omega),hc k 1 hk (by omega),hc k 2 hk (by omega)⟩
theorem ny(n:Int)(h0:-1000000000000000000<=n)(h1:n<=1000000000000000000):(Lit.int .i64 n).wf=true:=by
 have e1:IntKind.i64.min=-9223372036854775808:=by decide
 have e2:IntKind.i64.max=9223372036854775807:=by decide
 simp only[Lit.wf,cZ,decide_eq_true_eq,e1,e2];omega
theorem oC{w:aG}{A:Option fA}{len:Nat}{l:List Int}(h:gI 1 cI 0 w A len l)(k:Nat)(hk:k<len):∃b off,A=az ⟨b,off,aj⟩/\b<w.heap.size/\l.getD k 0∈l/\w.cell? ⟨b,off+k,aj⟩=az (ah ag (l.getD k 0)):=by
 obtain⟨b,off,ha,hb,hc⟩:=h.2 (by omega);have hl:k<l.length:=by rw[h.1];exact hk
 refine⟨b,off,ha,hb,by simp[bJ,hl],?_⟩;have:=hc k 0 hk (by omega);simpa[cI]using this
def cB(b:Bool):List aI:=[.bool b]
theorem Tu{w:aG}{A:Option fA}{len:Nat}{l:List Bool}(h:gI 1 cB false w A len l)(k:Nat)(hk:k<len):∃b off,A=az ⟨b,off,aj⟩/\b<w.heap.size/\l.getD k false∈l/\w.cell? ⟨b,off+k,aj⟩=az (.bool (l.getD k false)):=by
 obtain⟨b,off,ha,hb,hc⟩:=h.2 (by omega);have hl:k<l.length:=by rw[h.1];exact hk
 refine⟨b,off,ha,hb,by simp[bJ,hl],?_⟩;have:=hc k 0 hk (by omega);simpa[cB]using this
theorem Fp:(Tryz.prog.info? 4).map (fun i=>(i.zero,i.size,i.bytes))=az (az (.bool false),1,1):=by kernel_rfl
theorem qP.set1{w:aG}{g:Nat}{t:dL}{n:Nat}{c:Nat->List aI}(h:qP w g t 1 n c){i:Nat}(hi:i<n)(v:aI):qP (w.setCell ⟨g,i,aj⟩ v) g t 1 n (Jq c i 0 v):=by have h1:=h.jd (j:=0) hi (by omega) v;rw[show i*1+0=i from by omega]at h1;exact h1
theorem wH{w:aG}{base wU:Nat}{e:dL}{size:Nat}{v:aI}{n:Nat}{xs:List aI}(h:w.ownsRow base e size v n xs)(hb:wU<=base):w.ownsRow wU e size v n xs:=by
 refine⟨h.1,?_⟩;rcases h.2 with h|⟨g,cap,cur,h1,h2,h3⟩
 ·exact .inl h
 ·exact .inr ⟨g,cap,cur,h1,by omega,h3⟩
theorem Mj{w w':aG}{base:Nat}{e:dL}{size n g:Nat}{v:aI}{xs:List aI}(h:w.ownsRow base e size v n xs)(hg:w.grownBy w' (az g))(nQ:∀q,v.ownBlock=az q->q≠g):w'.ownsRow base e size v n xs:=
 h.kept hg (by
  cases hb:v.ownBlock with
  |none=>exact .inl rfl
  |some q=>exact .inr (by intro e;first|(injection e with e;exact nQ q hb e)|(injection e with e;exact nQ q hb e.symm)))
theorem ack(w:aG)(e size:Nat):(w.alloc (af #[] e)).ownsRow w.heap.size e size (ay (az ⟨w.heap.size,0,aj⟩) 0 0) 0 []:=by refine⟨by simp,.inr ⟨w.heap.size,0,#[],rfl,aC _,heap_alloc_new w _,?_⟩⟩;simp
theorem XY(a:Option fA)(c:Nat)(l:List Int)(w:aG)(hl:l.length<=1000000)(nQ:0<l.length)(h:gI 1 cI 0 w a l.length l):Calls aH 38 #[ay a l.length c] w (xP l w):=by
 obtain⟨b,off,rfl,hb,_⟩:=h.2 nQ;have RA:=aA ((tY qK h).alloc (aC _) (af #[] 3));have fo:=aA (alk l);clear h hb;obtain⟨i0,hi0,wC,uX,wK⟩:=info_parts Dc;have hnil:∀(w:aG) (a:Option fA) (n c n' c':Nat),(binOp .eql 26 (ay a n c) (ay aj n' c')).run aH w=.ok (.bool a.isNone) w:=fun w a n c n' c'=>Lib.run_eql_slice_nil w 26 3 a n c n' c' underlying26;go_enter func38,ntmps38;go_wp2_with (at_builtin;refine gW _ rfl (.tmp 5) (.tmp 6) 26 rfl w.heap.size 3 i0 _ 1 8 underlying26 hi0 wC uX wK rfl (by decide) _ 0 [] rfl (ack w 3 1) w.heap.size _ l.length c (l.flatMap cI) rfl RA.o fo.out ?c3 ?c4 ?c5 ?_);case c3=>unfold fB;omega
 case c4=>omega
 case c5=>simp
 intro v1 w1 nV yo _;try simp only[Nat.zero_add,List.nil_append]at nV
 have gm:aY (aN w.heap.size w w1):=((aQ _ _).alloc (aC _) _).grown yo (by simp) (by intro g e;simp[Value.ownBlock]at e;omega);have F:aY (xP l w (ax v1) w1):=⟨v1,rfl,nV,gm.out⟩;clear nV yo;go_wp2_with fail;go_ret;exact F.o
theorem Ig{α:Type}{d:α}{P:α->Prop}{l:List α}{k:Nat}(hk:k<l.length)(h:∀x∈l.take k,P x)(hx:P (l.getD k d)):∀x∈l.take (k+1),P x:=by
 intro y hy;rw[ji d l k hk,List.mem_append]at hy;rcases hy with hy|hy
 ·exact h y hy
 ·simp only[List.mem_singleton]at hy;rw[hy];exact hx
theorem UT{α:Type}{p:α->Bool}{l:List α}(h:∀x∈l.take l.length,p x=true):l.all p=true:=by rw[dY]at h;exact jL.2 h
structure Ch(S:Nat->Prop)(w w':aG):Prop where
 os:w'.os=w.os
 tape:w'.tape=w.tape
 output:w'.output=w.output
 size:w.heap.size<=w'.heap.size
 block:∀k,k<w.heap.size->¬S k->w'.heap[k]?=w.heap[k]?
section
variable{S S':Nat->Prop}{a b c w w':aG}
theorem Ch.refl(S:Nat->Prop)(w:aG):Ch S w w:=⟨rfl,rfl,rfl,aC _,fun _ _ _=>rfl⟩
theorem Ch.mono(h:Ch S w w')(hs:∀k,k<w.heap.size->S k->S' k):Ch S' w w':=⟨h.os,h.tape,h.output,h.size,fun k hk hn=>h.block k hk fun q=>hn (hs k hk q)⟩
theorem Ch.trans(h:Ch S a b)(k:Ch S' b c)(hs:∀i,i<a.heap.size->S' i->S i):Ch S a c:=
 ⟨k.os.trans h.os,k.tape.trans h.tape,k.output.trans h.output,dZ h.size k.size,fun i hi hn=>(k.block i (bW hi h.size) fun q=>hn (hs i hi q)).trans (h.block i hi hn)⟩
theorem Ch.drew(h:Ch S a w):Ch S a w.drew:=⟨h.os,h.tape,h.output,h.size,h.block⟩
theorem Ch.drewN(h:Ch S a w)(n:Nat):Ch S a (w.drewN n):=⟨h.os,h.tape,h.output,h.size,h.block⟩
theorem Ch.bY(h:aN w.heap.size w w'):Ch S w w':=⟨h.os,h.tape,h.output,h.size,fun k hk _=>h.block k hk⟩
theorem Ch.below{B:Nat}(h:Ch S w w')(hB:B<=w.heap.size)(hs:∀k,S k->B<=k):aN B w w':=⟨h.os,h.tape,h.output,h.size,fun k hk=>h.block k (by omega) fun q=>by have:=hs k q;omega⟩
theorem Ch.alloc(h:Ch S a w)(o:Obj):Ch S a (w.alloc o):=h.trans (S':=fun _=>False) (Ch.bY ((aQ _ _).alloc (aC _) o)) (fun _ _ q=>q.elim)
theorem Ch.rW(h:Ch S a b)(k:aN b.heap.size b c):Ch S a c:=h.trans (S':=fun _=>False) (Ch.bY k) (fun _ _ q=>q.elim)
theorem Ch.setCell(h:Ch S a w){p:fA}(hp:S p.block\/a.heap.size<=p.block)(u:aI):Ch S a (w.setCell p u):=
 ⟨h.os,h.tape,h.output,by simpa[iK]using h.size,fun k hk hn=>(nz w p u k (fun e=>by
  rcases hp with q|q
  ·exact hn (e▸q)
  ·omega)).trans (h.block k hk hn)⟩
theorem Ch.grown(h:Ch S a w){row:Option Nat}(hg:w.grownBy w' row)(hr:∀g,row=az g->S g\/a.heap.size<=g):Ch S a w':=
 ⟨hg.os.trans h.os,hg.tape.trans h.tape,hg.output.trans h.output,dZ h.size hg.size,fun k hk hn=>(hg.block k (bW hk h.size) fun e=>by
  rcases hr k e.symm with q|q
  ·exact hn q
  ·omega).trans (h.block k hk hn)⟩
theorem dh.ch{g:Nat}{t:dL}{cs:Array aI}(h:dh w g t cs)(hc:Ch S w w')(hg:¬S g):dh w' g t cs:=(hc.block g h.lt hg).trans h
theorem Ch.cell{p:fA}(hc:Ch S w w')(hp:p.block<w.heap.size)(hg:¬S p.block):w'.cell? p=w.cell? p:=World.cell?_of_block (hc.block _ hp hg)
theorem gI.ch{α:Type}{m:Nat}{c:α->List aI}{d:α}{p:Option fA}{len:Nat}{xs:List α}(h:gI m c d w p len xs)(hc:Ch S w w')(hg:∀x,p=az x->¬S x.block):gI m c d w' p len xs:=by refine⟨h.1,fun h0=>?_⟩;obtain⟨b,off,e,tK,hcc⟩:=h.2 h0;refine⟨b,off,e,bW tK hc.size,fun i j hi hj=>?_⟩;rw[hc.cell (p:=⟨b,off+i*m+j,aj⟩) tK (hg ⟨b,off,aj⟩ e)];exact hcc i j hi hj
theorem gI.ch0{α:Type}{m:Nat}{c:α->List aI}{d:α}{p:Option fA}{len:Nat}{xs:List α}(h:gI m c d w p len xs)(hc:Ch S w w')(hg:0<len->∀x,p=az x->¬S x.block):gI m c d w' p len xs:=by refine⟨h.1,fun h0=>?_⟩;obtain⟨b,off,e,tK,hcc⟩:=h.2 h0;refine⟨b,off,e,bW tK hc.size,fun i j hi hj=>?_⟩;rw[hc.cell (p:=⟨b,off+i*m+j,aj⟩) tK (hg h0 ⟨b,off,aj⟩ e)];exact hcc i j hi hj
theorem fO{base:Nat}{e:dL}{m n:Nat}{v:aI}{xs:List aI}(h:w.ownsRow base e m v n xs)(hc:Ch S w w')(hg:∀g,v.ownBlock=az g->¬S g):w'.ownsRow base e m v n xs:=by
 refine⟨h.1,?_⟩;rcases h.2 with q|⟨g,cap,cur,rfl,hb,hh,rest⟩
 ·exact .inl q
 ·exact .inr ⟨g,cap,cur,rfl,hb,(hc.block g (Array.getElem?_eq_some_iff.1 hh).1 (hg g rfl)).trans hh,rest⟩
end
abbrev Tg:=Nat×Nat×Nat×Nat
abbrev Own:=Nat->Tg
structure Nx(Z:Own)(o:Nat)(w:aG)(dN:Own)(w':aG):Prop where
 ch:Ch (fun k=>(Z k).1=o) w w'
 ext:∀k,k<w.heap.size->dN k=Z k
 fresh:∀k,w.heap.size<=k->k<w'.heap.size->(dN k).1=o\/(dN k).1<=1
section
variable{Z dN FJ:Own}{o o2:Nat}{w w' w'':aG}
theorem Nx.trans(h:Nx Z o w dN w')(k:Nx dN o w' FJ w''):Nx Z o w FJ w'' where
 ch:=h.ch.trans k.ch fun i hi e=>by rw[h.ext i hi]at e;exact e
 ext:=fun i hi=>(k.ext i (bW hi h.ch.size)).trans (h.ext i hi)
 fresh:=fun i h1 h2=>by
  by_cases hi:i<w'.heap.size
  ·rw[k.ext i hi];exact h.fresh i h1 hi
  ·exact k.fresh i (by omega) h2
theorem Nx.drew(h:Nx Z o w dN w'):Nx Z o w dN w'.drew:=⟨h.ch.drew,h.ext,h.fresh⟩
def qm(Z:Own)(n:Nat)(t:Tg):Own:=fun k=>if k<n then Z k else t
def afX(Z:Own)(g:Nat)(t:Tg):Own:=fun k=>if k=g then t else Z k
theorem aaj(Z:Own)(g:Nat)(t:Tg):afX Z g t g=t:=if_pos rfl
theorem aiy(Z:Own){g k:Nat}(t:Tg)(h:k≠g):afX Z g t k=Z k:=if_neg h
end
def Rq(x:Int):List aI:=[.int .u8 x]
def iQ(Z:Own)(w:aG)(x:List Int)(v:aI):Prop:=∃a cap,v=ay a x.length cap/\gI 1 Rq 0 w a x.length x/\(0<x.length->∀p,a=az p->(Z p.block).1=1/\p.block<w.heap.size)/\x.length<=64
theorem iQ.nx{Z dN:Own}{o:Nat}{w w':aG}{x:List Int}{v:aI}(h:iQ Z w x v)(k:Nx Z o w dN w')(ho:2<=o):iQ dN w' x v:=by
 obtain⟨a,cap,e,h1,h2,h3⟩:=h;refine⟨a,cap,e,h1.ch0 k.ch fun h0 p hp q=>?_,fun h0 p hp=>?_,h3⟩
 ·have:=(h2 h0 p hp).1;omega
 ·have:=h2 h0 p hp;exact⟨by rw[k.ext _ this.2];exact this.1,bW this.2 k.ch.size⟩
structure Ey(w:aG)(g h:Nat)(x:Gv):Prop where
 p:dh w g 204 #[ay (az ⟨h,0,aj⟩) 1 1]
 c:dh w h 206 #[ah ag x.room,ah ag x.NK,ah ag x.Kb]
structure Lm(w:aG)(g h:Nat)(x:Tk):Prop where
 p:dh w g 209 #[ay (az ⟨h,0,aj⟩) 1 1]
 c:dh w h 228 #[ah ag x.NQ,ah ag x.lim]
theorem Ey.ch{S:Nat->Prop}{w w':aG}{g h:Nat}{x:Gv}(a:Ey w g h x)(hc:Ch S w w')(h1:¬S g)(h2:¬S h):Ey w' g h x:=⟨a.p.ch hc h1,a.c.ch hc h2⟩
theorem Lm.ch{S:Nat->Prop}{w w':aG}{g h:Nat}{x:Tk}(a:Lm w g h x)(hc:Ch S w w')(h1:¬S g)(h2:¬S h):Lm w' g h x:=⟨a.p.ch hc h1,a.c.ch hc h2⟩
theorem Ey.drew{w:aG}{g h:Nat}{x:Gv}(a:Ey w g h x):Ey w.drew g h x:=⟨a.p,a.c⟩
def GX(lv:List Int)(i:Int):Int:=lv.getD i.toNat 0
def rH(n:Nat)(x:Int):Bool:=decide (-1<=x)&&decide (x<n)
def leads(lv:List Int)(i:Nat)(c:Cb):Bool:=if GX lv c.a=GX lv c.b-1 then c.b==(i:Int)else if GX lv c.b=GX lv c.a-1 then c.a==(i:Int)else false
def DR(cs:List Cb)(lv:List Int)(k i:Nat):Bool:=(cs.take k).any (leads lv i)
def zT(cs:List Cb)(lv:List Int)(i:Nat):Bool:=!(decide (0<lv.getD i 0))||DR cs lv cs.length i
def oD(p:Pl)(lv:List Int):Bool:=
 decide (fT p=0)&&decide (lv.length=p.ns.length)&&lv.all (rH p.ns.length)&&decide (lv.countP (· ==0)=1)&&(aO lv.length).all (zT p.cs lv)
theorem Fb{ns:List Nd}{cs:List Cb}(h:fT ⟨ns,cs⟩=0){c:Cb}(hc:c∈cs):(0<=c.a/\c.a<ns.length)/\0<=c.b/\c.b<ns.length:=by
 have hp:cs.all (lH ns)=true:=by
  cases hq:cs.all (lH ns)with
  |true=>rfl
  |false=>
   unfold fT at h;simp only[hq]at h;split at h
   ·cases h
   ·split at h
    ·cases h
    ·cases h
 have h2:=jL.1 hp _ hc;unfold lH jO at h2;simp only[cZ,decide_eq_true_eq]at h2;exact⟨⟨h2.1.1.1.1,h2.1.1.1.2⟩,h2.2.1.1.1,h2.2.1.1.2⟩
theorem oW{ns:List Nd}{cs:List Cb}(h:fT ⟨ns,cs⟩=0):ns.length<=16/\cs.length<=32:=by
 unfold fT at h;split at h
 ·cases h
 ·rename_i h1;simp only at h1;omega
section
variable{p:Pl}{lv:List Int}
theorem ob1(h:fT p≠0):oD p lv=false:=by unfold oD;rw[decide_eq_false h];rfl
theorem ob2(h:lv.length≠p.ns.length):oD p lv=false:=by unfold oD;rw[decide_eq_false h];simp
theorem ob3(h:lv.all (rH p.ns.length)=false):oD p lv=false:=by unfold oD;rw[h];simp
theorem ob4(h:lv.countP (· ==0)≠1):oD p lv=false:=by unfold oD;rw[decide_eq_false h];simp
theorem ob5(h:(aO lv.length).all (zT p.cs lv)=false):oD p lv=false:=by unfold oD;rw[h];simp
theorem ob0(h1:fT p=0)(h2:lv.length=p.ns.length)(h3:lv.all (rH p.ns.length)=true)(h4:lv.countP (· ==0)=1)(h5:(aO lv.length).all (zT p.cs lv)=true):oD p lv=true:=by unfold oD;rw[decide_eq_true h1,decide_eq_true h2,h3,decide_eq_true h4,h5];rfl
end
theorem axh(a i:Nat):(((a:Int)==(i:Int)):Bool)=(a==i):=by rw[Bool.eq_iff_iff,beq_iff_eq,beq_iff_eq];omega
theorem nat_ne{n:Nat}(h:((n:Int)!=1)=true):n≠1:=by
 have:¬((n:Int)=1):=by simpa using h
 omega
theorem nat_eq{n:Nat}(h:((n:Int)!=1)=false):n=1:=by
 have:(n:Int)=1:=by simpa using h
 omega
theorem Vl(lv:List Int)(k:Nat)(h:k<lv.length):(lv.take (k+1)).countP (· ==0)=(lv.take k).countP (· ==0)+if lv.getD k 0==0 then 1 else 0:=by rw[ji 0 lv k h,List.countP_append,List.countP_singleton]
def adR(lv:List Int)(n:Nat)(w2:aG)(r i:aI)(wr:aG):Prop:=
 ∃k:Nat,k<=lv.length/\i=ah ag k/\r=ah ag (((lv.take k).countP (· ==0):Nat):Int)/\(∀x∈lv.take k,rH n x=true)/\w2=wr
def Zz(cs:List Cb)(lv:List Int)(n:Nat)(w2:aG)(i:aI)(wr:aG):Prop:=
 ∃k:Nat,k<=cs.length/\i=ah ag k/\qP wr w2.heap.size 4 1 n (fun i=>[.bool (DR cs lv k i)])/\aN w2.heap.size w2 wr
def adS(cs:List Cb)(lv:List Int)(i:aI):Prop:=
 ∃k:Nat,k<=lv.length/\i=ah ag k/\((aO k).all (zT cs lv))=true
theorem YB(cs:List Cb)(lv:List Int)(k i:Nat)(h:k<cs.length):DR cs lv (k+1) i=(DR cs lv k i||leads lv i (cs.getD k gX)):=by unfold DR;rw[ji gX cs k h,List.any_append];simp
theorem Gp(p:Pl)(lv:List Int)(An Ac Al:Option fA)(cn cc cl:Nat)(w:aG)(hl:p.ns.length<=1000000)(DN:p.cs.length<=1000000)(tu:QI p)(hlv:lv.length<=1000000)(hwl:WfI lv)(h:jw w An Ac p)(h2:gI 1 cI 0 w Al lv.length lv):Calls aH 114 #[.agg #[ay An p.ns.length cn,ay Ac p.cs.length cc],.agg #[ay Al lv.length cl]] w fun e w'=>e=ax (.bool (oD p lv))/\aN w.heap.size w w':=by
 obtain⟨ns,cs⟩:=p;simp only at hl DN|-;have HW:=aA tu;obtain⟨w1,gK⟩:∃w1:aG,(w.alloc (af #[ay An ns.length cn,ay Ac cs.length cc] 25)).alloc (af #[ay Al lv.length cl] 169)=w1:=⟨_,rfl⟩;have s0:w1.cell? ⟨w.heap.size,0,aj⟩=az (ay An ns.length cn):=by rw[<-gK];simp[go_sem]
 have s1:w1.cell? ⟨w.heap.size,1,aj⟩=az (ay Ac cs.length cc):=by rw[<-gK];simp[go_sem]
 have s2:w1.cell? ⟨w.heap.size+1,0,aj⟩=az (ay Al lv.length cl):=by rw[<-gK];simp[go_sem]
 have Sk:w.heap.size+1<w1.heap.size:=by rw[<-gK];simp
 have FO:aN w.heap.size w w1:=by rw[<-gK];exact((aQ _ _).alloc (aC _) _).alloc (by simp) _
 have H1:=aA (h.below (aC _) FO);have L1:=aA (h2.below (aC _) FO);have Bf:=aA gK;have KC:aY (∀w',aN w1.heap.size w1 w'->w'.cell? ⟨w.heap.size,0,aj⟩=az (ay An ns.length cn)/\w'.cell? ⟨w.heap.size,1,aj⟩=az (ay Ac cs.length cc)/\w'.cell? ⟨w.heap.size+1,0,aj⟩=az (ay Al lv.length cl)/\w.heap.size+1<w'.heap.size/\aN w.heap.size w w'):=
  fun w' hb=>⟨(hb.cell (by show w.heap.size<_;omega)).trans s0,(hb.cell (by show w.heap.size<_;omega)).trans s1,(hb.cell (by exact Sk)).trans s2,by have:=hb.size;omega,FO.trans (hb.mono (by omega))⟩
 clear h h2 gK tu FO;by_cases hv:fT ⟨ns,cs⟩=0
 ·have HV:=aA hv;obtain⟨n16,Lb⟩:=oW hv;clear hv;go_enter func114,ntmps114;go_wp2_with fail;rw[Bf.o];refine(zN ⟨ns,cs⟩ An Ac cn cc _ hl DN HW.o H1.o).mono ?_;rintro e w2 ⟨rfl,wN⟩;rw[HV.o];have B2:=aA wN;clear s0 s1 s2;obtain⟨u0,u1,u2,sz2,bw2⟩:=KC.o w2 wN;have BF2:=aA bw2;clear wN bw2;by_cases yZ:lv.length=ns.length
  ·have q1:((lv.length:Int)!=(ns.length:Int))=false:=by simp[yZ]
   have Jw:=aA yZ;have L2:=aA (L1.o.below (aC _) B2.o);have C2:=aA ((H1.o.below (aC _) B2.o).2);have hn16:lv.length<=16:=(by omega);clear yZ;go_wp2_with fail;clear q1;go_loopw [5,28] (fun r i wr=>adR lv ns.length w2 r i wr) (fun _ i _=>lv.length-(aJ i).toNat);case atStart=>exact⟨0,bS _,rfl,rfl,by simp,rfl⟩
   case round=>
    obtain⟨k,hk,rfl,rfl,hall,rfl⟩:=hrel;have HA:=aA hall;clear hall;have hcl:(lv.take k).countP (· ==0)<=16:=dZ List.countP_le_length (by rw[List.length_take];omega);by_cases nI:k<lv.length
    ·obtain⟨b1,o1,ha1,hb1,Ps,e1⟩:=oC L2.o k nI;have CS:=aA (Vl lv k nI);have HS:aY (rH ns.length (lv.getD k 0)=true->∀x∈lv.take (k+1),rH ns.length x=true):=fun h=>Ig (d:=0) (P:=fun x=>rH ns.length x=true) nI HA.o h;have HB:aY (rH ns.length (lv.getD k 0)=false->lv.all (rH ns.length)=false):=fun h=>(by rw[sK];exact⟨_,Ps,by rw[h];simp⟩);have wfx:=hwl _ Ps;generalize lv.getD k 0=x at *;subst ha1;clear Ps;generalize hcc:(lv.take k).countP (· ==0)=CY at *;have HCC:=aA hcc;clear hcc;cases hlo:rH ns.length x with
     |false=>
      have iZ:=aA (ob3 (p:=⟨ns,cs⟩) (lv:=lv) (HB.o hlo));have hb:x< -1\/(-1<=x/\(ns.length:Int)<=x):=by
       simp[rH]at hlo;rcases Int.lt_or_le x (-1)with h|h
       ·exact .inl h
       ·exact .inr ⟨h,hlo h⟩
      clear hlo HB HS CS;rcases hb with h1|⟨h1,h2⟩
      all_goals
       go_wp2_with fail;go_ret
       exact⟨by rw[iZ.out];rfl,BF2.o⟩
     |true=>
      have hb:-1<=x/\x<ns.length:=(by simpa[rH]using hlo);obtain⟨x1,x2⟩:=hb;have HS2:=aA (HS.o hlo);clear hlo HB HS;cases hz:x==0 with
      |true=>have R:aY (adR lv ns.length w2 (ah ag ((CY:Int)+1)) (ah ag ((k+1:Nat):Int)) w2):=⟨k+1,by omega,rfl,by rw[CS.o,hz];rfl,HS2.o,rfl⟩;clear CS HCC;go_wp2_with fail;exact⟨by simpa using R.o,by simp[aJ];omega⟩
      |false=>have R:aY (adR lv ns.length w2 (ah ag (CY:Int)) (ah ag ((k+1:Nat):Int)) w2):=⟨k+1,by omega,rfl,by rw[CS.o,hz];rfl,HS2.o,rfl⟩;clear CS HCC;go_wp2_with fail;exact⟨by simpa using R.o,by simp[aJ];omega⟩
    ·obtain rfl:k=lv.length:=by omega
     rw[dY];have AL:=aA (UT HA.o);generalize hcc:lv.countP (· ==0)=CY at *;rw[dY,hcc]at hcl;cases h1:(CY:Int)!=1 with
     |true=>have iZ:aY (oD ⟨ns,cs⟩ lv=false):=ob4 (by rw[hcc];exact nat_ne h1);clear hcc HA;go_wp2_with fail;go_ret;exact⟨by rw[iZ.out];rfl,BF2.o⟩
     |false=>
      have C1:aY (lv.countP (· ==0)=1):=(by rw[aY,hcc];exact nat_eq h1);clear hcc HA;obtain⟨j0,xI,zb,Ad,Ae⟩:=info_parts Fp;have aJS:w.heap.size<w2.heap.size:=(by omega);obtain⟨o4,RJ⟩:∃o4,af (dS #[.bool false] ns.length) 4=o4:=⟨_,rfl⟩;have HO4:=aA RJ;clear RJ;go_wp2_with (at_make;refine ko _ rfl _ _ 52 rfl 4 j0 _ 1 underlying52 xI zb Ad .i64 .i64 _ _ ns.length rfl rfl ?m1 ?m2 (by rw[Ae];omega) (by unfold fB;omega) ?_);case m1=>rfl
      case m2=>rfl
      rw[HO4.o];obtain⟨w4,Ie⟩:∃w4:aG,w2.alloc o4=w4:=⟨_,rfl⟩;have ST:aY (Zz cs lv ns.length w2 (ah ag 0) w4):=by
       refine⟨0,bS _,rfl,?_,?_⟩
       ·rw[<-Ie,<-HO4.o];have:=qP.made w2 (m:=1) (n:=ns.length) (t:=4) (z:=#[.bool false]) rfl (by decide);rw[Nat.mul_one]at this;exact this.congr fun i hi=>rfl
       ·rw[<-Ie];exact(aQ _ _).alloc (aC _) _
      have k4:aN w2.heap.size w2 w4:=(by rw[<-Ie];exact(aQ _ _).alloc (aC _) _);obtain⟨v0,v1,v2,_,_⟩:=KC.o w4 (B2.o.trans (k4.mono B2.o.size));rw[Ie];clear Ie HO4 u0 u1 u2 xI zb Ad Ae k4;go_wp2_with fail;go_loopw [55] (fun i wr=>Zz cs lv ns.length w2 i wr) (fun i _=>cs.length-(aJ i).toNat);case atStart=>exact ST.o
      case round=>
       clear ST v0 v1 v2;obtain⟨k,hk,rfl,rb,gm⟩:=hrel;have bs:=gm.size;have RB:=aA rb;have gl:=rb.lt;clear rb;obtain⟨u0,u1,u2,sz3,bw3⟩:=KC.o wr (B2.o.trans (gm.mono B2.o.size));have BF3:=aA bw3;clear bw3;by_cases nI:k<cs.length
       ·obtain⟨bb,off,ha,hbb,mE,c0,c1,c2,c3,c4,c5⟩:=mq (C2.o.below (aC _) gm) k nI;obtain⟨⟨na0,na1⟩,nb0,nb1⟩:=Fb HV.o mE;have LS:=aA (fun i=>YB cs lv k i nI);generalize cs.getD k gX=x at *;obtain⟨xa,qF,xb,qO,xd,xc⟩:=x;simp only at c0 c1 c2 c3 c4 c5 na0 na1 nb0 nb1;subst ha;clear mE;obtain⟨ia,rfl⟩:∃ia:Nat,xa=ia:=⟨xa.toNat,by omega⟩;obtain⟨ib,rfl⟩:∃ib:Nat,xb=ib:=⟨xb.toNat,by omega⟩;have ama:=Jw.o;have ja:ia<lv.length:=(by omega);have jb:ib<lv.length:=(by omega);have iaw:(ia:Int)<(lv.length:Int):=(by omega);have ibw:(ib:Int)<(lv.length:Int):=(by omega);have iaz:(0:Int)<=(ia:Int):=(by omega);have ibz:(0:Int)<=(ib:Int):=(by omega);have LZ:ia<ns.length:=(by omega);have Ma:ib<ns.length:=(by omega);obtain⟨wa,Lg⟩:∃wa:aG,wr.alloc (af #[ah ag ia,ah ag qF,ah ag ib,ah ag qO,ah ag xd,ah ag xc] 86)=wa:=⟨_,rfl⟩;have ahj:aN wr.heap.size wr wa:=Lg▸(aQ _ _).alloc (aC _) _;have ZG:=gm.trans (ahj.mono bs);obtain⟨bl,ol,hal,hbl,hma,ea⟩:=oC (L2.o.below (aC _) ZG) ia ja;obtain⟨bl',ol',TP,_,hmb,eb⟩:=oC (L2.o.below (aC _) ZG) ib jb;rw[hal]at TP;injection TP with TP;injection TP with alS alT;subst alS;subst alT;have la:=jL.1 AL.o _ hma;have lb:=jL.1 AL.o _ hmb;have LD:aY (∀i,leads lv i ⟨ia,qF,ib,qO,xd,xc⟩=if lv.getD ia 0=lv.getD ib 0-1 then ib==i else if lv.getD ib 0=lv.getD ia 0-1 then ia==i else false):=fun i=>by
         unfold leads GX;simp only[cK,axh]
        generalize lv.getD ia 0=va at *;generalize lv.getD ib 0=vb at *;have la':-1<=va/\va<ns.length:=by simpa[rH]using la
        have lb':-1<=vb/\vb<ns.length:=(by simpa[rH]using lb);obtain⟨la1,la2⟩:=la';obtain⟨lb1,lb2⟩:=lb';subst hal;have t0:wa.cell? ⟨wr.heap.size,0,aj⟩=az (ah ag ia):=(by rw[<-Lg];simp[go_sem]);have t2:wa.cell? ⟨wr.heap.size,2,aj⟩=az (ah ag ib):=(by rw[<-Lg];simp[go_sem]);have RBA:aY (qP wa w2.heap.size 4 1 ns.length (fun i=>[.bool (DR cs lv k i)])):=RB.o.below ahj gl;have ua2:wa.cell? ⟨w.heap.size+1,0,aj⟩=az (ay (az ⟨bl,ol,aj⟩) lv.length cl):=(ahj.cell (by exact sz3)).trans u2;have cya:∀i,i<ns.length->wa.cell? ⟨w2.heap.size,i,aj⟩=az (.bool (DR cs lv k i)):=fun i hi=>(by have:=RBA.o.cell (i:=i) (j:=0) hi (by omega);simpa using this);have ya:=cya ia LZ;have yb:=cya ib Ma;have fa:wa.frozen? ⟨w2.heap.size,ia,aj⟩=false:=RBA.o.frozen _;have fb:wa.frozen? ⟨w2.heap.size,ib,aj⟩=false:=RBA.o.frozen _;have HWA:=aA Lg;have aou:=aA ZG;have ws1:IntKind.i64.wrap (vb-1)=vb-1:=fE _ (by omega);have ws2:IntKind.i64.wrap (va-1)=va-1:=fE _ (by omega);have sza:wr.heap.size<wa.heap.size:=(by rw[<-Lg];simp);clear Lg cya ahj gm ZG hma hmb la lb ama;have STP:aY (∀q i,i<ns.length->(∀j,j<ns.length->leads lv j ⟨ia,qF,ib,qO,xd,xc⟩=(i==j))->Zz cs lv ns.length w2 (ah ag ((k+1:Nat):Int)) ((wa.drewN q).setCell ⟨w2.heap.size,i,aj⟩ (.bool true))):=fun q i hi hld=>by
         refine⟨k+1,by omega,rfl,?_,(below_drewN aou.out q).setCell (aC _) _⟩;refine((RBA.o.drewN q).set1 hi _).congr fun j hj=>?_;unfold Jq;rw[LS.o j,hld j hj];by_cases e:j=i
         ·subst e;simp
         ·have:¬i=j:=fun h=>e h.symm;simp[e,this]
        have STN:aY (∀q,(∀j,j<ns.length->leads lv j ⟨ia,qF,ib,qO,xd,xc⟩=false)->Zz cs lv ns.length w2 (ah ag ((k+1:Nat):Int)) (wa.drewN q)):=fun q hld=>(by refine⟨k+1,by omega,rfl,?_,below_drewN aou.out q⟩;refine(RBA.o.drewN q).congr fun j hj=>?_;rw[LS.o j,hld j hj];simp);go_wp2_with fail;rw[HWA.o];clear HWA c0 c1 c2 c3 c4 c5 u0 u1 u2;cases h1:va==vb-1 with
        |true=>have LQ:aY (∀j,j<ns.length->leads lv j ⟨ia,qF,ib,qO,xd,xc⟩=(ib==j)):=fun j hj=>(by rw[LD.o,if_pos (by simpa using h1)]);have SQ:=aA (fun q=>STP.o q ib Ma LQ.o);clear LD LS STP STN LQ ws2;go_quiet (fail);clear ws1;go_wp2_with fail;exact⟨by simpa using SQ.o _,by simp[aJ];omega⟩
        |false=>
         have n1:¬va=vb-1:=(by simpa using h1);cases h2:vb==va-1 with
         |true=>have LQ:aY (∀j,j<ns.length->leads lv j ⟨ia,qF,ib,qO,xd,xc⟩=(ia==j)):=fun j hj=>(by rw[LD.o,if_neg n1,if_pos (by simpa using h2)]);have SQ:=aA (fun q=>STP.o q ia LZ LQ.o);clear LD LS STP STN LQ n1;go_quiet (fail);go_wp2_with fail;go_quiet (fail);clear ws1 ws2;go_wp2_with fail;exact⟨by simpa using SQ.o _,by simp[aJ];omega⟩
         |false=>have n2:¬vb=va-1:=(by simpa using h2);have LQ:aY (∀j,j<ns.length->leads lv j ⟨ia,qF,ib,qO,xd,xc⟩=false):=fun j hj=>(by rw[LD.o,if_neg n1,if_neg n2]);have SQ:=aA (fun q=>STN.o q LQ.o);clear LD LS STP STN LQ n1 n2;go_quiet (fail);go_wp2_with fail;go_quiet (fail);clear ws1 ws2;go_wp2_with fail;exact⟨by simpa using SQ.o _,by simp[aJ];omega⟩
       ·obtain rfl:k=cs.length:=by omega
        have L6:=aA (L2.o.below (aC _) gm);have ama:=Jw.o;have aDT:lv.length<=ns.length:=(by omega);clear ama gm;go_wp2_with fail
        go_loop [101] (fun i=>adS cs lv i) (fun i=>lv.length-(aJ i).toNat)
        case atStart=>exact⟨0,bS _,rfl,rfl⟩
        case round=>
         obtain⟨k,hk,rfl,hall⟩:=hrel;have HA:=aA hall;clear hall;by_cases nI:k<lv.length
         ·obtain⟨b1,o1,ha1,hb1,Ps,e1⟩:=oC L6.o k nI;have AS:aY ((aO (k+1)).all (zT cs lv)=((aO k).all (zT cs lv)&&zT cs lv k)):=by rw[aY,List.range_succ,List.all_append];simp
          have AB:aY (zT cs lv k=false->(aO lv.length).all (zT cs lv)=false):=fun h=>(by rw[sK];exact⟨k,List.mem_range.2 nI,by rw[h];simp⟩);have ND:aY (zT cs lv k=(!(decide (0<lv.getD k 0))||DR cs lv cs.length k)):=rfl;have cy:wr.cell? ⟨w2.heap.size,k,aj⟩=az (.bool (DR cs lv cs.length k)):=(by have:=RB.o.cell (i:=k) (j:=0) (by omega) (by omega);simpa using this);have i1:(k:Int)<(ns.length:Int):=(by omega);have i0:(0:Int)<=(k:Int):=(by omega);generalize lv.getD k 0=x at *;generalize DR cs lv cs.length k=b at *;subst ha1;clear Ps;cases h0:decide (0<x)with
          |false=>have R:aY (adS cs lv (ah ag ((k+1:Nat):Int))):=⟨k+1,by omega,rfl,by rw[AS.o,HA.o,ND.o,h0];rfl⟩;clear AS AB ND;go_wp2_with fail;exact⟨by simpa using R.o,by simp[aJ];omega⟩
          |true=>
           cases b with
           |true=>have R:aY (adS cs lv (ah ag ((k+1:Nat):Int))):=⟨k+1,by omega,rfl,by rw[AS.o,HA.o,ND.o,h0];rfl⟩;clear AS AB ND;go_wp2_with fail;exact⟨by simpa using R.o,by simp[aJ];omega⟩
           |false=>have iZ:aY (oD ⟨ns,cs⟩ lv=false):=ob5 (AB.o (by rw[ND.o,h0];rfl));clear AS AB ND;go_wp2_with fail;go_ret;exact⟨by rw[iZ.out];rfl,BF3.o⟩
         ·obtain rfl:k=lv.length:=by omega
          have iZ:aY (oD ⟨ns,cs⟩ lv=true):=ob0 HV.o Jw.o AL.o C1.o HA.o;go_wp2_with fail;go_ret;exact⟨by rw[iZ.out];rfl,BF3.o⟩
  ·have q1:((lv.length:Int)!=(ns.length:Int))=true:=by simp;omega
   have iZ:=aA (ob2 (p:=⟨ns,cs⟩) (lv:=lv) yZ);clear yZ;go_wp2_with fail;go_ret;exact⟨by rw[iZ.out];rfl,BF2.o⟩
 ·have iZ:=aA (ob1 (lv:=lv) hv);have q1:(fT ⟨ns,cs⟩!=0)=true:=by simpa using hv
  go_enter func114,ntmps114;go_wp2_with fail
  rw[Bf.o];refine(zN ⟨ns,cs⟩ An Ac cn cc _ hl DN HW.o H1.o).mono ?_;rintro e w2 ⟨rfl,wN⟩;obtain⟨u0,u1,u2,sz2,bw2⟩:=KC.o w2 wN;have BF2:=aA bw2;generalize fT ⟨ns,cs⟩=vv at *;clear wN bw2 s0 s1 s2 hv;go_wp2_with fail;go_ret;exact⟨by rw[iZ.out];rfl,BF2.o⟩
end
section
structure KB(B:Nat)(X:List Nat)(w w':aG):Prop where
 os:w'.os=w.os
 tape:w'.tape=w.tape
 output:w'.output=w.output
 size:w.heap.size<=w'.heap.size
 block:∀i,i<B->i∉X->w'.heap[i]?=w.heap[i]?
section
variable{B:Nat}{X:List Nat}{w w' w'':aG}
theorem KB.refl(B:Nat)(X:List Nat)(w:aG):KB B X w w:=⟨rfl,rfl,rfl,aC _,fun _ _ _=>rfl⟩
theorem KB.grown{row:Option Nat}(h:KB B X w w')(hB:B<=w.heap.size)(hg:w'.grownBy w'' row)(hr:∀g,row=az g->g∈X\/B<=g):KB B X w w'':=
 ⟨hg.os.trans h.os,hg.tape.trans h.tape,hg.output.trans h.output,dZ h.size hg.size,fun i hi hx=>(hg.block i (by have:=h.size;omega) (fun e=>by
  rcases hr i e.symm with h1|h1
  ·exact hx h1
  ·omega)).trans (h.block i hi hx)⟩
theorem KB.alloc(h:KB B X w w')(hB:B<=w.heap.size)(o:Obj):KB B X w (w'.alloc o):=h.grown hB (World.grownBy_alloc w' o aj) (fun g e=>by cases e)
theorem KB.below(h:KB B X w w')(hB:B<=w.heap.size)(hb:aN w'.heap.size w' w''):KB B X w w'':=h.grown hB (Bp hb aj) (fun g e=>by cases e)
theorem KB.setCell(h:KB B X w w')(hB:B<=w.heap.size){p:fA}(hp:p.block∈X\/B<=p.block)(v:aI):KB B X w (w'.setCell p v):=
 ⟨h.os,h.tape,h.output,by simpa[iK]using h.size,fun i hi hx=>(nz w' p v i (by
  rintro rfl;rcases hp with h1|h1
  ·exact hx h1
  ·omega)).trans (h.block i hi hx)⟩
theorem KB.drewN(h:KB B X w w')(n:Nat):KB B X w (w'.drewN n):=⟨h.os,h.tape,h.output,h.size,h.block⟩
theorem KB.drew(h:KB B X w w'):KB B X w w'.drew:=⟨h.os,h.tape,h.output,h.size,h.block⟩
theorem KB.JA{g:Nat}{t:dL}{cs:Array aI}(h:KB B X w w')(hb:dh w g t cs)(hg:g<B)(hx:g∉X):dh w' g t cs:=(h.block g hg hx).trans hb
theorem KB.toBelow{A:Nat}(h:KB B X w w')(hA:A<=B)(hX:∀g∈X,A<=g):aN A w w':=⟨h.os,h.tape,h.output,h.size,fun i hi=>h.block i (by omega) (fun hm=>by have:=hX i hm;omega)⟩
end
def ptr(b:Nat):aI:=au (az ⟨b,0,aj⟩)
end
section
theorem dh.one{w:aG}{g:Nat}{t:dL}{v:aI}(h:dh w g t #[v]):w.cell? ⟨g,0,aj⟩=az v/\w.frozen? ⟨g,0,aj⟩=false:=⟨by rw[h.cell];rfl,h.frozen 0⟩
theorem dh.set0{w:aG}{g:Nat}{t:dL}{v:aI}(h:dh w g t #[v])(u:aI):dh (w.setCell ⟨g,0,aj⟩ u) g t #[u]:=by have:=h.jd 0 u;simpa using this
theorem Ng{W:aG}{base:Nat}{e:dL}{size:Nat}{v:aI}{k:Nat}{xs:List aI}(hk:0<k)(h:W.ownsRow base e size v k xs):∃g cap,v=ay (az ⟨g,0,aj⟩) k cap:=by
 rcases h.2 with⟨_,h0⟩|⟨g,cap,_,rfl,_⟩
 ·omega
 ·exact⟨g,cap,rfl⟩
end
section
abbrev awL:=List Int×List Int
def kE(x:Cb)(node:Int):Int×Bool:=if node=x.a then(x.b,true)else if node=x.b then(x.a,true)else(0,false)
theorem Xv(x:Cb)(node:Int)(w:aG):Calls aH 117 #[.agg #[ah ag x.a,ah ag x.ap,ah ag x.b,ah ag x.bp,ah ag x.dl,ah ag x.cp],ah ag node] w fun e w'=>e=ax (.tuple #[ah ag (kE x node).1,.bool (kE x node).2])/\aN w.heap.size w w':=by
 obtain⟨xa,qF,xb,qO,xd,xc⟩:=x;simp only;have B:aY (aN w.heap.size w (w.alloc (af #[ah ag xa,ah ag qF,ah ag xb,ah ag qO,ah ag xd,ah ag xc] 86))):=(aQ _ _).alloc (aC _) _;cases h1:node==xa with
 |true=>
  have F:aY (kE ⟨xa,qF,xb,qO,xd,xc⟩ node=(xb,true)):=by rw[aY];unfold kE;rw[if_pos (by simpa using h1)]
  go_enter func117,ntmps117;go_wp2_with fail
  go_ret2;exact⟨by rw[F.o];rfl,B.o⟩
 |false=>
  cases h2:node==xb with
  |true=>have F:aY (kE ⟨xa,qF,xb,qO,xd,xc⟩ node=(xa,true)):=(by rw[aY];unfold kE;rw[if_neg (by simpa using h1),if_pos (by simpa using h2)]);go_enter func117,ntmps117;go_wp2_with fail;go_ret2;exact⟨by rw[F.o];rfl,B.o⟩
  |false=>have F:aY (kE ⟨xa,qF,xb,qO,xd,xc⟩ node=(0,false)):=(by rw[aY];unfold kE;rw[if_neg (by simpa using h1),if_neg (by simpa using h2)]);go_enter func117,ntmps117;go_wp2_with fail;go_ret2;exact⟨by rw[F.o];rfl,B.o⟩
end
end Go.Proofs.YtnjjkgjdhljfnaaGreat
