/- Part 18 of the proof of fabricErrors.proved: R14b. Several texts in one, blanks struck, what is not used left out. -/
import Derived.BigQuiet
import Derived.Deep.QuietTactic
import Derived.Laws.StructEq
import Derived.Test.YtnjjkgjdhljfnaaGreatPk1
set_option maxRecDepth 100000
set_option maxHeartbeats 16000000
set_option linter.unusedVariables false
set_option linter.unusedSimpArgs false
namespace Go.Proofs.YtnjjkgjdhljfnaaGreat
open Go.RowKit Go.Maps
theorem bdrewN{B:Nat}{a w:World}(h:Below B a w)(n:Nat):Below B a (w.drewN n):=⟨h.os,h.tape,h.output,h.size,h.block⟩
theorem r14name_any(s:ByteArray)(w:World):Calls Tryz.prog 43 #[.string s] w fun e w'=>e=.returned (.bool (okName s))∧w=w':=by
 by_cases h1:s.size<1
 ·have hf:okName s=false:=by simp[okName];omega
  have HF:=Lib.hid hf;clear hf
  go_enter Tryz.func43,Tryz.ntmps43
  go_wp2
  go_ret
  exact⟨by rw[HF.out];rfl,rfl⟩
 by_cases h2:20<s.size
 ·have hf:okName s=false:=by simp[okName];omega
  have HF:=Lib.hid hf;clear hf
  go_enter Tryz.func43,Tryz.ntmps43
  go_wp2
  go_ret
  exact⟨by rw[HF.out];rfl,rfl⟩
 have hs:okName s=okTo s s.size:=by unfold okName okTo;rw[decide_eq_true (by omega:1≤s.size),decide_eq_true (by omega:s.size≤20)];rfl
 have HS:=Lib.hid hs;clear hs
 go_enter Tryz.func43,Tryz.ntmps43
 go_wp2
 go_loop [3] (fun i=>∃k:Nat,k≤s.size∧i=.int .i64 k∧okTo s k=true) (fun i=>s.size-(intOf i).toNat)
 case atStart=>exact⟨0,Nat.zero_le _,rfl,rfl⟩
 case round=>
  obtain⟨k,hk,rfl,hok⟩:=hrel;have HOK:=Lib.hid hok;clear hok;by_cases hlt:k<s.size
  ·have OS:Hid (okTo s (k+1)=okByte k s[k]):=by rw[Hid,okTo_succ,HOK.out,byte_at s k hlt];rfl
   have OB:=Lib.hid (okByte_iff k s[k]);by_cases hl:97≤(s[k].toNat:Int)∧(s[k].toNat:Int)≤122
   ·have fin:Hid (okTo s (k+1)=true):=by rw[Hid,OS.out,OB.out,decide_eq_true (.inl hl)]
    clear OS OB HOK;obtain⟨l1,l2⟩:=hl
    go_wp2
    all_goals
     go_round
     case rel=>exact⟨k+1,by omega,by go_num,fin.out⟩
     case measure=>simp[intOf];omega
   ·by_cases hd:k≠0∧48≤(s[k].toNat:Int)∧(s[k].toNat:Int)≤57
    ·have fin:Hid (okTo s (k+1)=true):=by rw[Hid,OS.out,OB.out,decide_eq_true (.inr hd)]
     clear OS OB HOK;obtain⟨d0,d1,d2⟩:=hd;have hk0:((k:Int)==0)=false:=by rw[beq_eq_false_iff_ne];omega
     have l1:(s[k].toNat:Int)<97:=(by omega);clear hl d0
     go_wp2
     all_goals
      go_round
      case rel=>exact⟨k+1,by omega,by go_num,fin.out⟩
      case measure=>simp[intOf];omega
    ·have fin:Hid (okName s=false):=by
      rw[Hid,HS.out];refine okTo_mono s (k+1) ?_ _ (by omega);rw[OS.out,OB.out,decide_eq_false (by omega)]
     clear OS OB HOK HS;by_cases hk0:k=0
     ·have q0:((k:Int)==0)=true:=by rw[hk0];rfl
      rcases(by omega:(s[k].toNat:Int)<97∨(97≤(s[k].toNat:Int)∧122<(s[k].toNat:Int)))with l1|⟨l1,l2⟩<;>clear hl hd hk0
      all_goals
       try(have b2:decide ((s[k].toNat:Int)≤122)=false:=decide_eq_false (by omega))
       go_wp2
       all_goals
        go_ret
        exact⟨by rw[fin.out];rfl,rfl⟩
     ·have q0:((k:Int)==0)=false:=by rw[beq_eq_false_iff_ne];omega
      rcases(by omega:((s[k].toNat:Int)<97∧(s[k].toNat:Int)<48)∨((s[k].toNat:Int)<97∧48≤(s[k].toNat:Int)∧57<(s[k].toNat:Int))∨(97≤(s[k].toNat:Int)∧122<(s[k].toNat:Int)))with⟨l1,l2⟩|⟨l1,l2,l3⟩|⟨l1,l2⟩<;>clear hl hd hk0
      all_goals
       try(have b2:decide ((s[k].toNat:Int)≤122)=false:=decide_eq_false (by omega))
       try(have b3:decide ((s[k].toNat:Int)≤57)=false:=decide_eq_false (by omega))
       go_wp2
       all_goals
        go_ret
        exact⟨by rw[fin.out];rfl,rfl⟩
  ·have e:k=s.size:=by omega
   have fin:Hid (okName s=true):=(by rw[Hid,HS.out,←e,HOK.out]);clear e HOK HS
   go_wp2
   go_ret
   exact⟨by rw[fin.out];rfl,rfl⟩
theorem place_any(p:Pl)(An Ac:Option Addr)(cn cc:Nat)(node port:Int)(w:World)(hl:p.ns.length≤1000000)(h:IsPlan w An Ac p):Calls Tryz.prog 44 #[.agg #[.slice An p.ns.length cn,.slice Ac p.cs.length cc],.int .i64 node,.int .i64 port] w fun e w'=>e=.returned (.bool (hasPort p.ns node port))∧w.alloc (.cells #[.slice An p.ns.length cn,.slice Ac p.cs.length cc] 25)=w':=by
 have H:=Lib.hid (h.alloc (.cells #[.slice An p.ns.length cn,.slice Ac p.cs.length cc] 25)).1;clear h;by_cases h1:0≤node
 ·by_cases h2:node<p.ns.length
  ·by_cases h3:0≤port
   ·have hf:Hid (hasPort p.ns node port=decide (port<(p.ns.getD node.toNat nd0).ports)):=by simp[Hid,hasPort,h1,h2,h3]
    obtain⟨k,rfl⟩:∃k:Nat,node=k:=⟨node.toNat,by omega⟩;obtain⟨b,off,ha,hb,hm,c0,c1,c2⟩:=node_at H.out k (by omega);rw[Int.toNat_natCast]at hf;generalize p.ns.getD k nd0=x at *;generalize hq:p.ns.length=ln at *;clear hq;subst ha
    go_enter Tryz.func44,Tryz.ntmps44
    go_wp2
    go_ret
    refine⟨?_,rfl⟩;rw[hf.out];rfl
   ·have hf:Hid (hasPort p.ns node port=false):=by simp[Hid,hasPort,h1,h2,h3]
    go_enter Tryz.func44,Tryz.ntmps44
    go_wp2
    go_ret
    exact⟨by rw[hf.out];rfl,rfl⟩
  ·have hf:Hid (hasPort p.ns node port=false):=by simp[Hid,hasPort,h1,h2]
   go_enter Tryz.func44,Tryz.ntmps44
   go_wp2
   go_ret
   exact⟨by rw[hf.out];rfl,rfl⟩
 ·have hf:Hid (hasPort p.ns node port=false):=by simp[Hid,hasPort,h1]
  go_enter Tryz.func44,Tryz.ntmps44
  go_wp2
  go_ret
  exact⟨by rw[hf.out];rfl,rfl⟩
theorem place_any2(ns:List Nd)(cs:List Cb)(An Ac:Option Addr)(cn cc:Nat)(node port:Int)(w:World)(hl:ns.length≤1000000)(h:IsPlan w An Ac ⟨ns,cs⟩)(r:Bool)(hr:hasPort ns node port=r)(ob:Obj)(hob:Obj.cells #[.slice An ns.length cn,.slice Ac cs.length cc] 25=ob):Calls Tryz.prog 44 #[.agg #[.slice An ns.length cn,.slice Ac cs.length cc],.int .i64 node,.int .i64 port] w fun e w'=>e=.returned (.bool r)∧w.alloc ob=w':=by subst hr;subst hob;exact place_any ⟨ns,cs⟩ An Ac cn cc node port w hl h
end Go.Proofs.YtnjjkgjdhljfnaaGreat
namespace Go.Proofs.YtnjjkgjdhljfnaaGreat
open Go.RowKit Go.Maps
def RelV14_1(ns:List Nd)(w1:World)(i:Value)(wr:World):Prop:=
 ∃k:Nat,k≤ns.length∧i=.int .i64 k∧twTo sameName nd0 ns k=false∧Below w1.heap.size w1 wr
def RelV14_2(ns:List Nd)(j:Nat)(w1:World)(i:Value)(wr:World):Prop:=
 ∃k:Nat,k≤j∧i=.int .i64 k∧((ns.take k).any fun y=>sameName y (ns.getD j nd0))=false∧Below w1.heap.size w1 wr
theorem any_take_snoc{α:Type}(f:α→Bool)(d:α)(l:List α)(k:Nat)(h:k<l.length):(l.take (k+1)).any f=((l.take k).any f||f (l.getD k d)):=by rw[take_snocG d l k h,List.any_append];simp
theorem any_take_mono{α:Type}(f:α→Bool)(l:List α){k n:Nat}(h:(l.take k).any f=true)(hn:k≤n):(l.take n).any f=true:=by rw[List.any_eq_true]at h⊢;obtain⟨x,hx,hf⟩:=h;refine⟨x,?_,hf⟩;rw[List.mem_take_iff_getElem]at hx⊢;obtain⟨i,hi,e⟩:=hx;exact⟨i,by omega,e⟩
theorem infoArr2:(Tryz.prog.info? 73).map (fun i=>(i.zero,i.size,i.bytes))=some (some (.agg #[.int .i64 0,.int .i64 0]),2,16):=by kernel_rfl
def cP(x:Int×Int):List Value:=[.int .i64 x.1,.int .i64 x.2]
theorem cP_length(x:Int×Int):(cP x).length=2:=rfl
theorem ends_snoc(cs:List Cb)(k:Nat)(h:k<cs.length):endsOf (cs.take (k+1))=endsOf (cs.take k)++[((cs.getD k cb0).a,(cs.getD k cb0).ap),((cs.getD k cb0).b,(cs.getD k cb0).bp)]:=by unfold endsOf;rw[take_snocG cb0 cs k h,List.flatMap_append];simp
theorem ends_len(cs:List Cb):(endsOf cs).length=2*cs.length:=by
 unfold endsOf
 induction cs with
 |nil=>rfl
 |cons x l ih=>rw[List.flatMap_cons,List.length_append,ih];simp;omega
def RelV14_3(cs:List Cb)(w1:World)(v i:Value)(wr:World):Prop:=
 ∃k:Nat,k≤cs.length∧i=.int .i64 k∧wr.ownsRow w1.heap.size 73 2 v (endsOf (cs.take k)).length ((endsOf (cs.take k)).flatMap cP)∧Below w1.heap.size w1 wr
def RelV14_4(es:List (Int×Int))(w1:World)(i:Value)(wr:World):Prop:=
 ∃k:Nat,k≤es.length∧i=.int .i64 k∧twTo samePair (0,0) es k=false∧Below w1.heap.size w1 wr
def RelV14_5(es:List (Int×Int))(j:Nat)(w1:World)(i:Value)(wr:World):Prop:=
 ∃k:Nat,k≤j∧i=.int .i64 k∧((es.take k).any fun y=>samePair y (es.getD j (0,0)))=false∧Below w1.heap.size w1 wr
theorem eqArr2(a b c d:Int)(w:World):(Op.equalIn 10000 73 (.agg #[.int .i64 a,.int .i64 b]) (.agg #[.int .i64 c,.int .i64 d])).run Tryz.prog w=.ok (a==c&&b==d) w:=by have u3:=Tryz.underlying3;have a3:=Tryz.isAgg3;have z3:=Tryz.sizeOf3;rw[show(10000:Nat)=9999+1 from rfl,Op.equalIn];simp only[Sem.run_bind,run_underlying Tryz.underlying73,Result.andThen_ok];simp only[Std.Legacy.Range.forIn_eq_forIn_range',Std.Legacy.Range.size,Nat.sub_zero,Nat.add_sub_cancel,Nat.div_one,List.range'_succ,List.range'_zero,List.forIn_cons,List.forIn_nil];go_simp;by_cases h1:a=c<;>by_cases h2:b=d<;>simp[h1,h2]
theorem pair_at{w:World}{A:Option Addr}{len:Nat}{es:List (Int×Int)}(h:IsRec 2 cP (0,0) w A len es)(k:Nat)(hk:k<len):∃b off,A=some ⟨b,off,none⟩∧b<w.heap.size∧w.cell? ⟨b,off+k*2,none⟩=some (.int .i64 (es.getD k (0,0)).1)∧w.cell? ⟨b,off+k*2+1,none⟩=some (.int .i64 (es.getD k (0,0)).2):=by obtain⟨b,off,ha,hb,hc⟩:=h.2 (by omega);exact⟨b,off,ha,hb,hc k 0 hk (by omega),hc k 1 hk (by omega)⟩
theorem twice_any(p:Pl)(An Ac:Option Addr)(cn cc:Nat)(w:World)(hl:p.ns.length≤1000000)(hl2:p.cs.length≤1000000)(h:IsPlan w An Ac p):Calls Tryz.prog 45 #[.agg #[.slice An p.ns.length cn,.slice Ac p.cs.length cc]] w fun e w'=>e=.returned (.bool (repeatsB p))∧Below w.heap.size w w':=by
 obtain⟨ns,cs⟩:=p;simp only at hl hl2⊢;obtain⟨w1,hw1⟩:∃w1:World,w.alloc (.cells #[.slice An ns.length cn,.slice Ac cs.length cc] 25)=w1:=⟨_,rfl⟩;have s0:w1.cell? ⟨w.heap.size,0,none⟩=some (.slice An ns.length cn):=by rw[←hw1];simp[go_sem]
 have s1:w1.cell? ⟨w.heap.size,1,none⟩=some (.slice Ac cs.length cc):=by rw[←hw1];simp[go_sem]
 have sz1:w.heap.size<w1.heap.size:=by rw[←hw1];simp
 have BW0:Below w.heap.size w w1:=by rw[←hw1];exact(Below.refl _ _).alloc (Nat.le_refl _) _
 have BW:=Lib.hid BW0;have H1:=Lib.hid (h.below (Nat.le_refl _) BW0);have HW1:=Lib.hid hw1;have KC:Hid (∀w',Below w1.heap.size w1 w'→w'.cell? ⟨w.heap.size,0,none⟩=some (.slice An ns.length cn)∧w'.cell? ⟨w.heap.size,1,none⟩=some (.slice Ac cs.length cc)∧w.heap.size<w'.heap.size∧Below w.heap.size w w'):=
  fun w' hb=>⟨(hb.cell (by exact sz1)).trans s0,(hb.cell (by exact sz1)).trans s1,by have:=hb.size;omega,BW0.trans (hb.mono (by omega))⟩
 clear h hw1 BW0
 go_enter Tryz.func45,Tryz.ntmps45
 go_wp2_with fail
 rw[HW1.out]
 go_loopw [3] (fun i wr=>RelV14_1 ns w1 i wr) (fun i _=>ns.length-(RowKit.intOf i).toNat)
 case atStart=>exact⟨0,Nat.zero_le _,rfl,rfl,Below.refl _ _⟩
 case round=>
  clear s0 s1;obtain⟨k,hk,rfl,htw,bel⟩:=hrel;have HT:=Lib.hid htw;have BE:=Lib.hid bel;clear htw;obtain⟨u0,u1,sz2,bw2⟩:=KC.out wr bel;by_cases hkr:k<ns.length
  ·have TS:=Lib.hid (twTo_succ sameName nd0 ns k);obtain⟨w2,rfl⟩:∃w2:World,w2=wr:=⟨_,rfl⟩;clear bw2 bel
   go_wp2_with fail
   go_loopw [4] (fun i wr=>RelV14_2 ns k w2 i wr) (fun i _=>k-(RowKit.intOf i).toNat)
   case atStart=>exact⟨0,Nat.zero_le _,rfl,rfl,Below.refl _ _⟩
   case round=>
    clear u0 u1;obtain⟨j,hj,rfl,han,bel⟩:=hrel;have HN:=Lib.hid han;clear han;have B3:=Lib.hid (BE.out.trans (bel.mono BE.out.size));obtain⟨u0,u1,sz3,bw3⟩:=KC.out wr B3.out;by_cases hjr:j<k
    ·have hjn:j<ns.length:=by omega
     obtain⟨bb,off,ha,hbb,hmem,c0,_,_⟩:=node_at (H1.out.below (Nat.le_refl _) B3.out).1 k hkr;obtain⟨bb2,off2,ha2,_,_,e0,_,_⟩:=node_at (H1.out.below (Nat.le_refl _) B3.out).1 j hjn;rw[ha]at ha2;injection ha2 with ha2;injection ha2 with h1 h2;subst h1;subst h2;subst ha;have AS:=Lib.hid (any_take_snoc (fun y=>sameName y (ns.getD k nd0)) nd0 ns j hjn);have DF:Hid (sameName (ns.getD j nd0) (ns.getD k nd0)=((ns.getD j nd0).name.data.toList==(ns.getD k nd0).name.data.toList)):=rfl;generalize hgx:(ns.getD k nd0)=x at *;generalize(ns.getD j nd0)=y at *;have HX:=Lib.hid hgx;clear hgx;generalize x.name=xn at *;generalize y.name=yn at *;have i1:(0:Int)≤(k:Int):=(by omega);have i2:(k:Int)<(ns.length:Int):=(by omega);have i3:(0:Int)≤(j:Int):=(by omega);have i4:(j:Int)<(ns.length:Int):=(by omega);clear hmem;by_cases hxy:xn.data.toList=yn.data.toList
     ·have q1:(xn.toList==yn.toList)=true:=by rw[ByteArray.toList_eq,ByteArray.toList_eq,hxy];simp
      have FIN:Hid (repeatsB ⟨ns,cs⟩=true):=(by have e1:twTo sameName nd0 ns (k+1)=true:=(by rw[TS.out];have:((ns.take k).any fun z=>sameName z x)=true:=any_take_mono _ _ (k:=j+1) (by rw[AS.out,DF.out,hxy];simp) (by omega);rw[this];simp);rw[Hid];unfold repeatsB twiceB;rw[twTo_mono sameName nd0 ns (k+1) e1 _ (by show k+1≤ns.length;omega)];rfl);clear hxy AS DF TS HT HN;have BF:=Lib.hid bw3
      go_wp2_with fail
      go_quiet (fail)
      go_wp2_with fail
      go_ret
      exact⟨by rw[FIN.out];rfl,bdrewN BF.out _⟩
     ·have q1:(xn.toList==yn.toList)=false:=by rw[ByteArray.toList_eq,ByteArray.toList_eq];simpa using hxy
      have R:Hid (((ns.take (j+1)).any fun z=>sameName z x)=false):=(by have h2:(yn.data.toList==xn.data.toList)=false:=beq_eq_false_iff_ne.2 (fun e=>hxy e.symm);rw[Hid,AS.out,HN.out,DF.out,h2];rfl);clear hxy AS DF
      go_wp2_with fail
      go_quiet (fail)
      go_wp2_with fail
      exact⟨⟨j+1,by omega,by simp,by rw[HX.out];exact R.out,bdrewN bel _⟩,by simp[RowKit.intOf];omega⟩
    ·obtain rfl:j=k:=by omega
     have R:Hid (RelV14_1 ns w1 (.int .i64 ((j+1:Nat):Int)) wr):=⟨j+1,by omega,rfl,by rw[TS.out,HT.out,HN.out];rfl,B3.out⟩;clear TS HT HN bw3
     go_wp2_with fail
     exact⟨by simpa using R.out,by simp[RowKit.intOf];omega⟩
  ·obtain rfl:k=ns.length:=by omega
   clear bw2;obtain⟨w2,rfl⟩:∃w2:World,w2=wr:=⟨_,rfl⟩;obtain⟨i0,hi0,hz0,hz1,hz2⟩:=info_parts infoArr2
   go_wp2_with fail
   go_loopw [5,6] (fun v i wr=>RelV14_3 cs w2 v i wr) (fun _ i _=>cs.length-(RowKit.intOf i).toNat)
   case atStart=>exact⟨0,Nat.zero_le _,rfl,World.ownsRow_nil _ _ _ _,Below.refl _ _⟩
   case round=>
    clear u0 u1 bel;obtain⟨k,hk,rfl,own,bel⟩:=hrel;have bs:=bel.size;have B3:=Lib.hid (BE.out.trans (bel.mono BE.out.size));obtain⟨u0,u1,sz3,bw3⟩:=KC.out wr B3.out;clear bw3;by_cases hkr:k<cs.length
    ·obtain⟨bb,off,ha,hbb,hmem,c0,c1,c2,c3,c4,c5⟩:=cable_at (H1.out.below (Nat.le_refl _) B3.out).2 k hkr;have ES:=Lib.hid (ends_snoc cs k hkr);have EL:(endsOf (cs.take k)).length≤2*k:=(by have:=ends_len (cs.take k);rw[List.length_take]at this;omega);generalize cs.getD k cb0=x at *;subst ha;obtain⟨xa,xap,xb,xbp,xdl,xcp⟩:=x;simp only at c0 c1 c2 c3 c4 c5;have OG:Hid (∀g,u5.ownBlock=some g→w2.heap.size≤g):=fun g e=>(own.lt g e).1;clear hmem;generalize endsOf (cs.take k)=xs at *
     go_wp2_with (at_builtin;refine wpList_append_own _ rfl _ _ 179 rfl w2.heap.size 73 i0 _ 2 16 Tryz.underlying179 hi0 hz0 hz1 hz2 rfl (by decide) _ _ _ rfl ((own.alloc _).alloc _) ⟨wr.heap.size+1,0,none⟩ 2 2 [.int .i64 xa,.int .i64 xap,.int .i64 xb,.int .i64 xbp] rfl rfl (World.news_of_block (cs:=#[.int .i64 xa,.int .i64 xap,.int .i64 xb,.int .i64 xbp]) (t:=73) (fr:=(0,0)) (by have h:=heap_alloc_new (wr.alloc (.cells #[.int .i64 xa,.int .i64 xap,.int .i64 xb,.int .i64 xbp,.int .i64 xdl,.int .i64 xcp] 86)) (.cells #[.int .i64 xa,.int .i64 xap,.int .i64 xb,.int .i64 xbp] 73);simpa using h)) ?n2 ?n3 ?n4 ?n5 ?_)
     case n2=>exact⟨rfl,rfl,rfl,rfl⟩
     case n3=>unfold maxLen;omega
     case n4=>omega
     case n5=>first|omega|(simp;omega)
     intro v' w4 own4 gr4 _;have R:RelV14_3 cs w2 v' (.int .i64 ((k+1:Nat):Int)) w4:=by
      refine⟨k+1,by omega,rfl,?_,?_⟩
      ·rw[ES.out,List.length_append,List.flatMap_append];exact own4
      ·exact((bel.alloc bs _).alloc (by simp;omega) _).grown gr4 (by simp;omega) OG.out
     clear own4 gr4 own
     go_wp2
     exact⟨by simpa using R,by simp[RowKit.intOf];omega⟩
    ·obtain rfl:k=cs.length:=by omega
     rw[List.take_length]at own;obtain⟨ae,ce,hve,_,hrec,_⟩:=rec_of_own (d:=((0:Int),(0:Int))) cP_length (by decide) own;rw[hve];have HRE:=Lib.hid hrec;have EL:(endsOf cs).length≤2000000:=by rw[ends_len];omega
     have N1:Hid (twiceB sameName nd0 ns=false):=HT.out;have RB:Hid (repeatsB ⟨ns,cs⟩=twiceB samePair (0,0) (endsOf cs)):=(by rw[Hid];unfold repeatsB;rw[show(Pl.mk ns cs).ns=ns from rfl,N1.out];rfl);clear hrec own hve hi0 hz0 hz1 hz2 N1 HT hkr hk;generalize endsOf cs=es at *;obtain⟨w4,rfl⟩:∃w4:World,w4=wr:=⟨_,rfl⟩
     go_wp2_with fail
     go_loopw [8] (fun i wr=>RelV14_4 es w4 i wr) (fun i _=>es.length-(RowKit.intOf i).toNat)
     case atStart=>exact⟨0,Nat.zero_le _,rfl,rfl,Below.refl _ _⟩
     case round=>
      clear u0 u1 bel;obtain⟨k,hk,rfl,htw,bel⟩:=hrel;have HT:=Lib.hid htw;have BE4:=Lib.hid bel;have BF4:Hid (Below w.heap.size w wr):=(KC.out wr (B3.out.trans (bel.mono B3.out.size))).2.2.2;clear htw;by_cases hkr:k<es.length
      ·have TS:=Lib.hid (twTo_succ samePair (0,0) es k);obtain⟨w5,rfl⟩:∃w5:World,w5=wr:=⟨_,rfl⟩;clear bel
       go_wp2_with fail
       go_loopw [9] (fun i wr=>RelV14_5 es k w5 i wr) (fun i _=>k-(RowKit.intOf i).toNat)
       case atStart=>exact⟨0,Nat.zero_le _,rfl,rfl,Below.refl _ _⟩
       case round=>
        obtain⟨j,hj,rfl,han,bel⟩:=hrel;have HN:=Lib.hid han;clear han;have B6:=Lib.hid (BE4.out.trans (bel.mono BE4.out.size));have BF6:=Lib.hid (BF4.out.trans (bel.mono BF4.out.size));by_cases hjr:j<k
        ·have hjn:j<es.length:=by omega
         obtain⟨bb,off,ha,hbb,c0,c1⟩:=pair_at (HRE.out.below (Nat.le_refl _) B6.out) k hkr;obtain⟨bb2,off2,ha2,_,e0,e1⟩:=pair_at (HRE.out.below (Nat.le_refl _) B6.out) j hjn;rw[ha]at ha2;injection ha2 with ha2;injection ha2 with h1 h2;subst h1;subst h2;subst ha;have AS:=Lib.hid (any_take_snoc (fun y=>samePair y (es.getD k (0,0))) (0,0) es j hjn);generalize hgx:es.getD k (0,0)=x at *;generalize es.getD j (0,0)=y at *;have HX:=Lib.hid hgx;clear hgx;obtain⟨x0,x1⟩:=x;obtain⟨y0,y1⟩:=y;simp only at c0 c1 e0 e1;have i1:(0:Int)≤(k:Int):=(by omega);have i2:(k:Int)<(es.length:Int):=(by omega);have i3:(0:Int)≤(j:Int):=(by omega);have i4:(j:Int)<(es.length:Int):=(by omega);have heq:=eqArr2 x0 x1 y0 y1;cases hq:(x0==y0&&x1==y1)with
         |true=>
          rw[hq]at heq;have FIN:Hid (repeatsB ⟨ns,cs⟩=true):=by
           have he1:twTo samePair (0,0) es (k+1)=true:=by
            rw[TS.out];have:((es.take k).any fun z=>samePair z (x0,x1))=true:=any_take_mono _ _ (k:=j+1) (by
             rw[AS.out];have h2:samePair (y0,y1) (x0,x1)=true:=by unfold samePair;simp only[Bool.and_eq_true,beq_iff_eq]at hq⊢;exact⟨hq.1.symm,hq.2.symm⟩
             rw[h2];simp) (by omega)
            rw[this];simp
           rw[Hid,RB.out];unfold twiceB;exact twTo_mono samePair (0,0) es (k+1) he1 _ (by omega)
          clear hq AS TS HT HN
          go_wp2_with fail
          go_quiet (fail)
          go_wp2_with fail
          go_ret
          exact⟨by rw[FIN.out];rfl,bdrewN BF6.out _⟩
         |false=>
          rw[hq]at heq;have R:Hid (((es.take (j+1)).any fun z=>samePair z (es.getD k (0,0)))=false):=by have h2:samePair (y0,y1) (x0,x1)=false:=(by unfold samePair;rw[Bool.eq_false_iff]at hq⊢;intro h3;simp only[Bool.and_eq_true,beq_iff_eq]at h3;exact hq (by simp[h3.1,h3.2]));rw[Hid,HX.out,AS.out,h2];have:=HN.out;rw[this];rfl
          clear hq AS
          go_wp2_with fail
          go_quiet (fail)
          go_wp2_with fail
          exact⟨⟨j+1,by omega,by simp,R.out,bdrewN bel _⟩,by simp[RowKit.intOf];omega⟩
        ·obtain rfl:j=k:=by omega
         have R:Hid (RelV14_4 es w4 (.int .i64 ((j+1:Nat):Int)) wr):=⟨j+1,by omega,rfl,by rw[TS.out,HT.out,HN.out];rfl,B6.out⟩;clear TS HT HN
         go_wp2_with fail
         exact⟨by simpa using R.out,by simp[RowKit.intOf];omega⟩
      ·obtain rfl:k=es.length:=by omega
       have FIN:Hid (repeatsB ⟨ns,cs⟩=false):=(by rw[Hid,RB.out];exact HT.out);clear HT
       go_wp2_with fail
       go_ret
       exact⟨by rw[FIN.out];rfl,BF4.out⟩
end Go.Proofs.YtnjjkgjdhljfnaaGreat
namespace Go.Proofs.YtnjjkgjdhljfnaaGreat
open Go.RowKit Go.Maps
theorem r14valid_any(p:Pl)(An Ac:Option Addr)(cn cc:Nat)(w:World)(hl:p.ns.length≤1000000)(hl2:p.cs.length≤1000000)(h:IsPlan w An Ac p):Calls Tryz.prog 12 #[.agg #[.slice An p.ns.length cn,.slice Ac p.cs.length cc]] w fun e w'=>e=.returned (.int .i64 (validP p))∧Below w.heap.size w w':=by
 obtain⟨ns,cs⟩:=p;simp only at hl hl2⊢;obtain⟨w1,hw1⟩:∃w1:World,w.alloc (.cells #[.slice An ns.length cn,.slice Ac cs.length cc] 25)=w1:=⟨_,rfl⟩;have s0:w1.cell? ⟨w.heap.size,0,none⟩=some (.slice An ns.length cn):=by rw[←hw1];simp[go_sem]
 have s1:w1.cell? ⟨w.heap.size,1,none⟩=some (.slice Ac cs.length cc):=by rw[←hw1];simp[go_sem]
 have sz1:w.heap.size<w1.heap.size:=by rw[←hw1];simp
 have BW0:Below w.heap.size w w1:=by rw[←hw1];exact(Below.refl _ _).alloc (Nat.le_refl _) _
 have BW:=Lib.hid BW0;have H1:=Lib.hid (h.below (Nat.le_refl _) BW0);have HW1:=Lib.hid hw1;have KC:Hid (∀w',Below w1.heap.size w1 w'→w'.cell? ⟨w.heap.size,0,none⟩=some (.slice An ns.length cn)∧w'.cell? ⟨w.heap.size,1,none⟩=some (.slice Ac cs.length cc)∧w.heap.size<w'.heap.size∧Below w.heap.size w w'):=
  fun w' hb=>⟨(hb.cell (by exact sz1)).trans s0,(hb.cell (by exact sz1)).trans s1,by have:=hb.size;omega,BW0.trans (hb.mono (by omega))⟩
 clear h hw1 BW0;by_cases h16:16<ns.length
 ·have FIN:=Lib.hid (validP5 (p:=⟨ns,cs⟩) (.inl h16))
  go_enter Tryz.func12,Tryz.ntmps12
  go_wp2_with fail
  rw[HW1.out];go_ret;exact⟨by rw[FIN.out];rfl,BW.out⟩
 by_cases h32:32<cs.length
 ·have FIN:=Lib.hid (validP5 (p:=⟨ns,cs⟩) (.inr h32))
  go_enter Tryz.func12,Tryz.ntmps12
  go_wp2_with fail
  rw[HW1.out];go_ret;exact⟨by rw[FIN.out];rfl,BW.out⟩
 have V:Hid (¬(16<(⟨ns,cs⟩:Pl).ns.length∨32<(⟨ns,cs⟩:Pl).cs.length)):=by
  rintro(h|h)
  ·exact h16 h
  ·exact h32 h
 go_enter Tryz.func12,Tryz.ntmps12
 go_wp2_with fail
 rw[HW1.out]
 go_loopw [3] (fun i wr=>RelAll okNode ns w1.heap.size w1 i wr) (fun i _=>ns.length-(RowKit.intOf i).toNat)
 case atStart=>exact⟨0,Nat.zero_le _,rfl,rfl,Below.refl _ _⟩
 case round=>
  clear s0 s1;obtain⟨k,hk,rfl,hall,bel⟩:=hrel;have bs:=bel.size;have HA:=Lib.hid hall;clear hall;obtain⟨u0,u1,sz2,bw2⟩:=KC.out wr bel;have BW2:=Lib.hid bw2;clear bw2;by_cases hkr:k<ns.length
  ·obtain⟨bb,off,ha,hbb,hmem,c0,c1,c2⟩:=node_at (H1.out.below (Nat.le_refl _) bel).1 k hkr;have AS:=Lib.hid (all_snoc okNode nd0 ns k hkr);have AB:=Lib.hid (all_bad okNode nd0 ns k hkr);generalize ns.getD k nd0=x at *;subst ha;obtain⟨nm,sw,po⟩:=x;simp only at c0 c1 c2;clear hmem;have B3:=Lib.hid (bel.alloc bs (.cells #[.string nm,.bool sw,.int .i64 po] 83));have BF:=Lib.hid (BW2.out.alloc (by omega) (.cells #[.string nm,.bool sw,.int .i64 po] 83));have RR:Hid (okNode ⟨nm,sw,po⟩=true→RelAll okNode ns w1.heap.size w1 (.int .i64 ((k+1:Nat):Int)) (wr.alloc (.cells #[.string nm,.bool sw,.int .i64 po] 83))):=
    fun hx=>⟨k+1,by omega,rfl,by rw[AS.out,HA.out,hx];rfl,B3.out⟩
   have FF:Hid (okNode ⟨nm,sw,po⟩=false→validP ⟨ns,cs⟩=1):=fun hx=>validP1 (p:=⟨ns,cs⟩) V.out (AB.out hx);clear AS AB HA;cases hn:okName nm with
   |false=>
    have FIN:=Lib.hid (FF.out (by simp[okNode,hn]));have HN:=Lib.hid hn;clear hn
    go_wp2_with (go_at_call 43;refine(r14name_any _ _).mono ?_;rintro r w' ⟨rfl,rfl⟩;rw[HN.out])
    go_ret
    exact⟨by rw[FIN.out];rfl,BF.out⟩
   |true=>
    cases sw with
    |true=>
     rcases(by omega:po<1∨(1≤po∧8<po)∨(1≤po∧po≤8))with q1|⟨q1,q2⟩|⟨q1,q2⟩
     ·have FIN:=Lib.hid (FF.out (by simp[okNode,hn];omega));have HN:=Lib.hid hn;clear hn
      go_wp2_with (go_at_call 43;refine(r14name_any _ _).mono ?_;rintro r w' ⟨rfl,rfl⟩;rw[HN.out])
      go_ret
      exact⟨by rw[FIN.out];rfl,BF.out⟩
     ·have FIN:=Lib.hid (FF.out (by simp[okNode,hn];omega));have HN:=Lib.hid hn;clear hn
      go_wp2_with (go_at_call 43;refine(r14name_any _ _).mono ?_;rintro r w' ⟨rfl,rfl⟩;rw[HN.out])
      go_ret
      exact⟨by rw[FIN.out];rfl,BF.out⟩
     ·have R:=Lib.hid (RR.out (by simp[okNode,hn];omega));have HN:=Lib.hid hn;clear hn
      go_wp2_with (go_at_call 43;refine(r14name_any _ _).mono ?_;rintro r w' ⟨rfl,rfl⟩;rw[HN.out])
      exact⟨by simpa using R.out,by simp[RowKit.intOf];omega⟩
    |false=>
     by_cases q1:po=1
     ·have R:=Lib.hid (RR.out (by simp[okNode,hn,q1]));have q2:(po !=1)=false:=by simp[q1]
      have HN:=Lib.hid hn;clear hn q1
      go_wp2_with (go_at_call 43;refine(r14name_any _ _).mono ?_;rintro r w' ⟨rfl,rfl⟩;rw[HN.out])
      exact⟨by simpa using R.out,by simp[RowKit.intOf];omega⟩
     ·have FIN:=Lib.hid (FF.out (by simp[okNode,hn,q1]));have q2:(po !=1)=true:=by simp[q1]
      have HN:=Lib.hid hn;clear hn q1
      go_wp2_with (go_at_call 43;refine(r14name_any _ _).mono ?_;rintro r w' ⟨rfl,rfl⟩;rw[HN.out])
      go_ret
      exact⟨by rw[FIN.out];rfl,BF.out⟩
  ·obtain rfl:k=ns.length:=by omega
   rw[List.take_length]at HA;have BE2:=Lib.hid bel;obtain⟨w2,rfl⟩:∃w2:World,w2=wr:=⟨_,rfl⟩;clear bel
   go_wp2_with fail
   go_loopw [5] (fun i wr=>RelAll (okPorts ns) cs w2.heap.size w2 i wr) (fun i _=>cs.length-(RowKit.intOf i).toNat)
   case atStart=>exact⟨0,Nat.zero_le _,rfl,rfl,Below.refl _ _⟩
   case round=>
    clear u0 u1;obtain⟨k,hk,rfl,hall,belC⟩:=hrel;have bc:=belC.size;have HC:=Lib.hid hall;clear hall;have B3:=Lib.hid (BE2.out.trans (belC.mono BE2.out.size));obtain⟨u0,u1,sz3,bw3⟩:=KC.out wr B3.out;have BW3:=Lib.hid bw3;clear bw3;by_cases hkr:k<cs.length
    ·obtain⟨bb,off,ha,hbb,hmem,c0,c1,c2,c3,c4,c5⟩:=cable_at (H1.out.below (Nat.le_refl _) B3.out).2 k hkr;have AS:=Lib.hid (all_snoc (okPorts ns) cb0 cs k hkr);have AB:=Lib.hid (all_bad (okPorts ns) cb0 cs k hkr);generalize cs.getD k cb0=x at *;have HAn:Hid (IsPlan wr An (some ⟨bb,off,none⟩) ⟨ns,cs⟩):=(by rw[←ha];exact H1.out.below (Nat.le_refl _) B3.out);subst ha;obtain⟨xa,xap,xb,xbp,xdl,xcp⟩:=x;simp only at c0 c1 c2 c3 c4 c5;clear hmem;obtain⟨ob,hob⟩:∃ob,Obj.cells #[Value.slice An ns.length cn,.slice (some ⟨bb,off,none⟩) cs.length cc] 25=ob:=⟨_,rfl⟩;have HOB:=Lib.hid hob;clear hob;cases hx:hasPort ns xa xap with
     |false=>
      have FIN:=Lib.hid (validP2 (p:=⟨ns,cs⟩) V.out HA.out (AB.out (by simp[okPorts,hx])));have HX:=Lib.hid hx;have BF:Hid (Below w.heap.size w ((wr.alloc (.cells #[.int .i64 xa,.int .i64 xap,.int .i64 xb,.int .i64 xbp,.int .i64 xdl,.int .i64 xcp] 86)).alloc ob)):=(BW3.out.alloc (by omega) _).alloc (by simp;omega) _;clear hx AS AB HA HC V
      go_wp2_with fail
      refine(place_any2 ns cs An _ cn cc xa xap _ hl (HAn.out.alloc _) _ HX.out ob HOB.out).mono ?_;rintro r w' ⟨rfl,rfl⟩
      go_wp2_with fail
      go_ret
      exact⟨by rw[FIN.out];rfl,BF.out⟩
     |true=>
      have HX:=Lib.hid hx;have BF:Hid (Below w.heap.size w (((wr.alloc (.cells #[.int .i64 xa,.int .i64 xap,.int .i64 xb,.int .i64 xbp,.int .i64 xdl,.int .i64 xcp] 86)).alloc ob).alloc ob)):=((BW3.out.alloc (by omega) _).alloc (by simp;omega) _).alloc (by simp;omega) _;have BB:Hid (Below w2.heap.size w2 (((wr.alloc (.cells #[.int .i64 xa,.int .i64 xap,.int .i64 xb,.int .i64 xbp,.int .i64 xdl,.int .i64 xcp] 86)).alloc ob).alloc ob)):=((belC.alloc bc _).alloc (by simp;omega) _).alloc (by simp;omega) _;cases hy:hasPort ns xb xbp with
      |false=>
       have FIN:=Lib.hid (validP2 (p:=⟨ns,cs⟩) V.out HA.out (AB.out (by simp[okPorts,hy])));have HY:=Lib.hid hy;clear hx hy AS AB HA HC V
       go_wp2_with fail
       refine(place_any2 ns cs An _ cn cc xa xap _ hl (HAn.out.alloc _) _ HX.out ob HOB.out).mono ?_;rintro r w' ⟨rfl,rfl⟩
       go_wp2_with fail
       refine(place_any2 ns cs An _ cn cc xb xbp _ hl ((HAn.out.alloc _).alloc _) _ HY.out ob HOB.out).mono ?_;rintro r w' ⟨rfl,rfl⟩
       go_wp2_with fail
       go_ret
       exact⟨by rw[FIN.out];rfl,BF.out⟩
      |true=>
       have HY:=Lib.hid hy;have R:Hid (RelAll (okPorts ns) cs w2.heap.size w2 (.int .i64 ((k+1:Nat):Int)) (((wr.alloc (.cells #[.int .i64 xa,.int .i64 xap,.int .i64 xb,.int .i64 xbp,.int .i64 xdl,.int .i64 xcp] 86)).alloc ob).alloc ob)):=
        ⟨k+1,by omega,rfl,by rw[AS.out,HC.out];simp[okPorts,hx,hy],BB.out⟩
       clear hx hy AS AB HA HC V BB
       go_wp2_with fail
       refine(place_any2 ns cs An _ cn cc xa xap _ hl (HAn.out.alloc _) _ HX.out ob HOB.out).mono ?_;rintro r w' ⟨rfl,rfl⟩
       go_wp2_with fail
       refine(place_any2 ns cs An _ cn cc xb xbp _ hl ((HAn.out.alloc _).alloc _) _ HY.out ob HOB.out).mono ?_;rintro r w' ⟨rfl,rfl⟩
       go_wp2_with fail
       exact⟨by simpa using R.out,by simp[RowKit.intOf];omega⟩
    ·obtain rfl:k=cs.length:=by omega
     rw[List.take_length]at HC;have H3:=Lib.hid (H1.out.below (Nat.le_refl _) B3.out);clear belC;cases hr:repeatsB ⟨ns,cs⟩with
     |true=>
      have FIN:=Lib.hid (validP8 (p:=⟨ns,cs⟩) V.out HA.out HC.out hr);have HR:=Lib.hid hr;clear hr V HA HC
      go_wp2_with fail
      refine(twice_any ⟨ns,cs⟩ An Ac cn cc _ hl hl2 H3.out).mono ?_;rintro r w' ⟨rfl,bel3⟩;rw[HR.out];have BF:=Lib.hid (BW3.out.trans (bel3.mono (by omega)));clear bel3
      go_wp2_with fail
      go_ret
      exact⟨by rw[FIN.out];rfl,BF.out⟩
     |false=>
      have HR:=Lib.hid hr;clear hr
      go_wp2_with fail
      refine(twice_any ⟨ns,cs⟩ An Ac cn cc _ hl hl2 H3.out).mono ?_;rintro r w4 ⟨rfl,bel4⟩;rw[HR.out];have B4:=Lib.hid (B3.out.trans (bel4.mono B3.out.size));clear bel4 u0 u1;obtain⟨u0,u1,sz4,bw4⟩:=KC.out w4 B4.out;clear bw4
      go_wp2_with fail
      go_loopw [7] (fun i wr=>RelAll (fun x:Cb=>decide (x.a≠x.b)) cs w4.heap.size w4 i wr) (fun i _=>cs.length-(RowKit.intOf i).toNat)
      case atStart=>exact⟨0,Nat.zero_le _,rfl,rfl,Below.refl _ _⟩
      case round=>
       clear u0 u1;obtain⟨k,hk,rfl,hall,belD⟩:=hrel;have HD:=Lib.hid hall;clear hall;have B5:=Lib.hid (B4.out.trans (belD.mono B4.out.size));obtain⟨u0,u1,sz5,bw5⟩:=KC.out wr B5.out;have BW5:=Lib.hid bw5;clear bw5;by_cases hkr:k<cs.length
       ·obtain⟨bb,off,ha,hbb,hmem,c0,c1,c2,c3,c4,c5⟩:=cable_at (H1.out.below (Nat.le_refl _) B5.out).2 k hkr;have AS:=Lib.hid (all_snoc (fun x:Cb=>decide (x.a≠x.b)) cb0 cs k hkr);have AB:=Lib.hid (all_bad (fun x:Cb=>decide (x.a≠x.b)) cb0 cs k hkr);generalize cs.getD k cb0=x at *;subst ha;obtain⟨xa,xap,xb,xbp,xdl,xcp⟩:=x;simp only at c0 c1 c2 c3 c4 c5;have i1:(0:Int)≤(k:Int):=(by omega);have i2:(k:Int)<(cs.length:Int):=(by omega);clear hmem;by_cases hab:xa=xb
        ·have FIN:=Lib.hid (validP12 (p:=⟨ns,cs⟩) V.out HA.out HC.out HR.out (AB.out (by simp[hab])));have hq:(xa==xb)=true:=by rw[hab];simp
         clear AS AB HA HC HR V HD hab
         go_wp2_with fail
         go_quiet (fail)
         go_wp2_with fail
         go_ret
         exact⟨by rw[FIN.out];rfl,bdrewN BW5.out _⟩
        ·have R:Hid ((((cs.take (k+1)).all fun x:Cb=>decide (x.a≠x.b))=true)):=by rw[Hid,AS.out,HD.out];simp[hab]
         have hq:(xa==xb)=false:=(by rw[beq_eq_false_iff_ne];exact hab);clear AS AB HA HC HR V HD hab
         go_wp2_with fail
         go_quiet (fail)
         go_wp2_with fail
         exact⟨⟨k+1,by omega,by simp,R.out,bdrewN belD _⟩,by simp[RowKit.intOf];omega⟩
       ·obtain rfl:k=cs.length:=by omega
        rw[List.take_length]at HD;obtain⟨w6,rfl⟩:∃w6:World,w6=wr:=⟨_,rfl⟩;clear belD
        go_wp2_with fail
        go_loopw [8] (fun i wr=>RelAll okForm cs w6.heap.size w6 i wr) (fun i _=>cs.length-(RowKit.intOf i).toNat)
        case atStart=>exact⟨0,Nat.zero_le _,rfl,rfl,Below.refl _ _⟩
        case round=>
         clear u0 u1;obtain⟨k,hk,rfl,hall,belF⟩:=hrel;have bf:=belF.size;have HF:=Lib.hid hall;clear hall;have B7:=Lib.hid (B5.out.trans (belF.mono B5.out.size));obtain⟨u0,u1,sz7,bw7⟩:=KC.out wr B7.out;have BW7:=Lib.hid bw7;clear bw7;by_cases hkr:k<cs.length
         ·obtain⟨bb,off,ha,hbb,hmem,c0,c1,c2,c3,c4,c5⟩:=cable_at (H1.out.below (Nat.le_refl _) B7.out).2 k hkr;have AS:=Lib.hid (all_snoc okForm cb0 cs k hkr);have AB:=Lib.hid (all_bad okForm cb0 cs k hkr);generalize cs.getD k cb0=x at *;subst ha;obtain⟨xa,xap,xb,xbp,xdl,xcp⟩:=x;simp only at c0 c1 c2 c3 c4 c5;clear hmem;have BB:Hid (Below w6.heap.size w6 (wr.alloc (.cells #[.int .i64 xa,.int .i64 xap,.int .i64 xb,.int .i64 xbp,.int .i64 xdl,.int .i64 xcp] 86))):=belF.alloc bf _;have BF:=Lib.hid (BW7.out.alloc (by omega) (.cells #[.int .i64 xa,.int .i64 xap,.int .i64 xb,.int .i64 xbp,.int .i64 xdl,.int .i64 xcp] 86));by_cases hok:1≤xdl∧xdl≤100∧1≤xcp∧xcp≤1000
          ·have R:Hid (RelAll okForm cs w6.heap.size w6 (.int .i64 ((k+1:Nat):Int)) (wr.alloc (.cells #[.int .i64 xa,.int .i64 xap,.int .i64 xb,.int .i64 xbp,.int .i64 xdl,.int .i64 xcp] 86))):=
            ⟨k+1,by omega,rfl,by rw[AS.out,HF.out];simp[okForm,hok],BB.out⟩
           obtain⟨q1,q2,q3,q4⟩:=hok;clear AS AB HA HC HR HD V HF BB
           go_wp2_with fail
           exact⟨by simpa using R.out,by simp[RowKit.intOf];omega⟩
          ·have FIN:=Lib.hid (validP3 (p:=⟨ns,cs⟩) V.out HA.out HC.out HR.out HD.out (AB.out (by
            simp only[okForm];rw[Bool.eq_false_iff];intro h;simp at h;exact hok ⟨h.1.1.1,h.1.1.2,h.1.2,h.2⟩)))
           clear AS AB HA HC HR HD V HF;rcases(by omega:xdl<1∨(1≤xdl∧100<xdl)∨(1≤xdl∧xdl≤100∧xcp<1)∨(1≤xdl∧xdl≤100∧1≤xcp∧1000<xcp))with q1|⟨q1,q2⟩|⟨q1,q2,q3⟩|⟨q1,q2,q3,q4⟩<;>clear hok
           all_goals
            go_wp2_with fail
            go_ret
            exact⟨by rw[FIN.out];rfl,BF.out⟩
         ·obtain rfl:k=cs.length:=by omega
          rw[List.take_length]at HF;have FIN:=Lib.hid (validP0 (p:=⟨ns,cs⟩) V.out HA.out HC.out HR.out HD.out HF.out);clear HA HC HR HD V HF
          go_wp2_with fail
          go_ret
          exact⟨by rw[FIN.out];rfl,BW7.out⟩
end Go.Proofs.YtnjjkgjdhljfnaaGreat
