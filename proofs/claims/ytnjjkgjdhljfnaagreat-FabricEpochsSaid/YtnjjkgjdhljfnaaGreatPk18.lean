/- Part 18. -/
import Derived.BigQuiet
import Derived.Deep.QuietTactic
import Derived.Laws.StructEq
import Derived.Test.YtnjjkgjdhljfnaaGreatPk1
open Go.Proofs.Tryz
open Bool renaming and_eq_true->cZ,eq_false_iff->Aw
open Go renaming Calls->bZ,Value->aI,World->aG
open Go.ByteArray renaming toList_eq->um
open Go.Ending renaming returned->ax
open Go.IntKind renaming i64->ag
open Go.Lib renaming hid->aA
open Go.Obj renaming cells->af
open Go.Proofs.Tryz renaming prog->aH
open Go.RowKit renaming Below->aN,Hid->aY,intOf->aJ
open Go.RowKit.Below renaming refl->aQ
open Go.Value renaming int->ah,slice->ay
open List renaming flatMap_append->fP,length_append->bV,take_length->dY
open Nat renaming le_refl->aC,zero_le->bS
open Option renaming none->aj,some->az
set_option maxRecDepth 100000
set_option maxHeartbeats 16000000
set_option linter.unusedVariables false
set_option linter.unusedSimpArgs false
namespace Go.Proofs.YtnjjkgjdhljfnaaGreat
open Go.RowKit Go.Maps
section
theorem Lu{B:Nat}{a w:aG}(h:aN B a w)(n:Nat):aN B a (w.drewN n):=⟨h.os,h.tape,h.output,h.size,h.block⟩
theorem vJ(s:ByteArray)(w:aG):bZ aH 43 #[.string s] w fun e w'=>e=ax (.bool (qz s))/\w=w':=by
 by_cases h1:s.size<1
 ·have hf:qz s=false:=by simp[qz];omega
  have HF:=aA hf;clear hf;go_enter func43,ntmps43;go_wp2;go_ret;exact⟨by rw[HF.o];rfl,rfl⟩
 by_cases h2:20<s.size
 ·have hf:qz s=false:=by simp[qz];omega
  have HF:=aA hf;clear hf;go_enter func43,ntmps43;go_wp2;go_ret;exact⟨by rw[HF.o];rfl,rfl⟩
 have hs:qz s=Fu s s.size:=by unfold qz Fu;rw[decide_eq_true (by omega:1<=s.size),decide_eq_true (by omega:s.size<=20)];rfl
 have HS:=aA hs;clear hs;go_enter func43,ntmps43;go_wp2
 go_loop [3] (fun i=>∃k:Nat,k<=s.size/\i=ah ag k/\Fu s k=true) (fun i=>s.size-(intOf i).toNat)
 case atStart=>exact⟨0,bS _,rfl,rfl⟩
 case round=>
  obtain⟨k,hk,rfl,rR⟩:=hrel;have Xi:=aA rR;clear rR;by_cases tK:k<s.size
  ·have OS:aY (Fu s (k+1)=Jg k s[k]):=by rw[aY,Gm,Xi.o,byte_at s k tK];rfl
   have OB:=aA (Qh k s[k]);by_cases hl:97<=(s[k].toNat:Int)/\(s[k].toNat:Int)<=122
   ·have fin:aY (Fu s (k+1)=true):=by rw[aY,OS.o,OB.o,decide_eq_true (.inl hl)]
    clear OS OB Xi;obtain⟨l1,l2⟩:=hl;go_wp2;all_goals
     go_round
     case rel=>exact⟨k+1,by omega,by go_num,fin.out⟩
     case measure=>simp[intOf];omega
   ·by_cases hd:k≠0/\48<=(s[k].toNat:Int)/\(s[k].toNat:Int)<=57
    ·have fin:aY (Fu s (k+1)=true):=by rw[aY,OS.o,OB.o,decide_eq_true (.inr hd)]
     clear OS OB Xi;obtain⟨d0,d1,d2⟩:=hd;have NJ:((k:Int)==0)=false:=by rw[beq_eq_false_iff_ne];omega
     have l1:(s[k].toNat:Int)<97:=(by omega);clear hl d0;go_wp2;all_goals
      go_round
      case rel=>exact⟨k+1,by omega,by go_num,fin.out⟩
      case measure=>simp[intOf];omega
    ·have fin:aY (qz s=false):=by
      rw[aY,HS.o];refine Sa s (k+1) ?_ _ (by omega);rw[OS.o,OB.o,decide_eq_false (by omega)]
     clear OS OB Xi HS;by_cases NJ:k=0
     ·have q0:((k:Int)==0)=true:=by rw[NJ];rfl
      rcases(by omega:(s[k].toNat:Int)<97\/(97<=(s[k].toNat:Int)/\122<(s[k].toNat:Int)))with l1|⟨l1,l2⟩<;>clear hl hd NJ
      all_goals
       try(have b2:decide ((s[k].toNat:Int)<=122)=false:=decide_eq_false (by omega))
       go_wp2
       all_goals
        go_ret;exact⟨by rw[fin.out];rfl,rfl⟩
     ·have q0:((k:Int)==0)=false:=by rw[beq_eq_false_iff_ne];omega
      rcases(by omega:((s[k].toNat:Int)<97/\(s[k].toNat:Int)<48)\/((s[k].toNat:Int)<97/\48<=(s[k].toNat:Int)/\57<(s[k].toNat:Int))\/(97<=(s[k].toNat:Int)/\122<(s[k].toNat:Int)))with⟨l1,l2⟩|⟨l1,l2,l3⟩|⟨l1,l2⟩<;>clear hl hd NJ
      all_goals
       try(have b2:decide ((s[k].toNat:Int)<=122)=false:=decide_eq_false (by omega))
       try(have b3:decide ((s[k].toNat:Int)<=57)=false:=decide_eq_false (by omega))
       go_wp2
       all_goals
        go_ret;exact⟨by rw[fin.out];rfl,rfl⟩
  ·have e:k=s.size:=by omega
   have fin:aY (qz s=true):=(by rw[aY,HS.o,<-e,Xi.o]);clear e Xi HS;go_wp2;go_ret;exact⟨by rw[fin.out];rfl,rfl⟩
theorem acp(p:Pl)(An Ac:Option Addr)(cn cc:Nat)(node port:Int)(w:aG)(hl:p.ns.length<=1000000)(h:jw w An Ac p):bZ aH 44 #[.agg #[ay An p.ns.length cn,ay Ac p.cs.length cc],ah ag node,ah ag port] w fun e w'=>e=ax (.bool (jO p.ns node port))/\w.alloc (af #[ay An p.ns.length cn,ay Ac p.cs.length cc] 25)=w':=by
 have H:=aA (h.alloc (af #[ay An p.ns.length cn,ay Ac p.cs.length cc] 25)).1;clear h;by_cases h1:0<=node
 ·by_cases h2:node<p.ns.length
  ·by_cases h3:0<=port
   ·have hf:aY (jO p.ns node port=decide (port<(p.ns.getD node.toNat jk).bE)):=by simp[aY,jO,h1,h2,h3]
    obtain⟨k,rfl⟩:∃k:Nat,node=k:=⟨node.toNat,by omega⟩;obtain⟨b,off,ha,hb,hm,c0,c1,c2⟩:=uQ H.o k (by omega);rw[Int.toNat_natCast]at hf;generalize p.ns.getD k jk=x at *;generalize hq:p.ns.length=ln at *;clear hq;subst ha;go_enter func44,ntmps44;go_wp2;go_ret;refine⟨?_,rfl⟩;rw[hf.out];rfl
   ·have hf:aY (jO p.ns node port=false):=by simp[aY,jO,h1,h2,h3]
    go_enter func44,ntmps44;go_wp2
    go_ret;exact⟨by rw[hf.out];rfl,rfl⟩
  ·have hf:aY (jO p.ns node port=false):=by simp[aY,jO,h1,h2]
   go_enter func44,ntmps44;go_wp2
   go_ret;exact⟨by rw[hf.out];rfl,rfl⟩
 ·have hf:aY (jO p.ns node port=false):=by simp[aY,jO,h1]
  go_enter func44,ntmps44;go_wp2
  go_ret;exact⟨by rw[hf.out];rfl,rfl⟩
theorem zV(ns:List Nd)(cs:List Cb)(An Ac:Option Addr)(cn cc:Nat)(node port:Int)(w:aG)(hl:ns.length<=1000000)(h:jw w An Ac ⟨ns,cs⟩)(r:Bool)(hr:jO ns node port=r)(ob:Obj)(Oc:af #[ay An ns.length cn,ay Ac cs.length cc] 25=ob):bZ aH 44 #[.agg #[ay An ns.length cn,ay Ac cs.length cc],ah ag node,ah ag port] w fun e w'=>e=ax (.bool r)/\w.alloc ob=w':=by subst hr;subst Oc;exact acp ⟨ns,cs⟩ An Ac cn cc node port w hl h
end
section
def UI(ns:List Nd)(w1:aG)(i:aI)(wr:aG):Prop:=
 ∃k:Nat,k<=ns.length/\i=ah ag k/\Jt nW jk ns k=false/\aN w1.heap.size w1 wr
def adY(ns:List Nd)(j:Nat)(w1:aG)(i:aI)(wr:aG):Prop:=
 ∃k:Nat,k<=j/\i=ah ag k/\((ns.take k).any fun y=>nW y (ns.getD j jk))=false/\aN w1.heap.size w1 wr
theorem Hu{α:Type}(f:α->Bool)(d:α)(l:List α)(k:Nat)(h:k<l.length):(l.take (k+1)).any f=((l.take k).any f||f (l.getD k d)):=by rw[ji d l k h,List.any_append];simp
theorem Ht{α:Type}(f:α->Bool)(l:List α){k n:Nat}(h:(l.take k).any f=true)(hn:k<=n):(l.take n).any f=true:=by rw[List.any_eq_true]at h|-;obtain⟨x,hx,hf⟩:=h;refine⟨x,?_,hf⟩;rw[List.mem_take_iff_getElem]at hx|-;obtain⟨i,hi,e⟩:=hx;exact⟨i,by omega,e⟩
theorem afb:(Tryz.prog.info? 73).map (fun i=>(i.zero,i.size,i.bytes))=az (az (.agg #[ah ag 0,ah ag 0]),2,16):=by kernel_rfl
def cP(x:Int×Int):List aI:=[ah ag x.1,ah ag x.2]
theorem aaW(x:Int×Int):(cP x).length=2:=rfl
theorem abp(cs:List Cb)(k:Nat)(h:k<cs.length):gY (cs.take (k+1))=gY (cs.take k)++[((cs.getD k gX).a,(cs.getD k gX).ap),((cs.getD k gX).b,(cs.getD k gX).bp)]:=by unfold gY;rw[ji gX cs k h,fP];simp
theorem Vt(cs:List Cb):(gY cs).length=2*cs.length:=by
 unfold gY
 induction cs with
 |nil=>rfl
 |cons x l ih=>rw[List.flatMap_cons,bV,ih];simp;omega
def UJ(cs:List Cb)(w1:aG)(v i:aI)(wr:aG):Prop:=
 ∃k:Nat,k<=cs.length/\i=ah ag k/\wr.ownsRow w1.heap.size 73 2 v (gY (cs.take k)).length ((gY (cs.take k)).flatMap cP)/\aN w1.heap.size w1 wr
def UK(es:List (Int×Int))(w1:aG)(i:aI)(wr:aG):Prop:=
 ∃k:Nat,k<=es.length/\i=ah ag k/\Jt jq (0,0) es k=false/\aN w1.heap.size w1 wr
def adZ(es:List (Int×Int))(j:Nat)(w1:aG)(i:aI)(wr:aG):Prop:=
 ∃k:Nat,k<=j/\i=ah ag k/\((es.take k).any fun y=>jq y (es.getD j (0,0)))=false/\aN w1.heap.size w1 wr
theorem alC(a b c d:Int)(w:aG):(Op.equalIn 10000 73 (.agg #[ah ag a,ah ag b]) (.agg #[ah ag c,ah ag d])).run aH w=.ok (a==c&&b==d) w:=by have u3:=underlying3;have a3:=Tryz.isAgg3;have z3:=Tryz.sizeOf3;rw[show(10000:Nat)=9999+1 from rfl,Op.equalIn];simp only[Sem.run_bind,run_underlying underlying73,Result.andThen_ok];simp only[Std.Legacy.Range.forIn_eq_forIn_range',Std.Legacy.Range.size,Nat.sub_zero,Nat.add_sub_cancel,Nat.div_one,List.range'_succ,List.range'_zero,List.forIn_cons,List.forIn_nil];go_simp;by_cases h1:a=c<;>by_cases h2:b=d<;>simp[h1,h2]
theorem ZW{w:aG}{A:Option Addr}{len:Nat}{es:List (Int×Int)}(h:gI 2 cP (0,0) w A len es)(k:Nat)(hk:k<len):∃b off,A=az ⟨b,off,aj⟩/\b<w.heap.size/\w.cell? ⟨b,off+k*2,aj⟩=az (ah ag (es.getD k (0,0)).1)/\w.cell? ⟨b,off+k*2+1,aj⟩=az (ah ag (es.getD k (0,0)).2):=by obtain⟨b,off,ha,hb,hc⟩:=h.2 (by omega);exact⟨b,off,ha,hb,hc k 0 hk (by omega),hc k 1 hk (by omega)⟩
theorem Sq(p:Pl)(An Ac:Option Addr)(cn cc:Nat)(w:aG)(hl:p.ns.length<=1000000)(DN:p.cs.length<=1000000)(h:jw w An Ac p):bZ aH 45 #[.agg #[ay An p.ns.length cn,ay Ac p.cs.length cc]] w fun e w'=>e=ax (.bool (jY p))/\aN w.heap.size w w':=by
 obtain⟨ns,cs⟩:=p;simp only at hl DN|-;obtain⟨w1,gK⟩:∃w1:aG,w.alloc (af #[ay An ns.length cn,ay Ac cs.length cc] 25)=w1:=⟨_,rfl⟩;have s0:w1.cell? ⟨w.heap.size,0,aj⟩=az (ay An ns.length cn):=by rw[<-gK];simp[go_sem]
 have s1:w1.cell? ⟨w.heap.size,1,aj⟩=az (ay Ac cs.length cc):=by rw[<-gK];simp[go_sem]
 have Sk:w.heap.size<w1.heap.size:=by rw[<-gK];simp
 have FO:aN w.heap.size w w1:=by rw[<-gK];exact(aQ _ _).alloc (aC _) _
 have BW:=aA FO;have H1:=aA (h.below (aC _) FO);have Bf:=aA gK;have KC:aY (∀w',aN w1.heap.size w1 w'->w'.cell? ⟨w.heap.size,0,aj⟩=az (ay An ns.length cn)/\w'.cell? ⟨w.heap.size,1,aj⟩=az (ay Ac cs.length cc)/\w.heap.size<w'.heap.size/\aN w.heap.size w w'):=
  fun w' hb=>⟨(hb.cell (by exact Sk)).trans s0,(hb.cell (by exact Sk)).trans s1,by have:=hb.size;omega,FO.trans (hb.mono (by omega))⟩
 clear h gK FO;go_enter func45,ntmps45;go_wp2_with fail;rw[Bf.o];go_loopw [3] (fun i wr=>UI ns w1 i wr) (fun i _=>ns.length-(aJ i).toNat);case atStart=>exact⟨0,bS _,rfl,rfl,aQ _ _⟩
 case round=>
  clear s0 s1;obtain⟨k,hk,rfl,ZO,gm⟩:=hrel;have HT:=aA ZO;have BE:=aA gm;clear ZO;obtain⟨u0,u1,sz2,bw2⟩:=KC.o wr gm;by_cases nI:k<ns.length
  ·have TS:=aA (zh nW jk ns k);obtain⟨w2,rfl⟩:∃w2:aG,w2=wr:=⟨_,rfl⟩;clear bw2 gm;go_wp2_with fail;go_loopw [4] (fun i wr=>adY ns k w2 i wr) (fun i _=>k-(aJ i).toNat);case atStart=>exact⟨0,bS _,rfl,rfl,aQ _ _⟩
   case round=>
    clear u0 u1;obtain⟨j,hj,rfl,han,gm⟩:=hrel;have HN:=aA han;clear han;have B3:=aA (BE.o.trans (gm.mono BE.o.size));obtain⟨u0,u1,sz3,bw3⟩:=KC.o wr B3.o;by_cases hjr:j<k
    ·have Ob:j<ns.length:=by omega
     obtain⟨bb,off,ha,hbb,mE,c0,_,_⟩:=uQ (H1.o.below (aC _) B3.o).1 k nI;obtain⟨bb2,azq,ha2,_,_,e0,_,_⟩:=uQ (H1.o.below (aC _) B3.o).1 j Ob;rw[ha]at ha2;injection ha2 with ha2;injection ha2 with h1 h2;subst h1;subst h2;subst ha;have AS:=aA (Hu (fun y=>nW y (ns.getD k jk)) jk ns j Ob);have DF:aY (nW (ns.getD j jk) (ns.getD k jk)=((ns.getD j jk).name.data.toList==(ns.getD k jk).name.data.toList)):=rfl;generalize hgx:(ns.getD k jk)=x at *;generalize(ns.getD j jk)=y at *;have HX:=aA hgx;clear hgx;generalize x.name=xn at *;generalize y.name=yn at *;have i1:(0:Int)<=(k:Int):=(by omega);have i2:(k:Int)<(ns.length:Int):=(by omega);have i3:(0:Int)<=(j:Int):=(by omega);have i4:(j:Int)<(ns.length:Int):=(by omega);clear mE;by_cases hxy:xn.data.toList=yn.data.toList
     ·have q1:(xn.toList==yn.toList)=true:=by rw[um,um,hxy];simp
      have iZ:aY (jY ⟨ns,cs⟩=true):=(by have e1:Jt nW jk ns (k+1)=true:=(by rw[TS.o];have:((ns.take k).any fun z=>nW z x)=true:=Ht _ _ (k:=j+1) (by rw[AS.o,DF.o,hxy];simp) (by omega);rw[this];simp);rw[aY];unfold jY yF;rw[Gu nW jk ns (k+1) e1 _ (by show k+1<=ns.length;omega)];rfl);clear hxy AS DF TS HT HN;have BF:=aA bw3;go_wp2_with fail;go_quiet (fail);go_wp2_with fail;go_ret;exact⟨by rw[iZ.out];rfl,Lu BF.o _⟩
     ·have q1:(xn.toList==yn.toList)=false:=by rw[um,um];simpa using hxy
      have R:aY (((ns.take (j+1)).any fun z=>nW z x)=false):=(by have h2:(yn.data.toList==xn.data.toList)=false:=beq_eq_false_iff_ne.2 (fun e=>hxy e.symm);rw[aY,AS.o,HN.o,DF.o,h2];rfl);clear hxy AS DF;go_wp2_with fail;go_quiet (fail);go_wp2_with fail;exact⟨⟨j+1,by omega,by simp,by rw[HX.o];exact R.o,Lu gm _⟩,by simp[aJ];omega⟩
    ·obtain rfl:j=k:=by omega
     have R:aY (UI ns w1 (ah ag ((j+1:Nat):Int)) wr):=⟨j+1,by omega,rfl,by rw[TS.o,HT.o,HN.o];rfl,B3.o⟩;clear TS HT HN bw3;go_wp2_with fail;exact⟨by simpa using R.o,by simp[aJ];omega⟩
  ·obtain rfl:k=ns.length:=by omega
   clear bw2;obtain⟨w2,rfl⟩:∃w2:aG,w2=wr:=⟨_,rfl⟩;obtain⟨i0,hi0,wC,uX,wK⟩:=info_parts afb;go_wp2_with fail;go_loopw [5,6] (fun v i wr=>UJ cs w2 v i wr) (fun _ i _=>cs.length-(aJ i).toNat);case atStart=>exact⟨0,bS _,rfl,World.ownsRow_nil _ _ _ _,aQ _ _⟩
   case round=>
    clear u0 u1 gm;obtain⟨k,hk,rfl,own,gm⟩:=hrel;have bs:=gm.size;have B3:=aA (BE.o.trans (gm.mono BE.o.size));obtain⟨u0,u1,sz3,bw3⟩:=KC.o wr B3.o;clear bw3;by_cases nI:k<cs.length
    ·obtain⟨bb,off,ha,hbb,mE,c0,c1,c2,c3,c4,c5⟩:=mq (H1.o.below (aC _) B3.o).2 k nI;have ES:=aA (abp cs k nI);have EL:(gY (cs.take k)).length<=2*k:=(by have:=Vt (cs.take k);rw[List.length_take]at this;omega);generalize cs.getD k gX=x at *;subst ha;obtain⟨xa,qF,xb,qO,Cv,He⟩:=x;simp only at c0 c1 c2 c3 c4 c5;have OG:aY (∀g,u5.ownBlock=az g->w2.heap.size<=g):=fun g e=>(own.lt g e).1;clear mE;generalize gY (cs.take k)=xs at *;go_wp2_with (at_builtin;refine wpList_append_own _ rfl _ _ 179 rfl w2.heap.size 73 i0 _ 2 16 underlying179 hi0 wC uX wK rfl (by decide) _ _ _ rfl ((own.alloc _).alloc _) ⟨wr.heap.size+1,0,aj⟩ 2 2 [ah ag xa,ah ag qF,ah ag xb,ah ag qO] rfl rfl (World.news_of_block (cs:=#[ah ag xa,ah ag qF,ah ag xb,ah ag qO]) (t:=73) (fr:=(0,0)) (by have h:=heap_alloc_new (wr.alloc (af #[ah ag xa,ah ag qF,ah ag xb,ah ag qO,ah ag Cv,ah ag He] 86)) (af #[ah ag xa,ah ag qF,ah ag xb,ah ag qO] 73);simpa using h)) ?n2 ?n3 ?n4 ?n5 ?_);case n2=>exact⟨rfl,rfl,rfl,rfl⟩
     case n3=>unfold maxLen;omega
     case n4=>omega
     case n5=>first|omega|(simp;omega)
     intro v' w4 QY gr4 _;have R:UJ cs w2 v' (ah ag ((k+1:Nat):Int)) w4:=by
      refine⟨k+1,by omega,rfl,?_,?_⟩
      ·rw[ES.o,bV,fP];exact QY
      ·exact((gm.alloc bs _).alloc (by simp;omega) _).grown gr4 (by simp;omega) OG.o
     clear QY gr4 own;go_wp2;exact⟨by simpa using R,by simp[aJ];omega⟩
    ·obtain rfl:k=cs.length:=by omega
     rw[dY]at own;obtain⟨ae,ce,hve,_,hrec,_⟩:=gZ (d:=((0:Int),(0:Int))) aaW (by decide) own;rw[hve];have HRE:=aA hrec;have EL:(gY cs).length<=2000000:=by rw[Vt];omega
     have N1:aY (yF nW jk ns=false):=HT.o;have RB:aY (jY ⟨ns,cs⟩=yF jq (0,0) (gY cs)):=(by rw[aY];unfold jY;rw[show(Pl.mk ns cs).ns=ns from rfl,N1.o];rfl);clear hrec own hve hi0 wC uX wK N1 HT nI hk;generalize gY cs=es at *;obtain⟨w4,rfl⟩:∃w4:aG,w4=wr:=⟨_,rfl⟩;go_wp2_with fail;go_loopw [8] (fun i wr=>UK es w4 i wr) (fun i _=>es.length-(aJ i).toNat);case atStart=>exact⟨0,bS _,rfl,rfl,aQ _ _⟩
     case round=>
      clear u0 u1 gm;obtain⟨k,hk,rfl,ZO,gm⟩:=hrel;have HT:=aA ZO;have BE4:=aA gm;have BF4:aY (aN w.heap.size w wr):=(KC.o wr (B3.o.trans (gm.mono B3.o.size))).2.2.2;clear ZO;by_cases nI:k<es.length
      ·have TS:=aA (zh jq (0,0) es k);obtain⟨w5,rfl⟩:∃w5:aG,w5=wr:=⟨_,rfl⟩;clear gm;go_wp2_with fail;go_loopw [9] (fun i wr=>adZ es k w5 i wr) (fun i _=>k-(aJ i).toNat);case atStart=>exact⟨0,bS _,rfl,rfl,aQ _ _⟩
       case round=>
        obtain⟨j,hj,rfl,han,gm⟩:=hrel;have HN:=aA han;clear han;have B6:=aA (BE4.o.trans (gm.mono BE4.o.size));have BF6:=aA (BF4.o.trans (gm.mono BF4.o.size));by_cases hjr:j<k
        ·have Ob:j<es.length:=by omega
         obtain⟨bb,off,ha,hbb,c0,c1⟩:=ZW (HRE.o.below (aC _) B6.o) k nI;obtain⟨bb2,azq,ha2,_,e0,e1⟩:=ZW (HRE.o.below (aC _) B6.o) j Ob;rw[ha]at ha2;injection ha2 with ha2;injection ha2 with h1 h2;subst h1;subst h2;subst ha;have AS:=aA (Hu (fun y=>jq y (es.getD k (0,0))) (0,0) es j Ob);generalize hgx:es.getD k (0,0)=x at *;generalize es.getD j (0,0)=y at *;have HX:=aA hgx;clear hgx;obtain⟨x0,x1⟩:=x;obtain⟨y0,y1⟩:=y;simp only at c0 c1 e0 e1;have i1:(0:Int)<=(k:Int):=(by omega);have i2:(k:Int)<(es.length:Int):=(by omega);have i3:(0:Int)<=(j:Int):=(by omega);have i4:(j:Int)<(es.length:Int):=(by omega);have heq:=alC x0 x1 y0 y1;cases hq:(x0==y0&&x1==y1)with
         |true=>
          rw[hq]at heq;have iZ:aY (jY ⟨ns,cs⟩=true):=by
           have he1:Jt jq (0,0) es (k+1)=true:=by
            rw[TS.o];have:((es.take k).any fun z=>jq z (x0,x1))=true:=Ht _ _ (k:=j+1) (by
             rw[AS.o];have h2:jq (y0,y1) (x0,x1)=true:=by unfold jq;simp only[cZ,beq_iff_eq]at hq|-;exact⟨hq.1.symm,hq.2.symm⟩
             rw[h2];simp) (by omega)
            rw[this];simp
           rw[aY,RB.o];unfold yF;exact Gu jq (0,0) es (k+1) he1 _ (by omega)
          clear hq AS TS HT HN;go_wp2_with fail;go_quiet (fail);go_wp2_with fail;go_ret;exact⟨by rw[iZ.out];rfl,Lu BF6.o _⟩
         |false=>
          rw[hq]at heq;have R:aY (((es.take (j+1)).any fun z=>jq z (es.getD k (0,0)))=false):=by have h2:jq (y0,y1) (x0,x1)=false:=(by unfold jq;rw[Aw]at hq|-;intro h3;simp only[cZ,beq_iff_eq]at h3;exact hq (by simp[h3.1,h3.2]));rw[aY,HX.o,AS.o,h2];have:=HN.o;rw[this];rfl
          clear hq AS;go_wp2_with fail;go_quiet (fail);go_wp2_with fail;exact⟨⟨j+1,by omega,by simp,R.o,Lu gm _⟩,by simp[aJ];omega⟩
        ·obtain rfl:j=k:=by omega
         have R:aY (UK es w4 (ah ag ((j+1:Nat):Int)) wr):=⟨j+1,by omega,rfl,by rw[TS.o,HT.o,HN.o];rfl,B6.o⟩;clear TS HT HN;go_wp2_with fail;exact⟨by simpa using R.o,by simp[aJ];omega⟩
      ·obtain rfl:k=es.length:=by omega
       have iZ:aY (jY ⟨ns,cs⟩=false):=(by rw[aY,RB.o];exact HT.o);clear HT;go_wp2_with fail;go_ret;exact⟨by rw[iZ.out];rfl,BF4.o⟩
end
section
theorem Ue(p:Pl)(An Ac:Option Addr)(cn cc:Nat)(w:aG)(hl:p.ns.length<=1000000)(DN:p.cs.length<=1000000)(h:jw w An Ac p):bZ aH 12 #[.agg #[ay An p.ns.length cn,ay Ac p.cs.length cc]] w fun e w'=>e=ax (ah ag (fT p))/\aN w.heap.size w w':=by
 obtain⟨ns,cs⟩:=p;simp only at hl DN|-;obtain⟨w1,gK⟩:∃w1:aG,w.alloc (af #[ay An ns.length cn,ay Ac cs.length cc] 25)=w1:=⟨_,rfl⟩;have s0:w1.cell? ⟨w.heap.size,0,aj⟩=az (ay An ns.length cn):=by rw[<-gK];simp[go_sem]
 have s1:w1.cell? ⟨w.heap.size,1,aj⟩=az (ay Ac cs.length cc):=by rw[<-gK];simp[go_sem]
 have Sk:w.heap.size<w1.heap.size:=by rw[<-gK];simp
 have FO:aN w.heap.size w w1:=by rw[<-gK];exact(aQ _ _).alloc (aC _) _
 have BW:=aA FO;have H1:=aA (h.below (aC _) FO);have Bf:=aA gK;have KC:aY (∀w',aN w1.heap.size w1 w'->w'.cell? ⟨w.heap.size,0,aj⟩=az (ay An ns.length cn)/\w'.cell? ⟨w.heap.size,1,aj⟩=az (ay Ac cs.length cc)/\w.heap.size<w'.heap.size/\aN w.heap.size w w'):=
  fun w' hb=>⟨(hb.cell (by exact Sk)).trans s0,(hb.cell (by exact Sk)).trans s1,by have:=hb.size;omega,FO.trans (hb.mono (by omega))⟩
 clear h gK FO;by_cases h16:16<ns.length
 ·have iZ:=aA (Ol (p:=⟨ns,cs⟩) (.inl h16));go_enter func12,ntmps12;go_wp2_with fail;rw[Bf.o];go_ret;exact⟨by rw[iZ.out];rfl,BW.o⟩
 by_cases h32:32<cs.length
 ·have iZ:=aA (Ol (p:=⟨ns,cs⟩) (.inr h32));go_enter func12,ntmps12;go_wp2_with fail;rw[Bf.o];go_ret;exact⟨by rw[iZ.out];rfl,BW.o⟩
 have V:aY (¬(16<(⟨ns,cs⟩:Pl).ns.length\/32<(⟨ns,cs⟩:Pl).cs.length)):=by
  rintro(h|h)
  ·exact h16 h
  ·exact h32 h
 go_enter func12,ntmps12;go_wp2_with fail
 rw[Bf.o];go_loopw [3] (fun i wr=>uW kX ns w1.heap.size w1 i wr) (fun i _=>ns.length-(aJ i).toNat);case atStart=>exact⟨0,bS _,rfl,rfl,aQ _ _⟩
 case round=>
  clear s0 s1;obtain⟨k,hk,rfl,hall,gm⟩:=hrel;have bs:=gm.size;have HA:=aA hall;clear hall;obtain⟨u0,u1,sz2,bw2⟩:=KC.o wr gm;have Jv:=aA bw2;clear bw2;by_cases nI:k<ns.length
  ·obtain⟨bb,off,ha,hbb,mE,c0,c1,c2⟩:=uQ (H1.o.below (aC _) gm).1 k nI;have AS:=aA (xX kX jk ns k nI);have AB:=aA (AJ kX jk ns k nI);generalize ns.getD k jk=x at *;subst ha;obtain⟨nm,sw,po⟩:=x;simp only at c0 c1 c2;clear mE;have B3:=aA (gm.alloc bs (af #[.string nm,.bool sw,ah ag po] 83));have BF:=aA (Jv.o.alloc (by omega) (af #[.string nm,.bool sw,ah ag po] 83));have RR:aY (kX ⟨nm,sw,po⟩=true->uW kX ns w1.heap.size w1 (ah ag ((k+1:Nat):Int)) (wr.alloc (af #[.string nm,.bool sw,ah ag po] 83))):=
    fun hx=>⟨k+1,by omega,rfl,by rw[AS.o,HA.o,hx];rfl,B3.o⟩
   have FF:aY (kX ⟨nm,sw,po⟩=false->fT ⟨ns,cs⟩=1):=fun hx=>aaq (p:=⟨ns,cs⟩) V.o (AB.o hx);clear AS AB HA;cases hn:qz nm with
   |false=>have iZ:=aA (FF.o (by simp[kX,hn]));have HN:=aA hn;clear hn;go_wp2_with (go_at_call 43;refine(vJ _ _).mono ?_;rintro r w' ⟨rfl,rfl⟩;rw[HN.o]);go_ret;exact⟨by rw[iZ.out];rfl,BF.o⟩
   |true=>
    cases sw with
    |true=>
     rcases(by omega:po<1\/(1<=po/\8<po)\/(1<=po/\po<=8))with q1|⟨q1,q2⟩|⟨q1,q2⟩
     ·have iZ:=aA (FF.o (by simp[kX,hn];omega));have HN:=aA hn;clear hn;go_wp2_with (go_at_call 43;refine(vJ _ _).mono ?_;rintro r w' ⟨rfl,rfl⟩;rw[HN.o]);go_ret;exact⟨by rw[iZ.out];rfl,BF.o⟩
     ·have iZ:=aA (FF.o (by simp[kX,hn];omega));have HN:=aA hn;clear hn;go_wp2_with (go_at_call 43;refine(vJ _ _).mono ?_;rintro r w' ⟨rfl,rfl⟩;rw[HN.o]);go_ret;exact⟨by rw[iZ.out];rfl,BF.o⟩
     ·have R:=aA (RR.o (by simp[kX,hn];omega));have HN:=aA hn;clear hn;go_wp2_with (go_at_call 43;refine(vJ _ _).mono ?_;rintro r w' ⟨rfl,rfl⟩;rw[HN.o]);exact⟨by simpa using R.o,by simp[aJ];omega⟩
    |false=>
     by_cases q1:po=1
     ·have R:=aA (RR.o (by simp[kX,hn,q1]));have q2:(po !=1)=false:=by simp[q1]
      have HN:=aA hn;clear hn q1;go_wp2_with (go_at_call 43;refine(vJ _ _).mono ?_;rintro r w' ⟨rfl,rfl⟩;rw[HN.o]);exact⟨by simpa using R.o,by simp[aJ];omega⟩
     ·have iZ:=aA (FF.o (by simp[kX,hn,q1]));have q2:(po !=1)=true:=by simp[q1]
      have HN:=aA hn;clear hn q1;go_wp2_with (go_at_call 43;refine(vJ _ _).mono ?_;rintro r w' ⟨rfl,rfl⟩;rw[HN.o]);go_ret;exact⟨by rw[iZ.out];rfl,BF.o⟩
  ·obtain rfl:k=ns.length:=by omega
   rw[dY]at HA;have BE2:=aA gm;obtain⟨w2,rfl⟩:∃w2:aG,w2=wr:=⟨_,rfl⟩;clear gm;go_wp2_with fail;go_loopw [5] (fun i wr=>uW (lH ns) cs w2.heap.size w2 i wr) (fun i _=>cs.length-(aJ i).toNat);case atStart=>exact⟨0,bS _,rfl,rfl,aQ _ _⟩
   case round=>
    clear u0 u1;obtain⟨k,hk,rfl,hall,Eh⟩:=hrel;have bc:=Eh.size;have HC:=aA hall;clear hall;have B3:=aA (BE2.o.trans (Eh.mono BE2.o.size));obtain⟨u0,u1,sz3,bw3⟩:=KC.o wr B3.o;have Mx:=aA bw3;clear bw3;by_cases nI:k<cs.length
    ·obtain⟨bb,off,ha,hbb,mE,c0,c1,c2,c3,c4,c5⟩:=mq (H1.o.below (aC _) B3.o).2 k nI;have AS:=aA (xX (lH ns) gX cs k nI);have AB:=aA (AJ (lH ns) gX cs k nI);generalize cs.getD k gX=x at *;have HAn:aY (jw wr An (az ⟨bb,off,aj⟩) ⟨ns,cs⟩):=(by rw[<-ha];exact H1.o.below (aC _) B3.o);subst ha;obtain⟨xa,qF,xb,qO,Cv,He⟩:=x;simp only at c0 c1 c2 c3 c4 c5;clear mE;obtain⟨ob,Oc⟩:∃ob,af #[ay An ns.length cn,ay (az ⟨bb,off,aj⟩) cs.length cc] 25=ob:=⟨_,rfl⟩;have HOB:=aA Oc;clear Oc;cases hx:jO ns xa qF with
     |false=>have iZ:=aA (Oj (p:=⟨ns,cs⟩) V.o HA.o (AB.o (by simp[lH,hx])));have HX:=aA hx;have BF:aY (aN w.heap.size w ((wr.alloc (af #[ah ag xa,ah ag qF,ah ag xb,ah ag qO,ah ag Cv,ah ag He] 86)).alloc ob)):=(Mx.o.alloc (by omega) _).alloc (by simp;omega) _;clear hx AS AB HA HC V;go_wp2_with fail;refine(zV ns cs An _ cn cc xa qF _ hl (HAn.o.alloc _) _ HX.o ob HOB.o).mono ?_;rintro r w' ⟨rfl,rfl⟩;go_wp2_with fail;go_ret;exact⟨by rw[iZ.out];rfl,BF.o⟩
     |true=>
      have HX:=aA hx;have BF:aY (aN w.heap.size w (((wr.alloc (af #[ah ag xa,ah ag qF,ah ag xb,ah ag qO,ah ag Cv,ah ag He] 86)).alloc ob).alloc ob)):=((Mx.o.alloc (by omega) _).alloc (by simp;omega) _).alloc (by simp;omega) _;have BB:aY (aN w2.heap.size w2 (((wr.alloc (af #[ah ag xa,ah ag qF,ah ag xb,ah ag qO,ah ag Cv,ah ag He] 86)).alloc ob).alloc ob)):=((Eh.alloc bc _).alloc (by simp;omega) _).alloc (by simp;omega) _;cases hy:jO ns xb qO with
      |false=>have iZ:=aA (Oj (p:=⟨ns,cs⟩) V.o HA.o (AB.o (by simp[lH,hy])));have HY:=aA hy;clear hx hy AS AB HA HC V;go_wp2_with fail;refine(zV ns cs An _ cn cc xa qF _ hl (HAn.o.alloc _) _ HX.o ob HOB.o).mono ?_;rintro r w' ⟨rfl,rfl⟩;go_wp2_with fail;refine(zV ns cs An _ cn cc xb qO _ hl ((HAn.o.alloc _).alloc _) _ HY.o ob HOB.o).mono ?_;rintro r w' ⟨rfl,rfl⟩;go_wp2_with fail;go_ret;exact⟨by rw[iZ.out];rfl,BF.o⟩
      |true=>
       have HY:=aA hy;have R:aY (uW (lH ns) cs w2.heap.size w2 (ah ag ((k+1:Nat):Int)) (((wr.alloc (af #[ah ag xa,ah ag qF,ah ag xb,ah ag qO,ah ag Cv,ah ag He] 86)).alloc ob).alloc ob)):=
        ⟨k+1,by omega,rfl,by rw[AS.o,HC.o];simp[lH,hx,hy],BB.o⟩
       clear hx hy AS AB HA HC V BB;go_wp2_with fail;refine(zV ns cs An _ cn cc xa qF _ hl (HAn.o.alloc _) _ HX.o ob HOB.o).mono ?_;rintro r w' ⟨rfl,rfl⟩;go_wp2_with fail;refine(zV ns cs An _ cn cc xb qO _ hl ((HAn.o.alloc _).alloc _) _ HY.o ob HOB.o).mono ?_;rintro r w' ⟨rfl,rfl⟩;go_wp2_with fail;exact⟨by simpa using R.o,by simp[aJ];omega⟩
    ·obtain rfl:k=cs.length:=by omega
     rw[dY]at HC;have H3:=aA (H1.o.below (aC _) B3.o);clear Eh;cases hr:jY ⟨ns,cs⟩with
     |true=>have iZ:=aA (aas (p:=⟨ns,cs⟩) V.o HA.o HC.o hr);have HR:=aA hr;clear hr V HA HC;go_wp2_with fail;refine(Sq ⟨ns,cs⟩ An Ac cn cc _ hl DN H3.o).mono ?_;rintro r w' ⟨rfl,xq⟩;rw[HR.o];have BF:=aA (Mx.o.trans (xq.mono (by omega)));clear xq;go_wp2_with fail;go_ret;exact⟨by rw[iZ.out];rfl,BF.o⟩
     |false=>
      have HR:=aA hr;clear hr;go_wp2_with fail;refine(Sq ⟨ns,cs⟩ An Ac cn cc _ hl DN H3.o).mono ?_;rintro r w4 ⟨rfl,Eg⟩;rw[HR.o];have B4:=aA (B3.o.trans (Eg.mono B3.o.size));clear Eg u0 u1;obtain⟨u0,u1,sz4,bw4⟩:=KC.o w4 B4.o;clear bw4;go_wp2_with fail;go_loopw [7] (fun i wr=>uW (fun x:Cb=>decide (x.a≠x.b)) cs w4.heap.size w4 i wr) (fun i _=>cs.length-(aJ i).toNat);case atStart=>exact⟨0,bS _,rfl,rfl,aQ _ _⟩
      case round=>
       clear u0 u1;obtain⟨k,hk,rfl,hall,OV⟩:=hrel;have HD:=aA hall;clear hall;have B5:=aA (B4.o.trans (OV.mono B4.o.size));obtain⟨u0,u1,sz5,bw5⟩:=KC.o wr B5.o;have BW5:=aA bw5;clear bw5;by_cases nI:k<cs.length
       ·obtain⟨bb,off,ha,hbb,mE,c0,c1,c2,c3,c4,c5⟩:=mq (H1.o.below (aC _) B5.o).2 k nI;have AS:=aA (xX (fun x:Cb=>decide (x.a≠x.b)) gX cs k nI);have AB:=aA (AJ (fun x:Cb=>decide (x.a≠x.b)) gX cs k nI);generalize cs.getD k gX=x at *;subst ha;obtain⟨xa,qF,xb,qO,Cv,He⟩:=x;simp only at c0 c1 c2 c3 c4 c5;have i1:(0:Int)<=(k:Int):=(by omega);have i2:(k:Int)<(cs.length:Int):=(by omega);clear mE;by_cases hab:xa=xb
        ·have iZ:=aA (WO (p:=⟨ns,cs⟩) V.o HA.o HC.o HR.o (AB.o (by simp[hab])));have hq:(xa==xb)=true:=by rw[hab];simp
         clear AS AB HA HC HR V HD hab;go_wp2_with fail;go_quiet (fail);go_wp2_with fail;go_ret;exact⟨by rw[iZ.out];rfl,Lu BW5.o _⟩
        ·have R:aY ((((cs.take (k+1)).all fun x:Cb=>decide (x.a≠x.b))=true)):=by rw[aY,AS.o,HD.o];simp[hab]
         have hq:(xa==xb)=false:=(by rw[beq_eq_false_iff_ne];exact hab);clear AS AB HA HC HR V HD hab;go_wp2_with fail;go_quiet (fail);go_wp2_with fail;exact⟨⟨k+1,by omega,by simp,R.o,Lu OV _⟩,by simp[aJ];omega⟩
       ·obtain rfl:k=cs.length:=by omega
        rw[dY]at HD;obtain⟨w6,rfl⟩:∃w6:aG,w6=wr:=⟨_,rfl⟩;clear OV;go_wp2_with fail;go_loopw [8] (fun i wr=>uW tH cs w6.heap.size w6 i wr) (fun i _=>cs.length-(aJ i).toNat);case atStart=>exact⟨0,bS _,rfl,rfl,aQ _ _⟩
        case round=>
         clear u0 u1;obtain⟨k,hk,rfl,hall,Vb⟩:=hrel;have bf:=Vb.size;have HF:=aA hall;clear hall;have B7:=aA (B5.o.trans (Vb.mono B5.o.size));obtain⟨u0,u1,sz7,bw7⟩:=KC.o wr B7.o;have BW7:=aA bw7;clear bw7;by_cases nI:k<cs.length
         ·obtain⟨bb,off,ha,hbb,mE,c0,c1,c2,c3,c4,c5⟩:=mq (H1.o.below (aC _) B7.o).2 k nI;have AS:=aA (xX tH gX cs k nI);have AB:=aA (AJ tH gX cs k nI);generalize cs.getD k gX=x at *;subst ha;obtain⟨xa,qF,xb,qO,Cv,He⟩:=x;simp only at c0 c1 c2 c3 c4 c5;clear mE;have BB:aY (aN w6.heap.size w6 (wr.alloc (af #[ah ag xa,ah ag qF,ah ag xb,ah ag qO,ah ag Cv,ah ag He] 86))):=Vb.alloc bf _;have BF:=aA (BW7.o.alloc (by omega) (af #[ah ag xa,ah ag qF,ah ag xb,ah ag qO,ah ag Cv,ah ag He] 86));by_cases rR:1<=Cv/\Cv<=100/\1<=He/\He<=1000
          ·have R:aY (uW tH cs w6.heap.size w6 (ah ag ((k+1:Nat):Int)) (wr.alloc (af #[ah ag xa,ah ag qF,ah ag xb,ah ag qO,ah ag Cv,ah ag He] 86))):=
            ⟨k+1,by omega,rfl,by rw[AS.o,HF.o];simp[tH,rR],BB.o⟩
           obtain⟨q1,q2,q3,q4⟩:=rR;clear AS AB HA HC HR HD V HF BB;go_wp2_with fail;exact⟨by simpa using R.o,by simp[aJ];omega⟩
          ·have iZ:=aA (aar (p:=⟨ns,cs⟩) V.o HA.o HC.o HR.o HD.o (AB.o (by
            simp only[tH];rw[Aw];intro h;simp at h;exact rR ⟨h.1.1.1,h.1.1.2,h.1.2,h.2⟩)))
           clear AS AB HA HC HR HD V HF;rcases(by omega:Cv<1\/(1<=Cv/\100<Cv)\/(1<=Cv/\Cv<=100/\He<1)\/(1<=Cv/\Cv<=100/\1<=He/\1000<He))with q1|⟨q1,q2⟩|⟨q1,q2,q3⟩|⟨q1,q2,q3,q4⟩<;>clear rR
           all_goals
            go_wp2_with fail;go_ret
            exact⟨by rw[iZ.out];rfl,BF.o⟩
         ·obtain rfl:k=cs.length:=by omega
          rw[dY]at HF;have iZ:=aA (aap (p:=⟨ns,cs⟩) V.o HA.o HC.o HR.o HD.o HF.o);clear HA HC HR HD V HF;go_wp2_with fail;go_ret;exact⟨by rw[iZ.out];rfl,BW7.o⟩
end
end Go.Proofs.YtnjjkgjdhljfnaaGreat
