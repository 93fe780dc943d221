/- Part 18. -/
import Derived.BigQuiet
import Derived.Deep.QuietTactic
import Derived.Laws.StructEq
import Derived.Test.YtnjjkgjdhljfnaaGreatPk1
open Go.Proofs.Tryz
open Bool renaming and_eq_true->dD,eq_false_iff->Bb
open Go renaming Calls->di,Value->aJ,World->aG
open Go.ByteArray renaming toList_eq->uk
open Go.Ending renaming returned->ax
open Go.IntKind renaming i64->ag
open Go.Lib renaming hid->aA
open Go.Obj renaming cells->af
open Go.Proofs.Tryz renaming prog->aH
open Go.RowKit renaming Below->aO,Hid->aZ,intOf->aK
open Go.RowKit.Below renaming refl->aS
open Go.Value renaming int->ah,slice->ay
open List renaming flatMap_append->fU,length_append->bW,take_length->fB
open Nat renaming le_refl->aC,zero_le->bJ
open Option renaming none->aj,some->az
set_option maxRecDepth 100000
set_option maxHeartbeats 16000000
set_option linter.unusedVariables false
set_option linter.unusedSimpArgs false
namespace Go.Proofs.YtnjjkgjdhljfnaaGreat
open Go.RowKit Go.Maps
section
theorem LH{B:Nat}{a w:aG}(h:aO B a w)(n:Nat):aO B a (w.drewN n):=⟨h.os,h.tape,h.output,h.size,h.block⟩
theorem vK(s:ByteArray)(w:aG):di aH 43 #[.string s] w fun e w'=>e=ax (.bool (qF s))/\w=w':=by
 by_cases h1:s.size<1
 ·have hf:qF s=false:=by simp[qF];omega
  have HF:=aA hf;clear hf;go_enter func43,ntmps43;go_wp2;go_ret;exact⟨by rw[HF.o];rfl,rfl⟩
 by_cases h2:20<s.size
 ·have hf:qF s=false:=by simp[qF];omega
  have HF:=aA hf;clear hf;go_enter func43,ntmps43;go_wp2;go_ret;exact⟨by rw[HF.o];rfl,rfl⟩
 have hs:qF s=FT s s.size:=by unfold qF FT;rw[decide_eq_true (by omega:1<=s.size),decide_eq_true (by omega:s.size<=20)];rfl
 have HS:=aA hs;clear hs;go_enter func43,ntmps43;go_wp2
 go_loop [3] (fun i=>∃k:Nat,k<=s.size/\i=ah ag k/\FT s k=true) (fun i=>s.size-(intOf i).toNat)
 case atStart=>exact⟨0,bJ _,rfl,rfl⟩
 case round=>
  obtain⟨k,hk,rfl,qX⟩:=hrel;have Xe:=aA qX;clear qX;by_cases tL:k<s.size
  ·have OS:aZ (FT s (k+1)=Jm k s[k]):=by rw[aZ,Gz,Xe.o,byte_at s k tL];rfl
   have OB:=aA (Qk k s[k]);by_cases hl:97<=(s[k].toNat:Int)/\(s[k].toNat:Int)<=122
   ·have fin:aZ (FT s (k+1)=true):=by rw[aZ,OS.o,OB.o,decide_eq_true (.inl hl)]
    clear OS OB Xe;obtain⟨l1,l2⟩:=hl;go_wp2;all_goals
     go_round
     case rel=>exact⟨k+1,by omega,by go_num,fin.out⟩
     case measure=>simp[intOf];omega
   ·by_cases hd:k≠0/\48<=(s[k].toNat:Int)/\(s[k].toNat:Int)<=57
    ·have fin:aZ (FT s (k+1)=true):=by rw[aZ,OS.o,OB.o,decide_eq_true (.inr hd)]
     clear OS OB Xe;obtain⟨d0,d1,d2⟩:=hd;have NU:((k:Int)==0)=false:=by rw[beq_eq_false_iff_ne];omega
     have l1:(s[k].toNat:Int)<97:=(by omega);clear hl d0;go_wp2;all_goals
      go_round
      case rel=>exact⟨k+1,by omega,by go_num,fin.out⟩
      case measure=>simp[intOf];omega
    ·have fin:aZ (qF s=false):=by
      rw[aZ,HS.o];refine Sl s (k+1) ?_ _ (by omega);rw[OS.o,OB.o,decide_eq_false (by omega)]
     clear OS OB Xe HS;by_cases NU:k=0
     ·have q0:((k:Int)==0)=true:=by rw[NU];rfl
      rcases(by omega:(s[k].toNat:Int)<97\/(97<=(s[k].toNat:Int)/\122<(s[k].toNat:Int)))with l1|⟨l1,l2⟩<;>clear hl hd NU
      all_goals
       try(have b2:decide ((s[k].toNat:Int)<=122)=false:=decide_eq_false (by omega))
       go_wp2
       all_goals
        go_ret;exact⟨by rw[fin.out];rfl,rfl⟩
     ·have q0:((k:Int)==0)=false:=by rw[beq_eq_false_iff_ne];omega
      rcases(by omega:((s[k].toNat:Int)<97/\(s[k].toNat:Int)<48)\/((s[k].toNat:Int)<97/\48<=(s[k].toNat:Int)/\57<(s[k].toNat:Int))\/(97<=(s[k].toNat:Int)/\122<(s[k].toNat:Int)))with⟨l1,l2⟩|⟨l1,l2,l3⟩|⟨l1,l2⟩<;>clear hl hd NU
      all_goals
       try(have b2:decide ((s[k].toNat:Int)<=122)=false:=decide_eq_false (by omega))
       try(have b3:decide ((s[k].toNat:Int)<=57)=false:=decide_eq_false (by omega))
       go_wp2
       all_goals
        go_ret;exact⟨by rw[fin.out];rfl,rfl⟩
  ·have e:k=s.size:=by omega
   have fin:aZ (qF s=true):=(by rw[aZ,HS.o,<-e,Xe.o]);clear e Xe HS;go_wp2;go_ret;exact⟨by rw[fin.out];rfl,rfl⟩
theorem acr(p:Pl)(An Ac:Option Addr)(cn cc:Nat)(node port:Int)(w:aG)(hl:p.ns.length<=1000000)(h:jB w An Ac p):di aH 44 #[.agg #[ay An p.ns.length cn,ay Ac p.cs.length cc],ah ag node,ah ag port] w fun e w'=>e=ax (.bool (jY p.ns node port))/\w.alloc (af #[ay An p.ns.length cn,ay Ac p.cs.length cc] 25)=w':=by
 have H:=aA (h.alloc (af #[ay An p.ns.length cn,ay Ac p.cs.length cc] 25)).1;clear h;by_cases h1:0<=node
 ·by_cases h2:node<p.ns.length
  ·by_cases h3:0<=port
   ·have hf:aZ (jY p.ns node port=decide (port<(p.ns.getD node.toNat iZ).bE)):=by simp[aZ,jY,h1,h2,h3]
    obtain⟨k,rfl⟩:∃k:Nat,node=k:=⟨node.toNat,by omega⟩;obtain⟨b,off,ha,hb,hm,c0,c1,c2⟩:=uS H.o k (by omega);rw[Int.toNat_natCast]at hf;generalize p.ns.getD k iZ=x at *;generalize hq:p.ns.length=ln at *;clear hq;subst ha;go_enter func44,ntmps44;go_wp2;go_ret;refine⟨?_,rfl⟩;rw[hf.out];rfl
   ·have hf:aZ (jY p.ns node port=false):=by simp[aZ,jY,h1,h2,h3]
    go_enter func44,ntmps44;go_wp2
    go_ret;exact⟨by rw[hf.out];rfl,rfl⟩
  ·have hf:aZ (jY p.ns node port=false):=by simp[aZ,jY,h1,h2]
   go_enter func44,ntmps44;go_wp2
   go_ret;exact⟨by rw[hf.out];rfl,rfl⟩
 ·have hf:aZ (jY p.ns node port=false):=by simp[aZ,jY,h1]
  go_enter func44,ntmps44;go_wp2
  go_ret;exact⟨by rw[hf.out];rfl,rfl⟩
theorem Ai(ns:List Nd)(cs:List Cb)(An Ac:Option Addr)(cn cc:Nat)(node port:Int)(w:aG)(hl:ns.length<=1000000)(h:jB w An Ac ⟨ns,cs⟩)(r:Bool)(hr:jY ns node port=r)(ob:Obj)(Od:af #[ay An ns.length cn,ay Ac cs.length cc] 25=ob):di aH 44 #[.agg #[ay An ns.length cn,ay Ac cs.length cc],ah ag node,ah ag port] w fun e w'=>e=ax (.bool r)/\w.alloc ob=w':=by subst hr;subst Od;exact acr ⟨ns,cs⟩ An Ac cn cc node port w hl h
end
section
def UK(ns:List Nd)(w1:aG)(i:aJ)(wr:aG):Prop:=
 ∃k:Nat,k<=ns.length/\i=ah ag k/\Jz nU iZ ns k=false/\aO w1.heap.size w1 wr
def adZ(ns:List Nd)(j:Nat)(w1:aG)(i:aJ)(wr:aG):Prop:=
 ∃k:Nat,k<=j/\i=ah ag k/\((ns.take k).any fun y=>nU y (ns.getD j iZ))=false/\aO w1.heap.size w1 wr
theorem Ij{α:Type}(f:α->Bool)(d:α)(l:List α)(k:Nat)(h:k<l.length):(l.take (k+1)).any f=((l.take k).any f||f (l.getD k d)):=by rw[jU d l k h,List.any_append];simp
theorem Ii{α:Type}(f:α->Bool)(l:List α){k n:Nat}(h:(l.take k).any f=true)(hn:k<=n):(l.take n).any f=true:=by rw[List.any_eq_true]at h|-;obtain⟨x,hx,hf⟩:=h;refine⟨x,?_,hf⟩;rw[List.mem_take_iff_getElem]at hx|-;obtain⟨i,hi,e⟩:=hx;exact⟨i,by omega,e⟩
theorem afb:(Tryz.prog.info? 73).map (fun i=>(i.zero,i.size,i.bytes))=az (az (.agg #[ah ag 0,ah ag 0]),2,16):=by kernel_rfl
def cP(x:Int×Int):List aJ:=[ah ag x.1,ah ag x.2]
theorem aba(x:Int×Int):(cP x).length=2:=rfl
theorem abt(cs:List Cb)(k:Nat)(h:k<cs.length):gW (cs.take (k+1))=gW (cs.take k)++[((cs.getD k gV).a,(cs.getD k gV).ap),((cs.getD k gV).b,(cs.getD k gV).bp)]:=by unfold gW;rw[jU gV cs k h,fU];simp
theorem Vt(cs:List Cb):(gW cs).length=2*cs.length:=by
 unfold gW
 induction cs with
 |nil=>rfl
 |cons x l ih=>rw[List.flatMap_cons,bW,ih];simp;omega
def UN(cs:List Cb)(w1:aG)(v i:aJ)(wr:aG):Prop:=
 ∃k:Nat,k<=cs.length/\i=ah ag k/\wr.ownsRow w1.heap.size 73 2 v (gW (cs.take k)).length ((gW (cs.take k)).flatMap cP)/\aO w1.heap.size w1 wr
def UO(es:List (Int×Int))(w1:aG)(i:aJ)(wr:aG):Prop:=
 ∃k:Nat,k<=es.length/\i=ah ag k/\Jz jD (0,0) es k=false/\aO w1.heap.size w1 wr
def aea(es:List (Int×Int))(j:Nat)(w1:aG)(i:aJ)(wr:aG):Prop:=
 ∃k:Nat,k<=j/\i=ah ag k/\((es.take k).any fun y=>jD y (es.getD j (0,0)))=false/\aO w1.heap.size w1 wr
theorem alD(a b c d:Int)(w:aG):(Op.equalIn 10000 73 (.agg #[ah ag a,ah ag b]) (.agg #[ah ag c,ah ag d])).run aH w=.ok (a==c&&b==d) w:=by have u3:=underlying3;have a3:=Tryz.isAgg3;have z3:=Tryz.sizeOf3;rw[show(10000:Nat)=9999+1 from rfl,Op.equalIn];simp only[Sem.run_bind,run_underlying underlying73,Result.andThen_ok];simp only[Std.Legacy.Range.forIn_eq_forIn_range',Std.Legacy.Range.size,Nat.sub_zero,Nat.add_sub_cancel,Nat.div_one,List.range'_succ,List.range'_zero,List.forIn_cons,List.forIn_nil];go_simp;by_cases h1:a=c<;>by_cases h2:b=d<;>simp[h1,h2]
theorem ZZ{w:aG}{A:Option Addr}{len:Nat}{es:List (Int×Int)}(h:gH 2 cP (0,0) w A len es)(k:Nat)(hk:k<len):∃b off,A=az ⟨b,off,aj⟩/\b<w.heap.size/\w.cell? ⟨b,off+k*2,aj⟩=az (ah ag (es.getD k (0,0)).1)/\w.cell? ⟨b,off+k*2+1,aj⟩=az (ah ag (es.getD k (0,0)).2):=by obtain⟨b,off,ha,hb,hc⟩:=h.2 (by omega);exact⟨b,off,ha,hb,hc k 0 hk (by omega),hc k 1 hk (by omega)⟩
theorem SH(p:Pl)(An Ac:Option Addr)(cn cc:Nat)(w:aG)(hl:p.ns.length<=1000000)(Ef:p.cs.length<=1000000)(h:jB w An Ac p):di aH 45 #[.agg #[ay An p.ns.length cn,ay Ac p.cs.length cc]] w fun e w'=>e=ax (.bool (kz p))/\aO w.heap.size w w':=by
 obtain⟨ns,cs⟩:=p;simp only at hl Ef|-;obtain⟨w1,gK⟩:∃w1:aG,w.alloc (af #[ay An ns.length cn,ay Ac cs.length cc] 25)=w1:=⟨_,rfl⟩;have s0:w1.cell? ⟨w.heap.size,0,aj⟩=az (ay An ns.length cn):=by rw[<-gK];simp[go_sem]
 have s1:w1.cell? ⟨w.heap.size,1,aj⟩=az (ay Ac cs.length cc):=by rw[<-gK];simp[go_sem]
 have Sz:w.heap.size<w1.heap.size:=by rw[<-gK];simp
 have Gg:aO w.heap.size w w1:=by rw[<-gK];exact(aS _ _).alloc (aC _) _
 have BW:=aA Gg;have H1:=aA (h.below (aC _) Gg);have Bv:=aA gK;have KC:aZ (∀w',aO w1.heap.size w1 w'->w'.cell? ⟨w.heap.size,0,aj⟩=az (ay An ns.length cn)/\w'.cell? ⟨w.heap.size,1,aj⟩=az (ay Ac cs.length cc)/\w.heap.size<w'.heap.size/\aO w.heap.size w w'):=
  fun w' hb=>⟨(hb.cell (by exact Sz)).trans s0,(hb.cell (by exact Sz)).trans s1,by have:=hb.size;omega,Gg.trans (hb.mono (by omega))⟩
 clear h gK Gg;go_enter func45,ntmps45;go_wp2_with fail;rw[Bv.o];go_loopw [3] (fun i wr=>UK ns w1 i wr) (fun i _=>ns.length-(aK i).toNat);case atStart=>exact⟨0,bJ _,rfl,rfl,aS _ _⟩
 case round=>
  clear s0 s1;obtain⟨k,hk,rfl,ZR,gB⟩:=hrel;have HT:=aA ZR;have BE:=aA gB;clear ZR;obtain⟨u0,u1,sz2,bw2⟩:=KC.o wr gB;by_cases nH:k<ns.length
  ·have TS:=aA (zH nU iZ ns k);obtain⟨w2,rfl⟩:∃w2:aG,w2=wr:=⟨_,rfl⟩;clear bw2 gB;go_wp2_with fail;go_loopw [4] (fun i wr=>adZ ns k w2 i wr) (fun i _=>k-(aK i).toNat);case atStart=>exact⟨0,bJ _,rfl,rfl,aS _ _⟩
   case round=>
    clear u0 u1;obtain⟨j,hj,rfl,han,gB⟩:=hrel;have HN:=aA han;clear han;have B3:=aA (BE.o.trans (gB.mono BE.o.size));obtain⟨u0,u1,sz3,bw3⟩:=KC.o wr B3.o;by_cases hjr:j<k
    ·have Oc:j<ns.length:=by omega
     obtain⟨bb,off,ha,hbb,mI,c0,_,_⟩:=uS (H1.o.below (aC _) B3.o).1 k nH;obtain⟨bb2,azb,ha2,_,_,e0,_,_⟩:=uS (H1.o.below (aC _) B3.o).1 j Oc;rw[ha]at ha2;injection ha2 with ha2;injection ha2 with h1 h2;subst h1;subst h2;subst ha;have AS:=aA (Ij (fun y=>nU y (ns.getD k iZ)) iZ ns j Oc);have DF:aZ (nU (ns.getD j iZ) (ns.getD k iZ)=((ns.getD j iZ).name.data.toList==(ns.getD k iZ).name.data.toList)):=rfl;generalize hgx:(ns.getD k iZ)=x at *;generalize(ns.getD j iZ)=y at *;have HX:=aA hgx;clear hgx;generalize x.name=xn at *;generalize y.name=yn at *;have i1:(0:Int)<=(k:Int):=(by omega);have i2:(k:Int)<(ns.length:Int):=(by omega);have i3:(0:Int)<=(j:Int):=(by omega);have i4:(j:Int)<(ns.length:Int):=(by omega);clear mI;by_cases hxy:xn.data.toList=yn.data.toList
     ·have q1:(xn.toList==yn.toList)=true:=by rw[uk,uk,hxy];simp
      have jm:aZ (kz ⟨ns,cs⟩=true):=(by have e1:Jz nU iZ ns (k+1)=true:=(by rw[TS.o];have:((ns.take k).any fun z=>nU z x)=true:=Ii _ _ (k:=j+1) (by rw[AS.o,DF.o,hxy];simp) (by omega);rw[this];simp);rw[aZ];unfold kz yU;rw[GZ nU iZ ns (k+1) e1 _ (by show k+1<=ns.length;omega)];rfl);clear hxy AS DF TS HT HN;have BF:=aA bw3;go_wp2_with fail;go_quiet (fail);go_wp2_with fail;go_ret;exact⟨by rw[jm.out];rfl,LH BF.o _⟩
     ·have q1:(xn.toList==yn.toList)=false:=by rw[uk,uk];simpa using hxy
      have R:aZ (((ns.take (j+1)).any fun z=>nU z x)=false):=(by have h2:(yn.data.toList==xn.data.toList)=false:=beq_eq_false_iff_ne.2 (fun e=>hxy e.symm);rw[aZ,AS.o,HN.o,DF.o,h2];rfl);clear hxy AS DF;go_wp2_with fail;go_quiet (fail);go_wp2_with fail;exact⟨⟨j+1,by omega,by simp,by rw[HX.o];exact R.o,LH gB _⟩,by simp[aK];omega⟩
    ·obtain rfl:j=k:=by omega
     have R:aZ (UK ns w1 (ah ag ((j+1:Nat):Int)) wr):=⟨j+1,by omega,rfl,by rw[TS.o,HT.o,HN.o];rfl,B3.o⟩;clear TS HT HN bw3;go_wp2_with fail;exact⟨by simpa using R.o,by simp[aK];omega⟩
  ·obtain rfl:k=ns.length:=by omega
   clear bw2;obtain⟨w2,rfl⟩:∃w2:aG,w2=wr:=⟨_,rfl⟩;obtain⟨i0,hi0,wE,uY,wN⟩:=info_parts afb;go_wp2_with fail;go_loopw [5,6] (fun v i wr=>UN cs w2 v i wr) (fun _ i _=>cs.length-(aK i).toNat);case atStart=>exact⟨0,bJ _,rfl,World.ownsRow_nil _ _ _ _,aS _ _⟩
   case round=>
    clear u0 u1 gB;obtain⟨k,hk,rfl,own,gB⟩:=hrel;have bs:=gB.size;have B3:=aA (BE.o.trans (gB.mono BE.o.size));obtain⟨u0,u1,sz3,bw3⟩:=KC.o wr B3.o;clear bw3;by_cases nH:k<cs.length
    ·obtain⟨bb,off,ha,hbb,mI,c0,c1,c2,c3,c4,c5⟩:=mE (H1.o.below (aC _) B3.o).2 k nH;have ES:=aA (abt cs k nH);have EL:(gW (cs.take k)).length<=2*k:=(by have:=Vt (cs.take k);rw[List.length_take]at this;omega);generalize cs.getD k gV=x at *;subst ha;obtain⟨xa,qK,xb,qQ,Db,Hy⟩:=x;simp only at c0 c1 c2 c3 c4 c5;have OG:aZ (∀g,u5.ownBlock=az g->w2.heap.size<=g):=fun g e=>(own.lt g e).1;clear mI;generalize gW (cs.take k)=xs at *;go_wp2_with (at_builtin;refine wpList_append_own _ rfl _ _ 179 rfl w2.heap.size 73 i0 _ 2 16 underlying179 hi0 wE uY wN rfl (by decide) _ _ _ rfl ((own.alloc _).alloc _) ⟨wr.heap.size+1,0,aj⟩ 2 2 [ah ag xa,ah ag qK,ah ag xb,ah ag qQ] rfl rfl (World.news_of_block (cs:=#[ah ag xa,ah ag qK,ah ag xb,ah ag qQ]) (t:=73) (fr:=(0,0)) (by have h:=heap_alloc_new (wr.alloc (af #[ah ag xa,ah ag qK,ah ag xb,ah ag qQ,ah ag Db,ah ag Hy] 86)) (af #[ah ag xa,ah ag qK,ah ag xb,ah ag qQ] 73);simpa using h)) ?n2 ?n3 ?n4 ?n5 ?_);case n2=>exact⟨rfl,rfl,rfl,rfl⟩
     case n3=>unfold maxLen;omega
     case n4=>omega
     case n5=>first|omega|(simp;omega)
     intro v' w4 Rb gr4 _;have R:UN cs w2 v' (ah ag ((k+1:Nat):Int)) w4:=by
      refine⟨k+1,by omega,rfl,?_,?_⟩
      ·rw[ES.o,bW,fU];exact Rb
      ·exact((gB.alloc bs _).alloc (by simp;omega) _).grown gr4 (by simp;omega) OG.o
     clear Rb gr4 own;go_wp2;exact⟨by simpa using R,by simp[aK];omega⟩
    ·obtain rfl:k=cs.length:=by omega
     rw[fB]at own;obtain⟨ae,ce,hve,_,hrec,_⟩:=ic (d:=((0:Int),(0:Int))) aba (by decide) own;rw[hve];have HRE:=aA hrec;have EL:(gW cs).length<=2000000:=by rw[Vt];omega
     have N1:aZ (yU nU iZ ns=false):=HT.o;have RB:aZ (kz ⟨ns,cs⟩=yU jD (0,0) (gW cs)):=(by rw[aZ];unfold kz;rw[show(Pl.mk ns cs).ns=ns from rfl,N1.o];rfl);clear hrec own hve hi0 wE uY wN N1 HT nH hk;generalize gW cs=es at *;obtain⟨w4,rfl⟩:∃w4:aG,w4=wr:=⟨_,rfl⟩;go_wp2_with fail;go_loopw [8] (fun i wr=>UO es w4 i wr) (fun i _=>es.length-(aK i).toNat);case atStart=>exact⟨0,bJ _,rfl,rfl,aS _ _⟩
     case round=>
      clear u0 u1 gB;obtain⟨k,hk,rfl,ZR,gB⟩:=hrel;have HT:=aA ZR;have BE4:=aA gB;have BF4:aZ (aO w.heap.size w wr):=(KC.o wr (B3.o.trans (gB.mono B3.o.size))).2.2.2;clear ZR;by_cases nH:k<es.length
      ·have TS:=aA (zH jD (0,0) es k);obtain⟨w5,rfl⟩:∃w5:aG,w5=wr:=⟨_,rfl⟩;clear gB;go_wp2_with fail;go_loopw [9] (fun i wr=>aea es k w5 i wr) (fun i _=>k-(aK i).toNat);case atStart=>exact⟨0,bJ _,rfl,rfl,aS _ _⟩
       case round=>
        obtain⟨j,hj,rfl,han,gB⟩:=hrel;have HN:=aA han;clear han;have B6:=aA (BE4.o.trans (gB.mono BE4.o.size));have BF6:=aA (BF4.o.trans (gB.mono BF4.o.size));by_cases hjr:j<k
        ·have Oc:j<es.length:=by omega
         obtain⟨bb,off,ha,hbb,c0,c1⟩:=ZZ (HRE.o.below (aC _) B6.o) k nH;obtain⟨bb2,azb,ha2,_,e0,e1⟩:=ZZ (HRE.o.below (aC _) B6.o) j Oc;rw[ha]at ha2;injection ha2 with ha2;injection ha2 with h1 h2;subst h1;subst h2;subst ha;have AS:=aA (Ij (fun y=>jD y (es.getD k (0,0))) (0,0) es j Oc);generalize hgx:es.getD k (0,0)=x at *;generalize es.getD j (0,0)=y at *;have HX:=aA hgx;clear hgx;obtain⟨x0,x1⟩:=x;obtain⟨y0,y1⟩:=y;simp only at c0 c1 e0 e1;have i1:(0:Int)<=(k:Int):=(by omega);have i2:(k:Int)<(es.length:Int):=(by omega);have i3:(0:Int)<=(j:Int):=(by omega);have i4:(j:Int)<(es.length:Int):=(by omega);have heq:=alD x0 x1 y0 y1;cases hq:(x0==y0&&x1==y1)with
         |true=>
          rw[hq]at heq;have jm:aZ (kz ⟨ns,cs⟩=true):=by
           have he1:Jz jD (0,0) es (k+1)=true:=by
            rw[TS.o];have:((es.take k).any fun z=>jD z (x0,x1))=true:=Ii _ _ (k:=j+1) (by
             rw[AS.o];have h2:jD (y0,y1) (x0,x1)=true:=by unfold jD;simp only[dD,beq_iff_eq]at hq|-;exact⟨hq.1.symm,hq.2.symm⟩
             rw[h2];simp) (by omega)
            rw[this];simp
           rw[aZ,RB.o];unfold yU;exact GZ jD (0,0) es (k+1) he1 _ (by omega)
          clear hq AS TS HT HN;go_wp2_with fail;go_quiet (fail);go_wp2_with fail;go_ret;exact⟨by rw[jm.out];rfl,LH BF6.o _⟩
         |false=>
          rw[hq]at heq;have R:aZ (((es.take (j+1)).any fun z=>jD z (es.getD k (0,0)))=false):=by have h2:jD (y0,y1) (x0,x1)=false:=(by unfold jD;rw[Bb]at hq|-;intro h3;simp only[dD,beq_iff_eq]at h3;exact hq (by simp[h3.1,h3.2]));rw[aZ,HX.o,AS.o,h2];have:=HN.o;rw[this];rfl
          clear hq AS;go_wp2_with fail;go_quiet (fail);go_wp2_with fail;exact⟨⟨j+1,by omega,by simp,R.o,LH gB _⟩,by simp[aK];omega⟩
        ·obtain rfl:j=k:=by omega
         have R:aZ (UO es w4 (ah ag ((j+1:Nat):Int)) wr):=⟨j+1,by omega,rfl,by rw[TS.o,HT.o,HN.o];rfl,B6.o⟩;clear TS HT HN;go_wp2_with fail;exact⟨by simpa using R.o,by simp[aK];omega⟩
      ·obtain rfl:k=es.length:=by omega
       have jm:aZ (kz ⟨ns,cs⟩=false):=(by rw[aZ,RB.o];exact HT.o);clear HT;go_wp2_with fail;go_ret;exact⟨by rw[jm.out];rfl,BF4.o⟩
end
section
theorem Um(p:Pl)(An Ac:Option Addr)(cn cc:Nat)(w:aG)(hl:p.ns.length<=1000000)(Ef:p.cs.length<=1000000)(h:jB w An Ac p):di aH 12 #[.agg #[ay An p.ns.length cn,ay Ac p.cs.length cc]] w fun e w'=>e=ax (ah ag (fQ p))/\aO w.heap.size w w':=by
 obtain⟨ns,cs⟩:=p;simp only at hl Ef|-;obtain⟨w1,gK⟩:∃w1:aG,w.alloc (af #[ay An ns.length cn,ay Ac cs.length cc] 25)=w1:=⟨_,rfl⟩;have s0:w1.cell? ⟨w.heap.size,0,aj⟩=az (ay An ns.length cn):=by rw[<-gK];simp[go_sem]
 have s1:w1.cell? ⟨w.heap.size,1,aj⟩=az (ay Ac cs.length cc):=by rw[<-gK];simp[go_sem]
 have Sz:w.heap.size<w1.heap.size:=by rw[<-gK];simp
 have Gg:aO w.heap.size w w1:=by rw[<-gK];exact(aS _ _).alloc (aC _) _
 have BW:=aA Gg;have H1:=aA (h.below (aC _) Gg);have Bv:=aA gK;have KC:aZ (∀w',aO w1.heap.size w1 w'->w'.cell? ⟨w.heap.size,0,aj⟩=az (ay An ns.length cn)/\w'.cell? ⟨w.heap.size,1,aj⟩=az (ay Ac cs.length cc)/\w.heap.size<w'.heap.size/\aO w.heap.size w w'):=
  fun w' hb=>⟨(hb.cell (by exact Sz)).trans s0,(hb.cell (by exact Sz)).trans s1,by have:=hb.size;omega,Gg.trans (hb.mono (by omega))⟩
 clear h gK Gg;by_cases h16:16<ns.length
 ·have jm:=aA (Oo (p:=⟨ns,cs⟩) (.inl h16));go_enter func12,ntmps12;go_wp2_with fail;rw[Bv.o];go_ret;exact⟨by rw[jm.out];rfl,BW.o⟩
 by_cases h32:32<cs.length
 ·have jm:=aA (Oo (p:=⟨ns,cs⟩) (.inr h32));go_enter func12,ntmps12;go_wp2_with fail;rw[Bv.o];go_ret;exact⟨by rw[jm.out];rfl,BW.o⟩
 have V:aZ (¬(16<(⟨ns,cs⟩:Pl).ns.length\/32<(⟨ns,cs⟩:Pl).cs.length)):=by
  rintro(h|h)
  ·exact h16 h
  ·exact h32 h
 go_enter func12,ntmps12;go_wp2_with fail
 rw[Bv.o];go_loopw [3] (fun i wr=>uX lJ ns w1.heap.size w1 i wr) (fun i _=>ns.length-(aK i).toNat);case atStart=>exact⟨0,bJ _,rfl,rfl,aS _ _⟩
 case round=>
  clear s0 s1;obtain⟨k,hk,rfl,hall,gB⟩:=hrel;have bs:=gB.size;have HA:=aA hall;clear hall;obtain⟨u0,u1,sz2,bw2⟩:=KC.o wr gB;have JB:=aA bw2;clear bw2;by_cases nH:k<ns.length
  ·obtain⟨bb,off,ha,hbb,mI,c0,c1,c2⟩:=uS (H1.o.below (aC _) gB).1 k nH;have AS:=aA (yo lJ iZ ns k nH);have AB:=aA (Bg lJ iZ ns k nH);generalize ns.getD k iZ=x at *;subst ha;obtain⟨nm,sw,po⟩:=x;simp only at c0 c1 c2;clear mI;have B3:=aA (gB.alloc bs (af #[.string nm,.bool sw,ah ag po] 83));have BF:=aA (JB.o.alloc (by omega) (af #[.string nm,.bool sw,ah ag po] 83));have RR:aZ (lJ ⟨nm,sw,po⟩=true->uX lJ ns w1.heap.size w1 (ah ag ((k+1:Nat):Int)) (wr.alloc (af #[.string nm,.bool sw,ah ag po] 83))):=
    fun hx=>⟨k+1,by omega,rfl,by rw[AS.o,HA.o,hx];rfl,B3.o⟩
   have FF:aZ (lJ ⟨nm,sw,po⟩=false->fQ ⟨ns,cs⟩=1):=fun hx=>aas (p:=⟨ns,cs⟩) V.o (AB.o hx);clear AS AB HA;cases hn:qF nm with
   |false=>have jm:=aA (FF.o (by simp[lJ,hn]));have HN:=aA hn;clear hn;go_wp2_with (go_at_call 43;refine(vK _ _).mono ?_;rintro r w' ⟨rfl,rfl⟩;rw[HN.o]);go_ret;exact⟨by rw[jm.out];rfl,BF.o⟩
   |true=>
    cases sw with
    |true=>
     rcases(by omega:po<1\/(1<=po/\8<po)\/(1<=po/\po<=8))with q1|⟨q1,q2⟩|⟨q1,q2⟩
     ·have jm:=aA (FF.o (by simp[lJ,hn];omega));have HN:=aA hn;clear hn;go_wp2_with (go_at_call 43;refine(vK _ _).mono ?_;rintro r w' ⟨rfl,rfl⟩;rw[HN.o]);go_ret;exact⟨by rw[jm.out];rfl,BF.o⟩
     ·have jm:=aA (FF.o (by simp[lJ,hn];omega));have HN:=aA hn;clear hn;go_wp2_with (go_at_call 43;refine(vK _ _).mono ?_;rintro r w' ⟨rfl,rfl⟩;rw[HN.o]);go_ret;exact⟨by rw[jm.out];rfl,BF.o⟩
     ·have R:=aA (RR.o (by simp[lJ,hn];omega));have HN:=aA hn;clear hn;go_wp2_with (go_at_call 43;refine(vK _ _).mono ?_;rintro r w' ⟨rfl,rfl⟩;rw[HN.o]);exact⟨by simpa using R.o,by simp[aK];omega⟩
    |false=>
     by_cases q1:po=1
     ·have R:=aA (RR.o (by simp[lJ,hn,q1]));have q2:(po !=1)=false:=by simp[q1]
      have HN:=aA hn;clear hn q1;go_wp2_with (go_at_call 43;refine(vK _ _).mono ?_;rintro r w' ⟨rfl,rfl⟩;rw[HN.o]);exact⟨by simpa using R.o,by simp[aK];omega⟩
     ·have jm:=aA (FF.o (by simp[lJ,hn,q1]));have q2:(po !=1)=true:=by simp[q1]
      have HN:=aA hn;clear hn q1;go_wp2_with (go_at_call 43;refine(vK _ _).mono ?_;rintro r w' ⟨rfl,rfl⟩;rw[HN.o]);go_ret;exact⟨by rw[jm.out];rfl,BF.o⟩
  ·obtain rfl:k=ns.length:=by omega
   rw[fB]at HA;have BE2:=aA gB;obtain⟨w2,rfl⟩:∃w2:aG,w2=wr:=⟨_,rfl⟩;clear gB;go_wp2_with fail;go_loopw [5] (fun i wr=>uX (lV ns) cs w2.heap.size w2 i wr) (fun i _=>cs.length-(aK i).toNat);case atStart=>exact⟨0,bJ _,rfl,rfl,aS _ _⟩
   case round=>
    clear u0 u1;obtain⟨k,hk,rfl,hall,Eu⟩:=hrel;have bc:=Eu.size;have HC:=aA hall;clear hall;have B3:=aA (BE2.o.trans (Eu.mono BE2.o.size));obtain⟨u0,u1,sz3,bw3⟩:=KC.o wr B3.o;have MP:=aA bw3;clear bw3;by_cases nH:k<cs.length
    ·obtain⟨bb,off,ha,hbb,mI,c0,c1,c2,c3,c4,c5⟩:=mE (H1.o.below (aC _) B3.o).2 k nH;have AS:=aA (yo (lV ns) gV cs k nH);have AB:=aA (Bg (lV ns) gV cs k nH);generalize cs.getD k gV=x at *;have HAn:aZ (jB wr An (az ⟨bb,off,aj⟩) ⟨ns,cs⟩):=(by rw[<-ha];exact H1.o.below (aC _) B3.o);subst ha;obtain⟨xa,qK,xb,qQ,Db,Hy⟩:=x;simp only at c0 c1 c2 c3 c4 c5;clear mI;obtain⟨ob,Od⟩:∃ob,af #[ay An ns.length cn,ay (az ⟨bb,off,aj⟩) cs.length cc] 25=ob:=⟨_,rfl⟩;have HOB:=aA Od;clear Od;cases hx:jY ns xa qK with
     |false=>have jm:=aA (Om (p:=⟨ns,cs⟩) V.o HA.o (AB.o (by simp[lV,hx])));have HX:=aA hx;have BF:aZ (aO w.heap.size w ((wr.alloc (af #[ah ag xa,ah ag qK,ah ag xb,ah ag qQ,ah ag Db,ah ag Hy] 86)).alloc ob)):=(MP.o.alloc (by omega) _).alloc (by simp;omega) _;clear hx AS AB HA HC V;go_wp2_with fail;refine(Ai ns cs An _ cn cc xa qK _ hl (HAn.o.alloc _) _ HX.o ob HOB.o).mono ?_;rintro r w' ⟨rfl,rfl⟩;go_wp2_with fail;go_ret;exact⟨by rw[jm.out];rfl,BF.o⟩
     |true=>
      have HX:=aA hx;have BF:aZ (aO w.heap.size w (((wr.alloc (af #[ah ag xa,ah ag qK,ah ag xb,ah ag qQ,ah ag Db,ah ag Hy] 86)).alloc ob).alloc ob)):=((MP.o.alloc (by omega) _).alloc (by simp;omega) _).alloc (by simp;omega) _;have BB:aZ (aO w2.heap.size w2 (((wr.alloc (af #[ah ag xa,ah ag qK,ah ag xb,ah ag qQ,ah ag Db,ah ag Hy] 86)).alloc ob).alloc ob)):=((Eu.alloc bc _).alloc (by simp;omega) _).alloc (by simp;omega) _;cases hy:jY ns xb qQ with
      |false=>have jm:=aA (Om (p:=⟨ns,cs⟩) V.o HA.o (AB.o (by simp[lV,hy])));have HY:=aA hy;clear hx hy AS AB HA HC V;go_wp2_with fail;refine(Ai ns cs An _ cn cc xa qK _ hl (HAn.o.alloc _) _ HX.o ob HOB.o).mono ?_;rintro r w' ⟨rfl,rfl⟩;go_wp2_with fail;refine(Ai ns cs An _ cn cc xb qQ _ hl ((HAn.o.alloc _).alloc _) _ HY.o ob HOB.o).mono ?_;rintro r w' ⟨rfl,rfl⟩;go_wp2_with fail;go_ret;exact⟨by rw[jm.out];rfl,BF.o⟩
      |true=>
       have HY:=aA hy;have R:aZ (uX (lV ns) cs w2.heap.size w2 (ah ag ((k+1:Nat):Int)) (((wr.alloc (af #[ah ag xa,ah ag qK,ah ag xb,ah ag qQ,ah ag Db,ah ag Hy] 86)).alloc ob).alloc ob)):=
        ⟨k+1,by omega,rfl,by rw[AS.o,HC.o];simp[lV,hx,hy],BB.o⟩
       clear hx hy AS AB HA HC V BB;go_wp2_with fail;refine(Ai ns cs An _ cn cc xa qK _ hl (HAn.o.alloc _) _ HX.o ob HOB.o).mono ?_;rintro r w' ⟨rfl,rfl⟩;go_wp2_with fail;refine(Ai ns cs An _ cn cc xb qQ _ hl ((HAn.o.alloc _).alloc _) _ HY.o ob HOB.o).mono ?_;rintro r w' ⟨rfl,rfl⟩;go_wp2_with fail;exact⟨by simpa using R.o,by simp[aK];omega⟩
    ·obtain rfl:k=cs.length:=by omega
     rw[fB]at HC;have H3:=aA (H1.o.below (aC _) B3.o);clear Eu;cases hr:kz ⟨ns,cs⟩with
     |true=>have jm:=aA (aau (p:=⟨ns,cs⟩) V.o HA.o HC.o hr);have HR:=aA hr;clear hr V HA HC;go_wp2_with fail;refine(SH ⟨ns,cs⟩ An Ac cn cc _ hl Ef H3.o).mono ?_;rintro r w' ⟨rfl,xE⟩;rw[HR.o];have BF:=aA (MP.o.trans (xE.mono (by omega)));clear xE;go_wp2_with fail;go_ret;exact⟨by rw[jm.out];rfl,BF.o⟩
     |false=>
      have HR:=aA hr;clear hr;go_wp2_with fail;refine(SH ⟨ns,cs⟩ An Ac cn cc _ hl Ef H3.o).mono ?_;rintro r w4 ⟨rfl,Et⟩;rw[HR.o];have B4:=aA (B3.o.trans (Et.mono B3.o.size));clear Et u0 u1;obtain⟨u0,u1,sz4,bw4⟩:=KC.o w4 B4.o;clear bw4;go_wp2_with fail;go_loopw [7] (fun i wr=>uX (fun x:Cb=>decide (x.a≠x.b)) cs w4.heap.size w4 i wr) (fun i _=>cs.length-(aK i).toNat);case atStart=>exact⟨0,bJ _,rfl,rfl,aS _ _⟩
      case round=>
       clear u0 u1;obtain⟨k,hk,rfl,hall,OX⟩:=hrel;have HD:=aA hall;clear hall;have B5:=aA (B4.o.trans (OX.mono B4.o.size));obtain⟨u0,u1,sz5,bw5⟩:=KC.o wr B5.o;have BW5:=aA bw5;clear bw5;by_cases nH:k<cs.length
       ·obtain⟨bb,off,ha,hbb,mI,c0,c1,c2,c3,c4,c5⟩:=mE (H1.o.below (aC _) B5.o).2 k nH;have AS:=aA (yo (fun x:Cb=>decide (x.a≠x.b)) gV cs k nH);have AB:=aA (Bg (fun x:Cb=>decide (x.a≠x.b)) gV cs k nH);generalize cs.getD k gV=x at *;subst ha;obtain⟨xa,qK,xb,qQ,Db,Hy⟩:=x;simp only at c0 c1 c2 c3 c4 c5;have i1:(0:Int)<=(k:Int):=(by omega);have i2:(k:Int)<(cs.length:Int):=(by omega);clear mI;by_cases hab:xa=xb
        ·have jm:=aA (WM (p:=⟨ns,cs⟩) V.o HA.o HC.o HR.o (AB.o (by simp[hab])));have hq:(xa==xb)=true:=by rw[hab];simp
         clear AS AB HA HC HR V HD hab;go_wp2_with fail;go_quiet (fail);go_wp2_with fail;go_ret;exact⟨by rw[jm.out];rfl,LH BW5.o _⟩
        ·have R:aZ ((((cs.take (k+1)).all fun x:Cb=>decide (x.a≠x.b))=true)):=by rw[aZ,AS.o,HD.o];simp[hab]
         have hq:(xa==xb)=false:=(by rw[beq_eq_false_iff_ne];exact hab);clear AS AB HA HC HR V HD hab;go_wp2_with fail;go_quiet (fail);go_wp2_with fail;exact⟨⟨k+1,by omega,by simp,R.o,LH OX _⟩,by simp[aK];omega⟩
       ·obtain rfl:k=cs.length:=by omega
        rw[fB]at HD;obtain⟨w6,rfl⟩:∃w6:aG,w6=wr:=⟨_,rfl⟩;clear OX;go_wp2_with fail;go_loopw [8] (fun i wr=>uX tK cs w6.heap.size w6 i wr) (fun i _=>cs.length-(aK i).toNat);case atStart=>exact⟨0,bJ _,rfl,rfl,aS _ _⟩
        case round=>
         clear u0 u1;obtain⟨k,hk,rfl,hall,Va⟩:=hrel;have bf:=Va.size;have HF:=aA hall;clear hall;have B7:=aA (B5.o.trans (Va.mono B5.o.size));obtain⟨u0,u1,sz7,bw7⟩:=KC.o wr B7.o;have BW7:=aA bw7;clear bw7;by_cases nH:k<cs.length
         ·obtain⟨bb,off,ha,hbb,mI,c0,c1,c2,c3,c4,c5⟩:=mE (H1.o.below (aC _) B7.o).2 k nH;have AS:=aA (yo tK gV cs k nH);have AB:=aA (Bg tK gV cs k nH);generalize cs.getD k gV=x at *;subst ha;obtain⟨xa,qK,xb,qQ,Db,Hy⟩:=x;simp only at c0 c1 c2 c3 c4 c5;clear mI;have BB:aZ (aO w6.heap.size w6 (wr.alloc (af #[ah ag xa,ah ag qK,ah ag xb,ah ag qQ,ah ag Db,ah ag Hy] 86))):=Va.alloc bf _;have BF:=aA (BW7.o.alloc (by omega) (af #[ah ag xa,ah ag qK,ah ag xb,ah ag qQ,ah ag Db,ah ag Hy] 86));by_cases qX:1<=Db/\Db<=100/\1<=Hy/\Hy<=1000
          ·have R:aZ (uX tK cs w6.heap.size w6 (ah ag ((k+1:Nat):Int)) (wr.alloc (af #[ah ag xa,ah ag qK,ah ag xb,ah ag qQ,ah ag Db,ah ag Hy] 86))):=
            ⟨k+1,by omega,rfl,by rw[AS.o,HF.o];simp[tK,qX],BB.o⟩
           obtain⟨q1,q2,q3,q4⟩:=qX;clear AS AB HA HC HR HD V HF BB;go_wp2_with fail;exact⟨by simpa using R.o,by simp[aK];omega⟩
          ·have jm:=aA (aat (p:=⟨ns,cs⟩) V.o HA.o HC.o HR.o HD.o (AB.o (by
            simp only[tK];rw[Bb];intro h;simp at h;exact qX ⟨h.1.1.1,h.1.1.2,h.1.2,h.2⟩)))
           clear AS AB HA HC HR HD V HF;rcases(by omega:Db<1\/(1<=Db/\100<Db)\/(1<=Db/\Db<=100/\Hy<1)\/(1<=Db/\Db<=100/\1<=Hy/\1000<Hy))with q1|⟨q1,q2⟩|⟨q1,q2,q3⟩|⟨q1,q2,q3,q4⟩<;>clear qX
           all_goals
            go_wp2_with fail;go_ret
            exact⟨by rw[jm.out];rfl,BF.o⟩
         ·obtain rfl:k=cs.length:=by omega
          rw[fB]at HF;have jm:=aA (aar (p:=⟨ns,cs⟩) V.o HA.o HC.o HR.o HD.o HF.o);clear HA HC HR HD V HF;go_wp2_with fail;go_ret;exact⟨by rw[jm.out];rfl,BW7.o⟩
end
end Go.Proofs.YtnjjkgjdhljfnaaGreat
