/- The statement FabricEpochsSaid, from the walk of its text: the call returns true for every input, and its arguments read afterwards as before. No conditions. (The frame is written by genframe.py after the kit's shell.) -/
import Derived.ChangeOld
import Derived.ShutString
import Derived.Test.YtnjjkgjdhljfnaaGreatRows
import Derived.Test.YtnjjkgjdhljfnaaGreatPk30
open Go.Proofs.Tryz
open Go.DataW renaming trod_lt->Hg
open Go.Proofs.Tryz renaming checked->JP,prog->aH
open Go.RowKit.Below renaming trod->Oq
open Go.Value renaming slice->ay
open Option renaming none->aj,some->az
set_option maxRecDepth 100000
set_option maxHeartbeats 16000000
set_option linter.unusedVariables false
set_option linter.unusedSimpArgs false
namespace Go.Proofs.YtnjjkgjdhljfnaaGreat.fabricEpochs
open Go.ChangeShapes Go.WideShapes Go.ChangeAt Go.RowKit Go.Deep
theorem own:ownKnob Tryz.prog.godebug=aj:=by kernel_rfl
theorem laidOut:laidOutB aH=true:=by kernel_rfl
theorem lifted(os:Os)(started:os.Started)(H:Type)(enc:TypeId×Value->H):ReturnsInHanded {} JP os 4 .any (Rows.fabricEpochsSpec.pre6 enc aH Tryz.f4 Rows.fabricEpochsRow.domain false) (Rows.fabricEpochsSpec.post enc aH Tryz.f4 false true false false):=by
 refine returnsInHanded_of_change (C:=JP) own started (by kernel_rfl) func4
  (ChangeSpec.witness6 (enc:=enc) (C:=JP) false ⟨#[],#[.agg #[ay aj 0 0,ay aj 0 0],ay aj 0 0,ay aj 0 0],[]⟩ 8 (by kernel_rfl) (by kernel_rfl) (by kernel_rfl) (by kernel_rfl)) ?_
 intro W base args ds gs before hval0 hW hcnd _;have hval:∀(j:Nat) t v,Tryz.f4.params[j]?=az t->args[j]?=az v->Value.okWide aH W .any base t v:=hval0;have hW':=hW;obtain⟨p,q,hA0,hV,rfl,hfz,hnd⟩:=hW;have hA:DataW.TrodAll enc aH W 0 (fun _=>true) true Tryz.f4.params.toList args.toList ds p:=hA0;rw[Tryz.params4]at hA hval;obtain⟨v0,vs0,d0,ds0,p0,q0,hargs,rfl,rfl,h0,r0⟩:=trodAll_cons hA;obtain⟨v1,vs1,d1,ds1,p1,q1,rfl,rfl,rfl,h1,r1⟩:=trodAll_cons r0;obtain⟨v2,vs2,d2,ds2,p2,q2,rfl,rfl,rfl,h2,r2⟩:=trodAll_cons r1;obtain⟨rfl,rfl,rfl⟩:=trodAll_nil r2;obtain rfl:args=#[v0,v1,v2]:=by cases args;simp_all
 obtain⟨rfl,rfl⟩:=trodVars_none hV;have k0:=h0;have lt0:∀x∈p0,x.block<W.heap.size:=by obtain⟨m,hm⟩:=k0;exact Hg m _ _ _ hm
 obtain⟨An0,Ac0,cn0,cc0,pl0,rfl,w0,wf0⟩:=abT (hval 0 25 v0 rfl rfl) h0;obtain⟨a1,arF,abf,rfl⟩:=okWide_slice underlying26 (hval 1 26 v1 rfl rfl);have k1:=h1;have lt1:∀x∈p1,x.block<W.heap.size:=by obtain⟨m,hm⟩:=k1;exact Hg m _ _ _ hm
 obtain⟨l1,y1⟩:∃zs,Ox .i64 W a1 arF zs:=RU underlying26 underlying3 (by kernel_rfl) h1;obtain rfl:l1.length=arF:=y1.2.1;obtain⟨w1,wf1⟩:=Yz y1;obtain⟨ap2,ayS,cp2,rfl⟩:=okWide_slice underlying47 (hval 2 47 v2 rfl rfl);have k2:=h2;have lt2:∀x∈p2,x.block<W.heap.size:=by obtain⟨m,hm⟩:=k2;exact Hg m _ _ _ hm
 obtain⟨fu2,hf2⟩:=h2;obtain⟨aq2,cq2,xs2,hq2,w2⟩:=abS (v:=ay ap2 ayS cp2) hf2;simp only[Value.slice.injEq]at hq2;obtain⟨rfl,rfl,rfl⟩:=hq2;clear hA0 hval0;refine(fabricEpochsW.walk An0 Ac0 cn0 cc0 pl0 a1 abf l1 ap2 cp2 xs2 W w0 wf0 w1 wf1 w2).mono ?_;rintro e W' ⟨he,gm⟩;subst he;exact⟨_,rfl,_,_,_,[],_,[],hW',trodAll_mk1 (shut_bool underlying4 _),(trodAll_cons_mk (Oq laidOut (by kernel_rfl) (of_decide_eq_true (by kernel_rfl)) k0 gm lt0) (trodAll_cons_mk (Oq laidOut (by kernel_rfl) (of_decide_eq_true (by kernel_rfl)) k1 gm lt1) (trodAll_cons_mk (Oq laidOut (by kernel_rfl) (of_decide_eq_true (by kernel_rfl)) k2 gm lt2) trodAll_mk0))),rfl,gm.frame _,fun h=>by cases h⟩
theorem over:Rows.fabricEpochsRow.holds Tryz.pinned (OpenSpec.ofChange Rows.fabricEpochsSpec):=
 OpenClaim.holds_of_wide 4 Tryz.f4 rfl rfl rfl rfl rfl rfl rfl ⟨rfl,rfl,rfl,rfl,rfl⟩ rfl rfl rfl rfl rfl (by kernel_rfl) func4 (by kernel_rfl)
  (of_decide_eq_true (by kernel_rfl)) (by unfold Func.isWrapper;first|(rw[if_pos (by decide+kernel)];kernel_rfl)|(rw[if_neg (by decide+kernel)];exact⟨rfl,rfl⟩))
  (fun os started H enc _=>lifted os started H enc)
theorem proved:Rows.FabricEpochsSaid:=over
#print axioms proved
end Go.Proofs.YtnjjkgjdhljfnaaGreat.fabricEpochs
