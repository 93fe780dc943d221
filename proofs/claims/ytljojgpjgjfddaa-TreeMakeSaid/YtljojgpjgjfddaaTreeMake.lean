/- The walk of the law TreeMake. -/
import Derived.Test.YtljojgpjgjfddaaTMkQ
import Derived.Test.YtljojgpjgjfddaaR23C
import Derived.Test.YtljojgpjgjfddaaFrame
namespace Go.Proofs.Ytljojgpjgjfddaa.treeMakeW
open Go.RowKit Go.Maps Go.Sort Go.Shelf
set_option linter.unusedVariables false
set_option linter.unusedSimpArgs false

theorem rx_of {ns : List Nd} {cs : List Cb} {lv ms : List Int} {s : Int} {w : World} {e : Ending} {w' : World} (h : MkP23 ns cs lv ms s w e w') : MxPost (mkX ns cs lv ms s) (tErr ⟨ns, cs⟩ lv ms s) w e w' := by
  obtain ⟨bel, ⟨hne, rfl⟩ | ⟨he, k, rfl, mok, aO, aD, cO, cD, rfl, ht⟩⟩ := h
  · rw [mkX_err hne]
    exact ⟨none, none, 0, 0, rfl, zT_is _, bel⟩
  · rw [mkX_ok he, he]
    exact ⟨aO, aD, cO, cD, rfl, ht, bel⟩
set_option maxRecDepth 100000 in
set_option maxHeartbeats 8000000 in
theorem walk (An Ac : Option Addr) (cn cc : Nat) (p : Pl) (Al : Option Addr) (cl : Nat) (lv : List Int) (src : Int) (Am : Option Addr) (cm : Nat) (ms : List Int) (w : World)
    (h : IsPlan w An Ac p) (hwf : WfP p) (h2 : IsRec 1 cI 0 w Al lv.length lv) (hwl : WfI lv) (h0 : (Lit.int .i64 src).wf = true) (h3 : IsRec 1 cI 0 w Am ms.length ms) (hwm : WfI ms) (hcm : ms.length ≤ cm) :
    Calls Try.prog 5 #[.agg #[.slice An p.ns.length cn, .slice Ac p.cs.length cc], .agg #[.slice Al lv.length cl], .int .i64 src, .slice Am ms.length cm] w fun e w' => e = .returned (.bool true) ∧ Below w.heap.size w w' := by
  obtain ⟨ns, cs⟩ := p
  simp only
  obtain ⟨w1, hw1⟩ : ∃ w1 : World, (w.alloc (.cells #[.slice An ns.length cn, .slice Ac cs.length cc] 25)).alloc (.cells #[.slice Al lv.length cl] 57) = w1 := ⟨_, rfl⟩
  have s0 : w1.cell? ⟨w.heap.size, 0, none⟩ = some (.slice An ns.length cn) := by rw [← hw1]; simp [go_sem]
  have s1 : w1.cell? ⟨w.heap.size, 1, none⟩ = some (.slice Ac cs.length cc) := by rw [← hw1]; simp [go_sem]
  have s2 : w1.cell? ⟨w.heap.size + 1, 0, none⟩ = some (.slice Al lv.length cl) := by rw [← hw1]; simp [go_sem]
  have sz1 : w.heap.size + 1 < w1.heap.size := by rw [← hw1]; simp
  have BW : Hid (Below w.heap.size w w1) := by rw [Hid, ← hw1]; exact ((Below.refl _ _).alloc (Nat.le_refl _) _).alloc (by simp) _
  have H1 := Lib.hid (h.below (Nat.le_refl _) BW.out)
  have L1 := Lib.hid (h2.below (Nat.le_refl _) BW.out)
  have M1 := Lib.hid (h3.below (Nat.le_refl _) BW.out)
  have HWF := Lib.hid hwf
  have HWL := Lib.hid hwl
  have HWM := Lib.hid hwm
  have KC : Hid (∀ w', Below w1.heap.size w1 w' → (w'.cell? ⟨w.heap.size, 0, none⟩ = some (.slice An ns.length cn) ∧ w'.cell? ⟨w.heap.size, 1, none⟩ = some (.slice Ac cs.length cc) ∧ w'.cell? ⟨w.heap.size + 1, 0, none⟩ = some (.slice Al lv.length cl)) ∧
      Below w.heap.size w w' ∧ IsPlan w' An Ac ⟨ns, cs⟩ ∧ IsRec 1 cI 0 w' Al lv.length lv ∧ IsRec 1 cI 0 w' Am ms.length ms) :=
    fun w' hb => ⟨⟨(hb.cell (by show w.heap.size < _; omega)).trans s0, (hb.cell (by show w.heap.size < _; omega)).trans s1, (hb.cell (by exact sz1)).trans s2⟩, BW.out.trans (hb.mono BW.out.size), H1.out.below (Nat.le_refl _) hb, L1.out.below (Nat.le_refl _) hb, M1.out.below (Nat.le_refl _) hb⟩
  have HW1 := Lib.hid hw1
  clear h h2 h3 hw1 hwf hwl hwm s0 s1 s2 h0
  go_enter Try.func5, Try.ntmps5
  go_wp2_with fail
  rw [HW1.out]
  refine (awake23_any _).mono ?_
  rintro e w2 ⟨rfl, bel⟩
  have B2 := Lib.hid bel
  obtain ⟨⟨c0, c1, c2⟩, bw, _⟩ := KC.out w2 bel
  have BW2 := Lib.hid bw
  clear bel bw
  cases hsm : smallB ns.length cs.length lv.length ms.length with
  | false =>
    have hz : smallZ ns.length cs.length lv.length ms.length = 0 := by unfold smallZ; rw [hsm]; rfl
    have SC := small23_any An Ac Al Am ns.length cs.length lv.length ms.length cn cc cl cm w2
    rw [hz] at SC
    go_wp2_with fail
    refine (show Calls _ _ _ _ _ from SC).mono ?_
    rintro e w3 ⟨rfl, rfl⟩
    have BF : Hid (Below w.heap.size w (w2.alloc (.cells #[.slice An ns.length cn, .slice Ac cs.length cc] 25))) := BW2.out.alloc BW2.out.size _
    clear SC
    go_wp2_with fail
    go_ret
    exact ⟨rfl, BF.out⟩
  | true =>
    have hz : smallZ ns.length cs.length lv.length ms.length = 1 := by unfold smallZ; rw [hsm]; rfl
    have hb : ns.length ≤ 8 ∧ cs.length ≤ 12 ∧ lv.length ≤ 20 ∧ ms.length ≤ 20 := by
      unfold smallB at hsm
      simp at hsm
      omega
    obtain ⟨bn, bc, bl, bm⟩ := hb
    have SC := small23_any An Ac Al Am ns.length cs.length lv.length ms.length cn cc cl cm w2
    rw [hz] at SC
    go_wp2_with fail
    refine (show Calls _ _ _ _ _ from SC).mono ?_
    rintro e w4 ⟨rfl, hw4⟩
    have B4 : Hid (Below w1.heap.size w1 w4) := by rw [Hid, ← hw4]; exact B2.out.alloc B2.out.size _
    clear SC hw4 hsm hz c0 c1 c2
    obtain ⟨⟨c0, c1, c2⟩, bw4, pl4, lr4, mr4⟩ := KC.out w4 B4.out
    have MC := Lib.hid ((tmake_any ns cs lv ms src An Ac Al Am cn cc cl cm w4 (by omega) (by omega) HWF.out (by omega) HWL.out (by omega) HWM.out pl4 lr4 mr4).mono fun _ _ h => mkx_of h)
    have RC : Hid (∀ w', Below w1.heap.size w1 w' → Calls Try.prog 29 #[.agg #[.slice An ns.length cn, .slice Ac cs.length cc], .slice Al lv.length cl, .int .i64 src, .slice Am ms.length cm] w' (MxPost (mkX ns cs lv ms src) (tErr ⟨ns, cs⟩ lv ms src) w')) := fun w' hb => by
      obtain ⟨_, _, pl, lr, mr⟩ := KC.out w' hb
      exact (make23_any ns cs lv ms src An Ac Al Am cn cc cl cm w' (by omega) (by omega) (by omega) HWL.out (by omega) HWM.out hcm pl lr mr).mono fun _ _ h => rx_of h
    have SX := Lib.hid (mkX_small (ns := ns) (cs := cs) (lv := lv) (ms := ms) src (by omega))
    generalize mkX ns cs lv ms src = X at *
    generalize tErr ⟨ns, cs⟩ lv ms src = te at *
    clear bw4 pl4 lr4 mr4
    go_wp2_with fail
    refine MC.out.mono ?_
    rintro e w5 ⟨aO, aD, cO, cD, rfl, ht, bel5⟩
    unfold trV
    obtain ⟨w6, hw6⟩ : ∃ w6 : World, w5.alloc (.cells #[.int .i64 X.src, .slice aO X.out.length cO, .slice aD X.del.length cD] 61) = w6 := ⟨_, rfl⟩
    have b56 : Below w5.heap.size w5 w6 := by rw [← hw6]; exact (Below.refl _ _).alloc (Nat.le_refl _) _
    have B6 : Hid (Below w1.heap.size w1 w6) := (B4.out.trans (bel5.mono B4.out.size)).trans (b56.mono (B4.out.trans (bel5.mono B4.out.size)).size)
    have XB6 : Hid (Blk w6 w5.heap.size 61 #[.int .i64 X.src, .slice aO X.out.length cO, .slice aD X.del.length cD]) := by rw [Hid, ← hw6]; exact Blk.new _ _ _
    have XT6 : Hid (IsTree w6 aO aD X) := ht.below (Nat.le_refl _) b56
    have HW6 := Lib.hid hw6
    have RC6 := Lib.hid (RC.out w6 B6.out)
    obtain ⟨⟨d0, d1, d2⟩, _⟩ := KC.out w5 (B4.out.trans (bel5.mono B4.out.size))
    have z5 := (B4.out.trans (bel5.mono B4.out.size)).size
    have l0 : w.heap.size < w5.heap.size := by omega
    have l1 : w.heap.size + 1 < w5.heap.size := by omega
    have n0 : ¬ w.heap.size = w5.heap.size := by omega
    have n1 : ¬ w.heap.size + 1 = w5.heap.size := by omega
    clear MC RC ht bel5 hw6 b56 c0 c1 c2 z5
    go_wp2_with fail
    rw [HW6.out]
    refine RC6.out.mono ?_
    rintro e w7 ⟨aO2, aD2, cO2, cD2, rfl, ht7, bel7⟩
    unfold trV
    obtain ⟨w8, hw8⟩ : ∃ w8 : World, w7.alloc (.cells #[.int .i64 X.src, .slice aO2 X.out.length cO2, .slice aD2 X.del.length cD2] 64) = w8 := ⟨_, rfl⟩
    have b78 : Below w7.heap.size w7 w8 := by rw [← hw8]; exact (Below.refl _ _).alloc (Nat.le_refl _) _
    have B68 : Hid (Below w6.heap.size w6 w8) := bel7.trans (b78.mono bel7.size)
    have YB : Hid (Blk w8 w7.heap.size 64 #[.int .i64 X.src, .slice aO2 X.out.length cO2, .slice aD2 X.del.length cD2]) := by rw [Hid, ← hw8]; exact Blk.new _ _ _
    have YT : Hid (IsTree w8 aO2 aD2 X) := ht7.below (Nat.le_refl _) b78
    have XB8 : Hid (Blk w8 w5.heap.size 61 #[.int .i64 X.src, .slice aO X.out.length cO, .slice aD X.del.length cD]) := XB6.out.below B68.out XB6.out.lt
    have XT8 : Hid (IsTree w8 aO aD X) := XT6.out.below (Nat.le_refl _) B68.out
    have BW8 : Hid (Below w.heap.size w w8) := (KC.out w8 (B6.out.trans (B68.out.mono B6.out.size))).2.1
    have HW8 := Lib.hid hw8
    have SM := same_any X X aO aD aO2 aD2 cO cD cO2 cD2 w8 SX.out SX.out XT8.out YT.out
    have es : sameT X X = true := decide_eq_true ⟨rfl, rfl, rfl⟩
    rw [es] at SM
    unfold trV at SM
    have SMH := Lib.hid SM
    have XB7 := XB6.out.below bel7 XB6.out.lt
    have x0 : w7.cell? ⟨w5.heap.size, 0, none⟩ = some (.int .i64 X.src) := XB7.cell 0
    have x1 : w7.cell? ⟨w5.heap.size, 1, none⟩ = some (.slice aO X.out.length cO) := XB7.cell 1
    have x2 : w7.cell? ⟨w5.heap.size, 2, none⟩ = some (.slice aD X.del.length cD) := XB7.cell 2
    have l5 : w5.heap.size < w7.heap.size := XB7.lt
    have n5 : ¬ w5.heap.size = w7.heap.size := by omega
    have ete : (te == te) = true := beq_self_eq_true te
    clear SM es ht7 bel7 hw8 b78 d0 d1 d2 RC6 HW6 XB6 XB7 XT6 l0 l1 n0 n1 B6 B4 B2 KC H1 L1 M1 HWF HWL HWM
    go_wp2_with fail
    rw [HW8.out]
    refine (show Calls _ _ _ _ _ from SMH.out).mono ?_
    rintro e w9 ⟨rfl, bel9⟩
    have BF : Hid (Below w.heap.size w w9) := BW8.out.trans (bel9.mono BW8.out.size)
    clear SMH bel9
    go_wp2_with fail
    go_ret
    exact ⟨rfl, BF.out⟩
end Go.Proofs.Ytljojgpjgjfddaa.treeMakeW
