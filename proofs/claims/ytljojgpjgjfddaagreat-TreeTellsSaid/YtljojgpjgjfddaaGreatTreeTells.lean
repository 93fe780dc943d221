/- The walk of the law TreeTells. -/
import Derived.Test.YtljojgpjgjfddaaGreatRTV
import Derived.Test.YtljojgpjgjfddaaGreatRTD
namespace Go.Proofs.YtljojgpjgjfddaaGreat.treeTellsW
open Go.RowKit Go.Maps Go.Sort Go.Shelf
set_option linter.unusedVariables false
set_option linter.unusedSimpArgs false

def RelTn (rows : List (List Int)) (w3 : World) (n i : Value) (wr : World) : Prop := ∃ k : Nat, k ≤ rows.length ∧ i = .int .i64 k ∧ n = .int .i64 (sumL (rows.take k) : Int) ∧ (∀ r ∈ rows.take k, r.length ≤ 20) ∧ w3 = wr
def RelTe (m : Nat) (w9 : World) (i : Value) (wr : World) : Prop := ∃ k : Nat, k ≤ m ∧ i = .int .i64 k ∧ Below w9.heap.size w9 wr
set_option maxRecDepth 100000 in
set_option maxHeartbeats 16000000 in
theorem walk (An Ac : Option Addr) (cn cc : Nat) (p : Pl) (Al : Option Addr) (cl : Nat) (lv : List Int) (aO aD : Option Addr) (cO cD' : Nat) (x : Tr) (w : World)
    (h : IsPlan w An Ac p) (hwf : WfP p) (h2 : IsRec 1 cI 0 w Al lv.length lv) (hwl : WfI lv) (h3 : IsTree w aO aD x) (h0 : (Lit.int .i64 x.src).wf = true) :
    Calls Tryz.prog 4 #[.agg #[.slice An p.ns.length cn, .slice Ac p.cs.length cc], .agg #[.slice Al lv.length cl], .agg #[.int .i64 x.src, .slice aO x.out.length cO, .slice aD x.del.length cD']] w fun e w' => e = .returned (.bool true) ∧ Below w.heap.size w w' := by
  obtain ⟨ns, cs⟩ := p
  simp only
  obtain ⟨w1, hw1⟩ : ∃ w1 : World, ((w.alloc (.cells #[.slice An ns.length cn, .slice Ac cs.length cc] 25)).alloc (.cells #[.slice Al lv.length cl] 30)).alloc (.cells #[.int .i64 x.src, .slice aO x.out.length cO, .slice aD x.del.length cD'] 56) = w1 := ⟨_, rfl⟩
  have s0 : w1.cell? ⟨w.heap.size, 0, none⟩ = some (.slice An ns.length cn) := by rw [← hw1]; simp [go_sem]
  have s1 : w1.cell? ⟨w.heap.size, 1, none⟩ = some (.slice Ac cs.length cc) := by rw [← hw1]; simp [go_sem]
  have s2 : w1.cell? ⟨w.heap.size + 1, 0, none⟩ = some (.slice Al lv.length cl) := by rw [← hw1]; simp [go_sem]
  have t0 : w1.cell? ⟨w.heap.size + 1 + 1, 0, none⟩ = some (.int .i64 x.src) := by rw [← hw1]; simp [go_sem]
  have t1 : w1.cell? ⟨w.heap.size + 1 + 1, 1, none⟩ = some (.slice aO x.out.length cO) := by rw [← hw1]; simp [go_sem]
  have t2 : w1.cell? ⟨w.heap.size + 1 + 1, 2, none⟩ = some (.slice aD x.del.length cD') := by rw [← hw1]; simp [go_sem]
  have sz1 : w.heap.size + 1 + 1 < w1.heap.size := by rw [← hw1]; simp
  have BW : Hid (Below w.heap.size w w1) := by rw [Hid, ← hw1]; exact (((Below.refl _ _).alloc (Nat.le_refl _) _).alloc (by simp) _).alloc (by simp; omega) _
  have H1 := Lib.hid (h.below (Nat.le_refl _) BW.out)
  have L1 := Lib.hid (h2.below (Nat.le_refl _) BW.out)
  have T1 := Lib.hid (h3.below (Nat.le_refl _) BW.out)
  have HWF := Lib.hid hwf
  have HWL := Lib.hid hwl
  have KC : Hid (∀ w', Below w1.heap.size w1 w' → (w'.cell? ⟨w.heap.size, 0, none⟩ = some (.slice An ns.length cn) ∧ w'.cell? ⟨w.heap.size, 1, none⟩ = some (.slice Ac cs.length cc) ∧ w'.cell? ⟨w.heap.size + 1, 0, none⟩ = some (.slice Al lv.length cl) ∧ w'.cell? ⟨w.heap.size + 1 + 1, 0, none⟩ = some (.int .i64 x.src) ∧ w'.cell? ⟨w.heap.size + 1 + 1, 1, none⟩ = some (.slice aO x.out.length cO) ∧ w'.cell? ⟨w.heap.size + 1 + 1, 2, none⟩ = some (.slice aD x.del.length cD')) ∧
      Below w.heap.size w w' ∧ IsPlan w' An Ac ⟨ns, cs⟩ ∧ IsRec 1 cI 0 w' Al lv.length lv ∧ IsTree w' aO aD x) :=
    fun w' hb => ⟨⟨(hb.cell (by show w.heap.size < _; omega)).trans s0, (hb.cell (by show w.heap.size < _; omega)).trans s1, (hb.cell (by show w.heap.size + 1 < _; omega)).trans s2, (hb.cell (by exact sz1)).trans t0, (hb.cell (by exact sz1)).trans t1, (hb.cell (by exact sz1)).trans t2⟩, BW.out.trans (hb.mono BW.out.size), H1.out.below (Nat.le_refl _) hb, L1.out.below (Nat.le_refl _) hb, T1.out.below (Nat.le_refl _) hb⟩
  have HW1 := Lib.hid hw1
  obtain ⟨xs, hxs⟩ : ∃ xs, x.src = xs := ⟨_, rfl⟩
  have XS := Lib.hid hxs
  rw [hxs] at KC HW1 ⊢
  clear h h2 h3 hw1 hwf hwl s0 s1 s2 t0 t1 t2 h0 hxs
  go_enter Tryz.func4, Tryz.ntmps4
  go_wp2_with fail
  rw [HW1.out]
  refine (awake23_any _).mono ?_
  rintro e w2 ⟨rfl, bel⟩
  have B2 := Lib.hid bel
  obtain ⟨⟨c0, c1, c2, t0, t1, t2⟩, bw, _⟩ := KC.out w2 bel
  have BW2 := Lib.hid bw
  clear bel bw
  cases hsm : smallB ns.length cs.length lv.length x.del.length with
  | false =>
    have hz : smallZ ns.length cs.length lv.length x.del.length = 0 := by unfold smallZ; rw [hsm]; rfl
    have SC := small23_any An Ac Al aD ns.length cs.length lv.length x.del.length cn cc cl cD' w2
    rw [hz] at SC
    go_wp2_with fail
    refine (show Calls _ _ _ _ _ from SC).mono ?_
    rintro e w3 ⟨rfl, rfl⟩
    have BF : Hid (Below w.heap.size w (w2.alloc (.cells #[.slice An ns.length cn, .slice Ac cs.length cc] 25))) := BW2.out.alloc BW2.out.size _
    clear SC
    go_wp2_with fail
    go_ret
    exact ⟨rfl, BF.out⟩
  | true =>
    have hz : smallZ ns.length cs.length lv.length x.del.length = 1 := by unfold smallZ; rw [hsm]; rfl
    have hb : ns.length ≤ 8 ∧ cs.length ≤ 12 ∧ lv.length ≤ 20 ∧ x.del.length ≤ 20 := by
      unfold smallB at hsm
      simp at hsm
      omega
    obtain ⟨bn, bc, bl, bm⟩ := hb
    have SC := small23_any An Ac Al aD ns.length cs.length lv.length x.del.length cn cc cl cD' w2
    rw [hz] at SC
    go_wp2_with fail
    refine (show Calls _ _ _ _ _ from SC).mono ?_
    rintro e w3 ⟨rfl, hw3⟩
    have B3 : Hid (Below w1.heap.size w1 w3) := by rw [Hid, ← hw3]; exact B2.out.alloc B2.out.size _
    clear SC hw3 hsm hz c0 c1 c2 t0 t1 t2
    obtain ⟨⟨c0, c1, c2, t0, t1, t2⟩, bw3, _⟩ := KC.out w3 B3.out
    have BW3 := Lib.hid bw3
    clear bw3
    by_cases hol : x.out.length ≤ 20
    · have hol2 : ¬ (20 : Int) < (x.out.length : Int) := by omega
      have SB : Hid (∀ k, (∀ r ∈ x.out.take k, r.length ≤ 20) → sumL (x.out.take k) ≤ 400) := fun k hk => by
        have h1 := sumL_le _ 20 hk
        rw [List.length_take] at h1
        have : min k x.out.length * 20 ≤ 20 * 20 := Nat.mul_le_mul_right _ (by omega)
        omega
      go_wp2_with fail
      go_loopw [7, 33] (fun n i wr => RelTn x.out w3 n i wr) (fun _ i _ => x.out.length - (RowKit.intOf i).toNat)
      case atStart => exact ⟨0, Nat.zero_le _, rfl, rfl, by simp, rfl⟩
      case round =>
        obtain ⟨k, hk, rfl, rfl, hrl, rfl⟩ := hrel
        have HRL := Lib.hid hrl
        clear hrl
        by_cases hkr : k < x.out.length
        · obtain ⟨bo, oo, ar, capr, hao, hbo, hmr, hrr, cr0⟩ := (KC.out w3 B3.out).2.2.2.2.out.at_ k hkr
          have ST := Lib.hid (sumL_take x.out k hkr)
          have SK := SB.out k HRL.out
          have TS := Lib.hid (take_snocG [] x.out k hkr)
          have ki : (k : Int) < (x.out.length : Int) := by omega
          by_cases hr20 : (x.out.getD k []).length ≤ 20
          · have R : Hid (RelTn x.out w3 (.int .i64 (((sumL (x.out.take k)) : Int) + ((x.out.getD k []).length : Int))) (.int .i64 ((k + 1 : Nat) : Int)) w3) := ⟨k + 1, by omega, rfl, by rw [ST.out]; rfl, by
              rw [TS.out]
              intro r hr
              rcases List.mem_append.1 hr with q | q
              · exact HRL.out r q
              · rw [List.mem_singleton] at q; subst q; exact hr20, rfl⟩
            generalize (x.out.getD k []).length = rl at *
            generalize sumL (x.out.take k) = sk at *
            have h20 : ¬ (20 : Int) < (rl : Int) := by omega
            have qa : IntKind.i64.wrap ((sk : Int) + (rl : Int)) = (sk : Int) + (rl : Int) := IntWalk.i64_in _ (by omega)
            subst hao
            clear hmr hrr ST TS hr20
            go_wp2_with fail
            exact ⟨by simpa using R.out, by simp [RowKit.intOf]; omega⟩
          · generalize (x.out.getD k []).length = rl at *
            have h20 : (20 : Int) < (rl : Int) := by omega
            subst hao
            clear hmr hrr ST TS hr20
            go_wp2_with fail
            go_ret
            exact ⟨rfl, BW3.out⟩
        · obtain rfl : k = x.out.length := by omega
          rw [List.take_length] at HRL
          have SX : Hid (SmallT x) := ⟨by omega, fun r hr => by have := HRL.out r hr; omega, by omega⟩
          have SS : sumL x.out ≤ 400 := by have := SB.out x.out.length (by rw [List.take_length]; exact HRL.out); rwa [List.take_length] at this
          have DC : Hid (∀ w', Below w1.heap.size w1 w' → Calls Tryz.prog 16 #[.agg #[.slice An ns.length cn, .slice Ac cs.length cc], .agg #[.int .i64 xs, .slice aO x.out.length cO, .slice aD x.del.length cD']] w' (TDPost ns cs x w')) := fun w' hb => by
            have h1 := tdeps_any ns cs x An Ac aO aD cn cc cO cD' w' (by omega) (by omega) HWF.out SX.out (KC.out w' hb).2.2.1 (KC.out w' hb).2.2.2.2
            unfold trV at h1; rw [XS.out] at h1; exact h1
          have RV14 : Hid (∀ w', Below w1.heap.size w1 w' → Calls Tryz.prog 17 #[.agg #[.slice An ns.length cn, .slice Ac cs.length cc]] w' fun e w'' => e = .returned (.int .i64 (validP ⟨ns, cs⟩)) ∧ Below w'.heap.size w' w'') := fun w' hb =>
            r14valid_any ⟨ns, cs⟩ An Ac cn cc w' (by show ns.length ≤ _; omega) (by show cs.length ≤ _; omega) (KC.out w' hb).2.2.1
          have VC : Hid (∀ w', Below w1.heap.size w1 w' → Calls Tryz.prog 19 #[.agg #[.slice An ns.length cn, .slice Ac cs.length cc], .agg #[.int .i64 xs, .slice aO x.out.length cO, .slice aD x.del.length cD']] w' fun e w'' => e = .returned (.bool (waysB ns cs x)) ∧ Below w'.heap.size w' w'') := fun w' hb => by
            have h1 := tvalid_any ns cs x An Ac aO aD cn cc cO cD' w' (by omega) (by omega) HWF.out SX.out (KC.out w' hb).2.2.1 (KC.out w' hb).2.2.2.2
            unfold trV at h1; rw [XS.out] at h1; exact h1
          have RVC : Hid (validP ⟨ns, cs⟩ = 0 → ∀ w', Below w1.heap.size w1 w' → Calls Tryz.prog 18 #[.agg #[.slice An ns.length cn, .slice Ac cs.length cc], .agg #[.int .i64 xs, .slice aO x.out.length cO, .slice aD x.del.length cD']] w' fun e w'' => e = .returned (.bool (waysB ns cs x)) ∧ Below w'.heap.size w' w'') := fun hv w' hb => by
            have h1 := rvalid_any ns cs x An Ac aO aD cn cc cO cD' w' hv SX.out (KC.out w' hb).2.2.1 (KC.out w' hb).2.2.2.2
            rw [XS.out] at h1; exact h1
          have CPC : Hid (∀ w', Below w1.heap.size w1 w' → Calls Tryz.prog 20 #[.agg #[.slice An ns.length cn, .slice Ac cs.length cc], .agg #[.int .i64 xs, .slice aO x.out.length cO, .slice aD x.del.length cD']] w' fun e w'' => e = .returned (.int .i64 (copiesB ns cs x)) ∧ Below w'.heap.size w' w'') := fun w' hb => by
            have h1 := tcopies_any ns cs x An Ac aO aD cn cc cO cD' w' (by omega) (by omega) HWF.out SX.out (KC.out w' hb).2.2.1 (KC.out w' hb).2.2.2.2
            unfold trV at h1; rw [XS.out] at h1; exact h1
          obtain ⟨al, hal⟩ : ∃ al : Bool, al = true ↔ allLeg cs lv x ns.length := by
            by_cases q : allLeg cs lv x ns.length
            · exact ⟨true, by simp [q]⟩
            · exact ⟨false, by simp [q]⟩
          have LC : Hid (∀ w', Below w1.heap.size w1 w' → Calls Tryz.prog 21 #[.agg #[.slice An ns.length cn, .slice Ac cs.length cc], .agg #[.slice Al lv.length cl], .agg #[.int .i64 xs, .slice aO x.out.length cO, .slice aD x.del.length cD']] w' fun e w'' => e = .returned (.bool (waysB ns cs x && (orderB ⟨ns, cs⟩ lv && al))) ∧ Below w'.heap.size w' w'') := fun w' hb => by
            have h1 := tlegal_any ns cs lv x An Ac Al aO aD cn cc cl cO cD' w' (by omega) (by omega) HWF.out (by omega) HWL.out SX.out (KC.out w' hb).2.2.1 (KC.out w' hb).2.2.2.1 (KC.out w' hb).2.2.2.2
            unfold trV at h1; rw [XS.out] at h1
            refine h1.mono ?_
            rintro e w'' ⟨b, rfl, hb2, hiff⟩
            refine ⟨?_, hb2⟩
            have : b = (waysB ns cs x && (orderB ⟨ns, cs⟩ lv && al)) := by
              rw [Bool.eq_iff_iff, hiff, Bool.and_eq_true, Bool.and_eq_true, hal]
            rw [this]
          have RLC : Hid (waysB ns cs x = true → orderB ⟨ns, cs⟩ lv = true → ∀ w', Below w1.heap.size w1 w' → Calls Tryz.prog 24 #[.agg #[.slice An ns.length cn, .slice Ac cs.length cc], .slice Al lv.length cl, .agg #[.int .i64 xs, .slice aO x.out.length cO, .slice aD x.del.length cD']] w' fun e w'' => e = .returned (.bool al) ∧ Below w'.heap.size w' w'') := fun hwy ho w' hb => by
            have h1 := rlegal_any ns cs lv x An Ac Al aO aD cn cc cl cO cD' w' hwy (orderB_spec ho).2.1 SX.out (KC.out w' hb).2.2.1 (KC.out w' hb).2.2.2.1 (KC.out w' hb).2.2.2.2
            rw [XS.out] at h1
            refine h1.mono ?_
            rintro e w'' ⟨b, rfl, hb2, hiff⟩
            refine ⟨?_, hb2⟩
            have : b = al := by rw [Bool.eq_iff_iff, hiff, hal]
            rw [this]
          have RDC : Hid (waysB ns cs x = true → ∀ w', Below w1.heap.size w1 w' → Calls Tryz.prog 22 #[.agg #[.slice An ns.length cn, .slice Ac cs.length cc], .agg #[.int .i64 xs, .slice aO x.out.length cO, .slice aD x.del.length cD']] w' (RDPost ns cs x w')) := fun hwy w' hb => by
            have h1 := rdeps_any ns cs x An Ac aO aD cn cc cO cD' w' hwy SX.out (KC.out w' hb).2.2.1 (KC.out w' hb).2.2.2.2
            rw [XS.out] at h1; exact h1
          have FC : Hid (validP ⟨ns, cs⟩ = 0 → ∀ w', Below w1.heap.size w1 w' → Calls Tryz.prog 23 #[.agg #[.slice An ns.length cn, .slice Ac cs.length cc], .slice Al lv.length cl] w' fun e w'' => e = .returned (.bool (orderB ⟨ns, cs⟩ lv)) ∧ Below w'.heap.size w' w'') := fun hv w' hb =>
            fits17_any ns cs lv An Ac Al cn cc cl w' hv (by omega) HWL.out (KC.out w' hb).2.2.1 (KC.out w' hb).2.2.2.1
          have CPV : Hid (copiesB ns cs x = if waysB ns cs x = true then (sumL x.out : Int) else 0) := rfl
          have DLN : Hid (waysB ns cs x = true → (depT23 ns.length cs x).length ≤ 400) := fun hwy => by
            obtain ⟨s, r, V⟩ := valid_tree hwy
            have := V.dep_len
            omega
          have KS : Hid (∀ w', Below w1.heap.size w1 w' → (w'.cell? ⟨w.heap.size, 0, none⟩ = some (.slice An ns.length cn) ∧ w'.cell? ⟨w.heap.size, 1, none⟩ = some (.slice Ac cs.length cc) ∧ w'.cell? ⟨w.heap.size + 1, 0, none⟩ = some (.slice Al lv.length cl) ∧ w'.cell? ⟨w.heap.size + 1 + 1, 0, none⟩ = some (.int .i64 xs) ∧ w'.cell? ⟨w.heap.size + 1 + 1, 1, none⟩ = some (.slice aO x.out.length cO) ∧ w'.cell? ⟨w.heap.size + 1 + 1, 2, none⟩ = some (.slice aD x.del.length cD')) ∧ Below w.heap.size w w') := fun w' hb => ⟨(KC.out w' hb).1, (KC.out w' hb).2.1⟩
          rw [List.take_length]
          generalize sumL x.out = sL at *
          clear hal HRL SB KC H1 L1 T1 HWF HWL B2 BW2 BW3 HW1
          go_wp2_with fail
          refine (show Calls _ _ _ _ _ from DC.out w3 B3.out).mono ?_
          rintro e w4 ⟨bel4, ⟨hw, rfl⟩ | ⟨hw, ts, v, hp, hs, rfl, own⟩⟩
          · have B4 : Hid (Below w1.heap.size w1 w4) := B3.out.trans (bel4.mono B3.out.size)
            rw [hw] at VC LC CPV RVC
            rw [if_neg (by decide)] at CPV
            rw [CPV.out] at CPC
            clear bel4 c0 c1 c2 t0 t1 t2 DC RLC RDC FC DLN CPV
            obtain ⟨⟨c0, c1, c2, t0, t1, t2⟩, _⟩ := KS.out w4 B4.out
            have HWN := Lib.hid hw
            clear hw
            go_wp2_with fail
            refine (RV14.out w4 B4.out).mono ?_
            rintro e w5 ⟨rfl, bel5⟩
            have B5 : Hid (Below w1.heap.size w1 w5) := B4.out.trans (bel5.mono B4.out.size)
            clear bel5 c0 c1 c2 t0 t1 t2 RV14
            obtain ⟨⟨c0, c1, c2, t0, t1, t2⟩, _⟩ := KS.out w5 B5.out
            by_cases hv : validP ⟨ns, cs⟩ = 0
            · have RV := Lib.hid (RVC.out hv w5 B5.out)
              rw [hv]
              clear RVC hv
              go_wp2_with fail
              refine RV.out.mono ?_
              rintro e w6 ⟨rfl, bel6⟩
              have B6 : Hid (Below w1.heap.size w1 w6) := B5.out.trans (bel6.mono B5.out.size)
              clear bel6 RV c0 c1 c2 t0 t1 t2
              obtain ⟨⟨c0, c1, c2, t0, t1, t2⟩, _⟩ := KS.out w6 B6.out
              go_wp2_with fail
              refine (VC.out w6 B6.out).mono ?_
              rintro e w7 ⟨rfl, bel7⟩
              have B7 : Hid (Below w1.heap.size w1 w7) := B6.out.trans (bel7.mono B6.out.size)
              clear bel7 VC c0 c1 c2 t0 t1 t2
              obtain ⟨⟨c0, c1, c2, t0, t1, t2⟩, _⟩ := KS.out w7 B7.out
              go_wp2_with fail
              refine (CPC.out w7 B7.out).mono ?_
              rintro e w8 ⟨rfl, bel8⟩
              have B8 : Hid (Below w1.heap.size w1 w8) := B7.out.trans (bel8.mono B7.out.size)
              clear bel8 CPC c0 c1 c2 t0 t1 t2
              obtain ⟨⟨c0, c1, c2, t0, t1, t2⟩, _⟩ := KS.out w8 B8.out
              go_wp2_with fail
              refine (LC.out w8 B8.out).mono ?_
              rintro e w9 ⟨rfl, bel9⟩
              have BF := Lib.hid (KS.out w9 (B8.out.trans (bel9.mono B8.out.size))).2
              clear bel9 LC c0 c1 c2 t0 t1 t2
              go_wp2_with fail
              go_ret
              exact ⟨by first | rfl | simp, BF.out⟩
            · have hv2 : (validP ⟨ns, cs⟩ == 0) = false := by simpa using hv
              generalize validP ⟨ns, cs⟩ = vz at *
              clear RVC hv
              go_wp2_with fail
              refine (VC.out w5 B5.out).mono ?_
              rintro e w7 ⟨rfl, bel7⟩
              have B7 : Hid (Below w1.heap.size w1 w7) := B5.out.trans (bel7.mono B5.out.size)
              clear bel7 VC c0 c1 c2 t0 t1 t2
              obtain ⟨⟨c0, c1, c2, t0, t1, t2⟩, _⟩ := KS.out w7 B7.out
              go_wp2_with fail
              refine (CPC.out w7 B7.out).mono ?_
              rintro e w8 ⟨rfl, bel8⟩
              have B8 : Hid (Below w1.heap.size w1 w8) := B7.out.trans (bel8.mono B7.out.size)
              clear bel8 CPC c0 c1 c2 t0 t1 t2
              obtain ⟨⟨c0, c1, c2, t0, t1, t2⟩, _⟩ := KS.out w8 B8.out
              go_wp2_with fail
              refine (LC.out w8 B8.out).mono ?_
              rintro e w9 ⟨rfl, bel9⟩
              have BF := Lib.hid (KS.out w9 (B8.out.trans (bel9.mono B8.out.size))).2
              clear bel9 LC c0 c1 c2 t0 t1 t2
              go_wp2_with fail
              go_ret
              exact ⟨by first | rfl | simp, BF.out⟩
          · have B4 : Hid (Below w1.heap.size w1 w4) := B3.out.trans (bel4.mono B3.out.size)
            rw [hw] at VC LC CPV
            rw [if_pos rfl] at CPV
            rw [CPV.out] at CPC
            obtain ⟨s', r', V⟩ := valid_tree hw
            have hv := V.hv
            have RVW : Hid (∀ w', Below w1.heap.size w1 w' → _) := RVC.out hv
            rw [hw] at RVW
            have FCW : Hid (∀ w', Below w1.heap.size w1 w' → _) := FC.out hv
            have RLW : Hid (orderB ⟨ns, cs⟩ lv = true → ∀ w', Below w1.heap.size w1 w' → _) := RLC.out hw
            have RDW := Lib.hid (RDC.out hw w4)
            have RDW2 : Hid (∀ w', Below w1.heap.size w1 w' → _) := RDC.out hw
            have hdl : ts.length ≤ 400 := by rw [hp.length_eq]; exact DLN.out hw
            obtain ⟨aT, cT, hvT, _, recT, _⟩ := rec_of_own (d := d0) (c := Go.Proofs.YtljojgpjgjfddaaGreat.cD) (fun _ => rfl) (by decide) own
            subst hvT
            have RT4 := Lib.hid recT
            rw [hv] at RV14
            clear bel4 c0 c1 c2 t0 t1 t2 DC RLC RDC FC RVC DLN CPV V hv hw own recT RDW
            obtain ⟨⟨c0, c1, c2, t0, t1, t2⟩, _⟩ := KS.out w4 B4.out
            have Z4 : Hid (Below w4.heap.size w4 w4) := Below.refl _ _
            go_wp2_with fail
            refine (RV14.out w4 B4.out).mono ?_
            rintro e w5 ⟨rfl, bel⟩
            have Z5 : Hid (Below w4.heap.size w4 w5) := Z4.out.trans (bel.mono Z4.out.size)
            have B5 : Hid (Below w1.heap.size w1 w5) := B4.out.trans (bel.mono B4.out.size)
            clear bel c0 c1 c2 t0 t1 t2
            obtain ⟨⟨c0, c1, c2, t0, t1, t2⟩, _⟩ := KS.out w5 B5.out
            go_wp2_with fail
            refine (RVW.out w5 B5.out).mono ?_
            rintro e w6 ⟨rfl, bel⟩
            have Z6 : Hid (Below w4.heap.size w4 w6) := Z5.out.trans (bel.mono Z5.out.size)
            have B6 : Hid (Below w1.heap.size w1 w6) := B5.out.trans (bel.mono B5.out.size)
            clear bel c0 c1 c2 t0 t1 t2
            obtain ⟨⟨c0, c1, c2, t0, t1, t2⟩, _⟩ := KS.out w6 B6.out
            go_wp2_with fail
            refine (VC.out w6 B6.out).mono ?_
            rintro e w7 ⟨rfl, bel⟩
            have Z7 : Hid (Below w4.heap.size w4 w7) := Z6.out.trans (bel.mono Z6.out.size)
            have B7 : Hid (Below w1.heap.size w1 w7) := B6.out.trans (bel.mono B6.out.size)
            clear bel c0 c1 c2 t0 t1 t2
            obtain ⟨⟨c0, c1, c2, t0, t1, t2⟩, _⟩ := KS.out w7 B7.out
            go_wp2_with fail
            refine (show Calls _ _ _ _ _ from RDW2.out w7 B7.out).mono ?_
            rintro e w8 ⟨ts2, v2, rfl, uni, own2, bel⟩
            rw [uni ts hp hs] at own2
            obtain ⟨aR, cR, hvR, _, recR, _⟩ := rec_of_own (d := d0) (c := Go.Proofs.YtljojgpjgjfddaaGreat.cD) (fun _ => rfl) (by decide) own2
            subst hvR
            have B8 : Hid (Below w1.heap.size w1 w8) := B7.out.trans (bel.mono B7.out.size)
            have RR8 := Lib.hid recR
            have B48 : Hid (Below w4.heap.size w4 w8) := Z7.out.trans (bel.mono Z7.out.size)
            clear bel c0 c1 c2 t0 t1 t2 own2 recR uni hp hs
            obtain ⟨⟨c0, c1, c2, t0, t1, t2⟩, _⟩ := KS.out w8 B8.out
            go_wp2_with fail
            refine (CPC.out w8 B8.out).mono ?_
            rintro e w9 ⟨rfl, bel⟩
            have B9 : Hid (Below w1.heap.size w1 w9) := B8.out.trans (bel.mono B8.out.size)
            have RT9 : Hid (IsRec 3 Go.Proofs.YtljojgpjgjfddaaGreat.cD d0 w9 aT ts.length ts) := RT4.out.below (Nat.le_refl _) (B48.out.trans (bel.mono B48.out.size))
            have RR9 : Hid (IsRec 3 Go.Proofs.YtljojgpjgjfddaaGreat.cD d0 w9 aR ts.length ts) := RR8.out.below (Nat.le_refl _) bel
            clear bel c0 c1 c2 t0 t1 t2 RT4 RR8 CPC VC RVW RV14 RDW2
            go_wp2_with fail
            go_loopw [107] (fun i wr => RelTe ts.length w9 i wr) (fun i _ => ts.length - (RowKit.intOf i).toNat)
            case atStart => exact ⟨0, Nat.zero_le _, rfl, Below.refl _ _⟩
            case round =>
              obtain ⟨k, hk, rfl, bel⟩ := hrel
              have BE := Lib.hid bel
              have BR : Hid (Below w1.heap.size w1 wr) := B9.out.trans (bel.mono B9.out.size)
              clear bel
              by_cases hkr : k < ts.length
              · obtain ⟨b1, o1, ha1, hb1, _, d0', d1', d2'⟩ := dep_at (RT9.out.below (Nat.le_refl _) BE.out) k hkr
                obtain ⟨b2, o2, ha2, hb2, _, e0', e1', e2'⟩ := dep_at (RR9.out.below (Nat.le_refl _) BE.out) k hkr
                have ki : (k : Int) < (ts.length : Int) := by omega
                generalize ts.getD k d0 = d at *
                obtain ⟨df, dt, dn⟩ := d
                simp only at d0' d1' d2' e0' e1' e2'
                subst ha1
                subst ha2
                have R : Hid (∀ n, RelTe ts.length w9 (.int .i64 ((k + 1 : Nat) : Int)) (wr.drewN n)) := fun n => ⟨k + 1, by omega, rfl, below_drewN BE.out n⟩
                go_wp2_with fail
                go_quiet (fail)
                go_wp2_with fail
                exact ⟨by simpa using R.out _, by simp [RowKit.intOf]; omega⟩
              · obtain rfl : k = ts.length := by omega
                obtain ⟨⟨c0, c1, c2, t0, t1, t2⟩, _⟩ := KS.out wr BR.out
                have LC2 : Hid (∀ w', Below w1.heap.size w1 w' → Calls Tryz.prog 21 #[.agg #[.slice An ns.length cn, .slice Ac cs.length cc], .agg #[.slice Al lv.length cl], .agg #[.int .i64 xs, .slice aO x.out.length cO, .slice aD x.del.length cD']] w' fun e w'' => e = .returned (.bool (orderB ⟨ns, cs⟩ lv && al)) ∧ Below w1.heap.size w1 w'') := fun w' hb => (LC.out w' hb).mono fun e w'' h => ⟨by rw [h.1]; rfl, hb.trans (h.2.mono hb.size)⟩
                have FC2 : Hid (∀ w', Below w1.heap.size w1 w' → Calls Tryz.prog 23 #[.agg #[.slice An ns.length cn, .slice Ac cs.length cc], .slice Al lv.length cl] w' fun e w'' => e = .returned (.bool (orderB ⟨ns, cs⟩ lv)) ∧ Below w1.heap.size w1 w'') := fun w' hb => (FCW.out w' hb).mono fun e w'' h => ⟨h.1, hb.trans (h.2.mono hb.size)⟩
                have RL2 : Hid (orderB ⟨ns, cs⟩ lv = true → ∀ w', Below w1.heap.size w1 w' → Calls Tryz.prog 24 #[.agg #[.slice An ns.length cn, .slice Ac cs.length cc], .slice Al lv.length cl, .agg #[.int .i64 xs, .slice aO x.out.length cO, .slice aD x.del.length cD']] w' fun e w'' => e = .returned (.bool al) ∧ Below w1.heap.size w1 w'') := fun ho w' hb => (RLW.out ho w' hb).mono fun e w'' h => ⟨h.1, hb.trans (h.2.mono hb.size)⟩
                have KF : Hid (∀ w', Below w1.heap.size w1 w' → Below w.heap.size w w') := fun w' hb => (KS.out w' hb).2
                have KP : Hid (∀ w', Below w1.heap.size w1 w' → (w'.cell? ⟨w.heap.size, 0, none⟩ = some (.slice An ns.length cn) ∧ w'.cell? ⟨w.heap.size, 1, none⟩ = some (.slice Ac cs.length cc) ∧ w'.cell? ⟨w.heap.size + 1, 0, none⟩ = some (.slice Al lv.length cl) ∧ w'.cell? ⟨w.heap.size + 1 + 1, 0, none⟩ = some (.int .i64 xs) ∧ w'.cell? ⟨w.heap.size + 1 + 1, 1, none⟩ = some (.slice aO x.out.length cO) ∧ w'.cell? ⟨w.heap.size + 1 + 1, 2, none⟩ = some (.slice aD x.del.length cD'))) := fun w' hb => (KS.out w' hb).1
                generalize orderB ⟨ns, cs⟩ lv = ob at *
                clear LC FCW RLW RT9 RR9 B9 B8 B7 B6 B5 B4 B3 B48 XS SX KS
                cases ob with
                | false =>
                  rw [Bool.false_and] at LC2
                  clear RL2
                  go_wp2_with fail
-- HELD
                  refine wp_region_held_drew (S := (fun w' => (w'.cell? ⟨w.heap.size, 0, none⟩ = some (.slice An ns.length cn) ∧ w'.cell? ⟨w.heap.size, 1, none⟩ = some (.slice Ac cs.length cc) ∧ w'.cell? ⟨w.heap.size + 1, 0, none⟩ = some (.slice Al lv.length cl) ∧ w'.cell? ⟨w.heap.size + 1 + 1, 0, none⟩ = some (.int .i64 xs) ∧ w'.cell? ⟨w.heap.size + 1 + 1, 1, none⟩ = some (.slice aO x.out.length cO) ∧ w'.cell? ⟨w.heap.size + 1 + 1, 2, none⟩ = some (.slice aD x.del.length cD')))) (by kernel_rfl) (KP.out _ BR.out.drew) (fun hHeld => ?_)
                  refine wpAnyH_take (i := 0) (oi := { dst := some 120, op := Go.Op.load 25 (Go.Operand.tmp 3), type := 25, pos := "law.go:82", after := #[], guard := none }) (v := .agg #[.slice An ns.length cn, .slice Ac cs.length cc]) rfl (by kernel_rfl) (by kernel_rfl) (by kernel_rfl) (fun _ _ _ h => h) (Or.inl ⟨by rfl, fun w' hSw => by (obtain ⟨x0, x1, x2, x3, x4, x5⟩ := hSw; go_simp)⟩) hHeld ?_
                  try simp only [Act.put, List.setIfInBounds_toArray, List.set_cons_zero, List.set_cons_succ]
                  refine wpAnyH_take (i := 1) (oi := { dst := some 121, op := Go.Op.load 30 (Go.Operand.tmp 4), type := 30, pos := "law.go:82", after := #[], guard := none }) (v := .agg #[.slice Al lv.length cl]) rfl (by kernel_rfl) (by kernel_rfl) (by kernel_rfl) (fun _ _ _ h => h) (Or.inl ⟨by rfl, fun w' hSw => by (obtain ⟨x0, x1, x2, x3, x4, x5⟩ := hSw; go_simp)⟩) hHeld ?_
                  try simp only [Act.put, List.setIfInBounds_toArray, List.set_cons_zero, List.set_cons_succ]
                  refine wpAnyH_take (i := 2) (oi := { dst := some 122, op := Go.Op.load 56 (Go.Operand.tmp 5), type := 56, pos := "law.go:82", after := #[], guard := none }) (v := .agg #[.int .i64 xs, .slice aO x.out.length cO, .slice aD x.del.length cD']) rfl (by kernel_rfl) (by kernel_rfl) (by kernel_rfl) (fun _ _ _ h => h) (Or.inl ⟨by rfl, fun w' hSw => by (obtain ⟨x0, x1, x2, x3, x4, x5⟩ := hSw; go_simp)⟩) hHeld ?_
                  try simp only [Act.put, List.setIfInBounds_toArray, List.set_cons_zero, List.set_cons_succ]
                  refine wpAnyH_take (i := 4) (oi := { dst := some 124, op := Go.Op.load 25 (Go.Operand.tmp 3), type := 25, pos := "law.go:82", after := #[], guard := none }) (v := .agg #[.slice An ns.length cn, .slice Ac cs.length cc]) rfl (by kernel_rfl) (by kernel_rfl) (by kernel_rfl) (fun _ _ _ h => h) (Or.inl ⟨by rfl, fun w' hSw => by (obtain ⟨x0, x1, x2, x3, x4, x5⟩ := hSw; go_simp)⟩) hHeld ?_
                  try simp only [Act.put, List.setIfInBounds_toArray, List.set_cons_zero, List.set_cons_succ]
                  refine wpAnyH_take (i := 5) (oi := { dst := some 125, op := Go.Op.fieldAddr 30 (Go.Operand.tmp 4) 0, type := 0, pos := "law.go:82", after := #[], guard := none }) (v := .pointer (some ⟨w.heap.size + 1, 0, none⟩)) rfl (by kernel_rfl) (by kernel_rfl) (by kernel_rfl) (fun _ _ _ h => h) (Or.inl ⟨by rfl, fun w' hSw => by (obtain ⟨x0, x1, x2, x3, x4, x5⟩ := hSw; go_simp)⟩) hHeld ?_
                  try simp only [Act.put, List.setIfInBounds_toArray, List.set_cons_zero, List.set_cons_succ]
                  refine wpAnyH_take (i := 6) (oi := { dst := some 126, op := Go.Op.load 28 (Go.Operand.tmp 125), type := 28, pos := "law.go:82", after := #[{ on := 5, ground := Go.Ground.data }], guard := none }) (v := .slice Al lv.length cl) rfl (by kernel_rfl) (by kernel_rfl) (by kernel_rfl) (fun _ _ _ h => h) (Or.inl ⟨by rfl, fun w' hSw => by (obtain ⟨x0, x1, x2, x3, x4, x5⟩ := hSw; go_simp)⟩) hHeld ?_
                  try simp only [Act.put, List.setIfInBounds_toArray, List.set_cons_zero, List.set_cons_succ]
                  refine wpAnyH_ready (rs := [3]) (by kernel_rfl) (by simp) ?_
                  refine AllReadyH.cons rfl (fun K hK => ?_) AllReadyH.nil
                  go_simp
                  refine (LC2.out _ (by repeat (first | exact BR.out | refine Below.drew ?_))).mono ?_
                  rintro e wl ⟨rfl, bl⟩
                  have BL := Lib.hid bl
                  clear bl
                  refine hK.out _ _ (KP.out _ BL.out) (fun hHeld => ?_)
                  clear hK
                  try simp only [Act.put, List.setIfInBounds_toArray, List.set_cons_zero, List.set_cons_succ]
                  refine wpAnyH_ready (rs := [7]) (by kernel_rfl) (by simp) ?_
                  refine AllReadyH.cons rfl (fun K hK => ?_) AllReadyH.nil
                  go_simp
                  refine (FC2.out _ (by repeat (first | exact BL.out | refine Below.drew ?_))).mono ?_
                  rintro e wg ⟨rfl, bg⟩
                  have BG := Lib.hid bg
                  clear bg
                  refine hK.out _ _ (KP.out _ BG.out) (fun hHeld => ?_)
                  clear hK
                  try simp only [Act.put, List.setIfInBounds_toArray, List.set_cons_zero, List.set_cons_succ]
                  refine wpAnyH_take (i := 8) (oi := { dst := some 128, op := Go.Op.move (Go.Operand.tmp 127), type := 4, pos := "law.go:82", after := #[{ on := 7, ground := Go.Ground.data }, { on := 7, ground := Go.Ground.chain }], guard := none }) (v := .bool false) rfl (by kernel_rfl) (by kernel_rfl) (by kernel_rfl) (fun _ _ _ h => h) (Or.inl ⟨by rfl, fun w' hSw => by (obtain ⟨x0, x1, x2, x3, x4, x5⟩ := hSw; go_simp)⟩) hHeld ?_
                  try simp only [Act.put, List.setIfInBounds_toArray, List.set_cons_zero, List.set_cons_succ]
                  refine wpAnyH_take (i := 9) (oi := { dst := some 129, op := Go.Op.load 25 (Go.Operand.tmp 3), type := 25, pos := "law.go:82", after := #[{ on := 8, ground := Go.Ground.guard }], guard := some (8, true) }) (v := undef) rfl (by kernel_rfl) (by kernel_rfl) (by kernel_rfl) (fun _ _ _ h => h) (Or.inr ⟨by rfl, rfl⟩) hHeld ?_
                  try simp only [Act.put, List.setIfInBounds_toArray, List.set_cons_zero, List.set_cons_succ]
                  refine wpAnyH_take (i := 10) (oi := { dst := some 130, op := Go.Op.fieldAddr 30 (Go.Operand.tmp 4) 0, type := 0, pos := "law.go:82", after := #[{ on := 8, ground := Go.Ground.guard }], guard := some (8, true) }) (v := undef) rfl (by kernel_rfl) (by kernel_rfl) (by kernel_rfl) (fun _ _ _ h => h) (Or.inr ⟨by rfl, rfl⟩) hHeld ?_
                  try simp only [Act.put, List.setIfInBounds_toArray, List.set_cons_zero, List.set_cons_succ]
                  refine wpAnyH_take (i := 11) (oi := { dst := some 131, op := Go.Op.load 28 (Go.Operand.tmp 130), type := 28, pos := "law.go:82", after := #[{ on := 10, ground := Go.Ground.data }, { on := 8, ground := Go.Ground.guard }], guard := some (8, true) }) (v := undef) rfl (by kernel_rfl) (by kernel_rfl) (by kernel_rfl) (fun _ _ _ h => h) (Or.inr ⟨by rfl, rfl⟩) hHeld ?_
                  try simp only [Act.put, List.setIfInBounds_toArray, List.set_cons_zero, List.set_cons_succ]
                  refine wpAnyH_take (i := 12) (oi := { dst := some 132, op := Go.Op.load 56 (Go.Operand.tmp 5), type := 56, pos := "law.go:82", after := #[{ on := 8, ground := Go.Ground.guard }], guard := some (8, true) }) (v := undef) rfl (by kernel_rfl) (by kernel_rfl) (by kernel_rfl) (fun _ _ _ h => h) (Or.inr ⟨by rfl, rfl⟩) hHeld ?_
                  try simp only [Act.put, List.setIfInBounds_toArray, List.set_cons_zero, List.set_cons_succ]
                  refine wpAnyH_take (i := 13) (oi := { dst := some 133, op := Go.Op.call { callee := Go.Callee.value (Go.Operand.func 24), args := #[Go.Operand.tmp 129, Go.Operand.tmp 131, Go.Operand.tmp 132], argTypes := #[25, 28, 61] }, type := 4, pos := "law.go:82", after := #[{ on := 9, ground := Go.Ground.data }, { on := 11, ground := Go.Ground.data }, { on := 12, ground := Go.Ground.data }, { on := 8, ground := Go.Ground.chain }, { on := 8, ground := Go.Ground.guard }], guard := some (8, true) }) (v := undef) rfl (by kernel_rfl) (by kernel_rfl) (by kernel_rfl) (fun _ _ _ h => h) (Or.inr ⟨by rfl, rfl⟩) hHeld ?_
                  try simp only [Act.put, List.setIfInBounds_toArray, List.set_cons_zero, List.set_cons_succ]
                  refine wpAnyH_take (i := 14) (oi := { dst := some 134, op := Go.Op.pick (Go.Operand.tmp 128) (Go.Operand.tmp 133) (Go.Operand.const (Go.Value.bool false)), type := 4, pos := "law.go:82", after := #[{ on := 8, ground := Go.Ground.data }, { on := 13, ground := Go.Ground.data }], guard := none }) (v := .bool false) rfl (by kernel_rfl) (by kernel_rfl) (by kernel_rfl) (fun _ _ _ h => h) (Or.inl ⟨by rfl, fun w' hSw => by (obtain ⟨x0, x1, x2, x3, x4, x5⟩ := hSw; go_simp)⟩) hHeld ?_
                  try simp only [Act.put, List.setIfInBounds_toArray, List.set_cons_zero, List.set_cons_succ]
                  refine wpAnyH_take (i := 15) (oi := { dst := some 135, op := Go.Op.binOp Go.BinOp.eql 4 (Go.Operand.tmp 123) (Go.Operand.tmp 134) 4, type := 4, pos := "law.go:82", after := #[{ on := 3, ground := Go.Ground.data }, { on := 14, ground := Go.Ground.data }], guard := none }) (v := .bool true) rfl (by kernel_rfl) (by kernel_rfl) (by kernel_rfl) (fun _ _ _ h => h) (Or.inl ⟨by rfl, fun w' hSw => by (obtain ⟨x0, x1, x2, x3, x4, x5⟩ := hSw; go_simp)⟩) hHeld ?_
                  try simp only [Act.put, List.setIfInBounds_toArray, List.set_cons_zero, List.set_cons_succ]
                  refine wpAnyH_take (i := 16) (oi := { dst := some 6, op := Go.Op.assign (Go.Operand.tmp 135), type := 4, pos := "law.go:82", after := #[{ on := 15, ground := Go.Ground.data }, { on := 13, ground := Go.Ground.chain }, { on := 0, ground := Go.Ground.phase }, { on := 1, ground := Go.Ground.phase }, { on := 2, ground := Go.Ground.phase }, { on := 3, ground := Go.Ground.phase }, { on := 4, ground := Go.Ground.phase }, { on := 5, ground := Go.Ground.phase }, { on := 6, ground := Go.Ground.phase }, { on := 7, ground := Go.Ground.phase }, { on := 8, ground := Go.Ground.phase }, { on := 9, ground := Go.Ground.phase }, { on := 10, ground := Go.Ground.phase }, { on := 11, ground := Go.Ground.phase }, { on := 12, ground := Go.Ground.phase }, { on := 13, ground := Go.Ground.phase }, { on := 14, ground := Go.Ground.phase }, { on := 15, ground := Go.Ground.phase }], guard := none }) (v := .bool true) rfl (by kernel_rfl) (by kernel_rfl) (by kernel_rfl) (fun _ _ _ h => h) (Or.inl ⟨by rfl, fun w' hSw => by (obtain ⟨x0, x1, x2, x3, x4, x5⟩ := hSw; go_simp)⟩) hHeld ?_
                  try simp only [Act.put, List.setIfInBounds_toArray, List.set_cons_zero, List.set_cons_succ]
                  refine wpAnyH_done (by kernel_rfl) ?_ _
                  go_wp2_with fail
                  go_ret
                  exact ⟨rfl, KF.out _ BG.out⟩
-- END HELD
                | true =>
                  rw [Bool.true_and] at LC2
                  have RL3 : Hid (∀ w', Below w1.heap.size w1 w' → _) := RL2.out rfl
                  clear RL2
                  cases al
                  all_goals
                    go_wp2_with fail
                    go_region_held3 (fun w' => (w'.cell? ⟨w.heap.size, 0, none⟩ = some (.slice An ns.length cn) ∧ w'.cell? ⟨w.heap.size, 1, none⟩ = some (.slice Ac cs.length cc) ∧ w'.cell? ⟨w.heap.size + 1, 0, none⟩ = some (.slice Al lv.length cl) ∧ w'.cell? ⟨w.heap.size + 1 + 1, 0, none⟩ = some (.int .i64 xs) ∧ w'.cell? ⟨w.heap.size + 1 + 1, 1, none⟩ = some (.slice aO x.out.length cO) ∧ w'.cell? ⟨w.heap.size + 1 + 1, 2, none⟩ = some (.slice aD x.del.length cD')))
                      (first | exact ⟨c0, c1, c2, t0, t1, t2⟩ | (refine KP.out _ ?_; repeat (first | exact BL.out | exact BH.out | exact BG.out | exact BR.out | refine Below.drew ?_)))
                      (first
                        | (go_at_call 21; refine (LC2.out _ (by repeat (first | exact BH.out | exact BG.out | exact BR.out | refine Below.drew ?_))).mono ?_; rintro e wl ⟨rfl, bl⟩; have BL := Lib.hid bl; clear bl)
                        | (go_at_call 23; refine (FC2.out _ (by repeat (first | exact BL.out | exact BR.out | refine Below.drew ?_))).mono ?_; rintro e wg ⟨rfl, bg⟩; have BG := Lib.hid bg; clear bg)
                        | (go_at_call 24; refine (RL3.out _ (by repeat (first | exact BL.out | exact BG.out | refine Below.drew ?_))).mono ?_; rintro e wh ⟨rfl, bh⟩; have BH := Lib.hid bh; clear bh))
                    all_goals
                      have BF := Lib.hid (KF.out _ BL.out)
                      have BF2 := Lib.hid (KF.out _ BH.out)
                      go_wp2_with fail
                      go_ret
                      exact ⟨by first | rfl | simp, by first | exact BF.out | exact BF2.out | exact BF.out.drew | exact BF2.out.drew⟩
    · have hol2 : (20 : Int) < (x.out.length : Int) := by omega
      go_wp2_with fail
      go_ret
      exact ⟨rfl, BW3.out⟩
end Go.Proofs.YtljojgpjgjfddaaGreat.treeTellsW
