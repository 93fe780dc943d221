/- The contract of the reference's Legal of updown, at walks over cables that are there. -/
import Derived.Test.YtljojgpjgjfddaaGreatRTN
namespace Go.Proofs.YtljojgpjgjfddaaGreat
open Go.RowKit Go.Maps
set_option linter.unusedVariables false
set_option linter.unusedSimpArgs false

def RelL8 (lv : List Int) (N : List Nat) (P : List Int) (w4 : World) (f i : Value) (wr : World) : Prop :=
  ∃ j : Nat, j ≤ P.length ∧ i = .int .i64 j ∧ f = .bool (fallI lv N j) ∧ (N.take (j + 1)).all (lvOk lv) = true ∧ (List.range j).all (stepOk lv N P) = true ∧ Below w4.heap.size w4 wr
set_option maxRecDepth 100000 in
set_option maxHeartbeats 8000000 in
theorem legal18_any (ns : List Nd) (cs : List Cb) (lv : List Int) (s v : Nat) (W : List (Nat × Int)) (An Ac Al Ap : Option Addr) (cn cc cl cp : Nat) (w : World) (hv : validP ⟨ns, cs⟩ = 0) (hlv : lv.length = ns.length) (hW : WkOk ns cs s W v) (hWl : W.length ≤ 1000)
    (h : IsPlan w An Ac ⟨ns, cs⟩) (h2 : IsRec 1 cI 0 w Al lv.length lv) (h3 : IsRec 1 cI 0 w Ap W.length (W.map (·.2))) :
    Calls Tryz.prog 69 #[.agg #[.slice An ns.length cn, .slice Ac cs.length cc], .slice Al lv.length cl, .int .i64 (s : Int), .slice Ap W.length cp] w fun e w' => e = .returned (.bool (legB lv (nodesW cs s W) (W.map (·.2)))) ∧ Below w.heap.size w w' := by
  obtain ⟨n16, c32⟩ := valid_sizes hv
  obtain ⟨w1, hw1⟩ : ∃ w1 : World, w.alloc (.cells #[.slice An ns.length cn, .slice Ac cs.length cc] 25) = w1 := ⟨_, rfl⟩
  have s0 : w1.cell? ⟨w.heap.size, 0, none⟩ = some (.slice An ns.length cn) := by rw [← hw1]; simp [go_sem]
  have s1 : w1.cell? ⟨w.heap.size, 1, none⟩ = some (.slice Ac cs.length cc) := by rw [← hw1]; simp [go_sem]
  have sz1 : w.heap.size < w1.heap.size := by rw [← hw1]; simp
  have BW0 : Hid (Below w.heap.size w w1) := by rw [Hid, ← hw1]; exact (Below.refl _ _).alloc (Nat.le_refl _) _
  have H1 := Lib.hid (h.below (Nat.le_refl _) BW0.out)
  have L1 := Lib.hid (h2.below (Nat.le_refl _) BW0.out)
  have P1 := Lib.hid (h3.below (Nat.le_refl _) BW0.out)
  have KB : Hid (∀ w', Below w1.heap.size w1 w' → Below w.heap.size w w') := fun w' hb => BW0.out.trans (hb.mono (by omega))
  have NC := Lib.hid (nodes18_any ns cs s v W An Ac Ap cn cc cp w1 hv hW hWl H1.out P1.out)
  have NLn : Hid ((nodesW cs s W).length = W.length + 1) := nodesW_len cs s W
  have NB : Hid (∀ k, k < W.length + 1 → (nodesW cs s W).getD k 0 < ns.length) := fun k hk => by
    cases k with
    | zero => exact hW.2.1
    | succ k =>
      obtain ⟨_, e2⟩ := nodesW_at cs W s v k hW.1 (by omega)
      obtain ⟨q, hq, _, _, _, hn⟩ := hW.2.2 (W.getD k (0, 0)) (by simp [List.getD, show k < W.length by omega])
      rw [e2, hq, Int.toNat_natCast]; exact hn
  have ND : Hid (∀ k, k < W.length → (nodesW cs s W).getD k 0 ≠ (nodesW cs s W).getD (k + 1) 0) := fun k hk e => by
    obtain ⟨e1, e2⟩ := nodesW_at cs W s v k hW.1 hk
    obtain ⟨q, hq, hql, ht, _, hn⟩ := hW.2.2 (W.getD k (0, 0)) (by simp [List.getD, hk])
    have hab := valid_abF hv _ (getD_mem (d := cb0) hql)
    rw [e1, e2, hq, Int.toNat_natCast] at e
    rcases ht with ⟨a1, a2⟩ | ⟨a1, a2⟩ <;> exact hab (by omega)
  have NG : Hid (∀ k, k < W.length + 1 → (nodesI cs s W).getD k 0 = ((nodesW cs s W).getD k 0 : Nat)) := fun k hk => by
    have l1 : k < (nodesW cs s W).length := by rw [nodesW_len]; omega
    unfold nodesI; simp [List.getD, l1]
  have N0 : Hid ((nodesW cs s W).getD 0 0 = s) := rfl
  have PL : Hid ((W.map (·.2)).length = W.length) := List.length_map ..
  have NIL : Hid ((nodesI cs s W).length = W.length + 1) := by rw [Hid]; unfold nodesI; rw [List.length_map, nodesW_len]
  generalize nodesI cs s W = NI' at *
  generalize nodesW cs s W = N at *
  have HLL := Lib.hid hlv
  have HW1 := Lib.hid hw1
  have hsn := hW.2.1
  clear h h2 h3 hw1 hW hv hlv
  go_enter Tryz.func69, Tryz.ntmps69
  go_wp2_with fail
  rw [HW1.out]
  go_wp2_with fail
  refine NC.out.mono ?_
  rintro e w4 ⟨vn, rfl, own, bel4⟩
  obtain ⟨aN, cN, hvn, _, recN, _⟩ := rec_of_own (d := (0 : Int)) cI_length (by decide) own
  subst hvn
  have RN := Lib.hid recN
  have B4 := Lib.hid bel4
  have BW4 := Lib.hid (KB.out w4 bel4)
  rw [NIL.out] at RN ⊢
  obtain ⟨bl, ol, hal, hbl, _, el⟩ := int_at L1.out s (by have := HLL.out; omega)
  have LC : Hid (∀ w', Below w1.heap.size w1 w' → IsRec 1 cI 0 w' Al lv.length lv) := fun w' hb => L1.out.below (Nat.le_refl _) hb
  have PC : Hid (∀ w', Below w1.heap.size w1 w' → IsRec 1 cI 0 w' Ap W.length (W.map (·.2))) := fun w' hb => P1.out.below (Nat.le_refl _) hb
  have es := (bel4.cell (p := ⟨bl, ol + s, none⟩) hbl).trans el
  have sl : (s : Int) < (lv.length : Int) := by have := HLL.out; omega
  have LB0 := Lib.hid (fun (h : lvOk lv s = false) => leg_lv (lv := lv) (N := N) (P := W.map (·.2)) (k := 0) (by have := NLn.out; omega) (by rw [N0.out]; exact h))
  have LD0 : Hid (lvOk lv s = decide (0 ≤ lv.getD s 0)) := rfl
  have LG0 : Hid (0 ≤ lv.getD s 0 → lvOk lv s = true) := fun q => by rw [LD0.out]; exact decide_eq_true q
  have HAL := Lib.hid hal
  clear own recN bel4 NC s0 s1 el
  by_cases hs0 : lv.getD s 0 < 0
  · have F := Lib.hid (LB0.out (by rw [LD0.out]; exact decide_eq_false (by omega)))
    generalize lv.getD s 0 = ls at *
    rw [hal]
    clear LB0 LD0 LG0
    go_wp2_with fail
    go_ret
    exact ⟨by rw [F.out]; rfl, BW4.out⟩
  · have LS := Lib.hid (LG0.out (by omega))
    have ST : Hid (RelL8 lv N (W.map (·.2)) w4 (.bool false) (.int .i64 0) w4) := ⟨0, Nat.zero_le _, rfl, rfl, by
      have e : N.take (0 + 1) = [s] := by
        have := NLn.out
        have h0 := N0.out
        cases N with
        | nil => simp at this
        | cons a l => simp at h0; simp [h0]
      rw [e]; simp [LS.out], rfl, Below.refl _ _⟩
    have lsp : ¬ lv.getD s 0 < 0 := hs0
    generalize lv.getD s 0 = ls at *
    rw [hal]
    clear LB0 LD0 LG0 hs0
    go_wp2_with fail
    rw [← HAL.out]
    clear hal es
    go_loopw [11, 12] (fun f i wr => RelL8 lv N (W.map (·.2)) w4 f i wr) (fun _ i _ => W.length - (RowKit.intOf i).toNat)
    case atStart => exact ST.out
    case round =>
      clear ST
      obtain ⟨j, hj, rfl, rfl, hlo, hall, belr⟩ := hrel
      rw [PL.out] at hj
      have BQ : Hid (Below w1.heap.size w1 wr) := B4.out.trans (belr.mono B4.out.size)
      have BE := Lib.hid belr
      have HLO := Lib.hid hlo
      have HST := Lib.hid hall
      have nln := NLn.out
      clear belr hall hlo
      by_cases hjr : j < W.length
      · obtain ⟨b1, o1, ha1, hb1, hm1, e1⟩ := int_at (PC.out wr BQ.out) j hjr
        obtain ⟨bN, oN, haN, hbN, _, eN⟩ := int_at RN.out (j + 1) (by omega)
        obtain ⟨bM, oM, haM, hbM, _, eM⟩ := int_at RN.out j (by omega)
        rw [haN] at haM
        injection haM with haM
        injection haM with z1 z2
        subst z1
        subst z2
        rw [NG.out (j + 1) (by omega)] at eN
        rw [NG.out j (by omega)] at eM
        have PRV : Hid (∀ w', Below w1.heap.size w1 w' → 0 < j → w'.cell? ⟨b1, o1 + (j - 1), none⟩ = some (.int .i64 ((W.map (·.2)).getD (j - 1) 0))) := fun w' hb h0 => by
          obtain ⟨b9, o9, ha9, _, _, f0⟩ := int_at (PC.out w' hb) (j - 1) (by omega)
          rw [ha1] at ha9
          injection ha9 with ha9
          injection ha9 with ga gb
          subst ga
          subst gb
          exact f0
        have CUR : Hid (∀ w', Below wr.heap.size wr w' → w'.cell? ⟨b1, o1 + j, none⟩ = some (.int .i64 ((W.map (·.2)).getD j 0))) := fun w' hb => (hb.cell hb1).trans e1
        have un := NB.out j (by omega)
        have un2 := NB.out (j + 1) (by omega)
        have une := ND.out j hjr
        have BADL : Hid (lv.getD (N.getD (j + 1) 0) 0 < 0 → legB lv N (W.map (·.2)) = false) := fun h => leg_lv (k := j + 1) (by omega) (by unfold lvOk; exact decide_eq_false (by omega))
        have BADS : Hid (stepOk lv N (W.map (·.2)) j = false → legB lv N (W.map (·.2)) = false) := fun h => leg_step (by rw [PL.out]; exact hjr) h
        have SD : Hid (stepOk lv N (W.map (·.2)) j = ((!upB lv (N.getD j 0) (N.getD (j + 1) 0) || !fallI lv N j) && !(decide (0 < j) && (W.map (·.2)).getD j 0 == (W.map (·.2)).getD (j - 1) 0))) := rfl
        have FS : Hid (fallI lv N (j + 1) = !upB lv (N.getD j 0) (N.getD (j + 1) 0)) := by rw [Hid]; unfold fallI; rw [if_neg (by omega)]; rfl
        have LVU : Hid (0 ≤ lv.getD (N.getD j 0) 0) := by
          rw [Hid]
          have h1 := List.all_eq_true.1 HLO.out (N.getD j 0) (by
            have : N.getD j 0 = (N.take (j + 1)).getD j 0 := by simp [List.getD]
            rw [this]; exact getD_mem (by rw [List.length_take]; omega))
          unfold lvOk at h1
          exact of_decide_eq_true h1
        have NXT : Hid (0 ≤ lv.getD (N.getD (j + 1) 0) 0 → stepOk lv N (W.map (·.2)) j = true → ∀ b, b = (!upB lv (N.getD j 0) (N.getD (j + 1) 0)) → ∀ w', Below w4.heap.size w4 w' → RelL8 lv N (W.map (·.2)) w4 (.bool b) (.int .i64 ((j + 1 : Nat) : Int)) w') := fun h1 h2 b hb w' hbe =>
          ⟨j + 1, by rw [PL.out]; omega, rfl, by rw [FS.out, hb], by rw [take_snocG 0 N (j + 1) (by omega), List.all_append, HLO.out, List.all_cons, List.all_nil]; unfold lvOk; rw [decide_eq_true h1]; rfl, by rw [range_all_succ, HST.out, h2]; rfl, hbe⟩
        have SC : Hid (∀ w', Below w1.heap.size w1 w' → Calls Tryz.prog 111 #[.slice Al lv.length cl, .int .i64 (N.getD j 0 : Nat), .int .i64 (N.getD (j + 1) 0 : Nat)] w' fun e w'' => e = .returned (.int .i64 (stV lv (N.getD j 0) (N.getD (j + 1) 0))) ∧ Below w'.heap.size w' w'') := fun w' hb =>
          step18_any lv Al cl _ _ w' (by have := HLL.out; omega) (LC.out w' hb) (by have := HLL.out; omega) (by have := HLL.out; omega) LVU.out une
        have SV : Hid (stV lv (N.getD j 0) (N.getD (j + 1) 0) = if lv.getD (N.getD (j + 1) 0) 0 < 0 then 0 else if upB lv (N.getD j 0) (N.getD (j + 1) 0) then 1 else 2) := rfl
        generalize stepOk lv N (W.map (·.2)) j = sj at *
        generalize (W.map (·.2)).getD j 0 = pj at *
        generalize (W.map (·.2)).getD (j - 1) 0 = pp at *
        generalize upB lv (N.getD j 0) (N.getD (j + 1) 0) = up at *
        generalize fallI lv N j = fl at *
        generalize stV lv (N.getD j 0) (N.getD (j + 1) 0) = sv at *
        generalize lv.getD (N.getD (j + 1) 0) 0 = l2 at *
        generalize N.getD (j + 1) 0 = u2 at *
        generalize N.getD j 0 = u at *
        subst ha1
        subst haN
        have KS : Hid (∀ w', Below wr.heap.size wr w' → w'.cell? ⟨bN, oN + j, none⟩ = some (.int .i64 (u : Int)) ∧ w'.cell? ⟨bN, oN + (j + 1), none⟩ = some (.int .i64 (u2 : Int))) := fun w' hb => by
          have hb4 := BE.out.trans (hb.mono BE.out.size)
          exact ⟨(hb4.cell (by exact hbN)).trans eM, (hb4.cell (by exact hbN)).trans eN⟩
        obtain ⟨f1, f2⟩ := KS.out wr (Below.refl _ _)
        have ji : (j : Int) < (W.length : Int) := by omega
        have ji2 : (j : Int) < (W.length : Int) + 1 := by omega
        have q1 : IntKind.i64.wrap ((j : Int) + 1) = (j : Int) + 1 := IntWalk.i64_in _ (by omega)
        have q2 : (0 : Int) ≤ (j : Int) + 1 := by omega
        have q3 : (j : Int) + 1 < (W.length : Int) + 1 := by omega
        have q4 : ((j : Int) + 1).toNat = j + 1 := by omega
        clear hm1 e1 eM eN nln
        go_wp2_with fail
        go_region_held3 (fun w' => w'.cell? ⟨bN, oN + j, none⟩ = some (.int .i64 (u : Int)) ∧ w'.cell? ⟨bN, oN + (j + 1), none⟩ = some (.int .i64 (u2 : Int)))
          (first | exact ⟨f1, f2⟩ | exact KS.out _ BX.out)
          (first | (go_at_call 111; refine (SC.out _ (by repeat (first | exact BQ.out | refine Below.drew ?_))).mono ?_; rintro e w5 ⟨rfl, bel5⟩; have BX : Hid (Below wr.heap.size wr w5) := (Below.refl _ _).drew.trans bel5; clear bel5))
        all_goals
          have B5 : Hid (Below w1.heap.size w1 w5) := BQ.out.trans (BX.out.mono BQ.out.size)
          have BE5 : Hid (Below w4.heap.size w4 w5) := BE.out.trans (BX.out.mono BE.out.size)
          have BF : Hid (∀ n, Below w.heap.size w (w5.drewN n)) := fun n => below_drewN (KB.out w5 B5.out) n
          have PR5 := Lib.hid (PRV.out w5 B5.out)
          have p5 := CUR.out w5 BX.out
          clear f1 f2 SC q1 q2 q3 q4
          by_cases hl2 : l2 < 0
          · have F := Lib.hid (BADL.out hl2)
            have SV0 : sv = 0 := by rw [SV.out, if_pos hl2]
            subst SV0
            clear SV NXT BADL BADS SD
            go_wp2_with fail
            go_quiet (fail)
            go_wp2_with fail
            go_ret
            exact ⟨by rw [F.out]; rfl, BF.out _⟩
          · have NX := Lib.hid (NXT.out (by omega))
            have SVH := SV.out
            rw [if_neg hl2] at SVH
            clear SV NXT BADL
            cases up with
            | true =>
              rw [if_pos rfl] at SVH
              subst SVH
              cases fl with
              | true =>
                have F := Lib.hid (BADS.out (by rw [SD.out]; rfl))
                clear SD NX BADS
                go_wp2_with fail
                go_quiet (fail)
                go_wp2_with fail
                go_ret
                exact ⟨by rw [F.out]; rfl, BF.out _⟩
              | false =>
                by_cases hj0 : 0 < j
                · have p0 := PR5.out hj0
                  have k1 : (0 : Int) < (j : Int) := by omega
                  have k2 : IntKind.i64.wrap ((j : Int) - 1) = (j : Int) - 1 := IntWalk.i64_in _ (by omega)
                  have k3 : (0 : Int) ≤ (j : Int) - 1 := by omega
                  have k4 : (j : Int) - 1 < (W.length : Int) := by omega
                  have k5 : ((j : Int) - 1).toNat = j - 1 := by omega
                  have SD2 := SD.out
                  rw [decide_eq_true hj0] at SD2
                  cases hpp : pj == pp with
                  | true =>
                    have F := Lib.hid (BADS.out (by rw [SD2, hpp]; rfl))
                    clear SD SD2 NX BADS PR5
                    go_wp2_with fail
                    go_quiet (fail)
                    go_wp2_with fail
                    go_ret
                    exact ⟨by rw [F.out]; rfl, BF.out _⟩
                  | false =>
                    have R : Hid (∀ n, RelL8 lv N (W.map (·.2)) w4 (.bool false) (.int .i64 ((j + 1 : Nat) : Int)) (w5.drewN n)) := fun n => NX.out (by rw [SD2, hpp]; rfl) false rfl _ (below_drewN BE5.out n)
                    clear SD SD2 NX BADS PR5
                    go_wp2_with fail
                    go_quiet (fail)
                    go_wp2_with fail
                    exact ⟨by simpa using R.out _, by simp [RowKit.intOf]; omega⟩
                · have k1 : ¬ (0 : Int) < (j : Int) := by omega
                  have SD2 := SD.out
                  rw [decide_eq_false hj0] at SD2
                  have R : Hid (∀ n, RelL8 lv N (W.map (·.2)) w4 (.bool false) (.int .i64 ((j + 1 : Nat) : Int)) (w5.drewN n)) := fun n => NX.out (by rw [SD2]; rfl) false rfl _ (below_drewN BE5.out n)
                  clear SD SD2 NX BADS PR5
                  go_wp2_with fail
                  go_quiet (fail)
                  go_wp2_with fail
                  exact ⟨by simpa using R.out _, by simp [RowKit.intOf]; omega⟩
            | false =>
              rw [if_neg (by decide)] at SVH
              subst SVH
              by_cases hj0 : 0 < j
              · have p0 := PR5.out hj0
                have k1 : (0 : Int) < (j : Int) := by omega
                have k2 : IntKind.i64.wrap ((j : Int) - 1) = (j : Int) - 1 := IntWalk.i64_in _ (by omega)
                have k3 : (0 : Int) ≤ (j : Int) - 1 := by omega
                have k4 : (j : Int) - 1 < (W.length : Int) := by omega
                have k5 : ((j : Int) - 1).toNat = j - 1 := by omega
                have SD2 := SD.out
                rw [decide_eq_true hj0] at SD2
                cases hpp : pj == pp with
                | true =>
                  have F := Lib.hid (BADS.out (by rw [SD2, hpp]; simp))
                  clear SD SD2 NX BADS PR5
                  go_wp2_with fail
                  go_quiet (fail)
                  go_wp2_with fail
                  go_ret
                  exact ⟨by rw [F.out]; rfl, BF.out _⟩
                | false =>
                  have R : Hid (∀ n, RelL8 lv N (W.map (·.2)) w4 (.bool true) (.int .i64 ((j + 1 : Nat) : Int)) (w5.drewN n)) := fun n => NX.out (by rw [SD2, hpp]; rfl) true rfl _ (below_drewN BE5.out n)
                  clear SD SD2 NX BADS PR5
                  cases fl with
                  | true =>
                    go_wp2_with fail
                    go_quiet (fail)
                    go_wp2_with fail
                    exact ⟨by simpa using R.out _, by simp [RowKit.intOf]; omega⟩
                  | false =>
                    go_wp2_with fail
                    go_quiet (fail)
                    go_wp2_with fail
                    exact ⟨by simpa using R.out _, by simp [RowKit.intOf]; omega⟩
              · have k1 : ¬ (0 : Int) < (j : Int) := by omega
                have SD2 := SD.out
                rw [decide_eq_false hj0] at SD2
                have R : Hid (∀ n, RelL8 lv N (W.map (·.2)) w4 (.bool true) (.int .i64 ((j + 1 : Nat) : Int)) (w5.drewN n)) := fun n => NX.out (by rw [SD2]; rfl) true rfl _ (below_drewN BE5.out n)
                clear SD SD2 NX BADS PR5
                cases fl with
                | true =>
                  go_wp2_with fail
                  go_quiet (fail)
                  go_wp2_with fail
                  exact ⟨by simpa using R.out _, by simp [RowKit.intOf]; omega⟩
                | false =>
                  go_wp2_with fail
                  go_quiet (fail)
                  go_wp2_with fail
                  exact ⟨by simpa using R.out _, by simp [RowKit.intOf]; omega⟩
      · obtain rfl : j = W.length := by omega
        have F : Hid (legB lv N (W.map (·.2)) = true) := by
          have e : N.take (W.length + 1) = N := List.take_of_length_le (by have := NLn.out; omega)
          have h1 := HLO.out
          rw [e] at h1
          rw [Hid]; unfold legB; rw [h1, PL.out, HST.out]; rfl
        have BF := Lib.hid (KB.out wr BQ.out)
        go_wp2_with fail
        go_ret
        exact ⟨by rw [F.out]; rfl, BF.out⟩
end Go.Proofs.YtljojgpjgjfddaaGreat
