/- The contract of the reference's Valid at trees in a valid plan: it answers as tree.Valid. -/
import Derived.Test.YtljojgpjgjfddaaGreatRTR
namespace Go.Proofs.YtljojgpjgjfddaaGreat
open Go.RowKit Go.Maps
set_option linter.unusedVariables false
set_option linter.unusedSimpArgs false

def RelVR (cs : List Cb) (out : List (List Int)) (n : Nat) (w2 : World) (i : Value) (wr : World) : Prop := ∃ k : Nat, k ≤ n ∧ i = .int .i64 k ∧ (List.range k).all (rowOkB cs out) = true ∧ Below w2.heap.size w2 wr
def RelVi (cs : List Cb) (row : List Int) (u : Nat) (w2 : World) (j : Value) (wr : World) : Prop := ∃ m : Nat, m ≤ row.length ∧ j = .int .i64 m ∧ (row.take m).all (fun c => isEndB cs c (u : Int)) = true ∧ Below w2.heap.size w2 wr
def RelVD (n : Nat) (Q : List Nat) (del : List Int) (wq : World) (i : Value) (wr : World) : Prop := ∃ k : Nat, k ≤ del.length ∧ i = .int .i64 k ∧ refDel n Q (del.take k) ∧ wq = wr
def RelVN (s : Nat) (Q : List Nat) (x : Tr) (n : Nat) (wq : World) (i : Value) (wr : World) : Prop := ∃ k : Nat, k ≤ n ∧ i = .int .i64 k ∧ (∀ u, u < k → refRow s Q x u) ∧ wq = wr
theorem all_take_bad {f : Int → Bool} {l : List Int} {y : Int} (hm : y ∈ l) (h : f y = false) : l.all f = false := by
  rw [List.all_eq_false]; exact ⟨y, hm, by rw [h]; decide⟩
theorem BS.bad_del {ns : List Nd} {cs : List Cb} {x : Tr} {s : Nat} {Q : List Nat} {seen : List Bool} {P : List (List Int)} (h : BS ns.length cs x.out s Q Q.length 0 seen P) (hs : x.src = s) (hd : ¬ refDel ns.length Q x.del) : waysB ns cs x = false := by
  cases hw : waysB ns cs x with
  | false => rfl
  | true =>
    obtain ⟨s', r, V⟩ := valid_tree hw
    have := ways_src hs V
    subst this
    exact absurd (V.refOk h).1 hd
theorem BS.bad_row {ns : List Nd} {cs : List Cb} {x : Tr} {s : Nat} {Q : List Nat} {seen : List Bool} {P : List (List Int)} (h : BS ns.length cs x.out s Q Q.length 0 seen P) (hs : x.src = s) {u : Nat} (hu : u < ns.length) (hd : ¬ refRow s Q x u) : waysB ns cs x = false := by
  cases hw : waysB ns cs x with
  | false => rfl
  | true =>
    obtain ⟨s', r, V⟩ := valid_tree hw
    have := ways_src hs V
    subst this
    exact absurd ((V.refOk h).2 u hu) hd
set_option maxRecDepth 100000 in
set_option maxHeartbeats 8000000 in
theorem rvalid_any (ns : List Nd) (cs : List Cb) (x : Tr) (An Ac aO aD : Option Addr) (cn cc cO cD : Nat) (w : World) (hv : validP ⟨ns, cs⟩ = 0) (hx : SmallT x) (h : IsPlan w An Ac ⟨ns, cs⟩) (h2 : IsTree w aO aD x) :
    Calls Tryz.prog 18 #[.agg #[.slice An ns.length cn, .slice Ac cs.length cc], .agg #[.int .i64 x.src, .slice aO x.out.length cO, .slice aD x.del.length cD]] w fun e w' => e = .returned (.bool (waysB ns cs x)) ∧ Below w.heap.size w w' := by
  obtain ⟨n16, c32⟩ := valid_sizes hv
  obtain ⟨w1, hw1⟩ : ∃ w1 : World, (w.alloc (.cells #[.slice An ns.length cn, .slice Ac cs.length cc] 25)).alloc (.cells #[.int .i64 x.src, .slice aO x.out.length cO, .slice aD x.del.length cD] 61) = w1 := ⟨_, rfl⟩
  have s0 : w1.cell? ⟨w.heap.size, 0, none⟩ = some (.slice An ns.length cn) := by rw [← hw1]; simp [go_sem]
  have s1 : w1.cell? ⟨w.heap.size, 1, none⟩ = some (.slice Ac cs.length cc) := by rw [← hw1]; simp [go_sem]
  have t0 : w1.cell? ⟨w.heap.size + 1, 0, none⟩ = some (.int .i64 x.src) := by rw [← hw1]; simp [go_sem]
  have t1 : w1.cell? ⟨w.heap.size + 1, 1, none⟩ = some (.slice aO x.out.length cO) := by rw [← hw1]; simp [go_sem]
  have t2 : w1.cell? ⟨w.heap.size + 1, 2, none⟩ = some (.slice aD x.del.length cD) := by rw [← hw1]; simp [go_sem]
  have sz1 : w.heap.size + 1 < w1.heap.size := by rw [← hw1]; simp
  have BW0 : Hid (Below w.heap.size w w1) := by rw [Hid, ← hw1]; exact ((Below.refl _ _).alloc (Nat.le_refl _) _).alloc (by simp) _
  have H1 := Lib.hid (h.below (Nat.le_refl _) BW0.out)
  have T1 := Lib.hid (h2.below (Nat.le_refl _) BW0.out)
  have HW1 := Lib.hid hw1
  have HV := Lib.hid hv
  have HX := Lib.hid hx
  have KC : Hid (∀ w', Below w1.heap.size w1 w' → ((w'.cell? ⟨w.heap.size, 0, none⟩ = some (.slice An ns.length cn) ∧ w'.cell? ⟨w.heap.size, 1, none⟩ = some (.slice Ac cs.length cc)) ∧ (w'.cell? ⟨w.heap.size + 1, 0, none⟩ = some (.int .i64 x.src) ∧ w'.cell? ⟨w.heap.size + 1, 1, none⟩ = some (.slice aO x.out.length cO) ∧ w'.cell? ⟨w.heap.size + 1, 2, none⟩ = some (.slice aD x.del.length cD))) ∧ Below w.heap.size w w') :=
    fun w' hb => ⟨⟨⟨(hb.cell (by show w.heap.size < _; omega)).trans s0, (hb.cell (by show w.heap.size < _; omega)).trans s1⟩, ⟨(hb.cell (by exact sz1)).trans t0, (hb.cell (by exact sz1)).trans t1, (hb.cell (by exact sz1)).trans t2⟩⟩, BW0.out.trans (hb.mono (by omega))⟩
  have WFalse : Hid (∀ w', waysB ns cs x = false → Below w.heap.size w w' → (Ending.returned (.bool false) = .returned (.bool (waysB ns cs x)) ∧ Below w.heap.size w w')) := fun w' h1 h2 => ⟨by rw [h1], h2⟩
  have AC := Lib.hid (asc23_any x.del aD cD w1 hx.dl T1.out.del)
  have hdl := hx.dl
  have hol1 := hx.ol
  clear h h2 hw1 hv hx
  by_cases g0 : x.src < 0
  · have FIN := Lib.hid (wb2 (ns := ns) (cs := cs) (x := x) (by unfold isNodeB; rw [decide_eq_false (show ¬ 0 ≤ x.src by omega)]; rfl))
    generalize x.src = sr at *
    clear AC KC
    go_enter Tryz.func18, Tryz.ntmps18
    go_wp2_with fail
    rw [HW1.out]
    go_wp2_with fail
    go_ret
    exact WFalse.out _ FIN.out BW0.out
  · by_cases g1 : (ns.length : Int) ≤ x.src
    · have FIN := Lib.hid (wb2 (ns := ns) (cs := cs) (x := x) (by unfold isNodeB; rw [decide_eq_false (show ¬ x.src < ns.length by omega)]; simp))
      generalize x.src = sr at *
      clear AC KC
      go_enter Tryz.func18, Tryz.ntmps18
      go_wp2_with fail
      rw [HW1.out]
      go_wp2_with fail
      go_ret
      exact WFalse.out _ FIN.out BW0.out
    · by_cases g2 : x.out.length = ns.length
      · obtain ⟨s, hs⟩ : ∃ s : Nat, x.src = s := ⟨x.src.toNat, by omega⟩
        have hsn : s < ns.length := by omega
        have HS := Lib.hid hs
        have HOL := Lib.hid g2
        have q2 : ((x.out.length : Int) != (ns.length : Int)) = false := by simp [g2]
        rw [hs] at t0 KC HW1 g0 g1 ⊢
        have s1n : (s : Int) < (ns.length : Int) := by omega
        have s0n : ¬ (s : Int) < 0 := g0
        clear g2 hs g0
        cases hda : ascB x.del with
        | false =>
          have FIN := Lib.hid (wb6 (ns := ns) (cs := cs) hda)
          rw [hda] at AC
          clear hda
          go_enter Tryz.func18, Tryz.ntmps18
          go_wp2_with fail
          rw [HW1.out]
          go_wp2_with fail
          refine AC.out.mono ?_
          rintro e w2 ⟨rfl, bel2⟩
          have BW2 := Lib.hid (KC.out w2 bel2).2
          clear bel2 KC
          go_wp2_with fail
          go_ret
          exact WFalse.out _ FIN.out BW2.out
        | true =>
          rw [hda] at AC
          have HDA := Lib.hid hda
          clear hda
          go_enter Tryz.func18, Tryz.ntmps18
          go_wp2_with fail
          rw [HW1.out]
          go_wp2_with fail
          refine AC.out.mono ?_
          rintro e w2 ⟨rfl, bel2⟩
          have B2 := Lib.hid bel2
          clear bel2 AC s0 s1 t0 t1 t2
          go_wp2_with fail
          clear q2
          go_loopw [6] (fun i wr => RelVR cs x.out ns.length w2 i wr) (fun i _ => ns.length - (RowKit.intOf i).toNat)
          case atStart => exact ⟨0, Nat.zero_le _, rfl, rfl, Below.refl _ _⟩
          case round =>
            rename World => wo
            obtain ⟨k, hk, rfl, hall, bel⟩ := hrel
            have HA := Lib.hid hall
            have BE := Lib.hid bel
            have BB := Lib.hid (B2.out.trans (bel.mono B2.out.size))
            clear hall bel
            by_cases hkr : k < ns.length
            · obtain ⟨bO, oO, ar, cap, hO, hOl, hmem, hrow, hcell⟩ := T1.out.out.at_ k (by rw [HOL.out]; exact hkr)
              have hxr : (x.out.getD k []).length ≤ 1000000 := HX.out.rl _ hmem
              have AS : Hid ((List.range (k + 1)).all (rowOkB cs x.out) = ((List.range k).all (rowOkB cs x.out) && rowOkB cs x.out k)) := range_all_succ
              have AB : Hid (rowOkB cs x.out k = false → waysB ns cs x = false) := fun h => wb4 (range_all_bad (by rw [HOL.out]; exact hkr) h)
              have RO : Hid (rowOkB cs x.out k = (ascB (x.out.getD k []) && (x.out.getD k []).all fun c => isEndB cs c (k : Int))) := rfl
              generalize x.out.getD k [] = row at *
              have ROW := Lib.hid hrow
              have KR : Hid (∀ w', Below w1.heap.size w1 w' → w'.cell? ⟨w.heap.size + 1, 1, none⟩ = some (.slice (some ⟨bO, oO, none⟩) x.out.length cO) ∧ w'.cell? ⟨bO, oO + k, none⟩ = some (.slice ar row.length cap)) := fun w' hb => ⟨by rw [(KC.out w' hb).1.2.2.1, hO], (hb.cell hOl).trans hcell⟩
              have ki : (k : Int) < (ns.length : Int) := by omega
              have ko : (k : Int) < (x.out.length : Int) := by have := HOL.out; omega
              clear hrow hcell hmem hO
              go_wp2_with fail
              go_loopw [7] (fun j wr' => RelVi cs row k wo j wr') (fun j _ => row.length - (RowKit.intOf j).toNat)
              case atStart => exact ⟨0, Nat.zero_le _, rfl, rfl, Below.refl _ _⟩
              case round =>
                obtain ⟨m, hm, rfl, hall2, bel2⟩ := hrel
                have HA2 := Lib.hid hall2
                have BE2 := Lib.hid bel2
                have BB2 := Lib.hid (BB.out.trans (bel2.mono BB.out.size))
                obtain ⟨t1, r1⟩ := KR.out wr BB2.out
                clear hall2 bel2
                by_cases hmr : m < row.length
                · obtain ⟨rb, ro, har, hrb, hom, heo⟩ := int_at ROW.out m hmr
                  have AT : Hid (∀ w', Below w1.heap.size w1 w' → Calls Tryz.prog 61 #[.agg #[.slice An ns.length cn, .slice Ac cs.length cc], .int .i64 (row.getD m 0), .int .i64 (k : Int)] w' fun e w'' => e = .returned (.bool (isEndB cs (row.getD m 0) (k : Int))) ∧ Below w'.heap.size w' w'') := fun w' hb =>
                    at23g_any ns cs An Ac cn cc _ (k : Int) w' (by omega) (H1.out.below (Nat.le_refl _) hb).2
                  have BADR : Hid (isEndB cs (row.getD m 0) (k : Int) = false → waysB ns cs x = false) := fun h => AB.out (by rw [RO.out, all_take_bad hom h]; simp)
                  have NXT : Hid (isEndB cs (row.getD m 0) (k : Int) = true → ∀ w', Below wo.heap.size wo w' → RelVi cs row k wo (.int .i64 ((m + 1 : Nat) : Int)) w') := fun h w' hb => ⟨m + 1, by omega, rfl, by rw [take_snocG 0 row m hmr, List.all_append, HA2.out, List.all_cons, List.all_nil, h]; rfl, hb⟩
                  generalize row.getD m 0 = c at *
                  generalize isEndB cs c (k : Int) = ie at *
                  subst har
                  have KS : Hid (∀ w', Below w1.heap.size w1 w' → w'.cell? ⟨w.heap.size, 0, none⟩ = some (.slice An ns.length cn) ∧ w'.cell? ⟨w.heap.size, 1, none⟩ = some (.slice Ac cs.length cc) ∧ w'.cell? ⟨w.heap.size + 1, 1, none⟩ = some (.slice (some ⟨bO, oO, none⟩) x.out.length cO) ∧ w'.cell? ⟨bO, oO + k, none⟩ = some (.slice (some ⟨rb, ro, none⟩) row.length cap) ∧ w'.cell? ⟨rb, ro + m, none⟩ = some (.int .i64 c)) := fun w' hb => ⟨(KC.out w' hb).1.1.1, (KC.out w' hb).1.1.2, (KR.out w' hb).1, (KR.out w' hb).2, (hb.cell hrb).trans heo⟩
                  obtain ⟨c0, c1, _, _, e1⟩ := KS.out wr BB2.out
                  have mi : (m : Int) < (row.length : Int) := by omega
                  clear hom heo
                  go_wp2_with fail
                  go_region_held3 (fun w' => w'.cell? ⟨w.heap.size, 0, none⟩ = some (.slice An ns.length cn) ∧ w'.cell? ⟨w.heap.size, 1, none⟩ = some (.slice Ac cs.length cc) ∧ w'.cell? ⟨w.heap.size + 1, 1, none⟩ = some (.slice (some ⟨bO, oO, none⟩) x.out.length cO) ∧ w'.cell? ⟨bO, oO + k, none⟩ = some (.slice (some ⟨rb, ro, none⟩) row.length cap) ∧ w'.cell? ⟨rb, ro + m, none⟩ = some (.int .i64 c))
                    (first | exact ⟨c0, c1, t1, r1, e1⟩ | exact KS.out _ BA.out)
                    (first | (go_at_call 61; refine (AT.out _ (by repeat (first | exact BB2.out | refine Below.drew ?_))).mono ?_; rintro e wa ⟨rfl, bela⟩; have BA : Hid (Below w1.heap.size w1 wa) := BB2.out.drew.trans (bela.mono BB2.out.size); have BWA : Hid (Below wr.heap.size wr wa) := (Below.refl _ _).drew.trans bela; clear bela))
                  all_goals
                    have BO : Hid (Below wo.heap.size wo wa) := BE2.out.trans (BWA.out.mono BE2.out.size)
                    have BF := Lib.hid (KC.out wa BA.out).2
                    clear c0 c1 t1 r1 e1 AT
                    cases ie with
                    | false =>
                      have FIN := Lib.hid (BADR.out rfl)
                      clear BADR NXT
                      go_wp2_with fail
                      go_ret
                      exact WFalse.out _ FIN.out BF.out
                    | true =>
                      have R := Lib.hid (NXT.out rfl wa BO.out)
                      clear BADR NXT
                      go_wp2_with fail
                      exact ⟨by simpa using R.out, by simp [RowKit.intOf]; omega⟩
                · obtain rfl : m = row.length := by omega
                  rw [List.take_length] at HA2
                  have AC2 := Lib.hid (asc23_any row ar cap wr hxr (ROW.out.below (Nat.le_refl _) BB2.out))
                  cases hq : ascB row with
                  | false =>
                    have FIN := Lib.hid (AB.out (by rw [RO.out, hq]; rfl))
                    rw [hq] at AC2
                    clear hq AS AB RO
                    go_wp2_with fail
                    refine AC2.out.mono ?_
                    rintro e w5 ⟨rfl, bel5⟩
                    have BF := Lib.hid (KC.out w5 (BB2.out.trans (bel5.mono BB2.out.size))).2
                    clear bel5 AC2
                    go_wp2_with fail
                    go_ret
                    exact WFalse.out _ FIN.out BF.out
                  | true =>
                    have R : Hid (∀ w', Below w2.heap.size w2 w' → RelVR cs x.out ns.length w2 (.int .i64 ((k + 1 : Nat) : Int)) w') := fun w' hb => ⟨k + 1, by omega, rfl, by rw [AS.out, HA.out, RO.out, hq, HA2.out]; rfl, hb⟩
                    rw [hq] at AC2
                    clear hq AS AB RO
                    go_wp2_with fail
                    refine AC2.out.mono ?_
                    rintro e w5 ⟨rfl, bel5⟩
                    have R5 := Lib.hid (R.out w5 ((BE.out.trans (BE2.out.mono BE.out.size)).trans (bel5.mono (by have := BE.out.size; have := BE2.out.size; omega))))
                    clear bel5 AC2 R
                    go_wp2_with fail
                    exact ⟨by simpa using R5.out, by simp [RowKit.intOf]; omega⟩
            · obtain rfl : k = ns.length := by omega
              have RW : rowsOk cs x.out = true := by have := HA.out; rw [← HOL.out] at this; exact this
              have RC := reached_any ns cs x s An Ac aO aD cn cc cO cD wo HV.out HS.out hsn HOL.out RW HX.out (H1.out.below (Nat.le_refl _) BB.out) (T1.out.below (Nat.le_refl _) BB.out)
              rw [HS.out] at RC
              have RCH := Lib.hid RC
              have RWH := Lib.hid RW
              obtain ⟨⟨⟨c0, c1⟩, t0, t1, t2⟩, _⟩ := KC.out wo BB.out
              clear RC RW
              go_wp2_with fail
              refine (show Calls _ _ _ _ _ from RCH.out).mono ?_
              rintro e w3 ⟨bel3, ⟨hw, rfl⟩ | ⟨bP, bS, Q, seen, P, rfl, hbs, hP, hS⟩⟩
              · have FIN := Lib.hid hw
                have BF := Lib.hid (KC.out w3 (BB.out.trans (bel3.mono BB.out.size))).2
                clear bel3 hw RCH c0 c1 t0 t1 t2
                go_wp2_with fail
                go_ret
                exact WFalse.out _ FIN.out BF.out
              · have B3 : Hid (Below w1.heap.size w1 w3) := BB.out.trans (bel3.mono BB.out.size)
                have BF := Lib.hid (KC.out w3 B3.out).2
                have BSH := Lib.hid hbs
                have SEEN := Lib.hid hS
                have T3 := Lib.hid (T1.out.below (Nat.le_refl _) B3.out)
                clear bel3 RCH c0 c1 t0 t1 t2 hbs hP hS
                obtain ⟨⟨⟨c0, c1⟩, t0, t1, t2⟩, _⟩ := KC.out w3 B3.out
                have SI : Hid (∀ j, j < ns.length → (seen.getD j false = true ↔ j ∈ Q)) := BSH.out.sn
                have SC : Hid (∀ j, j < ns.length → w3.cell? ⟨bS, j, none⟩ = some (.bool (seen.getD j false))) := fun j hj => by
                  obtain ⟨b1, o1, ha1, hb1, hm1, e1⟩ := bool_at SEEN.out j hj
                  injection ha1 with ha1
                  injection ha1 with q1 q3
                  subst q1; subst q3
                  rw [Nat.zero_add] at e1
                  exact e1
                go_wp2_with fail
                go_loopw [11] (fun i wr => RelVD ns.length Q x.del w3 i wr) (fun i _ => x.del.length - (RowKit.intOf i).toNat)
                case atStart => exact ⟨0, Nat.zero_le _, rfl, fun v hv => by simp at hv, rfl⟩
                case round =>
                  obtain ⟨k, hk, rfl, hd, rfl⟩ := hrel
                  have HD := Lib.hid hd
                  clear hd
                  by_cases hkr : k < x.del.length
                  · obtain ⟨b1, o1, ha1, hb1, hm1, e1⟩ := int_at T3.out.del k hkr
                    have BAD : Hid (¬ (∃ j : Nat, x.del.getD k 0 = j ∧ j < ns.length ∧ j ∈ Q) → waysB ns cs x = false) := fun h => BSH.out.bad_del HS.out (fun q => h (q _ hm1))
                    have NXT : Hid ((∃ j : Nat, x.del.getD k 0 = j ∧ j < ns.length ∧ j ∈ Q) → RelVD ns.length Q x.del w3 (.int .i64 ((k + 1 : Nat) : Int)) w3) := fun h => ⟨k + 1, by omega, rfl, fun v hv => by
                      rw [take_snocG 0 x.del k hkr, List.mem_append, List.mem_singleton] at hv
                      rcases hv with hv | rfl
                      · exact HD.out v hv
                      · exact h, rfl⟩
                    generalize x.del.getD k 0 = d at *
                    have ki : (k : Int) < (x.del.length : Int) := by omega
                    rw [ha1] at t2
                    clear hm1 ha1
                    by_cases d0 : d < 0
                    · have FIN := Lib.hid (BAD.out (by rintro ⟨j, rfl, _⟩; omega))
                      clear BAD NXT
                      go_wp2_with fail
                      go_ret
                      exact WFalse.out _ FIN.out BF.out
                    · by_cases d1 : (ns.length : Int) ≤ d
                      · have FIN := Lib.hid (BAD.out (by rintro ⟨j, rfl, h, _⟩; omega))
                        clear BAD NXT
                        go_wp2_with fail
                        go_ret
                        exact WFalse.out _ FIN.out BF.out
                      · obtain ⟨j, rfl⟩ : ∃ j : Nat, d = j := ⟨d.toNat, by omega⟩
                        have hj : j < ns.length := by omega
                        have cs1 := SC.out j hj
                        have SJ := Lib.hid (SI.out j hj)
                        have j1 : (j : Int) < (ns.length : Int) := by omega
                        cases hsj : seen.getD j false with
                        | false =>
                          have FIN := Lib.hid (BAD.out (by rintro ⟨i, e, _, hq⟩; have : j = i := by omega
                                                           subst this; have := SJ.out.2 hq; rw [hsj] at this; cases this))
                          rw [hsj] at cs1
                          clear BAD NXT hsj SJ
                          go_wp2_with fail
                          go_ret
                          exact WFalse.out _ FIN.out BF.out
                        | true =>
                          have R := Lib.hid (NXT.out ⟨j, rfl, hj, SJ.out.1 hsj⟩)
                          rw [hsj] at cs1
                          clear BAD NXT hsj SJ
                          go_wp2_with fail
                          exact ⟨by simpa using R.out, by simp [RowKit.intOf]; omega⟩
                  · obtain rfl : k = x.del.length := by omega
                    rw [List.take_length] at HD
                    go_wp2_with fail
                    go_loopw [12] (fun i wr => RelVN s Q x ns.length w3 i wr) (fun i _ => ns.length - (RowKit.intOf i).toNat)
                    case atStart => exact ⟨0, Nat.zero_le _, rfl, by intro u hu; omega, rfl⟩
                    case round =>
                      obtain ⟨k, hk, rfl, hr, rfl⟩ := hrel
                      have HR := Lib.hid hr
                      clear hr
                      by_cases hkr : k < ns.length
                      · obtain ⟨bO, oO, ar, cap, hO, hOl, hmem, hrow, hcell⟩ := T3.out.out.at_ k (by rw [HOL.out]; exact hkr)
                        have cs1 := SC.out k hkr
                        have SK := Lib.hid (SI.out k hkr)
                        have HC := Lib.hid (has23_any x.del (k : Int) aD cD w3 hdl T3.out.del)
                        have BAD : Hid (¬ refRow s Q x k → waysB ns cs x = false) := fun h => BSH.out.bad_row HS.out hkr h
                        have NXT : Hid (refRow s Q x k → RelVN s Q x ns.length w3 (.int .i64 ((k + 1 : Nat) : Int)) w3) := fun h => ⟨k + 1, by omega, rfl, fun u hu => by
                          by_cases e : u = k
                          · subst e; exact h
                          · exact HR.out u (by omega), rfl⟩
                        have RD : Hid (refRow s Q x k ↔ (k ∉ Q → x.out.getD k [] = []) ∧ (k ∈ Q → k ≠ s → x.out.getD k [] = [] → (k : Int) ∈ x.del)) := Iff.rfl
                        have RL0 : Hid (x.out.getD k [] = [] ↔ (x.out.getD k []).length = 0) := List.length_eq_zero_iff.symm
                        generalize (x.out.getD k []).length = rl at *
                        rw [RL0.out] at RD
                        rw [hO] at t1
                        have kn : (k : Int) < (ns.length : Int) := by omega
                        have ko : (k : Int) < (x.out.length : Int) := by have := HOL.out; omega
                        generalize refRow s Q x k = rr at *
                        clear hmem hrow hO RL0
                        cases hsk : seen.getD k false with
                        | false =>
                          have hnq : k ∉ Q := fun q => by have := SK.out.2 q; rw [hsk] at this; cases this
                          rw [hsk] at cs1
                          by_cases hr0 : rl = 0
                          · have R := Lib.hid (NXT.out (RD.out.2 ⟨fun _ => hr0, fun q => absurd q hnq⟩))
                            subst hr0
                            clear BAD NXT RD hsk SK HC hnq
                            go_wp2_with fail
                            exact ⟨by simpa using R.out, by simp [RowKit.intOf]; omega⟩
                          · have FIN := Lib.hid (BAD.out (fun h => hr0 ((RD.out.1 h).1 hnq)))
                            have hr1 : (0 : Int) < (rl : Int) := by omega
                            clear BAD NXT RD hsk SK HC hnq
                            go_wp2_with fail
                            go_ret
                            exact WFalse.out _ FIN.out BF.out
                        | true =>
                          have hq := SK.out.1 hsk
                          rw [hsk] at cs1
                          by_cases hks : k = s
                          · have R := Lib.hid (NXT.out (RD.out.2 ⟨fun q => absurd hq q, fun _ q => absurd hks q⟩))
                            have e9 : ((k : Int) != (s : Int)) = false := by simp [hks]
                            clear BAD NXT RD hsk SK HC hq hks
                            go_wp2_with fail
                            exact ⟨by simpa using R.out, by simp [RowKit.intOf]; omega⟩
                          · have e9 : ((k : Int) != (s : Int)) = true := by simp; omega
                            by_cases hr0 : rl = 0
                            · have e8 : ((rl : Int) == 0) = true := by simp [hr0]
                              have e7 : ¬ (0 : Int) < (rl : Int) := by omega
                              by_cases hkd : (k : Int) ∈ x.del
                              · have R := Lib.hid (NXT.out (RD.out.2 ⟨fun q => absurd hq q, fun _ _ _ => hkd⟩))
                                rw [decide_eq_true hkd] at HC
                                clear BAD NXT RD hsk SK hq hks hkd
                                go_wp2_with fail
                                refine HC.out.mono ?_
                                rintro e w4 ⟨rfl, rfl⟩
                                clear HC
                                go_wp2_with fail
                                exact ⟨by simpa using R.out, by simp [RowKit.intOf]; omega⟩
                              · have FIN := Lib.hid (BAD.out (fun h => hkd ((RD.out.1 h).2 hq hks hr0)))
                                rw [decide_eq_false hkd] at HC
                                clear BAD NXT RD hsk SK hq hks hkd
                                go_wp2_with fail
                                refine HC.out.mono ?_
                                rintro e w4 ⟨rfl, rfl⟩
                                clear HC
                                go_wp2_with fail
                                go_ret
                                exact WFalse.out _ FIN.out BF.out
                            · have R := Lib.hid (NXT.out (RD.out.2 ⟨fun q => absurd hq q, fun _ _ q => absurd q hr0⟩))
                              have e8 : ((rl : Int) == 0) = false := by simp; omega
                              have e7 : (0 : Int) < (rl : Int) := by omega
                              clear BAD NXT RD hsk SK HC hq hks
                              go_wp2_with fail
                              exact ⟨by simpa using R.out, by simp [RowKit.intOf]; omega⟩
                      · obtain rfl : k = ns.length := by omega
                        have FT := Lib.hid (BSH.out.ways HV.out HS.out HOL.out RWH.out HDA.out HD.out (fun u hu => HR.out u hu))
                        go_wp2_with fail
                        go_ret
                        exact ⟨by rw [FT.out]; rfl, BF.out⟩
      · have FIN := Lib.hid (wb3 (ns := ns) (cs := cs) g2)
        have q2 : ((x.out.length : Int) != (ns.length : Int)) = true := by simp; omega
        generalize x.src = sr at *
        have g3 : sr < (ns.length : Int) := by omega
        clear AC KC g2
        go_enter Tryz.func18, Tryz.ntmps18
        go_wp2_with fail
        rw [HW1.out]
        go_wp2_with fail
        go_ret
        exact WFalse.out _ FIN.out BW0.out
end Go.Proofs.YtljojgpjgjfddaaGreat
