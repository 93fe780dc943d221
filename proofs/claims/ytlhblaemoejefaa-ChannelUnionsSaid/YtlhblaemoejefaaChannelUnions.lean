/- The walk of the law ChannelUnions. -/
import Derived.Test.YtlhblaemoejefaaCAwake
import Derived.Test.YtlhblaemoejefaaCRef4
namespace Go.Proofs.Ytlhblaemoejefaa.channelUnionsW
open Go.RowKit Go.Maps Go.Sort Go.Shelf
set_option linter.unusedVariables false

def RelL (U : List Dp) (w0 : World) (i : Value) (wr : World) : Prop := ∃ k : Nat, k ≤ U.length ∧ i = .int .i64 k ∧ Below w0.heap.size w0 wr
set_option maxRecDepth 100000 in
set_option maxHeartbeats 8000000 in
theorem walk (A1 : Option Addr) (c1 : Nat) (l1 : List Dp) (A2 : Option Addr) (c2 : Nat) (l2 : List Dp) (w : World) (h1 : IsRec 3 cD d0 w A1 l1.length l1) (wd1 : WfD l1) (h2 : IsRec 3 cD d0 w A2 l2.length l2) (wd2 : WfD l2) :
    Calls Try.prog 4 #[.slice A1 l1.length c1, .slice A2 l2.length c2] w fun e w' => e = .returned (.bool true) ∧ Below w.heap.size w w' := by
  have H1 := Lib.hid h1
  have H2 := Lib.hid h2
  have W1 := Lib.hid wd1
  have W2 := Lib.hid wd2
  clear h1 h2 wd1 wd2
  go_enter Try.func4, Try.ntmps4
  go_wp2_with fail
  refine (awake20_any _).mono ?_
  rintro e w1 ⟨rfl, bel⟩
  have B1 := Lib.hid bel
  clear bel
  by_cases hg : 60 < l1.length ∨ 60 < l2.length
  · have hg' : 60 < l1.length ∨ (l1.length ≤ 60 ∧ 60 < l2.length) := by omega
    clear hg
    rcases hg' with q1 | ⟨q1, q2⟩
    · have q1i : (60 : Int) < (l1.length : Int) := by omega
      go_wp2_with fail
      go_ret
      exact ⟨rfl, B1.out⟩
    · have q1i : (l1.length : Int) ≤ 60 := by omega
      have q2i : (60 : Int) < (l2.length : Int) := by omega
      go_wp2_with fail
      go_ret
      exact ⟨rfl, B1.out⟩
  · have q1 : l1.length ≤ 60 := by omega
    have q2 : l2.length ≤ 60 := by omega
    have q1i : (l1.length : Int) ≤ 60 := by omega
    have q2i : (l2.length : Int) ≤ 60 := by omega
    clear hg
    go_wp2_with fail
    refine (cloneD_any A1 c1 l1 w1 (by omega) (H1.out.below (Nat.le_refl _) B1.out)).mono ?_
    rintro e w2 ⟨xa, xc, rfl, _, _, rx, bel⟩
    have B2 : Hid (Below w.heap.size w w2) := B1.out.trans (bel.mono B1.out.size)
    have RX := Lib.hid rx
    clear bel rx
    go_wp2_with fail
    refine (cloneD_any A2 c2 l2 w2 (by omega) (H2.out.below (Nat.le_refl _) B2.out)).mono ?_
    rintro e w3 ⟨ya, yc, rfl, _, _, ry, bel⟩
    have B3 : Hid (Below w.heap.size w w3) := B2.out.trans (bel.mono B2.out.size)
    have RX3 := Lib.hid (RX.out.below (Nat.le_refl _) bel)
    have RY := Lib.hid ry
    clear bel ry RX
    go_wp2_with fail
    refine (union_any l1 l2 A1 A2 c1 c2 w3 (by omega) (by omega) W1.out W2.out (H1.out.below (Nat.le_refl _) B3.out) (H2.out.below (Nat.le_refl _) B3.out)).mono ?_
    rintro e w4 ⟨v4, rfl, own4, bel⟩
    obtain ⟨la, lc, hv4, _, rl, _⟩ := rec_of_own (d := d0) (c := cD) (fun _ => rfl) (by decide) own4
    have MU : Hid (∀ x, x ∈ unionD l1 l2 ↔ x ∈ l1 ∨ x ∈ l2) := fun x => mem_unionD
    have ULEN : (unionD l1 l2).length ≤ 120 := by
      unfold unionD; rw [sortD_length]; have := setOfD_len (l1 ++ l2); rw [List.length_append] at this; omega
    have WU : Hid (WfD (unionD l1 l2)) := fun x hx => ((MU.out x).1 hx).elim (W1.out x) (W2.out x)
    have UC : Hid (unionD l2 l1 = unionD l1 l2) := union_comm _ _
    have UA : Hid (unionD (unionD l1 l2) l1 = unionD l1 l2) := union_again _ _
    generalize hU : unionD l1 l2 = U at *
    have HU := Lib.hid hU
    clear hU
    subst hv4
    have B4 : Hid (Below w.heap.size w w4) := B3.out.trans (bel.mono B3.out.size)
    have RX4 := Lib.hid (RX3.out.below (Nat.le_refl _) bel)
    have RY4 := Lib.hid (RY.out.below (Nat.le_refl _) bel)
    have RL := Lib.hid rl
    clear bel rl own4 RX3 RY
    go_wp2_with fail
    go_loopw [29] (fun i wr => RelL U w4 i wr) (fun i _ => U.length - (RowKit.intOf i).toNat)
    case atStart => exact ⟨0, Nat.zero_le _, rfl, Below.refl _ _⟩
    case round =>
      obtain ⟨k, hk, rfl, bel⟩ := hrel
      have BE := Lib.hid bel
      have BW : Hid (Below w.heap.size w wr) := B4.out.trans (bel.mono B4.out.size)
      have szr := bel.size
      by_cases hkr : k < U.length
      · obtain ⟨b1, o1, ha1, hb1, hm1, e0, e1, e2⟩ := dep_at (RL.out.below (Nat.le_refl _) bel) k hkr
        have MX := Lib.hid ((MU.out _).1 hm1)
        generalize U.getD k d0 = x at *
        subst ha1
        obtain ⟨x0, x1, x2⟩ := x
        simp only at e0 e1 e2
        obtain ⟨wa, hwa⟩ : ∃ wa : World, wr.alloc (.cells #[.int .i64 x0, .int .i64 x1, .int .i64 x2] 28) = wa := ⟨_, rfl⟩
        have ba : Below wr.heap.size wr wa := by rw [← hwa]; exact (Below.refl _ _).alloc (Nat.le_refl _) _
        have s0 : wa.cell? ⟨wr.heap.size, 0, none⟩ = some (.int .i64 x0) := by rw [← hwa]; simp [go_sem]
        have s1 : wa.cell? ⟨wr.heap.size, 1, none⟩ = some (.int .i64 x1) := by rw [← hwa]; simp [go_sem]
        have s2 : wa.cell? ⟨wr.heap.size, 2, none⟩ = some (.int .i64 x2) := by rw [← hwa]; simp [go_sem]
        have sza : wr.heap.size < wa.heap.size := by rw [← hwa]; simp
        have BA : Hid (Below w4.heap.size w4 wa) := BE.out.trans (ba.mono szr)
        have BWA : Hid (Below w.heap.size w wa) := BW.out.trans (ba.mono BW.out.size)
        have C1 := Lib.hid (contD_any (x0, x1, x2) l1 A1 c1 wa (by omega) (H1.out.below (Nat.le_refl _) BWA.out))
        have HWA := Lib.hid hwa
        clear hwa ba hm1 bel
        go_wp2_with fail
        rw [HWA.out]
        clear HWA e0 e1 e2
        refine C1.out.mono ?_
        rintro e w5 ⟨rfl, bel5⟩
        have B5 : Hid (Below w4.heap.size w4 w5) := BA.out.trans (bel5.mono BA.out.size)
        have t0 := (bel5.cell (p := ⟨wr.heap.size, 0, none⟩) sza).trans s0
        have t1 := (bel5.cell (p := ⟨wr.heap.size, 1, none⟩) sza).trans s1
        have t2 := (bel5.cell (p := ⟨wr.heap.size, 2, none⟩) sza).trans s2
        clear bel5 s0 s1 s2 C1
        cases hq : decide (((x0, x1, x2) : Dp) ∈ l1) with
        | true =>
          have R : Hid (RelL U w4 (.int .i64 ((k + 1 : Nat) : Int)) w5) := ⟨k + 1, by omega, rfl, B5.out⟩
          go_wp2_with fail
          exact ⟨by simpa using R.out, by simp [RowKit.intOf]; omega⟩
        | false =>
          have hm2 : decide (((x0, x1, x2) : Dp) ∈ l2) = true := by
            rw [decide_eq_false_iff_not] at hq
            rw [decide_eq_true_iff]
            exact MX.out.resolve_left hq
          have BW5 : Hid (Below w.heap.size w w5) := B4.out.trans (B5.out.mono B4.out.size)
          have C2 := Lib.hid (contD_any (x0, x1, x2) l2 A2 c2 w5 (by omega) (H2.out.below (Nat.le_refl _) BW5.out))
          clear hq
          go_wp2_with fail
          refine C2.out.mono ?_
          rintro e w6 ⟨rfl, bel6⟩
          rw [hm2]
          have R : Hid (RelL U w4 (.int .i64 ((k + 1 : Nat) : Int)) w6) := ⟨k + 1, by omega, rfl, B5.out.trans (bel6.mono B5.out.size)⟩
          clear bel6 t0 t1 t2 hm2
          go_wp2_with fail
          exact ⟨by simpa using R.out, by simp [RowKit.intOf]; omega⟩
      · obtain rfl : k = U.length := by omega
        have ALL : Hid (∀ W, Below w4.heap.size w4 W → IsRec 3 cD d0 W A1 l1.length l1 ∧ IsRec 3 cD d0 W A2 l2.length l2 ∧ IsRec 3 cD d0 W xa l1.length l1 ∧ IsRec 3 cD d0 W ya l2.length l2 ∧ IsRec 3 cD d0 W la U.length U ∧ Below w.heap.size w W) := fun W hb =>
          have hw := B4.out.trans (hb.mono B4.out.size)
          ⟨H1.out.below (Nat.le_refl _) hw, H2.out.below (Nat.le_refl _) hw, RX4.out.below (Nat.le_refl _) hb, RY4.out.below (Nat.le_refl _) hb, RL.out.below (Nat.le_refl _) hb, hw⟩
        have lU2 : U.length ≤ 400000 := by omega
        clear bel H1 H2 RX4 RY4 RL MU
        have C1 := Lib.hid (eqD_any l1 l1 A1 xa c1 xc wr (by omega) (by omega) (ALL.out _ BE.out).1 (ALL.out _ BE.out).2.2.1)
        go_wp2_with fail
        refine C1.out.mono ?_
        rintro e w5 ⟨rfl, bel⟩
        have B5 : Hid (Below w4.heap.size w4 w5) := BE.out.trans (bel.mono BE.out.size)
        clear bel C1
        have C1 := Lib.hid (eqD_any l2 l2 A2 ya c2 yc w5 (by omega) (by omega) (ALL.out _ B5.out).2.1 (ALL.out _ B5.out).2.2.2.1)
        go_wp2_with fail
        refine C1.out.mono ?_
        rintro e w6 ⟨rfl, bel⟩
        have B6 : Hid (Below w4.heap.size w4 w6) := B5.out.trans (bel.mono B5.out.size)
        clear bel C1
        have C1 := Lib.hid (plain20_any U la lc w6 (by omega) (ALL.out _ B6.out).2.2.2.2.1)
        go_wp2_with fail
        refine C1.out.mono ?_
        rintro e w7 ⟨v7, rfl, own7, bel⟩
        obtain ⟨pu, pc, hv7, _, r7, _⟩ := rec_of_own (d := d0) (c := cD) (fun _ => rfl) (by decide) own7
        subst hv7
        have B7 : Hid (Below w4.heap.size w4 w7) := B6.out.trans (bel.mono B6.out.size)
        have R7 := Lib.hid r7
        clear bel C1 own7 r7
        have C1 := Lib.hid (plain20_any l1 A1 c1 w7 (by omega) (ALL.out _ B7.out).1)
        go_wp2_with fail
        refine C1.out.mono ?_
        rintro e w8 ⟨v8, rfl, own8, bel⟩
        obtain ⟨pa, pac, hv8, _, r8, _⟩ := rec_of_own (d := d0) (c := cD) (fun _ => rfl) (by decide) own8
        subst hv8
        have B8 : Hid (Below w4.heap.size w4 w8) := B7.out.trans (bel.mono B7.out.size)
        have R78 := Lib.hid (R7.out.below (Nat.le_refl _) bel)
        have R8 := Lib.hid r8
        clear bel C1 own8 r8 R7
        have C1 := Lib.hid (plain20_any l2 A2 c2 w8 (by omega) (ALL.out _ B8.out).2.1)
        go_wp2_with fail
        refine C1.out.mono ?_
        rintro e w9 ⟨v9, rfl, own9, bel⟩
        obtain ⟨pb, pbc, hv9, _, r9, _⟩ := rec_of_own (d := d0) (c := cD) (fun _ => rfl) (by decide) own9
        subst hv9
        have B9 : Hid (Below w4.heap.size w4 w9) := B8.out.trans (bel.mono B8.out.size)
        have R79 := Lib.hid (R78.out.below (Nat.le_refl _) bel)
        have R89 := Lib.hid (R8.out.below (Nat.le_refl _) bel)
        have R9 := Lib.hid r9
        clear bel C1 own9 r9 R78 R8
        have C1 := Lib.hid (union20_any l1 l2 pa pb pac pbc w9 (by omega) (by omega) R89.out R9.out)
        go_wp2_with fail
        refine C1.out.mono ?_
        rintro e w10 ⟨v10, rfl, ⟨ua, uc, hv10, _, _, r10⟩, bel⟩
        rw [HU.out] at hv10 r10
        subst hv10
        have B10 : Hid (Below w4.heap.size w4 w10) := B9.out.trans (bel.mono B9.out.size)
        have R710 := Lib.hid (R79.out.below (Nat.le_refl _) bel)
        have R10 := Lib.hid r10
        clear bel C1 r10 R79 R89 R9
        have C1 := Lib.hid (eqR20_any U U pu ua pc uc w10 (by omega) (by omega) R710.out R10.out)
        go_wp2_with fail
        refine C1.out.mono ?_
        rintro e w11 ⟨rfl, bel⟩
        have B11 : Hid (Below w4.heap.size w4 w11) := B10.out.trans (bel.mono B10.out.size)
        clear bel C1 R710 R10
        have C1 := Lib.hid (union_any l2 l1 A2 A1 c2 c1 w11 (by omega) (by omega) W2.out W1.out (ALL.out _ B11.out).2.1 (ALL.out _ B11.out).1)
        rw [UC.out] at C1
        go_wp2_with fail
        refine C1.out.mono ?_
        rintro e w12 ⟨v12, rfl, own12, bel⟩
        obtain ⟨qa, qc, hv12, _, r12, _⟩ := rec_of_own (d := d0) (c := cD) (fun _ => rfl) (by decide) own12
        subst hv12
        have B12 : Hid (Below w4.heap.size w4 w12) := B11.out.trans (bel.mono B11.out.size)
        have R12 := Lib.hid r12
        clear bel C1 own12 r12
        have C1 := Lib.hid (eqD_any U U la qa lc qc w12 (by omega) (by omega) (ALL.out _ B12.out).2.2.2.2.1 R12.out)
        go_wp2_with fail
        refine C1.out.mono ?_
        rintro e w13 ⟨rfl, bel⟩
        have B13 : Hid (Below w4.heap.size w4 w13) := B12.out.trans (bel.mono B12.out.size)
        clear bel C1 R12
        have C1 := Lib.hid (union_any U l1 la A1 lc c1 w13 lU2 (by omega) WU.out W1.out (ALL.out _ B13.out).2.2.2.2.1 (ALL.out _ B13.out).1)
        rw [UA.out] at C1
        go_wp2_with fail
        refine C1.out.mono ?_
        rintro e w14 ⟨v14, rfl, own14, bel⟩
        obtain ⟨qa2, qc2, hv14, _, r14, _⟩ := rec_of_own (d := d0) (c := cD) (fun _ => rfl) (by decide) own14
        subst hv14
        have B14 : Hid (Below w4.heap.size w4 w14) := B13.out.trans (bel.mono B13.out.size)
        have R14 := Lib.hid r14
        clear bel C1 own14 r14
        have C1 := Lib.hid (eqD_any U U la qa2 lc qc2 w14 (by omega) (by omega) (ALL.out _ B14.out).2.2.2.2.1 R14.out)
        go_wp2_with fail
        refine C1.out.mono ?_
        rintro e w15 ⟨rfl, bel⟩
        have F := Lib.hid (ALL.out _ (B14.out.trans (bel.mono B14.out.size))).2.2.2.2.2
        clear bel C1 R14
        go_wp2_with fail
        go_ret
        exact ⟨by simp, F.out⟩
end Go.Proofs.Ytlhblaemoejefaa.channelUnionsW
