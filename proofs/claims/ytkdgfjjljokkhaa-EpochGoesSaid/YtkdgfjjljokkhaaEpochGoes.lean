/- The walk of the law EpochGoes. -/
import Derived.Test.YtkdgfjjljokkhaaDoStep
import Derived.Test.YtkdgfjjljokkhaaFrame
namespace Go.Proofs.Ytkdgfjjljokkhaa.epochGoesW
open Go.RowKit
set_option linter.unusedVariables false

theorem upX_up (i d e x : Int) : upX i (upX i x d) e = upX i x (d + e) := by
  rcases up_cases i x 0 d with ⟨h, a, -⟩ | ⟨h, a, -⟩
  · rw [upX_even h, upX_even h, upX_even h, Int.add_assoc]
  · rw [upX_odd h, upX_odd h, upX_odd h]
theorem upY_up (i d e y : Int) : upY i (upY i y d) e = upY i y (d + e) := by
  rcases up_cases i 0 y d with ⟨h, -, a⟩ | ⟨h, -, a⟩
  · rw [upY_even h, upY_even h, upY_even h]
  · rw [upY_odd h, upY_odd h, upY_odd h, Int.add_assoc]
theorem up_zero (i : Int) : upX i 0 0 = 0 ∧ upY i 0 0 = 0 := by
  rcases up_cases i 0 0 0 with ⟨h, a, b⟩ | ⟨h, a, b⟩ <;> omega
theorem up_bd (i d : Int) (h0 : 0 ≤ d) (h1 : d ≤ 10) : 0 ≤ upX i 0 d ∧ upX i 0 d ≤ 10 ∧ 0 ≤ upY i 0 d ∧ upY i 0 d ≤ 10 := by
  rcases up_cases i 0 0 d with ⟨h, a, b⟩ | ⟨h, a, b⟩ <;> omega
/-- In epoch i or i + 1 with d frames of epoch i: the counts. -/
theorem alv_up (i d : Int) (hi : 0 ≤ i) : alv i (upX i 0 d) (upY i 0 d) i = d ∧ alv i (upX i 0 d) (upY i 0 d) (i - 1) = 0 ∧ alv (i + 1) (upX i 0 d) (upY i 0 d) i = d ∧ alv (i + 1) (upX i 0 d) (upY i 0 d) (i + 1) = 0 := by
  rcases up_cases i 0 0 d with ⟨h, a, b⟩ | ⟨h, a, b⟩ <;> rw [a, b] <;> simp only [Int.zero_add]
  · have h1 := alv_cases i d 0 i
    have h2 := alv_cases i d 0 (i - 1)
    have h3 := alv_cases (i + 1) d 0 i
    have h4 := alv_cases (i + 1) d 0 (i + 1)
    omega
  · have h1 := alv_cases i 0 d i
    have h2 := alv_cases i 0 d (i - 1)
    have h3 := alv_cases (i + 1) 0 d i
    have h4 := alv_cases (i + 1) 0 d (i + 1)
    omega
theorem alv_zero (i e : Int) : alv i 0 0 e = 0 := by have := alv_cases i 0 0 e; omega

def Rel (len : Nat) (w : World) (b i : Value) (wr : World) : Prop :=
  ∃ k g : Nat, k ≤ len ∧ i = .int .i64 k ∧ b = .pointer (some ⟨g, 0, none⟩) ∧ w.heap.size ≤ g ∧ Bk wr g k 0 0 ∧ Below w.heap.size w wr
/-- d frames of epoch i are alive; the present epoch is m. -/
def RelIn (B : Nat) (w : World) (g : Nat) (m i : Int) (n : Nat) (t : Value) (wr : World) : Prop :=
  ∃ j : Nat, j ≤ n ∧ t = .int .i64 j ∧ Bk wr g m (upX i 0 j) (upY i 0 j) ∧ Below B w wr
def RelOut (B : Nat) (w : World) (g : Nat) (m i : Int) (n : Nat) (t : Value) (wr : World) : Prop :=
  ∃ j : Nat, j ≤ n ∧ t = .int .i64 j ∧ Bk wr g m (upX i 0 ((n - j : Nat) : Int)) (upY i 0 ((n - j : Nat) : Int)) ∧ Below B w wr
def RelAdv (B : Nat) (w : World) (g : Nat) (n : Nat) (t : Value) (wr : World) : Prop :=
  ∃ j : Nat, j ≤ n ∧ t = .int .i64 j ∧ Bk wr g j 0 0 ∧ Below B w wr

set_option maxRecDepth 100000 in
set_option maxHeartbeats 4000000 in
theorem walk (a0 : Option Addr) (len0 cap0 : Nat) (z0 : List Int) (w : World) (w0 : IsInts .u8 w a0 len0 z0) :
    Calls Try.prog 6 #[.slice a0 len0 cap0] w fun e w' => e = .returned (.bool true) ∧ Below w.heap.size w w' := by
  obtain ⟨hm, hzl, hwf, hcells⟩ := w0
  unfold maxLen at hm
  by_cases hlen : 40 < len0
  · go_enter Try.func6, Try.ntmps6
    go_wp2_with fail
    refine (awake_any _).mono ?_
    rintro r w1 ⟨rfl, l1⟩
    go_wp2
    go_ret
    exact ⟨rfl, l1⟩
  have HZ := Lib.hid hzl
  have HW := Lib.hid hwf
  have HC := Lib.hid hcells
  clear hzl hwf hcells
  go_enter Try.func6, Try.ntmps6
  go_wp2_with fail
  refine (awake_any _).mono ?_
  rintro r w1 ⟨rfl, l1⟩
  go_wp2_with fail
  refine (new_bk _).mono ?_
  rintro r w2 ⟨g, rfl, hg, b2, l2⟩
  have hg0 : w.heap.size ≤ g := Nat.le_trans l1.size hg
  have l3 : Below w.heap.size w w2 := l1.trans (l2.mono l1.size)
  clear l1 l2 hg
  go_wp2_with fail
  go_loopw [3, 15] (fun b i wr => Rel len0 w b i wr) (fun _ i _ => len0 - (intOf i).toNat)
  case atStart => exact ⟨0, g, Nat.zero_le _, rfl, rfl, hg0, b2, l3⟩
  case round =>
    clear b2 l3 hg0
    obtain ⟨k, q, hk, rfl, rfl, hq, b, bel⟩ := hrel
    obtain ⟨wo, rfl⟩ : ∃ wo : World, wo = wr := ⟨_, rfl⟩
    by_cases hlt : k < len0
    · obtain ⟨bb, off, ha0, hbb, hc⟩ := HC.out (by omega)
      have c0 : wo.cell? ⟨bb, off + k, none⟩ = some (.int .u8 (z0.getD k 0)) := (bel.cell (p := ⟨bb, off + k, none⟩) hbb).trans (hc k hlt)
      have hz : 0 ≤ z0.getD k 0 ∧ z0.getD k 0 ≤ 255 := by
        have hkl : k < z0.length := by have := HZ.out; omega
        have := HW.out (z0.getD k 0) (by simp [List.getD, hkl])
        exact bounds_u8 this
      clear hc
      subst ha0
      generalize z0.getD k 0 = z at *
      obtain ⟨hz0, hz1⟩ := hz
      clear HC HZ HW
      obtain ⟨n, hn⟩ : ∃ n : Nat, (n : Int) = z % 10 := ⟨(z % 10).toNat, by omega⟩
      have hn9 : n ≤ 9 := by omega
      have HN := Lib.hid hn
      clear hn
      go_wp2_with fail
      rw [← HN.out]
      have e0 := up_zero k
      have E0 := Lib.hid e0
      clear e0 c0
      go_loopw [24] (fun t wr => RelIn w.heap.size w q k k n t wr) (fun t _ => n - (intOf t).toNat)
      case atStart => exact ⟨0, Nat.zero_le _, rfl, by have := E0.out; simpa [this.1, this.2] using b, bel⟩
      case round =>
        clear b bel
        obtain ⟨j, hj, rfl, b, bel⟩ := hrel
        have ub := up_bd k j (by omega) (by omega)
        have UX := Lib.hid (upX_up k j 1 0)
        have UY := Lib.hid (upY_up k j 1 0)
        have AU := Lib.hid (alv_up k j (by omega))
        generalize hx : upX (k : Int) 0 j = x at *
        generalize hy : upY (k : Int) 0 j = y at *
        have HX := Lib.hid hx
        have HY := Lib.hid hy
        clear hx hy
        obtain ⟨x0, x1, y0, y1⟩ := ub
        by_cases hjn : j < n
        · go_wp2_with (go_at_call 21; refine (inject_ok q k x y _ b (by omega) (by omega) (by omega) (by omega) (by omega)).mono ?_; rintro r w3 ⟨rfl, b3, k3⟩)
          have R : RelIn w.heap.size w q k k n (.int .i64 ((j + 1 : Nat) : Int)) w3 := ⟨j + 1, by omega, rfl, by
            have h1 := UX.out; have h2 := UY.out
            rw [h1, h2] at b3; simpa using b3, below_step bel k3 hq (Nat.le_refl _)⟩
          exact ⟨by simpa using R, by simp [intOf]; omega⟩
        · obtain rfl : j = n := by omega
          go_wp2_with fail
          have a1 := AU.out.2.1
          have A2 := Lib.hid AU.out.2.2.1
          clear UX UY AU
          have A1 := Lib.hid a1
          clear a1
          refine (advance_ok q k x y _ b (by omega) (by omega) A1.out).mono ?_
          rintro r w4 ⟨rfl, rfl⟩
          have b4 := b.setN ((k : Int) + 1)
          have bel4 := below_step bel (only_set wr q 0 (.int .i64 ((k : Int) + 1))) hq (Nat.le_refl _)
          generalize wr.setCell ⟨q, 0, none⟩ (.int .i64 ((k : Int) + 1)) = w4 at *
          clear b bel A1
          by_cases j0 : j = 0
          · subst j0
            go_wp2_with fail
            refine (advance_ok q (k + 1) x y _ b4 (by omega) (by omega) (by have := A2.out; simpa using this)).mono ?_
            rintro r w5 ⟨rfl, rfl⟩
            have bel5 := below_step bel4 (only_set w4 q 0 (.int .i64 ((k : Int) + 1 + 1))) hq (Nat.le_refl _)
            generalize w4.setCell ⟨q, 0, none⟩ (.int .i64 ((k : Int) + 1 + 1)) = w5 at *
            clear b4 bel4 A2
            go_wp2_with fail
            refine (new_bk _).mono ?_
            rintro r w6 ⟨q', rfl, hq', b6, l6⟩
            have hq6 : w.heap.size ≤ q' := Nat.le_trans bel5.size hq'
            have bel6 : Below w.heap.size w w6 := bel5.trans (l6.mono bel5.size)
            clear bel5 l6 hq'
            go_wp2_with fail
            go_loopw [47] (fun t wr => RelAdv w.heap.size w q' (k + 1) t wr) (fun t _ => (k + 1) - (intOf t).toNat)
            case atStart => exact ⟨0, Nat.zero_le _, rfl, b6, bel6⟩
            case round =>
              clear b6 bel6
              obtain ⟨j, hj', rfl, b7, bel7⟩ := hrel
              by_cases hjn : j < k + 1
              · go_wp2_with (go_at_call 22; refine (advance_ok q' j 0 0 _ b7 (by omega) (by omega) (alv_zero _ _)).mono ?_; rintro r w8 ⟨rfl, rfl⟩)
                have R : RelAdv w.heap.size w q' (k + 1) (.int .i64 ((j + 1 : Nat) : Int)) (wr.setCell ⟨q', 0, none⟩ (.int .i64 ((j : Int) + 1))) :=
                  ⟨j + 1, by omega, rfl, by simpa using b7.setN ((j : Int) + 1), below_step bel7 (only_set wr q' 0 _) hq6 (Nat.le_refl _)⟩
                exact ⟨by simpa using R, by simp [intOf]; omega⟩
              · obtain rfl : j = k + 1 := by omega
                have b8 : Bk wr q' ((k : Int) + 1) 0 0 := by simpa using b7
                clear b7
                go_wp2_with fail
                refine wp_loop_rounds 1 ?_
                rw [rounds_succ]
                have Z := Lib.hid (alv_zero ((k : Int) + 1) k)
                go_wp2_with fail
                refine (remove_none q' (k + 1) 0 0 k _ b8 (by omega) (by omega) (by omega) Z.out).mono ?_
                rintro r w9 ⟨rfl, rfl⟩
                go_wp2_with fail
                refine (now_any q' (k + 1) 0 0 _ b8).mono ?_
                rintro r w9 ⟨rfl, rfl⟩
                have R : Rel len0 w (.pointer (some ⟨q', 0, none⟩)) (.int .i64 ((k + 1 : Nat) : Int)) wr := ⟨k + 1, q', by omega, rfl, rfl, hq6, by simpa using b8, bel7⟩
                go_wp2
                exact ⟨by simpa using R, by simp [intOf]; omega⟩
          · have j1 : 0 < j := by omega
            have hj0 : ((j : Int) == 0) = false := by rw [beq_eq_false_iff_ne]; omega
            have A3 : Hid (0 < alv ((k : Int) + 1) x y ((k : Int) + 1 - 1)) := by
              have := A2.out
              show 0 < _
              rw [show ((k : Int) + 1 - 1) = k from by omega, this]; omega
            clear A2
            go_wp2_with fail
            refine (advance_state q (k + 1) x y _ b4 (by omega) (by omega) A3.out).mono ?_
            rintro r w5 ⟨rfl, rfl⟩
            clear A3
            go_wp2_with fail
            go_loopw [53] (fun t wr => RelOut w.heap.size w q (k + 1) k j t wr) (fun t _ => j - (intOf t).toNat)
            case atStart => exact ⟨0, Nat.zero_le _, rfl, by have h1 := HX.out; have h2 := HY.out; rw [Nat.sub_zero, h1, h2]; exact b4, bel4⟩
            case round =>
              clear b4 bel4
              obtain ⟨i, hi, rfl, b5, bel5⟩ := hrel
              have ub := up_bd k ((j - i : Nat) : Int) (by omega) (by omega)
              have UX := Lib.hid (upX_up k ((j - i : Nat) : Int) (-1) 0)
              have UY := Lib.hid (upY_up k ((j - i : Nat) : Int) (-1) 0)
              have AU := Lib.hid (alv_up k ((j - i : Nat) : Int) (by omega)).2.2.1
              have E0 := Lib.hid (up_zero k)
              by_cases hij : i < j
              · generalize upX (k : Int) 0 ((j - i : Nat) : Int) = x2 at *
                generalize upY (k : Int) 0 ((j - i : Nat) : Int) = y2 at *
                obtain ⟨x20, x21, y20, y21⟩ := ub
                have AP : Hid (0 < alv ((k : Int) + 1) x2 y2 k) := by
                  have := AU.out
                  show 0 < _
                  rw [this]; omega
                clear AU
                go_wp2_with fail
                refine (inject_stale q (k + 1) x2 y2 k _ b5 (by omega)).mono ?_
                rintro r w6 ⟨rfl, rfl⟩
                go_wp2_with fail
                refine (remove_ok q (k + 1) x2 y2 k _ b5 (by omega) (by omega) (by omega) (by omega) AP.out (by omega) (by omega) (by omega) (by omega)).mono ?_
                rintro r w6 ⟨rfl, b6, k6⟩
                have R : RelOut w.heap.size w q (k + 1) k j (.int .i64 ((i + 1 : Nat) : Int)) w6 := ⟨i + 1, by omega, rfl, by
                  have h1 := UX.out; have h2 := UY.out
                  rw [h1, h2, show (((j - i : Nat) : Int) + -1) = ((j - (i + 1) : Nat) : Int) from by omega] at b6; exact b6, below_step bel5 k6 hq (Nat.le_refl _)⟩
                go_wp2
                exact ⟨by simpa using R, by simp [intOf]; omega⟩
              · obtain rfl : i = j := by omega
                have b8 : Bk wr q ((k : Int) + 1) 0 0 := by
                  have h := E0.out
                  rw [Nat.sub_self] at b5
                  have h1 : upX (k : Int) 0 ((0 : Nat) : Int) = 0 := h.1
                  have h2 : upY (k : Int) 0 ((0 : Nat) : Int) = 0 := h.2
                  rw [h1, h2] at b5
                  exact b5
                clear b5 ub UX UY AU
                have Z := Lib.hid (alv_zero ((k : Int) + 1) k)
                go_wp2_with fail
                refine (remove_none q (k + 1) 0 0 k _ b8 (by omega) (by omega) (by omega) Z.out).mono ?_
                rintro r w9 ⟨rfl, rfl⟩
                go_wp2_with fail
                refine (now_any q (k + 1) 0 0 _ b8).mono ?_
                rintro r w9 ⟨rfl, rfl⟩
                have R : Rel len0 w (.pointer (some ⟨q, 0, none⟩)) (.int .i64 ((k + 1 : Nat) : Int)) wr := ⟨k + 1, q, by omega, rfl, rfl, hq, by simpa using b8, bel5⟩
                go_wp2
                exact ⟨by simpa using R, by simp [intOf]; omega⟩
    · go_wp2
      go_ret
      exact ⟨rfl, bel⟩
end Go.Proofs.Ytkdgfjjljokkhaa.epochGoesW
