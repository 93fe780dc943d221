/- The walk of the law EpochApart. -/
import Derived.Test.YtkdgfjjljokkhaaLift
namespace Go.Proofs.Ytkdgfjjljokkhaa.epochApartW
open Go.RowKit
set_option linter.unusedVariables false

theorem below_drewN {B : Nat} {a w : World} (h : Below B a w) (n : Nat) : Below B a (w.drewN n) := ⟨h.os, h.tape, h.output, h.size, h.block⟩

theorem isDeps_new (w : World) (f t n : Int) : IsDeps (w.alloc (.cells #[.int .i64 f, .int .i64 t, .int .i64 n] 61)) (some ⟨w.heap.size, 0, none⟩) 1 [(f, t, n)] := by
  refine ⟨rfl, fun _ => ⟨w.heap.size, 0, rfl, by simp, fun i hi => ?_⟩⟩
  obtain rfl : i = 0 := by omega
  have h := Blk.new w 61 #[.int .i64 f, .int .i64 t, .int .i64 n]
  exact ⟨h.cell 0, h.cell 1, h.cell 2⟩

theorem liftL_one (c f t n : Int) (h0 : 0 ≤ f) (h1 : f < 64) (h2 : 0 ≤ t) (h3 : t < 64) : liftL c [(f, t, n)] = [(8 * f + c, 8 * t + c, n)] := by
  have : okD (f, t, n) = true := by simp [okD]; omega
  simp [liftL, this, liftD]

/-- Lift of one dependency that is alright: a slice of one, in new memory. -/
def OnePost (w : World) (f t n : Int) (r : Ending) (w' : World) : Prop :=
  ∃ b off cap, r = .returned (.slice (some ⟨b, off, none⟩) 1 cap) ∧ b < w'.heap.size ∧ w'.cell? ⟨b, off, none⟩ = some (.int .i64 f) ∧ w'.cell? ⟨b, off + 1, none⟩ = some (.int .i64 t) ∧ w'.cell? ⟨b, off + 2, none⟩ = some (.int .i64 n) ∧ Below w.heap.size w w'
theorem lift_one_dep (w : World) (c f t n : Int) (hc0 : 0 ≤ c) (hc1 : c < 8) (h0 : 0 ≤ f) (h1 : f < 64) (h2 : 0 ≤ t) (h3 : t < 64) :
    Calls Try.prog 26 #[.slice (some ⟨w.heap.size, 0, none⟩) 1 1, .int .i64 c] (w.alloc (.cells #[.int .i64 f, .int .i64 t, .int .i64 n] 61)) (OnePost w (8 * f + c) (8 * t + c) n) := by
  refine (lift_some c _ 1 1 [(f, t, n)] _ hc0 hc1 (by omega) (isDeps_new w f t n)).mono ?_
  rintro r w' ⟨v, rfl, own, bel⟩
  rw [liftL_one c f t n h0 h1 h2 h3] at own
  obtain ⟨a, cap, rfl, hl, hd⟩ := isDeps_of_own own
  obtain ⟨b, off, ha, hb, hc⟩ := hd (by simp)
  rw [ha]
  have h := hc 0 (by simp)
  exact ⟨b, off, cap, rfl, hb, h.1, h.2.1, h.2.2, ((Below.refl _ _).alloc (Nat.le_refl _) _).trans (bel.mono (by simp))⟩

set_option maxRecDepth 100000 in
set_option maxHeartbeats 2000000 in
theorem walk (a0 a1 a2 a3 : Int) (w : World) (w0 : (Lit.int .u8 a0).wf = true) (w1 : (Lit.int .u8 a1).wf = true) (w2 : (Lit.int .u8 a2).wf = true) (w3 : (Lit.int .u8 a3).wf = true) :
    Calls Try.prog 9 #[.int .u8 a0, .int .u8 a1, .int .u8 a2, .int .u8 a3] w fun e w' => e = .returned (.bool true) ∧ Below w.heap.size w w' := by
  have k0 := bounds_u8 w0
  have k1 := bounds_u8 w1
  have k2 := bounds_u8 w2
  have k3 := bounds_u8 w3
  obtain ⟨a00, a01⟩ := k0
  obtain ⟨a10, a11⟩ := k1
  obtain ⟨a20, a21⟩ := k2
  obtain ⟨a30, a31⟩ := k3
  clear w0 w1 w2 w3
  go_enter Try.func9, Try.ntmps9
  go_wp2_with fail
  refine (awake_any _).mono ?_
  rintro r w1 ⟨rfl, l1⟩
  go_wp2_with fail
  have m0 : 0 ≤ a0 % 64 ∧ a0 % 64 < 64 := by omega
  have m1 : 0 ≤ a1 % 64 ∧ a1 % 64 < 64 := by omega
  have m2 : 0 ≤ a2 % 8 ∧ a2 % 8 < 8 := by omega
  have m3 : 0 ≤ a3 % 8 ∧ a3 % 8 < 8 := by omega
  generalize a0 % 64 = c at *
  generalize a1 % 64 = d at *
  generalize a2 % 8 = v at *
  generalize a3 % 8 = u at *
  obtain ⟨c0, c1⟩ := m0
  obtain ⟨d0, d1⟩ := m1
  obtain ⟨v0, v1⟩ := m2
  obtain ⟨u0, u1⟩ := m3
  refine (lift_one_dep w1 v c d 3 v0 v1 c0 c1 d0 d1).mono ?_
  rintro r w2 ⟨b, off, cap, rfl, hb, x0, x1, x2, bel2⟩
  go_wp2_with fail
  refine (lift_one_dep w2 u d c 4 u0 u1 d0 d1 c0 c1).mono ?_
  rintro r w3 ⟨b', off', cap', rfl, hb', y0, y1, y2, bel3⟩
  have z0 : w3.cell? ⟨b, off, none⟩ = some (.int .i64 (8 * c + v)) := (bel3.cell (p := ⟨b, off, none⟩) hb).trans x0
  have z1 : w3.cell? ⟨b, off + 1, none⟩ = some (.int .i64 (8 * d + v)) := (bel3.cell (p := ⟨b, off + 1, none⟩) hb).trans x1
  have z2 : w3.cell? ⟨b, off + 2, none⟩ = some (.int .i64 3) := (bel3.cell (p := ⟨b, off + 2, none⟩) hb).trans x2
  have bel : Below w.heap.size w w3 := (l1.trans (bel2.mono l1.size)).trans (bel3.mono (Nat.le_trans l1.size bel2.size))
  clear x0 x1 x2 bel2 bel3 l1
  go_wp2_with fail
  by_cases hv : v = u
  · subst hv
    by_cases hcd : c = d
    · subst hcd
      have e1 : (8 * c + v == 8 * c + v) = true := by simp
      have e2 : (v == v) = true := by simp
      have e3 : (c == c) = true := by simp
      go_quiet (fail)
      go_wp2
      go_ret
      exact ⟨rfl, below_drewN bel _⟩
    · have e1 : (8 * c + v == 8 * c + v) = true := by simp
      have e4 : (8 * d + v == 8 * d + v) = true := by simp
      have e2 : (v == v) = true := by simp
      have e3 : (c == d) = false := by rw [beq_eq_false_iff_ne]; omega
      have e5 : (8 * c + v == 8 * d + v) = false := by rw [beq_eq_false_iff_ne]; omega
      clear hcd
      go_quiet (fail)
      go_wp2
      go_ret
      exact ⟨rfl, below_drewN bel _⟩
  · have e1 : (8 * c + v == 8 * c + u) = false := by rw [beq_eq_false_iff_ne]; omega
    have e4 : (8 * d + v == 8 * d + u) = false := by rw [beq_eq_false_iff_ne]; omega
    have e2 : (v == u) = false := by rw [beq_eq_false_iff_ne]; omega
    have e6 : (8 * c + v == 8 * d + u) = false := by rw [beq_eq_false_iff_ne]; omega
    clear hv
    by_cases hcd : c = d
    · subst hcd
      have e5 : (8 * c + v == 8 * c + v) = true := by simp
      have e3 : (c == c) = true := by simp
      go_quiet (fail)
      go_wp2
      go_ret
      exact ⟨rfl, below_drewN bel _⟩
    · have e3 : (c == d) = false := by rw [beq_eq_false_iff_ne]; omega
      have e5 : (8 * c + v == 8 * d + v) = false := by rw [beq_eq_false_iff_ne]; omega
      clear hcd
      go_quiet (fail)
      go_wp2
      go_ret
      exact ⟨rfl, below_drewN bel _⟩
end Go.Proofs.Ytkdgfjjljokkhaa.epochApartW
