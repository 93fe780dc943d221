/- epoch.Class, and the law's own 'awake' and 'do'. -/
import Derived.Test.YtkdgfjjljokkhaaBook
namespace Go.Proofs.Ytkdgfjjljokkhaa
open Go.RowKit
set_option linter.unusedVariables false

theorem class_num (e c k : Int) (he : 0 ≤ e) (hk1 : 1 ≤ k) (hk4 : k ≤ 4) (hc0 : 0 ≤ c) (hc : c < k) : wrap64 (c + wrap64 (k * (e % 2))) = c + k * (e % 2) := by
  have hm : 0 ≤ e % 2 ∧ e % 2 ≤ 1 := by omega
  obtain ⟨m, hme⟩ : ∃ m, m = e % 2 := ⟨_, rfl⟩
  rw [← hme] at hm ⊢
  have hp : 0 ≤ k * m ∧ k * m ≤ 4 := by
    rcases (by omega : m = 0 ∨ m = 1) with h | h <;> subst h <;> omega
  rw [IntWalk.wrap64_in (k * m) (by omega), IntWalk.wrap64_in _ (by omega)]

theorem class_ok (e c k : Int) (w : World) (he : 0 ≤ e) (hk1 : 1 ≤ k) (hk4 : k ≤ 4) (hc0 : 0 ≤ c) (hc : c < k) :
    Calls Try.prog 20 #[.int .i64 e, .int .i64 c, .int .i64 k] w fun r w' => r = .returned (.tuple #[.int .i64 (c + k * (e % 2)), .int .i64 0]) ∧ w = w' := by
  have HC := Lib.hid (class_num e c k he hk1 hk4 hc0 hc)
  go_enter Try.func20, Try.ntmps20
  go_wp2
  go_ret2
  refine ⟨?_, rfl⟩
  show Ending.returned (.tuple #[.int .i64 (wrap64 (c + wrap64 (k * (e % 2)))), .int .i64 0]) = _
  rw [HC.out]

theorem class_err (e c k : Int) (w : World) (h : ¬ (0 ≤ e ∧ 1 ≤ k ∧ k ≤ 4 ∧ 0 ≤ c ∧ c < k)) :
    Calls Try.prog 20 #[.int .i64 e, .int .i64 c, .int .i64 k] w fun r w' => r = .returned (.tuple #[.int .i64 0, .int .i64 2]) ∧ w = w' := by
  rcases (by omega : e < 0 ∨ (0 ≤ e ∧ k < 1) ∨ (0 ≤ e ∧ 4 < k) ∨ (0 ≤ e ∧ 1 ≤ k ∧ k ≤ 4 ∧ c < 0) ∨ (0 ≤ e ∧ 1 ≤ k ∧ k ≤ 4 ∧ 0 ≤ c ∧ k ≤ c)) with h1 | ⟨h1, h2⟩ | ⟨h1, h2⟩ | ⟨h1, h2, h3, h4⟩ | ⟨h1, h2, h3, h4, h5⟩ <;> clear h
  all_goals
    go_enter Try.func20, Try.ntmps20
    go_wp2
    go_ret2
    exact ⟨rfl, rfl⟩

/-- A new book: its block lies above all that was there. -/
def NewBk (w : World) (r : Ending) (w' : World) : Prop := ∃ g, r = .returned (.pointer (some ⟨g, 0, none⟩)) ∧ w.heap.size ≤ g ∧ Bk w' g 0 0 0 ∧ Below w.heap.size w w'
theorem new_bk (w : World) : Calls Try.prog 12 #[] w (NewBk w) :=
  (new_any w).mono fun _ _ ⟨he, hw⟩ => ⟨_, he, Nat.le_refl _, hw ▸ Blk.new _ _ _, hw ▸ (Below.refl _ _).alloc (Nat.le_refl _) _⟩

theorem below_step {B : Nat} {w a b : World} {g : Nat} (h : Below B w a) (k : a.grownBy b (some g)) (hg : B ≤ g) (hB : B ≤ w.heap.size) : Below B w b :=
  h.trans (below_only k (Nat.le_trans hB h.size) hg)

/-- The law's 'awake' says yes, and writes nothing that was there. -/
theorem awake_any (w : World) : Calls Try.prog 11 #[] w fun r w' => r = .returned (.bool true) ∧ Below w.heap.size w w' := by
  go_enter Try.func11, Try.ntmps11
  go_wp2_with fail
  refine (new_bk _).mono ?_
  rintro r w1 ⟨g, rfl, hg, b1, l1⟩
  go_wp2_with fail
  refine (inject_ok g 0 0 0 _ b1 (by omega) (by omega) (by omega) (by omega) (by omega)).mono ?_
  rintro r w2 ⟨rfl, b2, k2⟩
  have l2 := below_step l1 k2 hg (Nat.le_refl _)
  clear b1 l1 k2
  go_wp2_with fail
  refine (inject_ok g 0 1 0 _ b2 (by omega) (by omega) (by omega) (by omega) (by omega)).mono ?_
  rintro r w3 ⟨rfl, b3, k3⟩
  have l3 := below_step l2 k3 hg (Nat.le_refl _)
  clear b2 l2 k3
  go_wp2_with fail
  refine (advance_ok g 0 2 0 _ b3 (by omega) (by omega) (by rfl)).mono ?_
  rintro r w4 ⟨rfl, rfl⟩
  have b4 := b3.setN (0 + 1)
  have l4 := below_step l3 (only_set w3 g 0 (.int .i64 (0 + 1))) hg (Nat.le_refl _)
  generalize w3.setCell ⟨g, 0, none⟩ (.int .i64 (0 + 1)) = w4 at *
  clear b3 l3
  go_wp2_with fail
  refine (advance_state g 1 2 0 _ b4 (by omega) (by omega) (by decide)).mono ?_
  rintro r w5 ⟨rfl, rfl⟩
  go_wp2_with fail
  refine (class_ok 3 1 2 _ (by omega) (by omega) (by omega) (by omega) (by omega)).mono ?_
  rintro r w5 ⟨rfl, rfl⟩
  go_wp2_with fail
  refine (remove_ok g 1 2 0 0 _ b4 (by omega) (by omega) (by omega) (by omega) (by decide) (by omega) (by omega) (by omega) (by omega)).mono ?_
  rintro r w5 ⟨rfl, b5, k5⟩
  have l5 := below_step l4 k5 hg (Nat.le_refl _)
  clear b4 l4 k5
  go_wp2_with fail
  refine (remove_ok g 1 1 0 0 _ b5 (by omega) (by omega) (by omega) (by omega) (by decide) (by omega) (by omega) (by omega) (by omega)).mono ?_
  rintro r w6 ⟨rfl, b6, k6⟩
  have l6 := below_step l5 k6 hg (Nat.le_refl _)
  clear b5 l5 k6
  go_wp2_with fail
  refine (advance_ok g 1 0 0 _ b6 (by omega) (by omega) (by rfl)).mono ?_
  rintro r w7 ⟨rfl, rfl⟩
  have b7 := b6.setN (1 + 1)
  have l7 := below_step l6 (only_set w6 g 0 (.int .i64 (1 + 1))) hg (Nat.le_refl _)
  generalize w6.setCell ⟨g, 0, none⟩ (.int .i64 (1 + 1)) = w7 at *
  clear b6 l6
  go_wp2_with fail
  refine (now_any g 2 0 0 _ b7).mono ?_
  rintro r w8 ⟨rfl, rfl⟩
  go_wp2
  go_ret
  exact ⟨rfl, l7⟩

end Go.Proofs.Ytkdgfjjljokkhaa
