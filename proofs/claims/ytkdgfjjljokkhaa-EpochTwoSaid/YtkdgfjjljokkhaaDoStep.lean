/- One act of the laws on a book: the plain step, and the contract of the law's own 'do'. -/
import Derived.Test.YtkdgfjjljokkhaaAwake
namespace Go.Proofs.Ytkdgfjjljokkhaa
open Go.RowKit
set_option linter.unusedVariables false

/-- What an act (kind k, epoch e) does to a book (n, x, y): the error c, and the book behind it. -/
def Step (k e n x y c n' x' y' : Int) : Prop :=
  (k = 0 ∧ e < n ∧ c = 17 ∧ n' = n ∧ x' = x ∧ y' = y) ∨
  (k = 0 ∧ n < e ∧ c = 2 ∧ n' = n ∧ x' = x ∧ y' = y) ∨
  (k = 0 ∧ e = n ∧ c = 0 ∧ n' = n ∧ x' = upX e x 1 ∧ y' = upY e y 1) ∨
  (k = 1 ∧ (e < 0 ∨ n < e) ∧ c = 2 ∧ n' = n ∧ x' = x ∧ y' = y) ∨
  (k = 1 ∧ (0 ≤ e ∧ e ≤ n ∧ alv n x y e = 0) ∧ c = 7 ∧ n' = n ∧ x' = x ∧ y' = y) ∨
  (k = 1 ∧ (0 ≤ e ∧ e ≤ n ∧ n - 1 ≤ e ∧ 0 < alv n x y e) ∧ c = 0 ∧ n' = n ∧ x' = upX e x (-1) ∧ y' = upY e y (-1)) ∨
  ((k ≠ 0 ∧ k ≠ 1) ∧ 0 < alv n x y (n - 1) ∧ c = 6 ∧ n' = n ∧ x' = x ∧ y' = y) ∨
  ((k ≠ 0 ∧ k ≠ 1) ∧ (alv n x y (n - 1) = 0 ∧ n = 1099511627775) ∧ c = 5 ∧ n' = n ∧ x' = x ∧ y' = y) ∨
  ((k ≠ 0 ∧ k ≠ 1) ∧ (alv n x y (n - 1) = 0 ∧ n < 1099511627775) ∧ c = 0 ∧ n' = n + 1 ∧ x' = x ∧ y' = y)

section
variable {k e n x y : Int}
theorem Step.stale (hk : k = 0) (h : e < n) : Step k e n x y 17 n x y := .inl ⟨hk, h, rfl, rfl, rfl, rfl⟩
theorem Step.far (hk : k = 0) (h : n < e) : Step k e n x y 2 n x y := .inr (.inl ⟨hk, h, rfl, rfl, rfl, rfl⟩)
theorem Step.put (hk : k = 0) (h : e = n) : Step k e n x y 0 n (upX e x 1) (upY e y 1) := .inr (.inr (.inl ⟨hk, h, rfl, rfl, rfl, rfl⟩))
theorem Step.out (hk : k = 1) (h : e < 0 ∨ n < e) : Step k e n x y 2 n x y := .inr (.inr (.inr (.inl ⟨hk, h, rfl, rfl, rfl, rfl⟩)))
theorem Step.lack (hk : k = 1) (h0 : 0 ≤ e) (h1 : e ≤ n) (h : alv n x y e = 0) : Step k e n x y 7 n x y := .inr (.inr (.inr (.inr (.inl ⟨hk, ⟨h0, h1, h⟩, rfl, rfl, rfl, rfl⟩))))
theorem Step.take (hk : k = 1) (h0 : 0 ≤ e) (h1 : e ≤ n) (h2 : n - 1 ≤ e) (h : 0 < alv n x y e) : Step k e n x y 0 n (upX e x (-1)) (upY e y (-1)) := .inr (.inr (.inr (.inr (.inr (.inl ⟨hk, ⟨h0, h1, h2, h⟩, rfl, rfl, rfl, rfl⟩)))))
theorem Step.held (hk : k ≠ 0 ∧ k ≠ 1) (h : 0 < alv n x y (n - 1)) : Step k e n x y 6 n x y := .inr (.inr (.inr (.inr (.inr (.inr (.inl ⟨hk, h, rfl, rfl, rfl, rfl⟩))))))
theorem Step.full (hk : k ≠ 0 ∧ k ≠ 1) (h : alv n x y (n - 1) = 0) (hn : n = 1099511627775) : Step k e n x y 5 n x y := .inr (.inr (.inr (.inr (.inr (.inr (.inr (.inl ⟨hk, ⟨h, hn⟩, rfl, rfl, rfl, rfl⟩)))))))
theorem Step.next (hk : k ≠ 0 ∧ k ≠ 1) (h : alv n x y (n - 1) = 0) (hn : n < 1099511627775) : Step k e n x y 0 (n + 1) x y := .inr (.inr (.inr (.inr (.inr (.inr (.inr (.inr ⟨hk, ⟨h, hn⟩, rfl, rfl, rfl, rfl⟩)))))))
end

/-- What is true of a book after at most m acts. -/
structure Inv (m : Nat) (n x y : Int) : Prop where
  n0 : 0 ≤ n
  n1 : n ≤ m
  x0 : 0 ≤ x
  x1 : x ≤ m
  y0 : 0 ≤ y
  y1 : y ≤ m
  z : n = 0 → y = 0

theorem Inv.start : Inv 0 0 0 0 := ⟨by omega, by omega, by omega, by omega, by omega, by omega, fun _ => rfl⟩

theorem alv_cases (n x y e : Int) : (alv n x y e = 0 ∧ (e < 0 ∨ n < e ∨ e < n - 1)) ∨ (alv n x y e = x ∧ 0 ≤ e ∧ e ≤ n ∧ n - 1 ≤ e ∧ e % 2 = 0) ∨ (alv n x y e = y ∧ 0 ≤ e ∧ e ≤ n ∧ n - 1 ≤ e ∧ ¬ e % 2 = 0) := by
  by_cases h : e < 0 ∨ n < e ∨ e < n - 1
  · exact .inl ⟨alv_out h, h⟩
  · by_cases h2 : e % 2 = 0
    · exact .inr (.inl ⟨alv_even (by omega) (by omega) (by omega) h2, by omega, by omega, by omega, h2⟩)
    · exact .inr (.inr ⟨alv_odd (by omega) (by omega) (by omega) h2, by omega, by omega, by omega, h2⟩)
theorem up_cases (e x y d : Int) : (e % 2 = 0 ∧ upX e x d = x + d ∧ upY e y d = y) ∨ (¬ e % 2 = 0 ∧ upX e x d = x ∧ upY e y d = y + d) := by
  by_cases h : e % 2 = 0
  · exact .inl ⟨h, upX_even h, upY_even h⟩
  · exact .inr ⟨h, upX_odd h, upY_odd h⟩

theorem Inv.more {m : Nat} {n x y : Int} (h : Inv m n x y) : Inv (m + 1) n x y := by
  obtain ⟨a, b, c, d, e, f, g⟩ := h
  exact ⟨a, by omega, c, by omega, e, by omega, g⟩

theorem Inv.step {m : Nat} {k e n x y c n' x' y' : Int} (h : Inv m n x y) (s : Step k e n x y c n' x' y') : Inv (m + 1) n' x' y' := by
  rcases s with ⟨-, -, -, rfl, rfl, rfl⟩ | ⟨-, -, -, rfl, rfl, rfl⟩ | ⟨hk, he, -, rfl, rfl, rfl⟩ | ⟨-, -, -, rfl, rfl, rfl⟩ | ⟨-, -, -, rfl, rfl, rfl⟩ | ⟨hk, ⟨h0, h1, h2, hz⟩, -, rfl, rfl, rfl⟩ | ⟨-, -, -, rfl, rfl, rfl⟩ | ⟨-, -, -, rfl, rfl, rfl⟩ | ⟨hk, ⟨hz, hn⟩, -, rfl, rfl, rfl⟩
  case inr.inr.inl =>
    obtain ⟨a, b, c, d, e', f, g⟩ := h
    subst he
    rcases up_cases e x y 1 with ⟨p, q, r⟩ | ⟨p, q, r⟩ <;> rw [q, r] <;> exact ⟨by omega, by omega, by omega, by omega, by omega, by omega, by omega⟩
  case inr.inr.inr.inr.inr.inl =>
    obtain ⟨a, b, c, d, e', f, g⟩ := h
    have hal := alv_cases n' x y e
    rcases up_cases e x y (-1) with ⟨p, q, r⟩ | ⟨p, q, r⟩ <;> rw [q, r] <;> exact ⟨by omega, by omega, by omega, by omega, by omega, by omega, by omega⟩
  case inr.inr.inr.inr.inr.inr.inr.inr =>
    obtain ⟨a, b, c, d, e', f, g⟩ := h
    exact ⟨by omega, by omega, by omega, by omega, by omega, by omega, by omega⟩
  all_goals exact h.more

theorem alv_nonneg {m : Nat} {n x y : Int} (h : Inv m n x y) (e : Int) : 0 ≤ alv n x y e ∧ alv n x y e ≤ m := by
  obtain ⟨a, b, c, d, e', f, g⟩ := h
  have := alv_cases n x y e
  omega

/-- What the law's 'do' leaves. -/
def DoPost (k e n x y : Int) (g : Nat) (w : World) (r : Ending) (w' : World) : Prop :=
  ∃ c n' x' y', r = .returned (.int .i64 c) ∧ Step k e n x y c n' x' y' ∧ Bk w' g n' x' y' ∧ w.grownBy w' (some g)

theorem do_of {k e n x y : Int} {g : Nat} {w w' : World} {c n' x' y' : Int} (s : Step k e n x y c n' x' y') (h : Bk w' g n' x' y') (hw : w.grownBy w' (some g)) :
    DoPost k e n x y g w (.returned (.int .i64 c)) w' := ⟨c, n', x', y', rfl, s, h, hw⟩

theorem do_any (m : Nat) (k e n x y : Int) (g : Nat) (w : World) (h : Bk w g n x y) (hi : Inv m n x y) (hm : m ≤ 1000000) :
    Calls Try.prog 16 #[.pointer (some ⟨g, 0, none⟩), .agg #[.int .i64 k, .int .i64 e]] w (DoPost k e n x y g w) := by
  have ha : Bk (w.alloc (.cells #[.int .i64 k, .int .i64 e] 30)) g n x y := Blk.alloc h _
  have hb : Hid (w.grownBy (w.alloc (.cells #[.int .i64 k, .int .i64 e] 30)) (some g)) := only_alloc (only_refl _ _) _
  obtain ⟨a, b, c, d, e', f, z⟩ := hi
  clear z
  by_cases hk0 : k = 0
  · subst hk0
    by_cases he : e < n
    · go_enter Try.func16, Try.ntmps16
      go_wp2_with fail
      refine (inject_stale g n x y e _ ha he).mono ?_
      rintro r w1 ⟨rfl, rfl⟩
      go_wp2
      go_ret
      exact do_of (.stale rfl he) ha hb.out
    by_cases he2 : n < e
    · go_enter Try.func16, Try.ntmps16
      go_wp2_with fail
      refine (inject_range g n x y e _ ha he2).mono ?_
      rintro r w1 ⟨rfl, rfl⟩
      go_wp2
      go_ret
      exact do_of (.far rfl he2) ha hb.out
    obtain rfl : e = n := by omega
    go_enter Try.func16, Try.ntmps16
    go_wp2_with fail
    refine (inject_ok g e x y _ ha (by omega) (by omega) (by omega) (by omega) (by omega)).mono ?_
    rintro r w1 ⟨rfl, h1, hw1⟩
    go_wp2
    go_ret
    exact do_of (.put rfl rfl) h1 (only_trans hb.out hw1)
  have hk0' : (k == 0) = false := by simpa using hk0
  by_cases hk1 : k = 1
  · subst hk1
    clear hk0
    by_cases he : e < 0 ∨ n < e
    · have HE := Lib.hid he
      clear he
      go_enter Try.func16, Try.ntmps16
      go_wp2_with fail
      refine (remove_range g n x y e _ ha HE.out).mono ?_
      rintro r w1 ⟨rfl, rfl⟩
      go_wp2
      go_ret
      exact do_of (.out rfl HE.out) ha hb.out
    have h0 : 0 ≤ e := by omega
    have h1 : e ≤ n := by omega
    clear he
    by_cases hz : alv n x y e = 0
    · have HZ := Lib.hid hz
      clear hz
      go_enter Try.func16, Try.ntmps16
      go_wp2_with fail
      refine (remove_none g n x y e _ ha (by omega) h0 h1 HZ.out).mono ?_
      rintro r w1 ⟨rfl, rfl⟩
      go_wp2
      go_ret
      exact do_of (.lack rfl h0 h1 HZ.out) ha hb.out
    have hp : 0 < alv n x y e ∧ n - 1 ≤ e := by have := alv_cases n x y e; omega
    obtain ⟨hp1, hp2⟩ := hp
    have HP := Lib.hid hp1
    clear hz hp1
    go_enter Try.func16, Try.ntmps16
    go_wp2_with fail
    refine (remove_ok g n x y e _ ha (by omega) h0 h1 hp2 HP.out (by omega) (by omega) (by omega) (by omega)).mono ?_
    rintro r w1 ⟨rfl, h1', hw1⟩
    go_wp2
    go_ret
    exact do_of (.take rfl h0 h1 hp2 HP.out) h1' (only_trans hb.out hw1)
  have hk1' : (k == 1) = false := by simpa using hk1
  have HK : Hid (k ≠ 0 ∧ k ≠ 1) := ⟨hk0, hk1⟩
  clear hk0 hk1
  by_cases hz : alv n x y (n - 1) = 0
  · have HZ := Lib.hid hz
    clear hz
    go_enter Try.func16, Try.ntmps16
    go_wp2_with fail
    refine (advance_ok g n x y _ ha (by omega) (by omega) HZ.out).mono ?_
    rintro r w1 ⟨rfl, rfl⟩
    go_wp2
    go_ret
    exact do_of (.next HK.out HZ.out (by omega)) (ha.setN _) (only_trans hb.out (only_set _ _ _ _))
  · have hp1 : 0 < alv n x y (n - 1) := by have := alv_cases n x y (n - 1); omega
    have HP := Lib.hid hp1
    clear hz hp1
    go_enter Try.func16, Try.ntmps16
    go_wp2_with fail
    refine (advance_state g n x y _ ha (by omega) (by omega) HP.out).mono ?_
    rintro r w1 ⟨rfl, rfl⟩
    go_wp2
    go_ret
    exact do_of (.held HK.out HP.out) ha hb.out
end Go.Proofs.Ytkdgfjjljokkhaa
