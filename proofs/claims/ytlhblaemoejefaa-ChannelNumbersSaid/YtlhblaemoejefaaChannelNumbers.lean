/- The walk of the law ChannelNumbers. -/
import Derived.Test.YtlhblaemoejefaaCAwake
namespace Go.Proofs.Ytlhblaemoejefaa.channelNumbersW
open Go.RowKit Go.Maps Go.Sort Go.Shelf
set_option linter.unusedVariables false
set_option maxHeartbeats 4000000 in
theorem walk (cable dir : Int) (w : World) (hc : (Lit.int .i64 cable).wf = true) (hd : (Lit.int .i64 dir).wf = true) :
    Calls Try.prog 3 #[.int .i64 cable, .int .i64 dir] w fun e w' => e = .returned (.bool true) ∧ Below w.heap.size w w' := by
  by_cases h : cable < 0 ∨ 32 ≤ cable ∨ dir < 0 ∨ 1 < dir
  · have F : Hid (chanV cable dir = -1) := by rw [Hid]; unfold chanV; rw [if_pos h]
    have h' : cable < 0 ∨ (0 ≤ cable ∧ 32 ≤ cable) ∨ (0 ≤ cable ∧ cable < 32 ∧ ¬ dir = 0 ∧ ¬ dir = 1) := by omega
    clear h
    rcases h' with h1 | ⟨h1, h2⟩ | ⟨h1, h2, h3, h4⟩
    rotate_left 2
    · have h5 : (dir == 0) = false := by simpa using h3
      have h6 : (dir == 1) = false := by simpa using h4
      have h7 : (dir != 0) = true := by simpa using h3
      have h8 : (dir != 1) = true := by simpa using h4
      go_enter Try.func3, Try.ntmps3
      go_wp2_with fail
      refine (awake20_any _).mono ?_
      rintro e w1 ⟨rfl, bel⟩
      have BE := Lib.hid bel
      clear bel
      go_wp2_with fail
      refine (channel_any _ _ _).mono ?_
      rintro e w2 ⟨rfl, rfl⟩
      rw [F.out]
      go_wp2_with fail
      go_ret
      exact ⟨rfl, BE.out⟩
    all_goals
      go_enter Try.func3, Try.ntmps3
      go_wp2_with fail
      refine (awake20_any _).mono ?_
      rintro e w1 ⟨rfl, bel⟩
      have BE := Lib.hid bel
      clear bel
      go_wp2_with fail
      refine (channel_any _ _ _).mono ?_
      rintro e w2 ⟨rfl, rfl⟩
      rw [F.out]
      go_wp2_with fail
      go_ret
      exact ⟨rfl, BE.out⟩
  · have F : Hid (chanV cable dir = 2 * cable + dir) := by rw [Hid]; unfold chanV; rw [if_neg h]
    have h1 : 0 ≤ cable := by omega
    have h2 : cable < 32 := by omega
    have h3 : dir = 0 ∨ dir = 1 := by omega
    clear h
    rcases h3 with rfl | rfl
    all_goals
      go_enter Try.func3, Try.ntmps3
      go_wp2_with fail
      refine (awake20_any _).mono ?_
      rintro e w1 ⟨rfl, bel⟩
      have BE := Lib.hid bel
      clear bel
      go_wp2_with fail
      refine (channel_any _ _ _).mono ?_
      rintro e w2 ⟨rfl, rfl⟩
      rw [F.out]
      go_wp2_with fail
      go_ret
      exact ⟨rfl, BE.out⟩
end Go.Proofs.Ytlhblaemoejefaa.channelNumbersW
