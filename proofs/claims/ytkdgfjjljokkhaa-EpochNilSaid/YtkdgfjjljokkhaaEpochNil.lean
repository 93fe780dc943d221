/- The walk of the law EpochNil: the methods of a nil book return 0 or ErrArg. -/
import Derived.Test.YtkdgfjjljokkhaaAwake
namespace Go.Proofs.Ytkdgfjjljokkhaa.epochNilW
open Go.RowKit
set_option linter.unusedVariables false

theorem walk (a0 : Int) (w : World) (w0 : (Lit.int .i64 a0).wf = true) :
    Calls Try.prog 7 #[.int .i64 a0] w fun e w' => e = .returned (.bool true) ∧ Below w.heap.size w w' := by
  clear w0
  go_enter Try.func7, Try.ntmps7
  go_wp2_with fail
  refine (awake_any _).mono ?_
  rintro r w1 ⟨rfl, l1⟩
  go_wp2
  go_ret
  exact ⟨rfl, l1⟩
end Go.Proofs.Ytkdgfjjljokkhaa.epochNilW
