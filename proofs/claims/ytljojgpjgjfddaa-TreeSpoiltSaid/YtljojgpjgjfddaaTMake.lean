/- The contract of tree.Make (so far: its search, by induction on the steps). -/
import Derived.Test.YtljojgpjgjfddaaTVisit
namespace Go.Proofs.Ytljojgpjgjfddaa
open Go.RowKit Go.Maps
set_option linter.unusedVariables false

theorem tvisit_any (w0 : World) (ns : List Nd) (cs : List Cb) (lv : List Int) (W : Nat → Bool) (An Ac Ap : Option Addr) (cn cc cp bW bP bR bV bX bO base mW nW : Nat) (src : Int) (dv : Value)
    (hv : validP ⟨ns, cs⟩ = 0) (hns : ns.length ≤ 1000000) (hcs : cs.length ≤ 1000000) (hb0 : w0.heap.size ≤ base) (f : Nat) : TVSays w0 ns cs lv W An Ac Ap cn cc cp bW bP bR bV bX bO base mW nW src dv f := by
  induction f with
  | zero => intro u ov w V O _ hf; cases hf
  | succ f ih => exact tvisit_step w0 ns cs lv W An Ac Ap cn cc cp bW bP bR bV bX bO base mW nW src dv hv hns hcs hb0 f ih
end Go.Proofs.Ytljojgpjgjfddaa
