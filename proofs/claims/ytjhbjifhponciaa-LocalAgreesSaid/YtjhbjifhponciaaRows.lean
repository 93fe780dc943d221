/-
  NARROWER THAN 'FOR EVERY INPUT', by the rows' own cells (each row's printed sentence says how): LocalChecks: maps · LocalAgrees: maps.
  DERIVED. THE GIVEN ROWS OF THIS SEAT. 6 by the template 'for every input the law returns true; each argument reads behind the call as it read before'; 0 by the template 'total and deterministic' (their statements: YtjhbjifhponciaaTotals.lean).
  GIVEN WITH THE SEED: the statements are not yours to turn. If you find one false, say at which input.
  Laid BY PROGRAM, IN A SANDBOX (cutbox-rows.mjs): the forced cells as the released guide's own fill.sh prints them over the translation eb40d4a7325a5525… (all of the seat's roots in one cut). By AI agents, Wed Nov 11 2026. No macro, syntax, notation, axiom, sorry.
-/
import Derived.Test.YtjhbjifhponciaaChecked
import GoSem.Claim
import GoSem.ClaimJoined
import GoSem.ClaimMapViews
import Derived.JoinedTies
import Derived.KernelRfl
namespace Go.Proofs.Ytjhbjifhponciaa
/- THE CELL 'sum', in the pinned program and in every row, IS THE sha256 OF THE DUMP (.gsa) THAT YtjhbjifhponciaaProg.lean LOADS. Nothing in Lean hashes anything: it is a label: what it is worth is what the hold of that sum in a sandbox is worth. -/
noncomputable def Try.pinned : Pinned := { name := "ytjhbjifhponciaa", sum := "eb40d4a7325a5525a2c3b2657f7822cd1bc8c0bf750427e5643c05083af26fa5", checked := Try.checked }
namespace Rows
def none {H : Type} : Left H := { results := [], args := [] }

/-- 'fairlinklaw22.LocalSplits': WHATEVER THE INPUT: true; the input reads as it did. -/
def localSplitsSpec : ChangeSpec := { name := "localSplits", fn := fun _ => fun
  | [d1, d2, d3] => { results := [.lit (.bool true)], args := [d1, d2, d3] }
  | _ => none }
def localSplitsRow : OpenClaim := { program := "ytjhbjifhponciaa", sum := "eb40d4a7325a5525a2c3b2657f7822cd1bc8c0bf750427e5643c05083af26fa5", func := "fairlink/fairlinklaw22.LocalSplits", spec := "localSplits", unfollowed := true, recurses := true, plainKeys := false, apart := false }
def LocalSplitsSaid : Prop := localSplitsRow.holds Try.pinned (OpenSpec.ofChange localSplitsSpec)

/-- ITS FALSE NEIGHBOUR: 'it returns false'. Refute it at one input. -/
def localSplitsWrong : ChangeSpec := { name := "localSplits", fn := fun _ => fun
  | [d1, d2, d3] => { results := [.lit (.bool false)], args := [d1, d2, d3] }
  | _ => none }
def LocalSplitsWrongFalsely : Prop := localSplitsRow.holds Try.pinned (OpenSpec.ofChange localSplitsWrong)

/-- 'fairlinklaw22.LocalChanges': WHATEVER THE INPUT: true; the input reads as it did. -/
def localChangesSpec : ChangeSpec := { name := "localChanges", fn := fun _ => fun
  | [d1, d2, d3, d4, d5] => { results := [.lit (.bool true)], args := [d1, d2, d3, d4, d5] }
  | _ => none }
def localChangesRow : OpenClaim := { program := "ytjhbjifhponciaa", sum := "eb40d4a7325a5525a2c3b2657f7822cd1bc8c0bf750427e5643c05083af26fa5", func := "fairlink/fairlinklaw22.LocalChanges", spec := "localChanges", unfollowed := true, recurses := true, plainKeys := false, apart := false }
def LocalChangesSaid : Prop := localChangesRow.holds Try.pinned (OpenSpec.ofChange localChangesSpec)

/-- ITS FALSE NEIGHBOUR: 'it returns false'. Refute it at one input. -/
def localChangesWrong : ChangeSpec := { name := "localChanges", fn := fun _ => fun
  | [d1, d2, d3, d4, d5] => { results := [.lit (.bool false)], args := [d1, d2, d3, d4, d5] }
  | _ => none }
def LocalChangesWrongFalsely : Prop := localChangesRow.holds Try.pinned (OpenSpec.ofChange localChangesWrong)

/-- 'fairlinklaw22.LocalChecks': WHATEVER THE INPUT: true; the input reads as it did. -/
def localChecksSpec : ChangeSpec := { name := "localChecks", fn := fun _ => fun
  | [d1, d2] => { results := [.lit (.bool true)], args := [d1, d2] }
  | _ => none }
def localChecksRow : OpenClaim := { program := "ytjhbjifhponciaa", sum := "eb40d4a7325a5525a2c3b2657f7822cd1bc8c0bf750427e5643c05083af26fa5", func := "fairlink/fairlinklaw22.LocalChecks", spec := "localChecks", unfollowed := true, recurses := true, maps := true, plainKeys := false, apart := false }
def LocalChecksSaid : Prop := localChecksRow.holds Try.pinned (OpenSpec.ofChange localChecksSpec)

/-- ITS FALSE NEIGHBOUR: 'it returns false'. Refute it at one input. -/
def localChecksWrong : ChangeSpec := { name := "localChecks", fn := fun _ => fun
  | [d1, d2] => { results := [.lit (.bool false)], args := [d1, d2] }
  | _ => none }
def LocalChecksWrongFalsely : Prop := localChecksRow.holds Try.pinned (OpenSpec.ofChange localChecksWrong)

/-- 'fairlinklaw22.LocalAgrees': WHATEVER THE INPUT: true; the input reads as it did. -/
def localAgreesSpec : ChangeSpec := { name := "localAgrees", fn := fun _ => fun
  | [d1, d2] => { results := [.lit (.bool true)], args := [d1, d2] }
  | _ => none }
def localAgreesRow : OpenClaim := { program := "ytjhbjifhponciaa", sum := "eb40d4a7325a5525a2c3b2657f7822cd1bc8c0bf750427e5643c05083af26fa5", func := "fairlink/fairlinklaw22.LocalAgrees", spec := "localAgrees", unfollowed := true, recurses := true, maps := true, plainKeys := false, apart := false }
def LocalAgreesSaid : Prop := localAgreesRow.holds Try.pinned (OpenSpec.ofChange localAgreesSpec)

/-- ITS FALSE NEIGHBOUR: 'it returns false'. Refute it at one input. -/
def localAgreesWrong : ChangeSpec := { name := "localAgrees", fn := fun _ => fun
  | [d1, d2] => { results := [.lit (.bool false)], args := [d1, d2] }
  | _ => none }
def LocalAgreesWrongFalsely : Prop := localAgreesRow.holds Try.pinned (OpenSpec.ofChange localAgreesWrong)

/-- 'fairlinklaw22.LocalFault': WHATEVER THE INPUT: true; the input reads as it did. -/
def localFaultSpec : ChangeSpec := { name := "localFault", fn := fun _ => fun
  | [d1, d2, d3, d4] => { results := [.lit (.bool true)], args := [d1, d2, d3, d4] }
  | _ => none }
def localFaultRow : OpenClaim := { program := "ytjhbjifhponciaa", sum := "eb40d4a7325a5525a2c3b2657f7822cd1bc8c0bf750427e5643c05083af26fa5", func := "fairlink/fairlinklaw22.LocalFault", spec := "localFault", unfollowed := true, recurses := true, plainKeys := false, apart := false }
def LocalFaultSaid : Prop := localFaultRow.holds Try.pinned (OpenSpec.ofChange localFaultSpec)

/-- ITS FALSE NEIGHBOUR: 'it returns false'. Refute it at one input. -/
def localFaultWrong : ChangeSpec := { name := "localFault", fn := fun _ => fun
  | [d1, d2, d3, d4] => { results := [.lit (.bool false)], args := [d1, d2, d3, d4] }
  | _ => none }
def LocalFaultWrongFalsely : Prop := localFaultRow.holds Try.pinned (OpenSpec.ofChange localFaultWrong)

/-- 'fairlinklaw22.LocalBack': WHATEVER THE INPUT: true; the input reads as it did. -/
def localBackSpec : ChangeSpec := { name := "localBack", fn := fun _ => fun
  | [d1, d2, d3] => { results := [.lit (.bool true)], args := [d1, d2, d3] }
  | _ => none }
def localBackRow : OpenClaim := { program := "ytjhbjifhponciaa", sum := "eb40d4a7325a5525a2c3b2657f7822cd1bc8c0bf750427e5643c05083af26fa5", func := "fairlink/fairlinklaw22.LocalBack", spec := "localBack", unfollowed := true, recurses := true, plainKeys := false, apart := false }
def LocalBackSaid : Prop := localBackRow.holds Try.pinned (OpenSpec.ofChange localBackSpec)

/-- ITS FALSE NEIGHBOUR: 'it returns false'. Refute it at one input. -/
def localBackWrong : ChangeSpec := { name := "localBack", fn := fun _ => fun
  | [d1, d2, d3] => { results := [.lit (.bool false)], args := [d1, d2, d3] }
  | _ => none }
def LocalBackWrongFalsely : Prop := localBackRow.holds Try.pinned (OpenSpec.ofChange localBackWrong)

/- THE SECOND FORM. 'bulk': how many values and letters a reading holds, each counted each time it is reached (what is shared counts as often as it is met; a slice's spare places count too). A statement '..UptoSaid' is the law's where the arguments, and the package variables that the reading takes, are together of bulk at most 1048576: NARROWER than '..Said'. Prove '..Said' where nothing that the law and all that it calls make is longer than what came in: it says more and counts as full. Else prove '..UptoSaid'. A law counts once. -/
mutual
def uptoBulk {H : Type} : DataW H → Nat
  | .lit (.string bytes) => bytes.length + 1
  | .lit _ => 1
  | .nil => 1
  | .ptr d => uptoBulk d + 1
  | .slice elems spare => uptoBulkAll elems + uptoBulkAll spare + 1
  | .agg parts => uptoBulkAll parts + 1
  | .iface _ d => uptoBulk d + 1
  | .map entries => uptoBulkEntries entries + 1
  | .held _ => 1
def uptoBulkAll {H : Type} : List (DataW H) → Nat
  | [] => 0
  | d :: r => uptoBulk d + uptoBulkAll r
def uptoBulkEntries {H : Type} : List (Lit × DataW H) → Nat
  | [] => 0
  | x :: r => uptoBulkEntry x + uptoBulkEntries r
def uptoBulkEntry {H : Type} : Lit × DataW H → Nat
  | (.string bytes, d) => bytes.length + uptoBulk d + 1
  | (_, d) => uptoBulk d + 1
 end
def uptoSmall : (H : Type) → List (DataW H) → Bool := fun _ ds => decide (uptoBulkAll ds ≤ 1048576)
def OpenSpec.upto (s : _root_.Go.ChangeSpec) : _root_.Go.OpenSpec := { _root_.Go.OpenSpec.ofChange s with cond := some uptoSmall }

/-- 'fairlinklaw22.LocalSplits', WHERE WHAT IT READS IS OF BULK AT MOST 1048576: true; the input reads as it did. -/
def localSplitsUptoRow : OpenClaim := { program := "ytjhbjifhponciaa", sum := "eb40d4a7325a5525a2c3b2657f7822cd1bc8c0bf750427e5643c05083af26fa5", func := "fairlink/fairlinklaw22.LocalSplits", spec := "localSplits", unfollowed := true, recurses := true, plainKeys := false, apart := false, narrowed := true }
def LocalSplitsUptoSaid : Prop := localSplitsUptoRow.holds Try.pinned (OpenSpec.upto localSplitsSpec)

/-- 'fairlinklaw22.LocalChanges', WHERE WHAT IT READS IS OF BULK AT MOST 1048576: true; the input reads as it did. -/
def localChangesUptoRow : OpenClaim := { program := "ytjhbjifhponciaa", sum := "eb40d4a7325a5525a2c3b2657f7822cd1bc8c0bf750427e5643c05083af26fa5", func := "fairlink/fairlinklaw22.LocalChanges", spec := "localChanges", unfollowed := true, recurses := true, plainKeys := false, apart := false, narrowed := true }
def LocalChangesUptoSaid : Prop := localChangesUptoRow.holds Try.pinned (OpenSpec.upto localChangesSpec)

/-- 'fairlinklaw22.LocalChecks', WHERE WHAT IT READS IS OF BULK AT MOST 1048576: true; the input reads as it did. -/
def localChecksUptoRow : OpenClaim := { program := "ytjhbjifhponciaa", sum := "eb40d4a7325a5525a2c3b2657f7822cd1bc8c0bf750427e5643c05083af26fa5", func := "fairlink/fairlinklaw22.LocalChecks", spec := "localChecks", unfollowed := true, recurses := true, maps := true, plainKeys := false, apart := false, narrowed := true }
def LocalChecksUptoSaid : Prop := localChecksUptoRow.holds Try.pinned (OpenSpec.upto localChecksSpec)

/-- 'fairlinklaw22.LocalAgrees', WHERE WHAT IT READS IS OF BULK AT MOST 1048576: true; the input reads as it did. -/
def localAgreesUptoRow : OpenClaim := { program := "ytjhbjifhponciaa", sum := "eb40d4a7325a5525a2c3b2657f7822cd1bc8c0bf750427e5643c05083af26fa5", func := "fairlink/fairlinklaw22.LocalAgrees", spec := "localAgrees", unfollowed := true, recurses := true, maps := true, plainKeys := false, apart := false, narrowed := true }
def LocalAgreesUptoSaid : Prop := localAgreesUptoRow.holds Try.pinned (OpenSpec.upto localAgreesSpec)

/-- 'fairlinklaw22.LocalFault', WHERE WHAT IT READS IS OF BULK AT MOST 1048576: true; the input reads as it did. -/
def localFaultUptoRow : OpenClaim := { program := "ytjhbjifhponciaa", sum := "eb40d4a7325a5525a2c3b2657f7822cd1bc8c0bf750427e5643c05083af26fa5", func := "fairlink/fairlinklaw22.LocalFault", spec := "localFault", unfollowed := true, recurses := true, plainKeys := false, apart := false, narrowed := true }
def LocalFaultUptoSaid : Prop := localFaultUptoRow.holds Try.pinned (OpenSpec.upto localFaultSpec)

/-- 'fairlinklaw22.LocalBack', WHERE WHAT IT READS IS OF BULK AT MOST 1048576: true; the input reads as it did. -/
def localBackUptoRow : OpenClaim := { program := "ytjhbjifhponciaa", sum := "eb40d4a7325a5525a2c3b2657f7822cd1bc8c0bf750427e5643c05083af26fa5", func := "fairlink/fairlinklaw22.LocalBack", spec := "localBack", unfollowed := true, recurses := true, plainKeys := false, apart := false, narrowed := true }
def LocalBackUptoSaid : Prop := localBackUptoRow.holds Try.pinned (OpenSpec.upto localBackSpec)

end Rows
end Go.Proofs.Ytjhbjifhponciaa
