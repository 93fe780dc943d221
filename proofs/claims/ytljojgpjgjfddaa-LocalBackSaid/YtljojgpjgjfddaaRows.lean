/-
  NARROWER THAN 'FOR EVERY INPUT', by the rows' own cells (each row's printed sentence says how): LocalWhole: maps.
  DERIVED. THE GIVEN ROWS OF THIS SEAT. 8 by the template 'for every input the law returns true; each argument reads behind the call as it read before'; 0 by the template 'total and deterministic' (their statements: YtljojgpjgjfddaaTotals.lean).
  GIVEN WITH THE SEED: the statements are not yours to turn. If you find one false, say at which input.
  Laid BY PROGRAM, IN A SANDBOX (cutbox-rows.mjs): the forced cells as the released guide's own fill.sh prints them over the translation 9cb3c110171a887f… (all of the seat's roots in one cut). By AI agents, Wed Nov 11 2026. No macro, syntax, notation, axiom, sorry.
-/
import Derived.Test.YtljojgpjgjfddaaChecked
import GoSem.Claim
import GoSem.ClaimJoined
import GoSem.ClaimMapViews
import Derived.JoinedTies
import Derived.KernelRfl
namespace Go.Proofs.Ytljojgpjgjfddaa
/- THE CELL 'sum', in the pinned program and in every row, IS THE sha256 OF THE DUMP (.gsa) THAT YtljojgpjgjfddaaProg.lean LOADS. Nothing in Lean hashes anything: it is a label: what it is worth is what the hold of that sum in a sandbox is worth. -/
noncomputable def Try.pinned : Pinned := { name := "ytljojgpjgjfddaa", sum := "9cb3c110171a887fdd737f639be57806260af352455e903e1bb0a8992129f71b", checked := Try.checked }
namespace Rows
def none {H : Type} : Left H := { results := [], args := [] }

/-- 'fairlinklaw22.LocalWhole': WHATEVER THE INPUT: true; the input reads as it did. -/
def localWholeSpec : ChangeSpec := { name := "localWhole", fn := fun _ => fun
  | [d1, d2] => { results := [.lit (.bool true)], args := [d1, d2] }
  | _ => none }
def localWholeRow : OpenClaim := { program := "ytljojgpjgjfddaa", sum := "9cb3c110171a887fdd737f639be57806260af352455e903e1bb0a8992129f71b", func := "fairlink/fairlinklaw22.LocalWhole", spec := "localWhole", unfollowed := true, recurses := true, maps := true, plainKeys := false, apart := false }
def LocalWholeSaid : Prop := localWholeRow.holds Try.pinned (OpenSpec.ofChange localWholeSpec)

/-- ITS FALSE NEIGHBOUR: 'it returns false'. Refute it at one input. -/
def localWholeWrong : ChangeSpec := { name := "localWhole", fn := fun _ => fun
  | [d1, d2] => { results := [.lit (.bool false)], args := [d1, d2] }
  | _ => none }
def LocalWholeWrongFalsely : Prop := localWholeRow.holds Try.pinned (OpenSpec.ofChange localWholeWrong)

/-- 'fairlinklaw22.LocalBack': WHATEVER THE INPUT: true; the input reads as it did. -/
def localBackSpec : ChangeSpec := { name := "localBack", fn := fun _ => fun
  | [d1, d2, d3] => { results := [.lit (.bool true)], args := [d1, d2, d3] }
  | _ => none }
def localBackRow : OpenClaim := { program := "ytljojgpjgjfddaa", sum := "9cb3c110171a887fdd737f639be57806260af352455e903e1bb0a8992129f71b", func := "fairlink/fairlinklaw22.LocalBack", spec := "localBack", unfollowed := true, recurses := true, plainKeys := false, apart := false }
def LocalBackSaid : Prop := localBackRow.holds Try.pinned (OpenSpec.ofChange localBackSpec)

/-- ITS FALSE NEIGHBOUR: 'it returns false'. Refute it at one input. -/
def localBackWrong : ChangeSpec := { name := "localBack", fn := fun _ => fun
  | [d1, d2, d3] => { results := [.lit (.bool false)], args := [d1, d2, d3] }
  | _ => none }
def LocalBackWrongFalsely : Prop := localBackRow.holds Try.pinned (OpenSpec.ofChange localBackWrong)

/-- 'fairlinklaw23.TreeMake': WHATEVER THE INPUT: true; the input reads as it did. -/
def treeMakeSpec : ChangeSpec := { name := "treeMake", fn := fun _ => fun
  | [d1, d2, d3, d4] => { results := [.lit (.bool true)], args := [d1, d2, d3, d4] }
  | _ => none }
def treeMakeRow : OpenClaim := { program := "ytljojgpjgjfddaa", sum := "9cb3c110171a887fdd737f639be57806260af352455e903e1bb0a8992129f71b", func := "fairlink/fairlinklaw23.TreeMake", spec := "treeMake", unfollowed := true, recurses := true, plainKeys := false, apart := false }
def TreeMakeSaid : Prop := treeMakeRow.holds Try.pinned (OpenSpec.ofChange treeMakeSpec)

/-- ITS FALSE NEIGHBOUR: 'it returns false'. Refute it at one input. -/
def treeMakeWrong : ChangeSpec := { name := "treeMake", fn := fun _ => fun
  | [d1, d2, d3, d4] => { results := [.lit (.bool false)], args := [d1, d2, d3, d4] }
  | _ => none }
def TreeMakeWrongFalsely : Prop := treeMakeRow.holds Try.pinned (OpenSpec.ofChange treeMakeWrong)

/-- 'fairlinklaw23.TreeOne': WHATEVER THE INPUT: true; the input reads as it did. -/
def treeOneSpec : ChangeSpec := { name := "treeOne", fn := fun _ => fun
  | [d1, d2, d3, d4] => { results := [.lit (.bool true)], args := [d1, d2, d3, d4] }
  | _ => none }
def treeOneRow : OpenClaim := { program := "ytljojgpjgjfddaa", sum := "9cb3c110171a887fdd737f639be57806260af352455e903e1bb0a8992129f71b", func := "fairlink/fairlinklaw23.TreeOne", spec := "treeOne", unfollowed := true, recurses := true, plainKeys := false, apart := false }
def TreeOneSaid : Prop := treeOneRow.holds Try.pinned (OpenSpec.ofChange treeOneSpec)

/-- ITS FALSE NEIGHBOUR: 'it returns false'. Refute it at one input. -/
def treeOneWrong : ChangeSpec := { name := "treeOne", fn := fun _ => fun
  | [d1, d2, d3, d4] => { results := [.lit (.bool false)], args := [d1, d2, d3, d4] }
  | _ => none }
def TreeOneWrongFalsely : Prop := treeOneRow.holds Try.pinned (OpenSpec.ofChange treeOneWrong)

/-- 'fairlinklaw23.TreeSpoilt': WHATEVER THE INPUT: true; the input reads as it did. -/
def treeSpoiltSpec : ChangeSpec := { name := "treeSpoilt", fn := fun _ => fun
  | [d1, d2, d3, d4, d5] => { results := [.lit (.bool true)], args := [d1, d2, d3, d4, d5] }
  | _ => none }
def treeSpoiltRow : OpenClaim := { program := "ytljojgpjgjfddaa", sum := "9cb3c110171a887fdd737f639be57806260af352455e903e1bb0a8992129f71b", func := "fairlink/fairlinklaw23.TreeSpoilt", spec := "treeSpoilt", unfollowed := true, recurses := true, plainKeys := false, apart := false }
def TreeSpoiltSaid : Prop := treeSpoiltRow.holds Try.pinned (OpenSpec.ofChange treeSpoiltSpec)

/-- ITS FALSE NEIGHBOUR: 'it returns false'. Refute it at one input. -/
def treeSpoiltWrong : ChangeSpec := { name := "treeSpoilt", fn := fun _ => fun
  | [d1, d2, d3, d4, d5] => { results := [.lit (.bool false)], args := [d1, d2, d3, d4, d5] }
  | _ => none }
def TreeSpoiltWrongFalsely : Prop := treeSpoiltRow.holds Try.pinned (OpenSpec.ofChange treeSpoiltWrong)

/-- 'fairlinklaw23.TreeGrows': WHATEVER THE INPUT: true; the input reads as it did. -/
def treeGrowsSpec : ChangeSpec := { name := "treeGrows", fn := fun _ => fun
  | [d1, d2, d3, d4] => { results := [.lit (.bool true)], args := [d1, d2, d3, d4] }
  | _ => none }
def treeGrowsRow : OpenClaim := { program := "ytljojgpjgjfddaa", sum := "9cb3c110171a887fdd737f639be57806260af352455e903e1bb0a8992129f71b", func := "fairlink/fairlinklaw23.TreeGrows", spec := "treeGrows", unfollowed := true, recurses := true, plainKeys := false, apart := false }
def TreeGrowsSaid : Prop := treeGrowsRow.holds Try.pinned (OpenSpec.ofChange treeGrowsSpec)

/-- ITS FALSE NEIGHBOUR: 'it returns false'. Refute it at one input. -/
def treeGrowsWrong : ChangeSpec := { name := "treeGrows", fn := fun _ => fun
  | [d1, d2, d3, d4] => { results := [.lit (.bool false)], args := [d1, d2, d3, d4] }
  | _ => none }
def TreeGrowsWrongFalsely : Prop := treeGrowsRow.holds Try.pinned (OpenSpec.ofChange treeGrowsWrong)

/-- 'fairlinklaw23.TreeLegal': WHATEVER THE INPUT: true; the input reads as it did. -/
def treeLegalSpec : ChangeSpec := { name := "treeLegal", fn := fun _ => fun
  | [d1, d2, d3, d4] => { results := [.lit (.bool true)], args := [d1, d2, d3, d4] }
  | _ => none }
def treeLegalRow : OpenClaim := { program := "ytljojgpjgjfddaa", sum := "9cb3c110171a887fdd737f639be57806260af352455e903e1bb0a8992129f71b", func := "fairlink/fairlinklaw23.TreeLegal", spec := "treeLegal", unfollowed := true, recurses := true, plainKeys := false, apart := false }
def TreeLegalSaid : Prop := treeLegalRow.holds Try.pinned (OpenSpec.ofChange treeLegalSpec)

/-- ITS FALSE NEIGHBOUR: 'it returns false'. Refute it at one input. -/
def treeLegalWrong : ChangeSpec := { name := "treeLegal", fn := fun _ => fun
  | [d1, d2, d3, d4] => { results := [.lit (.bool false)], args := [d1, d2, d3, d4] }
  | _ => none }
def TreeLegalWrongFalsely : Prop := treeLegalRow.holds Try.pinned (OpenSpec.ofChange treeLegalWrong)

/-- 'fairlinklaw23.TreeDeps': WHATEVER THE INPUT: true; the input reads as it did. -/
def treeDepsSpec : ChangeSpec := { name := "treeDeps", fn := fun _ => fun
  | [d1, d2, d3, d4] => { results := [.lit (.bool true)], args := [d1, d2, d3, d4] }
  | _ => none }
def treeDepsRow : OpenClaim := { program := "ytljojgpjgjfddaa", sum := "9cb3c110171a887fdd737f639be57806260af352455e903e1bb0a8992129f71b", func := "fairlink/fairlinklaw23.TreeDeps", spec := "treeDeps", unfollowed := true, recurses := true, plainKeys := false, apart := false }
def TreeDepsSaid : Prop := treeDepsRow.holds Try.pinned (OpenSpec.ofChange treeDepsSpec)

/-- ITS FALSE NEIGHBOUR: 'it returns false'. Refute it at one input. -/
def treeDepsWrong : ChangeSpec := { name := "treeDeps", fn := fun _ => fun
  | [d1, d2, d3, d4] => { results := [.lit (.bool false)], args := [d1, d2, d3, d4] }
  | _ => none }
def TreeDepsWrongFalsely : Prop := treeDepsRow.holds Try.pinned (OpenSpec.ofChange treeDepsWrong)

/- THE SECOND FORM. 'bulk': how many values and letters a reading holds, each counted each time it is reached (what is shared counts as often as it is met; a slice's spare places count too). A statement '..UptoSaid' is the law's where the arguments, and the package variables that the reading takes, are together of bulk at most 1048576: NARROWER than '..Said'. Prove '..Said' where nothing that the law and all that it calls make is longer than what came in: it says more and counts as full. Else prove '..UptoSaid'. A law counts once. -/
mutual
def uptoBulk {H : Type} : DataW H → Nat
  | .lit (.string bytes) => bytes.length + 1
  | .lit _ => 1
  | .nil => 1
  | .ptr d => uptoBulk d + 1
  | .slice elems spare => uptoBulkAll elems + uptoBulkAll spare + 1
  | .agg parts => uptoBulkAll parts + 1
  | .iface _ d => uptoBulk d + 1
  | .map entries => uptoBulkEntries entries + 1
  | .held _ => 1
def uptoBulkAll {H : Type} : List (DataW H) → Nat
  | [] => 0
  | d :: r => uptoBulk d + uptoBulkAll r
def uptoBulkEntries {H : Type} : List (Lit × DataW H) → Nat
  | [] => 0
  | x :: r => uptoBulkEntry x + uptoBulkEntries r
def uptoBulkEntry {H : Type} : Lit × DataW H → Nat
  | (.string bytes, d) => bytes.length + uptoBulk d + 1
  | (_, d) => uptoBulk d + 1
 end
def uptoSmall : (H : Type) → List (DataW H) → Bool := fun _ ds => decide (uptoBulkAll ds ≤ 1048576)
def OpenSpec.upto (s : _root_.Go.ChangeSpec) : _root_.Go.OpenSpec := { _root_.Go.OpenSpec.ofChange s with cond := some uptoSmall }

/-- 'fairlinklaw22.LocalWhole', WHERE WHAT IT READS IS OF BULK AT MOST 1048576: true; the input reads as it did. -/
def localWholeUptoRow : OpenClaim := { program := "ytljojgpjgjfddaa", sum := "9cb3c110171a887fdd737f639be57806260af352455e903e1bb0a8992129f71b", func := "fairlink/fairlinklaw22.LocalWhole", spec := "localWhole", unfollowed := true, recurses := true, maps := true, plainKeys := false, apart := false, narrowed := true }
def LocalWholeUptoSaid : Prop := localWholeUptoRow.holds Try.pinned (OpenSpec.upto localWholeSpec)

/-- 'fairlinklaw22.LocalBack', WHERE WHAT IT READS IS OF BULK AT MOST 1048576: true; the input reads as it did. -/
def localBackUptoRow : OpenClaim := { program := "ytljojgpjgjfddaa", sum := "9cb3c110171a887fdd737f639be57806260af352455e903e1bb0a8992129f71b", func := "fairlink/fairlinklaw22.LocalBack", spec := "localBack", unfollowed := true, recurses := true, plainKeys := false, apart := false, narrowed := true }
def LocalBackUptoSaid : Prop := localBackUptoRow.holds Try.pinned (OpenSpec.upto localBackSpec)

/-- 'fairlinklaw23.TreeMake', WHERE WHAT IT READS IS OF BULK AT MOST 1048576: true; the input reads as it did. -/
def treeMakeUptoRow : OpenClaim := { program := "ytljojgpjgjfddaa", sum := "9cb3c110171a887fdd737f639be57806260af352455e903e1bb0a8992129f71b", func := "fairlink/fairlinklaw23.TreeMake", spec := "treeMake", unfollowed := true, recurses := true, plainKeys := false, apart := false, narrowed := true }
def TreeMakeUptoSaid : Prop := treeMakeUptoRow.holds Try.pinned (OpenSpec.upto treeMakeSpec)

/-- 'fairlinklaw23.TreeOne', WHERE WHAT IT READS IS OF BULK AT MOST 1048576: true; the input reads as it did. -/
def treeOneUptoRow : OpenClaim := { program := "ytljojgpjgjfddaa", sum := "9cb3c110171a887fdd737f639be57806260af352455e903e1bb0a8992129f71b", func := "fairlink/fairlinklaw23.TreeOne", spec := "treeOne", unfollowed := true, recurses := true, plainKeys := false, apart := false, narrowed := true }
def TreeOneUptoSaid : Prop := treeOneUptoRow.holds Try.pinned (OpenSpec.upto treeOneSpec)

/-- 'fairlinklaw23.TreeSpoilt', WHERE WHAT IT READS IS OF BULK AT MOST 1048576: true; the input reads as it did. -/
def treeSpoiltUptoRow : OpenClaim := { program := "ytljojgpjgjfddaa", sum := "9cb3c110171a887fdd737f639be57806260af352455e903e1bb0a8992129f71b", func := "fairlink/fairlinklaw23.TreeSpoilt", spec := "treeSpoilt", unfollowed := true, recurses := true, plainKeys := false, apart := false, narrowed := true }
def TreeSpoiltUptoSaid : Prop := treeSpoiltUptoRow.holds Try.pinned (OpenSpec.upto treeSpoiltSpec)

/-- 'fairlinklaw23.TreeGrows', WHERE WHAT IT READS IS OF BULK AT MOST 1048576: true; the input reads as it did. -/
def treeGrowsUptoRow : OpenClaim := { program := "ytljojgpjgjfddaa", sum := "9cb3c110171a887fdd737f639be57806260af352455e903e1bb0a8992129f71b", func := "fairlink/fairlinklaw23.TreeGrows", spec := "treeGrows", unfollowed := true, recurses := true, plainKeys := false, apart := false, narrowed := true }
def TreeGrowsUptoSaid : Prop := treeGrowsUptoRow.holds Try.pinned (OpenSpec.upto treeGrowsSpec)

/-- 'fairlinklaw23.TreeLegal', WHERE WHAT IT READS IS OF BULK AT MOST 1048576: true; the input reads as it did. -/
def treeLegalUptoRow : OpenClaim := { program := "ytljojgpjgjfddaa", sum := "9cb3c110171a887fdd737f639be57806260af352455e903e1bb0a8992129f71b", func := "fairlink/fairlinklaw23.TreeLegal", spec := "treeLegal", unfollowed := true, recurses := true, plainKeys := false, apart := false, narrowed := true }
def TreeLegalUptoSaid : Prop := treeLegalUptoRow.holds Try.pinned (OpenSpec.upto treeLegalSpec)

/-- 'fairlinklaw23.TreeDeps', WHERE WHAT IT READS IS OF BULK AT MOST 1048576: true; the input reads as it did. -/
def treeDepsUptoRow : OpenClaim := { program := "ytljojgpjgjfddaa", sum := "9cb3c110171a887fdd737f639be57806260af352455e903e1bb0a8992129f71b", func := "fairlink/fairlinklaw23.TreeDeps", spec := "treeDeps", unfollowed := true, recurses := true, plainKeys := false, apart := false, narrowed := true }
def TreeDepsUptoSaid : Prop := treeDepsUptoRow.holds Try.pinned (OpenSpec.upto treeDepsSpec)

end Rows
end Go.Proofs.Ytljojgpjgjfddaa
