/-
  No cell of these rows narrows 'for every input' (looked for: loops, veiled, ifaces, maps, wideKeys, modest, calm, conditions, laid).
  DERIVED. THE GIVEN ROWS OF THIS SEAT. 7 by the template 'for every input the law returns true; each argument reads behind the call as it read before'; 0 by the template 'total and deterministic' (their statements: YtnjjkgjdhljfnaaGreatTotals.lean).
  GIVEN WITH THE SEED: the statements are not yours to turn. If you find one false, say at which input.
  Laid BY PROGRAM, IN A SANDBOX (cutbox-rows.mjs): the forced cells as the released guide's own fill.sh prints them over the translation 72c0807096f17d51… (all of the seat's roots in one cut). By AI agents, Wed Nov 11 2026. No macro, syntax, notation, axiom, sorry.
-/
import Derived.Test.YtnjjkgjdhljfnaaGreatChecked
import GoSem.Claim
import GoSem.ClaimJoined
import GoSem.ClaimMapViews
import Derived.JoinedTies
import Derived.KernelRfl
namespace Go.Proofs.YtnjjkgjdhljfnaaGreat
/- THE CELL 'sum', in the pinned program and in every row, IS THE sha256 OF THE DUMP (.gsa) THAT YtnjjkgjdhljfnaaGreatProg.lean LOADS. Nothing in Lean hashes anything: it is a label: what it is worth is what the hold of that sum in a sandbox is worth. -/
noncomputable def Tryz.pinned : Pinned := { name := "ytnjjkgjdhljfnaagreat", sum := "72c0807096f17d51c3df2ff87c107667608f5d505f92ec2e9e0f9959eca8c85f", checked := Tryz.checked }
namespace Rows
def none {H : Type} : Left H := { results := [], args := [] }

/-- 'fairlinklaw28.FabricErrors': WHATEVER THE INPUT: true; the input reads as it did. -/
def fabricErrorsSpec : ChangeSpec := { name := "fabricErrors", fn := fun _ => fun
  | [d1, d2, d3] => { results := [.lit (.bool true)], args := [d1, d2, d3] }
  | _ => none }
def fabricErrorsRow : OpenClaim := { program := "ytnjjkgjdhljfnaagreat", sum := "72c0807096f17d51c3df2ff87c107667608f5d505f92ec2e9e0f9959eca8c85f", func := "fairlink/fairlinklaw28.FabricErrors", spec := "fabricErrors", unfollowed := true, recurses := true, plainKeys := false, apart := false }
def FabricErrorsSaid : Prop := fabricErrorsRow.holds Tryz.pinned (OpenSpec.ofChange fabricErrorsSpec)

/-- ITS FALSE NEIGHBOUR: 'it returns false'. Refute it at one input. -/
def fabricErrorsWrong : ChangeSpec := { name := "fabricErrors", fn := fun _ => fun
  | [d1, d2, d3] => { results := [.lit (.bool false)], args := [d1, d2, d3] }
  | _ => none }
def FabricErrorsWrongFalsely : Prop := fabricErrorsRow.holds Tryz.pinned (OpenSpec.ofChange fabricErrorsWrong)

/-- 'fairlinklaw28.FabricEpochs': WHATEVER THE INPUT: true; the input reads as it did. -/
def fabricEpochsSpec : ChangeSpec := { name := "fabricEpochs", fn := fun _ => fun
  | [d1, d2, d3] => { results := [.lit (.bool true)], args := [d1, d2, d3] }
  | _ => none }
def fabricEpochsRow : OpenClaim := { program := "ytnjjkgjdhljfnaagreat", sum := "72c0807096f17d51c3df2ff87c107667608f5d505f92ec2e9e0f9959eca8c85f", func := "fairlink/fairlinklaw28.FabricEpochs", spec := "fabricEpochs", unfollowed := true, recurses := true, plainKeys := false, apart := false }
def FabricEpochsSaid : Prop := fabricEpochsRow.holds Tryz.pinned (OpenSpec.ofChange fabricEpochsSpec)

/-- ITS FALSE NEIGHBOUR: 'it returns false'. Refute it at one input. -/
def fabricEpochsWrong : ChangeSpec := { name := "fabricEpochs", fn := fun _ => fun
  | [d1, d2, d3] => { results := [.lit (.bool false)], args := [d1, d2, d3] }
  | _ => none }
def FabricEpochsWrongFalsely : Prop := fabricEpochsRow.holds Tryz.pinned (OpenSpec.ofChange fabricEpochsWrong)

/-- 'fairlinklaw28.FabricConserves': WHATEVER THE INPUT: true; the input reads as it did. -/
def fabricConservesSpec : ChangeSpec := { name := "fabricConserves", fn := fun _ => fun
  | [d1, d2, d3] => { results := [.lit (.bool true)], args := [d1, d2, d3] }
  | _ => none }
def fabricConservesRow : OpenClaim := { program := "ytnjjkgjdhljfnaagreat", sum := "72c0807096f17d51c3df2ff87c107667608f5d505f92ec2e9e0f9959eca8c85f", func := "fairlink/fairlinklaw28.FabricConserves", spec := "fabricConserves", unfollowed := true, recurses := true, plainKeys := false, apart := false }
def FabricConservesSaid : Prop := fabricConservesRow.holds Tryz.pinned (OpenSpec.ofChange fabricConservesSpec)

/-- ITS FALSE NEIGHBOUR: 'it returns false'. Refute it at one input. -/
def fabricConservesWrong : ChangeSpec := { name := "fabricConserves", fn := fun _ => fun
  | [d1, d2, d3] => { results := [.lit (.bool false)], args := [d1, d2, d3] }
  | _ => none }
def FabricConservesWrongFalsely : Prop := fabricConservesRow.holds Tryz.pinned (OpenSpec.ofChange fabricConservesWrong)

/-- 'fairlinklaw28.FabricRoom': WHATEVER THE INPUT: true; the input reads as it did. -/
def fabricRoomSpec : ChangeSpec := { name := "fabricRoom", fn := fun _ => fun
  | [d1, d2, d3] => { results := [.lit (.bool true)], args := [d1, d2, d3] }
  | _ => none }
def fabricRoomRow : OpenClaim := { program := "ytnjjkgjdhljfnaagreat", sum := "72c0807096f17d51c3df2ff87c107667608f5d505f92ec2e9e0f9959eca8c85f", func := "fairlink/fairlinklaw28.FabricRoom", spec := "fabricRoom", unfollowed := true, recurses := true, plainKeys := false, apart := false }
def FabricRoomSaid : Prop := fabricRoomRow.holds Tryz.pinned (OpenSpec.ofChange fabricRoomSpec)

/-- ITS FALSE NEIGHBOUR: 'it returns false'. Refute it at one input. -/
def fabricRoomWrong : ChangeSpec := { name := "fabricRoom", fn := fun _ => fun
  | [d1, d2, d3] => { results := [.lit (.bool false)], args := [d1, d2, d3] }
  | _ => none }
def FabricRoomWrongFalsely : Prop := fabricRoomRow.holds Tryz.pinned (OpenSpec.ofChange fabricRoomWrong)

/-- 'fairlinklaw28.FabricNoCircle': WHATEVER THE INPUT: true; the input reads as it did. -/
def fabricNoCircleSpec : ChangeSpec := { name := "fabricNoCircle", fn := fun _ => fun
  | [d1, d2, d3] => { results := [.lit (.bool true)], args := [d1, d2, d3] }
  | _ => none }
def fabricNoCircleRow : OpenClaim := { program := "ytnjjkgjdhljfnaagreat", sum := "72c0807096f17d51c3df2ff87c107667608f5d505f92ec2e9e0f9959eca8c85f", func := "fairlink/fairlinklaw28.FabricNoCircle", spec := "fabricNoCircle", unfollowed := true, recurses := true, plainKeys := false, apart := false }
def FabricNoCircleSaid : Prop := fabricNoCircleRow.holds Tryz.pinned (OpenSpec.ofChange fabricNoCircleSpec)

/-- ITS FALSE NEIGHBOUR: 'it returns false'. Refute it at one input. -/
def fabricNoCircleWrong : ChangeSpec := { name := "fabricNoCircle", fn := fun _ => fun
  | [d1, d2, d3] => { results := [.lit (.bool false)], args := [d1, d2, d3] }
  | _ => none }
def FabricNoCircleWrongFalsely : Prop := fabricNoCircleRow.holds Tryz.pinned (OpenSpec.ofChange fabricNoCircleWrong)

/-- 'fairlinklaw28.FabricHeals': WHATEVER THE INPUT: true; the input reads as it did. -/
def fabricHealsSpec : ChangeSpec := { name := "fabricHeals", fn := fun _ => fun
  | [d1, d2, d3, d4, d5, d6] => { results := [.lit (.bool true)], args := [d1, d2, d3, d4, d5, d6] }
  | _ => none }
def fabricHealsRow : OpenClaim := { program := "ytnjjkgjdhljfnaagreat", sum := "72c0807096f17d51c3df2ff87c107667608f5d505f92ec2e9e0f9959eca8c85f", func := "fairlink/fairlinklaw28.FabricHeals", spec := "fabricHeals", unfollowed := true, recurses := true, plainKeys := false, apart := false }
def FabricHealsSaid : Prop := fabricHealsRow.holds Tryz.pinned (OpenSpec.ofChange fabricHealsSpec)

/-- ITS FALSE NEIGHBOUR: 'it returns false'. Refute it at one input. -/
def fabricHealsWrong : ChangeSpec := { name := "fabricHeals", fn := fun _ => fun
  | [d1, d2, d3, d4, d5, d6] => { results := [.lit (.bool false)], args := [d1, d2, d3, d4, d5, d6] }
  | _ => none }
def FabricHealsWrongFalsely : Prop := fabricHealsRow.holds Tryz.pinned (OpenSpec.ofChange fabricHealsWrong)

/-- 'fairlinklaw28.FabricEmpties': WHATEVER THE INPUT: true; the input reads as it did. -/
def fabricEmptiesSpec : ChangeSpec := { name := "fabricEmpties", fn := fun _ => fun
  | [d1, d2, d3] => { results := [.lit (.bool true)], args := [d1, d2, d3] }
  | _ => none }
def fabricEmptiesRow : OpenClaim := { program := "ytnjjkgjdhljfnaagreat", sum := "72c0807096f17d51c3df2ff87c107667608f5d505f92ec2e9e0f9959eca8c85f", func := "fairlink/fairlinklaw28.FabricEmpties", spec := "fabricEmpties", unfollowed := true, recurses := true, plainKeys := false, apart := false }
def FabricEmptiesSaid : Prop := fabricEmptiesRow.holds Tryz.pinned (OpenSpec.ofChange fabricEmptiesSpec)

/-- ITS FALSE NEIGHBOUR: 'it returns false'. Refute it at one input. -/
def fabricEmptiesWrong : ChangeSpec := { name := "fabricEmpties", fn := fun _ => fun
  | [d1, d2, d3] => { results := [.lit (.bool false)], args := [d1, d2, d3] }
  | _ => none }
def FabricEmptiesWrongFalsely : Prop := fabricEmptiesRow.holds Tryz.pinned (OpenSpec.ofChange fabricEmptiesWrong)

/- THE SECOND FORM. 'bulk': how many values and letters a reading holds, each counted each time it is reached (what is shared counts as often as it is met; a slice's spare places count too). A statement '..UptoSaid' is the law's where the arguments, and the package variables that the reading takes, are together of bulk at most 1048576: NARROWER than '..Said'. Prove '..Said' where nothing that the law and all that it calls make is longer than what came in: it says more and counts as full. Else prove '..UptoSaid'. A law counts once. -/
mutual
def uptoBulk {H : Type} : DataW H → Nat
  | .lit (.string bytes) => bytes.length + 1
  | .lit _ => 1
  | .nil => 1
  | .ptr d => uptoBulk d + 1
  | .slice elems spare => uptoBulkAll elems + uptoBulkAll spare + 1
  | .agg parts => uptoBulkAll parts + 1
  | .iface _ d => uptoBulk d + 1
  | .map entries => uptoBulkEntries entries + 1
  | .held _ => 1
def uptoBulkAll {H : Type} : List (DataW H) → Nat
  | [] => 0
  | d :: r => uptoBulk d + uptoBulkAll r
def uptoBulkEntries {H : Type} : List (Lit × DataW H) → Nat
  | [] => 0
  | x :: r => uptoBulkEntry x + uptoBulkEntries r
def uptoBulkEntry {H : Type} : Lit × DataW H → Nat
  | (.string bytes, d) => bytes.length + uptoBulk d + 1
  | (_, d) => uptoBulk d + 1
 end
def uptoSmall : (H : Type) → List (DataW H) → Bool := fun _ ds => decide (uptoBulkAll ds ≤ 1048576)
def OpenSpec.upto (s : _root_.Go.ChangeSpec) : _root_.Go.OpenSpec := { _root_.Go.OpenSpec.ofChange s with cond := some uptoSmall }

/-- 'fairlinklaw28.FabricErrors', WHERE WHAT IT READS IS OF BULK AT MOST 1048576: true; the input reads as it did. -/
def fabricErrorsUptoRow : OpenClaim := { program := "ytnjjkgjdhljfnaagreat", sum := "72c0807096f17d51c3df2ff87c107667608f5d505f92ec2e9e0f9959eca8c85f", func := "fairlink/fairlinklaw28.FabricErrors", spec := "fabricErrors", unfollowed := true, recurses := true, plainKeys := false, apart := false, narrowed := true }
def FabricErrorsUptoSaid : Prop := fabricErrorsUptoRow.holds Tryz.pinned (OpenSpec.upto fabricErrorsSpec)

/-- 'fairlinklaw28.FabricEpochs', WHERE WHAT IT READS IS OF BULK AT MOST 1048576: true; the input reads as it did. -/
def fabricEpochsUptoRow : OpenClaim := { program := "ytnjjkgjdhljfnaagreat", sum := "72c0807096f17d51c3df2ff87c107667608f5d505f92ec2e9e0f9959eca8c85f", func := "fairlink/fairlinklaw28.FabricEpochs", spec := "fabricEpochs", unfollowed := true, recurses := true, plainKeys := false, apart := false, narrowed := true }
def FabricEpochsUptoSaid : Prop := fabricEpochsUptoRow.holds Tryz.pinned (OpenSpec.upto fabricEpochsSpec)

/-- 'fairlinklaw28.FabricConserves', WHERE WHAT IT READS IS OF BULK AT MOST 1048576: true; the input reads as it did. -/
def fabricConservesUptoRow : OpenClaim := { program := "ytnjjkgjdhljfnaagreat", sum := "72c0807096f17d51c3df2ff87c107667608f5d505f92ec2e9e0f9959eca8c85f", func := "fairlink/fairlinklaw28.FabricConserves", spec := "fabricConserves", unfollowed := true, recurses := true, plainKeys := false, apart := false, narrowed := true }
def FabricConservesUptoSaid : Prop := fabricConservesUptoRow.holds Tryz.pinned (OpenSpec.upto fabricConservesSpec)

/-- 'fairlinklaw28.FabricRoom', WHERE WHAT IT READS IS OF BULK AT MOST 1048576: true; the input reads as it did. -/
def fabricRoomUptoRow : OpenClaim := { program := "ytnjjkgjdhljfnaagreat", sum := "72c0807096f17d51c3df2ff87c107667608f5d505f92ec2e9e0f9959eca8c85f", func := "fairlink/fairlinklaw28.FabricRoom", spec := "fabricRoom", unfollowed := true, recurses := true, plainKeys := false, apart := false, narrowed := true }
def FabricRoomUptoSaid : Prop := fabricRoomUptoRow.holds Tryz.pinned (OpenSpec.upto fabricRoomSpec)

/-- 'fairlinklaw28.FabricNoCircle', WHERE WHAT IT READS IS OF BULK AT MOST 1048576: true; the input reads as it did. -/
def fabricNoCircleUptoRow : OpenClaim := { program := "ytnjjkgjdhljfnaagreat", sum := "72c0807096f17d51c3df2ff87c107667608f5d505f92ec2e9e0f9959eca8c85f", func := "fairlink/fairlinklaw28.FabricNoCircle", spec := "fabricNoCircle", unfollowed := true, recurses := true, plainKeys := false, apart := false, narrowed := true }
def FabricNoCircleUptoSaid : Prop := fabricNoCircleUptoRow.holds Tryz.pinned (OpenSpec.upto fabricNoCircleSpec)

/-- 'fairlinklaw28.FabricHeals', WHERE WHAT IT READS IS OF BULK AT MOST 1048576: true; the input reads as it did. -/
def fabricHealsUptoRow : OpenClaim := { program := "ytnjjkgjdhljfnaagreat", sum := "72c0807096f17d51c3df2ff87c107667608f5d505f92ec2e9e0f9959eca8c85f", func := "fairlink/fairlinklaw28.FabricHeals", spec := "fabricHeals", unfollowed := true, recurses := true, plainKeys := false, apart := false, narrowed := true }
def FabricHealsUptoSaid : Prop := fabricHealsUptoRow.holds Tryz.pinned (OpenSpec.upto fabricHealsSpec)

/-- 'fairlinklaw28.FabricEmpties', WHERE WHAT IT READS IS OF BULK AT MOST 1048576: true; the input reads as it did. -/
def fabricEmptiesUptoRow : OpenClaim := { program := "ytnjjkgjdhljfnaagreat", sum := "72c0807096f17d51c3df2ff87c107667608f5d505f92ec2e9e0f9959eca8c85f", func := "fairlink/fairlinklaw28.FabricEmpties", spec := "fabricEmpties", unfollowed := true, recurses := true, plainKeys := false, apart := false, narrowed := true }
def FabricEmptiesUptoSaid : Prop := fabricEmptiesUptoRow.holds Tryz.pinned (OpenSpec.upto fabricEmptiesSpec)

end Rows
end Go.Proofs.YtnjjkgjdhljfnaaGreat
