/-
  No cell of these rows narrows 'for every input' (looked for: loops, veiled, ifaces, maps, wideKeys, modest, calm, conditions, laid).
  DERIVED. THE GIVEN ROWS OF THIS SEAT. 9 by the template 'for every input the law returns true; each argument reads behind the call as it read before'; 0 by the template 'total and deterministic' (their statements: YtlhblaemoejefaaTotals.lean).
  GIVEN WITH THE SEED: the statements are not yours to turn. If you find one false, say at which input.
  Laid BY PROGRAM, IN A SANDBOX (cutbox-rows.mjs): the forced cells as the released guide's own fill.sh prints them over the translation 30acbc1c782b22f3… (all of the seat's roots in one cut). By AI agents, Wed Nov 11 2026. No macro, syntax, notation, axiom, sorry.
-/
import Derived.Test.YtlhblaemoejefaaChecked
import GoSem.Claim
import GoSem.ClaimJoined
import GoSem.ClaimMapViews
import Derived.JoinedTies
import Derived.KernelRfl
namespace Go.Proofs.Ytlhblaemoejefaa
/- THE CELL 'sum', in the pinned program and in every row, IS THE sha256 OF THE DUMP (.gsa) THAT YtlhblaemoejefaaProg.lean LOADS. Nothing in Lean hashes anything: it is a label: what it is worth is what the hold of that sum in a sandbox is worth. -/
noncomputable def Try.pinned : Pinned := { name := "ytlhblaemoejefaa", sum := "30acbc1c782b22f328549f54bada7b749b21f500fad877323613e949c4189cb1", checked := Try.checked }
namespace Rows
def none {H : Type} : Left H := { results := [], args := [] }

/-- 'fairlinklaw20.ChannelNumbers': WHATEVER THE INPUT: true; the input reads as it did. -/
def channelNumbersSpec : ChangeSpec := { name := "channelNumbers", fn := fun _ => fun
  | [d1, d2] => { results := [.lit (.bool true)], args := [d1, d2] }
  | _ => none }
def channelNumbersRow : OpenClaim := { program := "ytlhblaemoejefaa", sum := "30acbc1c782b22f328549f54bada7b749b21f500fad877323613e949c4189cb1", func := "fairlink/fairlinklaw20.ChannelNumbers", spec := "channelNumbers", unfollowed := true, recurses := true, plainKeys := false, apart := false }
def ChannelNumbersSaid : Prop := channelNumbersRow.holds Try.pinned (OpenSpec.ofChange channelNumbersSpec)

/-- ITS FALSE NEIGHBOUR: 'it returns false'. Refute it at one input. -/
def channelNumbersWrong : ChangeSpec := { name := "channelNumbers", fn := fun _ => fun
  | [d1, d2] => { results := [.lit (.bool false)], args := [d1, d2] }
  | _ => none }
def ChannelNumbersWrongFalsely : Prop := channelNumbersRow.holds Try.pinned (OpenSpec.ofChange channelNumbersWrong)

/-- 'fairlinklaw20.ChannelUnions': WHATEVER THE INPUT: true; the input reads as it did. -/
def channelUnionsSpec : ChangeSpec := { name := "channelUnions", fn := fun _ => fun
  | [d1, d2] => { results := [.lit (.bool true)], args := [d1, d2] }
  | _ => none }
def channelUnionsRow : OpenClaim := { program := "ytlhblaemoejefaa", sum := "30acbc1c782b22f328549f54bada7b749b21f500fad877323613e949c4189cb1", func := "fairlink/fairlinklaw20.ChannelUnions", spec := "channelUnions", unfollowed := true, recurses := true, plainKeys := false, apart := false }
def ChannelUnionsSaid : Prop := channelUnionsRow.holds Try.pinned (OpenSpec.ofChange channelUnionsSpec)

/-- ITS FALSE NEIGHBOUR: 'it returns false'. Refute it at one input. -/
def channelUnionsWrong : ChangeSpec := { name := "channelUnions", fn := fun _ => fun
  | [d1, d2] => { results := [.lit (.bool false)], args := [d1, d2] }
  | _ => none }
def ChannelUnionsWrongFalsely : Prop := channelUnionsRow.holds Try.pinned (OpenSpec.ofChange channelUnionsWrong)

/-- 'fairlinklaw20.ChannelEnds': WHATEVER THE INPUT: true; the input reads as it did. -/
def channelEndsSpec : ChangeSpec := { name := "channelEnds", fn := fun _ => fun
  | [d1, d2] => { results := [.lit (.bool true)], args := [d1, d2] }
  | _ => none }
def channelEndsRow : OpenClaim := { program := "ytlhblaemoejefaa", sum := "30acbc1c782b22f328549f54bada7b749b21f500fad877323613e949c4189cb1", func := "fairlink/fairlinklaw20.ChannelEnds", spec := "channelEnds", unfollowed := true, recurses := true, plainKeys := false, apart := false }
def ChannelEndsSaid : Prop := channelEndsRow.holds Try.pinned (OpenSpec.ofChange channelEndsSpec)

/-- ITS FALSE NEIGHBOUR: 'it returns false'. Refute it at one input. -/
def channelEndsWrong : ChangeSpec := { name := "channelEnds", fn := fun _ => fun
  | [d1, d2] => { results := [.lit (.bool false)], args := [d1, d2] }
  | _ => none }
def ChannelEndsWrongFalsely : Prop := channelEndsRow.holds Try.pinned (OpenSpec.ofChange channelEndsWrong)

/-- 'fairlinklaw20.ChannelRings': WHATEVER THE INPUT: true; the input reads as it did. -/
def channelRingsSpec : ChangeSpec := { name := "channelRings", fn := fun _ => fun
  | [d1, d2] => { results := [.lit (.bool true)], args := [d1, d2] }
  | _ => none }
def channelRingsRow : OpenClaim := { program := "ytlhblaemoejefaa", sum := "30acbc1c782b22f328549f54bada7b749b21f500fad877323613e949c4189cb1", func := "fairlink/fairlinklaw20.ChannelRings", spec := "channelRings", unfollowed := true, recurses := true, plainKeys := false, apart := false }
def ChannelRingsSaid : Prop := channelRingsRow.holds Try.pinned (OpenSpec.ofChange channelRingsSpec)

/-- ITS FALSE NEIGHBOUR: 'it returns false'. Refute it at one input. -/
def channelRingsWrong : ChangeSpec := { name := "channelRings", fn := fun _ => fun
  | [d1, d2] => { results := [.lit (.bool false)], args := [d1, d2] }
  | _ => none }
def ChannelRingsWrongFalsely : Prop := channelRingsRow.holds Try.pinned (OpenSpec.ofChange channelRingsWrong)

/-- 'fairlinklaw20.ChannelCycles': WHATEVER THE INPUT: true; the input reads as it did. -/
def channelCyclesSpec : ChangeSpec := { name := "channelCycles", fn := fun _ => fun
  | [d] => { results := [.lit (.bool true)], args := [d] }
  | _ => none }
def channelCyclesRow : OpenClaim := { program := "ytlhblaemoejefaa", sum := "30acbc1c782b22f328549f54bada7b749b21f500fad877323613e949c4189cb1", func := "fairlink/fairlinklaw20.ChannelCycles", spec := "channelCycles", unfollowed := true, recurses := true, plainKeys := false, apart := false }
def ChannelCyclesSaid : Prop := channelCyclesRow.holds Try.pinned (OpenSpec.ofChange channelCyclesSpec)

/-- ITS FALSE NEIGHBOUR: 'it returns false'. Refute it at one input. -/
def channelCyclesWrong : ChangeSpec := { name := "channelCycles", fn := fun _ => fun
  | [d] => { results := [.lit (.bool false)], args := [d] }
  | _ => none }
def ChannelCyclesWrongFalsely : Prop := channelCyclesRow.holds Try.pinned (OpenSpec.ofChange channelCyclesWrong)

/-- 'fairlinklaw20.ChannelDeps': WHATEVER THE INPUT: true; the input reads as it did. -/
def channelDepsSpec : ChangeSpec := { name := "channelDeps", fn := fun _ => fun
  | [d1, d2, d3] => { results := [.lit (.bool true)], args := [d1, d2, d3] }
  | _ => none }
def channelDepsRow : OpenClaim := { program := "ytlhblaemoejefaa", sum := "30acbc1c782b22f328549f54bada7b749b21f500fad877323613e949c4189cb1", func := "fairlink/fairlinklaw20.ChannelDeps", spec := "channelDeps", unfollowed := true, recurses := true, plainKeys := false, apart := false }
def ChannelDepsSaid : Prop := channelDepsRow.holds Try.pinned (OpenSpec.ofChange channelDepsSpec)

/-- ITS FALSE NEIGHBOUR: 'it returns false'. Refute it at one input. -/
def channelDepsWrong : ChangeSpec := { name := "channelDeps", fn := fun _ => fun
  | [d1, d2, d3] => { results := [.lit (.bool false)], args := [d1, d2, d3] }
  | _ => none }
def ChannelDepsWrongFalsely : Prop := channelDepsRow.holds Try.pinned (OpenSpec.ofChange channelDepsWrong)

/-- 'fairlinklaw20.ChannelAcyclic': WHATEVER THE INPUT: true; the input reads as it did. -/
def channelAcyclicSpec : ChangeSpec := { name := "channelAcyclic", fn := fun _ => fun
  | [d1, d2, d3] => { results := [.lit (.bool true)], args := [d1, d2, d3] }
  | _ => none }
def channelAcyclicRow : OpenClaim := { program := "ytlhblaemoejefaa", sum := "30acbc1c782b22f328549f54bada7b749b21f500fad877323613e949c4189cb1", func := "fairlink/fairlinklaw20.ChannelAcyclic", spec := "channelAcyclic", unfollowed := true, recurses := true, plainKeys := false, apart := false }
def ChannelAcyclicSaid : Prop := channelAcyclicRow.holds Try.pinned (OpenSpec.ofChange channelAcyclicSpec)

/-- ITS FALSE NEIGHBOUR: 'it returns false'. Refute it at one input. -/
def channelAcyclicWrong : ChangeSpec := { name := "channelAcyclic", fn := fun _ => fun
  | [d1, d2, d3] => { results := [.lit (.bool false)], args := [d1, d2, d3] }
  | _ => none }
def ChannelAcyclicWrongFalsely : Prop := channelAcyclicRow.holds Try.pinned (OpenSpec.ofChange channelAcyclicWrong)

/-- 'fairlinklaw20.ChannelFollows': WHATEVER THE INPUT: true; the input reads as it did. -/
def channelFollowsSpec : ChangeSpec := { name := "channelFollows", fn := fun _ => fun
  | [d1, d2, d3] => { results := [.lit (.bool true)], args := [d1, d2, d3] }
  | _ => none }
def channelFollowsRow : OpenClaim := { program := "ytlhblaemoejefaa", sum := "30acbc1c782b22f328549f54bada7b749b21f500fad877323613e949c4189cb1", func := "fairlink/fairlinklaw20.ChannelFollows", spec := "channelFollows", unfollowed := true, recurses := true, plainKeys := false, apart := false }
def ChannelFollowsSaid : Prop := channelFollowsRow.holds Try.pinned (OpenSpec.ofChange channelFollowsSpec)

/-- ITS FALSE NEIGHBOUR: 'it returns false'. Refute it at one input. -/
def channelFollowsWrong : ChangeSpec := { name := "channelFollows", fn := fun _ => fun
  | [d1, d2, d3] => { results := [.lit (.bool false)], args := [d1, d2, d3] }
  | _ => none }
def ChannelFollowsWrongFalsely : Prop := channelFollowsRow.holds Try.pinned (OpenSpec.ofChange channelFollowsWrong)

/-- 'fairlinklaw20.ChannelTurns': WHATEVER THE INPUT: true; the input reads as it did. -/
def channelTurnsSpec : ChangeSpec := { name := "channelTurns", fn := fun _ => fun
  | [d1, d2, d3] => { results := [.lit (.bool true)], args := [d1, d2, d3] }
  | _ => none }
def channelTurnsRow : OpenClaim := { program := "ytlhblaemoejefaa", sum := "30acbc1c782b22f328549f54bada7b749b21f500fad877323613e949c4189cb1", func := "fairlink/fairlinklaw20.ChannelTurns", spec := "channelTurns", unfollowed := true, recurses := true, plainKeys := false, apart := false }
def ChannelTurnsSaid : Prop := channelTurnsRow.holds Try.pinned (OpenSpec.ofChange channelTurnsSpec)

/-- ITS FALSE NEIGHBOUR: 'it returns false'. Refute it at one input. -/
def channelTurnsWrong : ChangeSpec := { name := "channelTurns", fn := fun _ => fun
  | [d1, d2, d3] => { results := [.lit (.bool false)], args := [d1, d2, d3] }
  | _ => none }
def ChannelTurnsWrongFalsely : Prop := channelTurnsRow.holds Try.pinned (OpenSpec.ofChange channelTurnsWrong)

/- THE SECOND FORM. 'bulk': how many values and letters a reading holds, each counted each time it is reached (what is shared counts as often as it is met; a slice's spare places count too). A statement '..UptoSaid' is the law's where the arguments, and the package variables that the reading takes, are together of bulk at most 1048576: NARROWER than '..Said'. Prove '..Said' where nothing that the law and all that it calls make is longer than what came in: it says more and counts as full. Else prove '..UptoSaid'. A law counts once. -/
mutual
def uptoBulk {H : Type} : DataW H → Nat
  | .lit (.string bytes) => bytes.length + 1
  | .lit _ => 1
  | .nil => 1
  | .ptr d => uptoBulk d + 1
  | .slice elems spare => uptoBulkAll elems + uptoBulkAll spare + 1
  | .agg parts => uptoBulkAll parts + 1
  | .iface _ d => uptoBulk d + 1
  | .map entries => uptoBulkEntries entries + 1
  | .held _ => 1
def uptoBulkAll {H : Type} : List (DataW H) → Nat
  | [] => 0
  | d :: r => uptoBulk d + uptoBulkAll r
def uptoBulkEntries {H : Type} : List (Lit × DataW H) → Nat
  | [] => 0
  | x :: r => uptoBulkEntry x + uptoBulkEntries r
def uptoBulkEntry {H : Type} : Lit × DataW H → Nat
  | (.string bytes, d) => bytes.length + uptoBulk d + 1
  | (_, d) => uptoBulk d + 1
 end
def uptoSmall : (H : Type) → List (DataW H) → Bool := fun _ ds => decide (uptoBulkAll ds ≤ 1048576)
def OpenSpec.upto (s : _root_.Go.ChangeSpec) : _root_.Go.OpenSpec := { _root_.Go.OpenSpec.ofChange s with cond := some uptoSmall }

/-- 'fairlinklaw20.ChannelNumbers', WHERE WHAT IT READS IS OF BULK AT MOST 1048576: true; the input reads as it did. -/
def channelNumbersUptoRow : OpenClaim := { program := "ytlhblaemoejefaa", sum := "30acbc1c782b22f328549f54bada7b749b21f500fad877323613e949c4189cb1", func := "fairlink/fairlinklaw20.ChannelNumbers", spec := "channelNumbers", unfollowed := true, recurses := true, plainKeys := false, apart := false, narrowed := true }
def ChannelNumbersUptoSaid : Prop := channelNumbersUptoRow.holds Try.pinned (OpenSpec.upto channelNumbersSpec)

/-- 'fairlinklaw20.ChannelUnions', WHERE WHAT IT READS IS OF BULK AT MOST 1048576: true; the input reads as it did. -/
def channelUnionsUptoRow : OpenClaim := { program := "ytlhblaemoejefaa", sum := "30acbc1c782b22f328549f54bada7b749b21f500fad877323613e949c4189cb1", func := "fairlink/fairlinklaw20.ChannelUnions", spec := "channelUnions", unfollowed := true, recurses := true, plainKeys := false, apart := false, narrowed := true }
def ChannelUnionsUptoSaid : Prop := channelUnionsUptoRow.holds Try.pinned (OpenSpec.upto channelUnionsSpec)

/-- 'fairlinklaw20.ChannelEnds', WHERE WHAT IT READS IS OF BULK AT MOST 1048576: true; the input reads as it did. -/
def channelEndsUptoRow : OpenClaim := { program := "ytlhblaemoejefaa", sum := "30acbc1c782b22f328549f54bada7b749b21f500fad877323613e949c4189cb1", func := "fairlink/fairlinklaw20.ChannelEnds", spec := "channelEnds", unfollowed := true, recurses := true, plainKeys := false, apart := false, narrowed := true }
def ChannelEndsUptoSaid : Prop := channelEndsUptoRow.holds Try.pinned (OpenSpec.upto channelEndsSpec)

/-- 'fairlinklaw20.ChannelRings', WHERE WHAT IT READS IS OF BULK AT MOST 1048576: true; the input reads as it did. -/
def channelRingsUptoRow : OpenClaim := { program := "ytlhblaemoejefaa", sum := "30acbc1c782b22f328549f54bada7b749b21f500fad877323613e949c4189cb1", func := "fairlink/fairlinklaw20.ChannelRings", spec := "channelRings", unfollowed := true, recurses := true, plainKeys := false, apart := false, narrowed := true }
def ChannelRingsUptoSaid : Prop := channelRingsUptoRow.holds Try.pinned (OpenSpec.upto channelRingsSpec)

/-- 'fairlinklaw20.ChannelCycles', WHERE WHAT IT READS IS OF BULK AT MOST 1048576: true; the input reads as it did. -/
def channelCyclesUptoRow : OpenClaim := { program := "ytlhblaemoejefaa", sum := "30acbc1c782b22f328549f54bada7b749b21f500fad877323613e949c4189cb1", func := "fairlink/fairlinklaw20.ChannelCycles", spec := "channelCycles", unfollowed := true, recurses := true, plainKeys := false, apart := false, narrowed := true }
def ChannelCyclesUptoSaid : Prop := channelCyclesUptoRow.holds Try.pinned (OpenSpec.upto channelCyclesSpec)

/-- 'fairlinklaw20.ChannelDeps', WHERE WHAT IT READS IS OF BULK AT MOST 1048576: true; the input reads as it did. -/
def channelDepsUptoRow : OpenClaim := { program := "ytlhblaemoejefaa", sum := "30acbc1c782b22f328549f54bada7b749b21f500fad877323613e949c4189cb1", func := "fairlink/fairlinklaw20.ChannelDeps", spec := "channelDeps", unfollowed := true, recurses := true, plainKeys := false, apart := false, narrowed := true }
def ChannelDepsUptoSaid : Prop := channelDepsUptoRow.holds Try.pinned (OpenSpec.upto channelDepsSpec)

/-- 'fairlinklaw20.ChannelAcyclic', WHERE WHAT IT READS IS OF BULK AT MOST 1048576: true; the input reads as it did. -/
def channelAcyclicUptoRow : OpenClaim := { program := "ytlhblaemoejefaa", sum := "30acbc1c782b22f328549f54bada7b749b21f500fad877323613e949c4189cb1", func := "fairlink/fairlinklaw20.ChannelAcyclic", spec := "channelAcyclic", unfollowed := true, recurses := true, plainKeys := false, apart := false, narrowed := true }
def ChannelAcyclicUptoSaid : Prop := channelAcyclicUptoRow.holds Try.pinned (OpenSpec.upto channelAcyclicSpec)

/-- 'fairlinklaw20.ChannelFollows', WHERE WHAT IT READS IS OF BULK AT MOST 1048576: true; the input reads as it did. -/
def channelFollowsUptoRow : OpenClaim := { program := "ytlhblaemoejefaa", sum := "30acbc1c782b22f328549f54bada7b749b21f500fad877323613e949c4189cb1", func := "fairlink/fairlinklaw20.ChannelFollows", spec := "channelFollows", unfollowed := true, recurses := true, plainKeys := false, apart := false, narrowed := true }
def ChannelFollowsUptoSaid : Prop := channelFollowsUptoRow.holds Try.pinned (OpenSpec.upto channelFollowsSpec)

/-- 'fairlinklaw20.ChannelTurns', WHERE WHAT IT READS IS OF BULK AT MOST 1048576: true; the input reads as it did. -/
def channelTurnsUptoRow : OpenClaim := { program := "ytlhblaemoejefaa", sum := "30acbc1c782b22f328549f54bada7b749b21f500fad877323613e949c4189cb1", func := "fairlink/fairlinklaw20.ChannelTurns", spec := "channelTurns", unfollowed := true, recurses := true, plainKeys := false, apart := false, narrowed := true }
def ChannelTurnsUptoSaid : Prop := channelTurnsUptoRow.holds Try.pinned (OpenSpec.upto channelTurnsSpec)

end Rows
end Go.Proofs.Ytlhblaemoejefaa
