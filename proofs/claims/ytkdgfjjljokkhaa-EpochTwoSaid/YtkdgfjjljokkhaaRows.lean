/-
  No cell of these rows narrows 'for every input' (looked for: loops, veiled, ifaces, maps, wideKeys, modest, calm, conditions, laid).
  DERIVED. THE GIVEN ROWS OF THIS SEAT. 8 by the template 'for every input the law returns true; each argument reads behind the call as it read before'; 0 by the template 'total and deterministic' (their statements: YtkdgfjjljokkhaaTotals.lean).
  GIVEN WITH THE SEED: the statements are not yours to turn. If you find one false, say at which input.
  Laid BY PROGRAM, IN A SANDBOX (cutbox-rows.mjs): the forced cells as the released guide's own fill.sh prints them over the translation a5c8f40dc2fcd5c4… (all of the seat's roots in one cut). By AI agents, Wed Nov 11 2026. No macro, syntax, notation, axiom, sorry.
-/
import Derived.Test.YtkdgfjjljokkhaaChecked
import GoSem.Claim
import GoSem.ClaimJoined
import GoSem.ClaimMapViews
import Derived.JoinedTies
import Derived.KernelRfl
namespace Go.Proofs.Ytkdgfjjljokkhaa
/- THE CELL 'sum', in the pinned program and in every row, IS THE sha256 OF THE DUMP (.gsa) THAT YtkdgfjjljokkhaaProg.lean LOADS. Nothing in Lean hashes anything: it is a label: what it is worth is what the hold of that sum in a sandbox is worth. -/
noncomputable def Try.pinned : Pinned := { name := "ytkdgfjjljokkhaa", sum := "a5c8f40dc2fcd5c439fdf44fad9eb29f81173444d74b59f8a5edccd48ab3a9cd", checked := Try.checked }
namespace Rows
def none {H : Type} : Left H := { results := [], args := [] }

/-- 'fairlinklaw24.EpochPlays': WHATEVER THE INPUT: true; the input reads as it did. -/
def epochPlaysSpec : ChangeSpec := { name := "epochPlays", fn := fun _ => fun
  | [d1, d2] => { results := [.lit (.bool true)], args := [d1, d2] }
  | _ => none }
def epochPlaysRow : OpenClaim := { program := "ytkdgfjjljokkhaa", sum := "a5c8f40dc2fcd5c439fdf44fad9eb29f81173444d74b59f8a5edccd48ab3a9cd", func := "fairlink/fairlinklaw24.EpochPlays", spec := "epochPlays", apart := false }
def EpochPlaysSaid : Prop := epochPlaysRow.holds Try.pinned (OpenSpec.ofChange epochPlaysSpec)

/-- ITS FALSE NEIGHBOUR: 'it returns false'. Refute it at one input. -/
def epochPlaysWrong : ChangeSpec := { name := "epochPlays", fn := fun _ => fun
  | [d1, d2] => { results := [.lit (.bool false)], args := [d1, d2] }
  | _ => none }
def EpochPlaysWrongFalsely : Prop := epochPlaysRow.holds Try.pinned (OpenSpec.ofChange epochPlaysWrong)

/-- 'fairlinklaw24.EpochTwo': WHATEVER THE INPUT: true; the input reads as it did. -/
def epochTwoSpec : ChangeSpec := { name := "epochTwo", fn := fun _ => fun
  | [d1, d2] => { results := [.lit (.bool true)], args := [d1, d2] }
  | _ => none }
def epochTwoRow : OpenClaim := { program := "ytkdgfjjljokkhaa", sum := "a5c8f40dc2fcd5c439fdf44fad9eb29f81173444d74b59f8a5edccd48ab3a9cd", func := "fairlink/fairlinklaw24.EpochTwo", spec := "epochTwo", apart := false }
def EpochTwoSaid : Prop := epochTwoRow.holds Try.pinned (OpenSpec.ofChange epochTwoSpec)

/-- ITS FALSE NEIGHBOUR: 'it returns false'. Refute it at one input. -/
def epochTwoWrong : ChangeSpec := { name := "epochTwo", fn := fun _ => fun
  | [d1, d2] => { results := [.lit (.bool false)], args := [d1, d2] }
  | _ => none }
def EpochTwoWrongFalsely : Prop := epochTwoRow.holds Try.pinned (OpenSpec.ofChange epochTwoWrong)

/-- 'fairlinklaw24.EpochCounts': WHATEVER THE INPUT: true; the input reads as it did. -/
def epochCountsSpec : ChangeSpec := { name := "epochCounts", fn := fun _ => fun
  | [d] => { results := [.lit (.bool true)], args := [d] }
  | _ => none }
def epochCountsRow : OpenClaim := { program := "ytkdgfjjljokkhaa", sum := "a5c8f40dc2fcd5c439fdf44fad9eb29f81173444d74b59f8a5edccd48ab3a9cd", func := "fairlink/fairlinklaw24.EpochCounts", spec := "epochCounts", apart := false }
def EpochCountsSaid : Prop := epochCountsRow.holds Try.pinned (OpenSpec.ofChange epochCountsSpec)

/-- ITS FALSE NEIGHBOUR: 'it returns false'. Refute it at one input. -/
def epochCountsWrong : ChangeSpec := { name := "epochCounts", fn := fun _ => fun
  | [d] => { results := [.lit (.bool false)], args := [d] }
  | _ => none }
def EpochCountsWrongFalsely : Prop := epochCountsRow.holds Try.pinned (OpenSpec.ofChange epochCountsWrong)

/-- 'fairlinklaw24.EpochGoes': WHATEVER THE INPUT: true; the input reads as it did. -/
def epochGoesSpec : ChangeSpec := { name := "epochGoes", fn := fun _ => fun
  | [d] => { results := [.lit (.bool true)], args := [d] }
  | _ => none }
def epochGoesRow : OpenClaim := { program := "ytkdgfjjljokkhaa", sum := "a5c8f40dc2fcd5c439fdf44fad9eb29f81173444d74b59f8a5edccd48ab3a9cd", func := "fairlink/fairlinklaw24.EpochGoes", spec := "epochGoes", apart := false }
def EpochGoesSaid : Prop := epochGoesRow.holds Try.pinned (OpenSpec.ofChange epochGoesSpec)

/-- ITS FALSE NEIGHBOUR: 'it returns false'. Refute it at one input. -/
def epochGoesWrong : ChangeSpec := { name := "epochGoes", fn := fun _ => fun
  | [d] => { results := [.lit (.bool false)], args := [d] }
  | _ => none }
def EpochGoesWrongFalsely : Prop := epochGoesRow.holds Try.pinned (OpenSpec.ofChange epochGoesWrong)

/-- 'fairlinklaw24.EpochNil': WHATEVER THE INPUT: true; the input reads as it did. -/
def epochNilSpec : ChangeSpec := { name := "epochNil", fn := fun _ => fun
  | [d] => { results := [.lit (.bool true)], args := [d] }
  | _ => none }
def epochNilRow : OpenClaim := { program := "ytkdgfjjljokkhaa", sum := "a5c8f40dc2fcd5c439fdf44fad9eb29f81173444d74b59f8a5edccd48ab3a9cd", func := "fairlink/fairlinklaw24.EpochNil", spec := "epochNil", apart := false }
def EpochNilSaid : Prop := epochNilRow.holds Try.pinned (OpenSpec.ofChange epochNilSpec)

/-- ITS FALSE NEIGHBOUR: 'it returns false'. Refute it at one input. -/
def epochNilWrong : ChangeSpec := { name := "epochNil", fn := fun _ => fun
  | [d] => { results := [.lit (.bool false)], args := [d] }
  | _ => none }
def EpochNilWrongFalsely : Prop := epochNilRow.holds Try.pinned (OpenSpec.ofChange epochNilWrong)

/-- 'fairlinklaw24.EpochLifts': WHATEVER THE INPUT: true; the input reads as it did. -/
def epochLiftsSpec : ChangeSpec := { name := "epochLifts", fn := fun _ => fun
  | [d1, d2, d3, d4] => { results := [.lit (.bool true)], args := [d1, d2, d3, d4] }
  | _ => none }
def epochLiftsRow : OpenClaim := { program := "ytkdgfjjljokkhaa", sum := "a5c8f40dc2fcd5c439fdf44fad9eb29f81173444d74b59f8a5edccd48ab3a9cd", func := "fairlink/fairlinklaw24.EpochLifts", spec := "epochLifts", unfollowed := true, recurses := true, apart := false }
def EpochLiftsSaid : Prop := epochLiftsRow.holds Try.pinned (OpenSpec.ofChange epochLiftsSpec)

/-- ITS FALSE NEIGHBOUR: 'it returns false'. Refute it at one input. -/
def epochLiftsWrong : ChangeSpec := { name := "epochLifts", fn := fun _ => fun
  | [d1, d2, d3, d4] => { results := [.lit (.bool false)], args := [d1, d2, d3, d4] }
  | _ => none }
def EpochLiftsWrongFalsely : Prop := epochLiftsRow.holds Try.pinned (OpenSpec.ofChange epochLiftsWrong)

/-- 'fairlinklaw24.EpochApart': WHATEVER THE INPUT: true; the input reads as it did. -/
def epochApartSpec : ChangeSpec := { name := "epochApart", fn := fun _ => fun
  | [d1, d2, d3, d4] => { results := [.lit (.bool true)], args := [d1, d2, d3, d4] }
  | _ => none }
def epochApartRow : OpenClaim := { program := "ytkdgfjjljokkhaa", sum := "a5c8f40dc2fcd5c439fdf44fad9eb29f81173444d74b59f8a5edccd48ab3a9cd", func := "fairlink/fairlinklaw24.EpochApart", spec := "epochApart", unfollowed := true, recurses := true, apart := false }
def EpochApartSaid : Prop := epochApartRow.holds Try.pinned (OpenSpec.ofChange epochApartSpec)

/-- ITS FALSE NEIGHBOUR: 'it returns false'. Refute it at one input. -/
def epochApartWrong : ChangeSpec := { name := "epochApart", fn := fun _ => fun
  | [d1, d2, d3, d4] => { results := [.lit (.bool false)], args := [d1, d2, d3, d4] }
  | _ => none }
def EpochApartWrongFalsely : Prop := epochApartRow.holds Try.pinned (OpenSpec.ofChange epochApartWrong)

/-- 'fairlinklaw24.EpochUnion': WHATEVER THE INPUT: true; the input reads as it did. -/
def epochUnionSpec : ChangeSpec := { name := "epochUnion", fn := fun _ => fun
  | [d1, d2, d3, d4, d5] => { results := [.lit (.bool true)], args := [d1, d2, d3, d4, d5] }
  | _ => none }
def epochUnionRow : OpenClaim := { program := "ytkdgfjjljokkhaa", sum := "a5c8f40dc2fcd5c439fdf44fad9eb29f81173444d74b59f8a5edccd48ab3a9cd", func := "fairlink/fairlinklaw24.EpochUnion", spec := "epochUnion", unfollowed := true, recurses := true, apart := false }
def EpochUnionSaid : Prop := epochUnionRow.holds Try.pinned (OpenSpec.ofChange epochUnionSpec)

/-- ITS FALSE NEIGHBOUR: 'it returns false'. Refute it at one input. -/
def epochUnionWrong : ChangeSpec := { name := "epochUnion", fn := fun _ => fun
  | [d1, d2, d3, d4, d5] => { results := [.lit (.bool false)], args := [d1, d2, d3, d4, d5] }
  | _ => none }
def EpochUnionWrongFalsely : Prop := epochUnionRow.holds Try.pinned (OpenSpec.ofChange epochUnionWrong)

/- THE SECOND FORM. 'bulk': how many values and letters a reading holds, each counted each time it is reached (what is shared counts as often as it is met; a slice's spare places count too). A statement '..UptoSaid' is the law's where the arguments, and the package variables that the reading takes, are together of bulk at most 1048576: NARROWER than '..Said'. Prove '..Said' where nothing that the law and all that it calls make is longer than what came in: it says more and counts as full. Else prove '..UptoSaid'. A law counts once. -/
mutual
def uptoBulk {H : Type} : DataW H → Nat
  | .lit (.string bytes) => bytes.length + 1
  | .lit _ => 1
  | .nil => 1
  | .ptr d => uptoBulk d + 1
  | .slice elems spare => uptoBulkAll elems + uptoBulkAll spare + 1
  | .agg parts => uptoBulkAll parts + 1
  | .iface _ d => uptoBulk d + 1
  | .map entries => uptoBulkEntries entries + 1
  | .held _ => 1
def uptoBulkAll {H : Type} : List (DataW H) → Nat
  | [] => 0
  | d :: r => uptoBulk d + uptoBulkAll r
def uptoBulkEntries {H : Type} : List (Lit × DataW H) → Nat
  | [] => 0
  | x :: r => uptoBulkEntry x + uptoBulkEntries r
def uptoBulkEntry {H : Type} : Lit × DataW H → Nat
  | (.string bytes, d) => bytes.length + uptoBulk d + 1
  | (_, d) => uptoBulk d + 1
 end
def uptoSmall : (H : Type) → List (DataW H) → Bool := fun _ ds => decide (uptoBulkAll ds ≤ 1048576)
def OpenSpec.upto (s : _root_.Go.ChangeSpec) : _root_.Go.OpenSpec := { _root_.Go.OpenSpec.ofChange s with cond := some uptoSmall }

/-- 'fairlinklaw24.EpochPlays', WHERE WHAT IT READS IS OF BULK AT MOST 1048576: true; the input reads as it did. -/
def epochPlaysUptoRow : OpenClaim := { program := "ytkdgfjjljokkhaa", sum := "a5c8f40dc2fcd5c439fdf44fad9eb29f81173444d74b59f8a5edccd48ab3a9cd", func := "fairlink/fairlinklaw24.EpochPlays", spec := "epochPlays", apart := false, narrowed := true }
def EpochPlaysUptoSaid : Prop := epochPlaysUptoRow.holds Try.pinned (OpenSpec.upto epochPlaysSpec)

/-- 'fairlinklaw24.EpochTwo', WHERE WHAT IT READS IS OF BULK AT MOST 1048576: true; the input reads as it did. -/
def epochTwoUptoRow : OpenClaim := { program := "ytkdgfjjljokkhaa", sum := "a5c8f40dc2fcd5c439fdf44fad9eb29f81173444d74b59f8a5edccd48ab3a9cd", func := "fairlink/fairlinklaw24.EpochTwo", spec := "epochTwo", apart := false, narrowed := true }
def EpochTwoUptoSaid : Prop := epochTwoUptoRow.holds Try.pinned (OpenSpec.upto epochTwoSpec)

/-- 'fairlinklaw24.EpochCounts', WHERE WHAT IT READS IS OF BULK AT MOST 1048576: true; the input reads as it did. -/
def epochCountsUptoRow : OpenClaim := { program := "ytkdgfjjljokkhaa", sum := "a5c8f40dc2fcd5c439fdf44fad9eb29f81173444d74b59f8a5edccd48ab3a9cd", func := "fairlink/fairlinklaw24.EpochCounts", spec := "epochCounts", apart := false, narrowed := true }
def EpochCountsUptoSaid : Prop := epochCountsUptoRow.holds Try.pinned (OpenSpec.upto epochCountsSpec)

/-- 'fairlinklaw24.EpochGoes', WHERE WHAT IT READS IS OF BULK AT MOST 1048576: true; the input reads as it did. -/
def epochGoesUptoRow : OpenClaim := { program := "ytkdgfjjljokkhaa", sum := "a5c8f40dc2fcd5c439fdf44fad9eb29f81173444d74b59f8a5edccd48ab3a9cd", func := "fairlink/fairlinklaw24.EpochGoes", spec := "epochGoes", apart := false, narrowed := true }
def EpochGoesUptoSaid : Prop := epochGoesUptoRow.holds Try.pinned (OpenSpec.upto epochGoesSpec)

/-- 'fairlinklaw24.EpochNil', WHERE WHAT IT READS IS OF BULK AT MOST 1048576: true; the input reads as it did. -/
def epochNilUptoRow : OpenClaim := { program := "ytkdgfjjljokkhaa", sum := "a5c8f40dc2fcd5c439fdf44fad9eb29f81173444d74b59f8a5edccd48ab3a9cd", func := "fairlink/fairlinklaw24.EpochNil", spec := "epochNil", apart := false, narrowed := true }
def EpochNilUptoSaid : Prop := epochNilUptoRow.holds Try.pinned (OpenSpec.upto epochNilSpec)

/-- 'fairlinklaw24.EpochLifts', WHERE WHAT IT READS IS OF BULK AT MOST 1048576: true; the input reads as it did. -/
def epochLiftsUptoRow : OpenClaim := { program := "ytkdgfjjljokkhaa", sum := "a5c8f40dc2fcd5c439fdf44fad9eb29f81173444d74b59f8a5edccd48ab3a9cd", func := "fairlink/fairlinklaw24.EpochLifts", spec := "epochLifts", unfollowed := true, recurses := true, apart := false, narrowed := true }
def EpochLiftsUptoSaid : Prop := epochLiftsUptoRow.holds Try.pinned (OpenSpec.upto epochLiftsSpec)

/-- 'fairlinklaw24.EpochApart', WHERE WHAT IT READS IS OF BULK AT MOST 1048576: true; the input reads as it did. -/
def epochApartUptoRow : OpenClaim := { program := "ytkdgfjjljokkhaa", sum := "a5c8f40dc2fcd5c439fdf44fad9eb29f81173444d74b59f8a5edccd48ab3a9cd", func := "fairlink/fairlinklaw24.EpochApart", spec := "epochApart", unfollowed := true, recurses := true, apart := false, narrowed := true }
def EpochApartUptoSaid : Prop := epochApartUptoRow.holds Try.pinned (OpenSpec.upto epochApartSpec)

/-- 'fairlinklaw24.EpochUnion', WHERE WHAT IT READS IS OF BULK AT MOST 1048576: true; the input reads as it did. -/
def epochUnionUptoRow : OpenClaim := { program := "ytkdgfjjljokkhaa", sum := "a5c8f40dc2fcd5c439fdf44fad9eb29f81173444d74b59f8a5edccd48ab3a9cd", func := "fairlink/fairlinklaw24.EpochUnion", spec := "epochUnion", unfollowed := true, recurses := true, apart := false, narrowed := true }
def EpochUnionUptoSaid : Prop := epochUnionUptoRow.holds Try.pinned (OpenSpec.upto epochUnionSpec)

end Rows
end Go.Proofs.Ytkdgfjjljokkhaa
