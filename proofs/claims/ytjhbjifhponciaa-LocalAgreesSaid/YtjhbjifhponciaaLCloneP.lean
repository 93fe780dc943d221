/- The contract of slices.Clone at parts. -/
import Derived.Test.YtjhbjifhponciaaLClone
namespace Go.Proofs.Ytjhbjifhponciaa
open Go.RowKit Go.Maps
set_option linter.unusedVariables false

/-- A new slice with these cells (three for each part). -/
def RowPost (n : Nat) (F : List Value) (w : World) (e : Ending) (w' : World) : Prop :=
  ∃ v, e = .returned v ∧ w'.ownsRow w.heap.size 41 3 v n F ∧ Below w.heap.size w w'
set_option maxRecDepth 100000 in
set_option maxHeartbeats 1000000 in
theorem cloneP_any (b off : Nat) (c n : Nat) (F : List Value) (w : World) (hn : n ≤ 1000000) (hr : Reads w w.heap.size 3 (some ⟨b, off, none⟩) n F) (h1 : ∀ u ∈ F, u.oneCell' = true) :
    Calls Try.prog 20 #[.slice (some ⟨b, off, none⟩) n c] w (RowPost n F w) := by
  have RA := Lib.hid (hr.alloc (Nat.le_refl _) (.cells #[] 41))
  have fo := Lib.hid h1
  clear hr h1
  obtain ⟨i0, hi0, hz0, hz1, hz2⟩ := info_parts infoPart
  have hnil : ∀ (w : World) (a : Option Addr) (n c n' c' : Nat), (binOp .eql 30 (.slice a n c) (.slice none n' c')).run Try.prog w = .ok (.bool a.isNone) w := fun w a n c n' c' => Lib.run_eql_slice_nil w 30 41 a n c n' c' Try.underlying30
  go_enter Try.func20, Try.ntmps20
  go_wp2_with (at_builtin; refine wpList_append_any _ rfl (.tmp 5) (.tmp 6) 30 rfl w.heap.size 41 i0 _ 3 40 Try.underlying30 hi0 hz0 hz1 hz2 rfl (by decide) _ 0 [] rfl (own_empty w 41 3) w.heap.size _ n c F rfl RA.out fo.out ?c3 ?c4 ?c5 ?_)
  case c3 => unfold maxLen; omega
  case c4 => omega
  case c5 => simp
  intro v1 w1 own1 gr1 _
  try simp only [Nat.zero_add, List.nil_append] at own1
  have bel : Hid (Below w.heap.size w w1) := ((Below.refl _ _).alloc (Nat.le_refl _) _).grown gr1 (by simp) (by intro g e; simp [Value.ownBlock] at e; omega)
  have F : Hid (RowPost n F w (.returned v1) w1) := ⟨v1, rfl, own1, bel.out⟩
  clear own1 gr1
  go_wp2_with fail
  go_ret
  exact F.out
end Go.Proofs.Ytjhbjifhponciaa
