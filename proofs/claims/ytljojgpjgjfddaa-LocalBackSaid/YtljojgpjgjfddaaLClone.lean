/- The contracts of the law's great and of slices.Clone at ints. -/
import Derived.Test.YtljojgpjgjfddaaLCheck
import Derived.BigRegion
namespace Go.Proofs.Ytljojgpjgjfddaa
open Go.RowKit Go.Maps
set_option linter.unusedVariables false

def greatB (ln lc ld : Nat) : Bool := decide (20 < ln) || decide (40 < lc) || decide (100 < ld)
theorem great_any (An Ac Ad : Option Addr) (ln lc ld cn cc cd : Nat) (w : World) (b : Bool) (hb : greatB ln lc ld = b) :
    Calls Try.prog 12 #[.agg #[.slice An ln cn, .slice Ac lc cc], .slice Ad ld cd] w fun e w' => e = .returned (.bool b) ∧ w.alloc (.cells #[.slice An ln cn, .slice Ac lc cc] 25) = w' := by
  subst hb
  have F : Hid ((decide (20 < (ln : Int)) || decide (40 < (lc : Int)) || decide (100 < (ld : Int))) = greatB ln lc ld) := by
    have e1 : decide (20 < (ln : Int)) = decide (20 < ln) := by rw [Bool.eq_iff_iff]; simp; omega
    have e2 : decide (40 < (lc : Int)) = decide (40 < lc) := by rw [Bool.eq_iff_iff]; simp; omega
    have e3 : decide (100 < (ld : Int)) = decide (100 < ld) := by rw [Bool.eq_iff_iff]; simp; omega
    rw [Hid, e1, e2, e3]; rfl
  cases q1 : decide (20 < (ln : Int)) <;> cases q2 : decide (40 < (lc : Int)) <;> cases q3 : decide (100 < (ld : Int)) <;> rw [q1, q2, q3] at F
  all_goals
    go_enter Try.func12, Try.ntmps12
    go_wp2_with fail
    go_ret
    refine ⟨?_, rfl⟩
    rw [← F.out]
    rfl

theorem own_empty (w : World) (e size : Nat) : (w.alloc (.cells #[] e)).ownsRow w.heap.size e size (.slice (some ⟨w.heap.size, 0, none⟩) 0 0) 0 [] := by
  refine ⟨by simp, .inr ⟨w.heap.size, 0, #[], rfl, Nat.le_refl _, heap_alloc_new w _, ?_⟩⟩
  simp
set_option maxRecDepth 100000 in
set_option maxHeartbeats 1000000 in
theorem cloneI_any (a : Option Addr) (c : Nat) (l : List Int) (w : World) (hl : l.length ≤ 1000000) (hne : 0 < l.length) (h : IsRec 1 cI 0 w a l.length l) :
    Calls Try.prog 35 #[.slice a l.length c] w (IntsPost l w) := by
  obtain ⟨b, off, rfl, hb, _⟩ := h.2 hne
  have RA := Lib.hid ((reads_of_rec cI_length h).alloc (Nat.le_refl _) (.cells #[] 3))
  have fo := Lib.hid (cI_one l)
  clear h hb
  obtain ⟨i0, hi0, hz0, hz1, hz2⟩ := info_parts infoInt
  have hnil : ∀ (w : World) (a : Option Addr) (n c n' c' : Nat), (binOp .eql 35 (.slice a n c) (.slice none n' c')).run Try.prog w = .ok (.bool a.isNone) w := fun w a n c n' c' => Lib.run_eql_slice_nil w 35 3 a n c n' c' Try.underlying35
  go_enter Try.func35, Try.ntmps35
  go_wp2_with (at_builtin; refine wpList_append_any _ rfl (.tmp 5) (.tmp 6) 35 rfl w.heap.size 3 i0 _ 1 8 Try.underlying35 hi0 hz0 hz1 hz2 rfl (by decide) _ 0 [] rfl (own_empty w 3 1) w.heap.size _ l.length c (l.flatMap cI) rfl RA.out fo.out ?c3 ?c4 ?c5 ?_)
  case c3 => unfold maxLen; omega
  case c4 => omega
  case c5 => simp
  intro v1 w1 own1 gr1 _
  try simp only [Nat.zero_add, List.nil_append] at own1
  have bel : Hid (Below w.heap.size w w1) := ((Below.refl _ _).alloc (Nat.le_refl _) _).grown gr1 (by simp) (by intro g e; simp [Value.ownBlock] at e; omega)
  have F : Hid (IntsPost l w (.returned v1) w1) := ⟨v1, rfl, own1, bel.out⟩
  clear own1 gr1
  go_wp2_with fail
  go_ret
  exact F.out
end Go.Proofs.Ytljojgpjgjfddaa
