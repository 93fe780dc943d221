/- What a walk is told of an argument that is a slice of parts, with what holds of their dependencies. -/
import Derived.Test.YtljojgpjgjfddaaMFrame
import Derived.Test.YtljojgpjgjfddaaLRow
namespace Go.Proofs.Ytljojgpjgjfddaa
open Go.ChangeShapes Go.WideShapes Go.ChangeAt Go.RowKit Go.Deep
set_option linter.unusedVariables false
section
variable {H : Type} {enc : TypeId × Value → H} {w : World} {base : Nat} {spare : Nat → Bool} {held : Bool}
set_option maxRecDepth 100000 in
theorem isPartsW_of {fuel : Nat} {v : Value} {y : DataW H × List MemPlace} (h : DataW.trod enc Try.prog w base spare held fuel 26 [v] = some y) :
    ∃ (a : Option Addr) (cap : Nat) (xs : List Pt), v = .slice a xs.length cap ∧ IsParts w a xs.length xs ∧ xs.length ≤ maxLen ∧ ∀ x ∈ xs, WfD x.deps := by
  obtain ⟨a, len, cap, rfl⟩ := trod_slice_form Try.underlying26 h
  obtain ⟨L, hl, h1, h2, hm⟩ := isRec_of (c := cQ) (d := q30) (Wf := fun q => IsPart w (cQ q) q.2 ∧ WfD q.2.deps) (m := 3) Try.underlying26 Try.underlying32 (by kernel_rfl) (by kernel_rfl) (by decide) (by decide) (fun vs hvs hr => by
    obtain ⟨a, b, c, rfl⟩ := three hvs
    obtain ⟨v0, n0, y0, e0, h0⟩ := hr 0 _ rfl
    obtain ⟨v1, n1, y1, e1, h1⟩ := hr 1 _ rfl
    obtain ⟨v2, n2, y2, e2, h2⟩ := hr 2 _ rfl
    simp at e0 e1 e2
    subst e0; subst e1; subst e2
    obtain ⟨i, hi, _, hw⟩ := DataW.trod_int Try.underlying3 h0
    simp at hi
    subst hi
    obtain ⟨a, cap, ds, rfl, hd, wd⟩ := isDeps_of h1
    obtain ⟨m, E, rfl, hm⟩ := imv_of (Maps.int_keyed Try.underlying3) Try.underlying3 Try.underlying3 Try.underlying30 h2
    exact ⟨((.int .i64 i, .slice a ds.length cap, .map m), ⟨i, ds, E⟩), rfl, ⟨a, cap, m, rfl, hd, hm⟩, wd⟩) h
  have hp := parts_of_rec h1 (fun q hq => (h2 q hq).1)
  have e : (ptsQ L).length = len := by rw [ptsQ_length, hl]
  rw [← e] at hp
  exact ⟨a, cap, ptsQ L, by rw [e], hp, by rw [e]; exact hm, fun x hx => by
    unfold ptsQ at hx
    obtain ⟨q, hq, rfl⟩ := List.mem_map.1 hx
    exact (h2 q hq).2⟩
end
end Go.Proofs.Ytljojgpjgjfddaa
