/- What a walk is told of an argument that is a slice of bools. -/
import Derived.Test.YtljojgpjgjfddaaGreatTFrame
import Derived.Deep.Grids
namespace Go.Proofs.YtljojgpjgjfddaaGreat
open Go.ChangeShapes Go.WideShapes Go.ChangeAt Go.RowKit Go.Deep
set_option linter.unusedVariables false

theorem isBools_of {H : Type} {enc : TypeId × Value → H} {P : Program} {w : World} {base : Nat} {held : Bool} {t e : TypeId} {a : Option Addr} {len cap : Nat} {d : DataW H} {p : List MemPlace} (ht : P.underlying t = some (.slice e)) (he : P.underlying e = some .bool) (hC : P.cellsOf e = 1)
    (h : DataW.Trod enc P w base (fun _ => true) held t (.slice a len cap) d p) : ∃ us : List Bool, us.length = len ∧ IsRec 1 cB false w a len us := by
  obtain ⟨fuel, hf⟩ := h
  rcases open_bools ht he hC hf with ⟨hcs, _⟩ | ⟨x, l, c, B, hcs, _, hl, hm, _, hcell⟩
  · simp [Value.cells] at hcs
    obtain ⟨rfl, rfl, rfl⟩ := hcs
    exact ⟨[], rfl, rfl, fun h => absurd h (by omega)⟩
  · simp [Value.cells] at hcs
    obtain ⟨rfl, rfl, rfl⟩ := hcs
    refine ⟨(List.range len).map B, by simp, by simp, fun h0 => ?_⟩
    obtain ⟨b, off, spot⟩ := x
    have hc0 := hcell 0 (by omega)
    have hspot : spot = none := by simpa [Addr.add] using World.cell?_spot hc0
    subst hspot
    have e0 : w.cell? ⟨b, off, none⟩ = some (.bool (B 0)) := by simpa [Addr.add] using hc0
    refine ⟨b, off, rfl, lt_of_cell e0, fun i j hi hj => ?_⟩
    obtain rfl : j = 0 := by omega
    have := hcell i (by omega)
    have e1 : Addr.add ⟨b, off, none⟩ i = ⟨b, off + i, none⟩ := by unfold Addr.add; split <;> simp_all
    rw [e1] at this
    have e2 : ((List.range len).map B).getD i false = B i := by simp [List.getD, hi]
    rw [e2]
    simpa [cB] using this
end Go.Proofs.YtljojgpjgjfddaaGreat
