/- What a walk is told of an argument that is a slice of bytes. -/
import Derived.Test.YtljojgpjgjfddaaGreatOFrame
namespace Go.Proofs.YtljojgpjgjfddaaGreat
open Go.ChangeShapes Go.WideShapes Go.ChangeAt Go.RowKit Go.Deep
set_option linter.unusedVariables false

/-- The cell of a byte. -/
def cU (n : Int) : List Value := [.int .u8 n]
def WfU (l : List Int) : Prop := ∀ x ∈ l, (Lit.int .u8 x).wf = true
theorem isRec_u8 {w : World} {a : Option Addr} {len : Nat} {zs : List Int} (h : IsInts .u8 w a len zs) : IsRec 1 cU 0 w a len zs ∧ WfU zs := by
  refine ⟨⟨h.2.1, fun h0 => ?_⟩, h.2.2.1⟩
  obtain ⟨b, off, ha, hb, hc⟩ := h.2.2.2 h0
  refine ⟨b, off, ha, hb, fun i j hi hj => ?_⟩
  obtain rfl : j = 0 := by omega
  have := hc i hi
  simpa [cU] using this
theorem u8_at {w : World} {A : Option Addr} {len : Nat} {l : List Int} (h : IsRec 1 cU 0 w A len l) (hw : WfU l) (k : Nat) (hk : k < len) :
    ∃ (b off sn : Nat), A = some ⟨b, off, none⟩ ∧ b < w.heap.size ∧ w.cell? ⟨b, off + k, none⟩ = some (.int .u8 (sn : Int)) ∧ sn < 256 := by
  obtain ⟨b, off, ha, hb, hc⟩ := h.2 (by omega)
  have hl : k < l.length := by rw [h.1]; exact hk
  have hm : l.getD k 0 ∈ l := by simp [List.getD, hl]
  obtain ⟨a0, a1⟩ := bounds_u8 (hw _ hm)
  refine ⟨b, off, (l.getD k 0).toNat, ha, hb, ?_, by omega⟩
  have := hc k 0 hk (by omega)
  rw [Int.toNat_of_nonneg a0]
  simpa [cU] using this
end Go.Proofs.YtljojgpjgjfddaaGreat
