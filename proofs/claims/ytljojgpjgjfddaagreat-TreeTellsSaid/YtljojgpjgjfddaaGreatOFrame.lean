/- What a walk is told of an argument that is an order. -/
import Derived.Test.YtljojgpjgjfddaaGreatCFrame
import Derived.Test.YtljojgpjgjfddaaGreatCOrder
import Derived.Lib.SmallJoins
namespace Go.Proofs.YtljojgpjgjfddaaGreat
open Go.ChangeShapes Go.WideShapes Go.ChangeAt Go.RowKit Go.Deep
set_option linter.unusedVariables false

section
variable {H : Type} {enc : TypeId × Value → H} {P : Program} {w : World} {base : Nat} {spare : Nat → Bool} {held : Bool}
theorem slice_cap {t e : TypeId} {a : Option Addr} {len cap : Nat} {y : DataW H} {p : List MemPlace} (ht : P.underlying t = some (.slice e)) (h : DataW.Trod enc P w base spare held t (.slice a len cap) y p) : len ≤ cap := by
  obtain ⟨fuel, hf⟩ := h
  rcases open_slice ht hf with ⟨hcs, _⟩ | ⟨x, len', cap', m, n, D, Pl, hcs, _, hl, _⟩
  · have hcs' : [Value.slice a len cap] = [Value.slice none 0 0] := hcs
    injection hcs' with hcs' _
    injection hcs' with _ h1 h2
    omega
  · have hcs' : [Value.slice a len cap] = [Value.slice (some x) len' cap'] := hcs
    injection hcs' with hcs' _
    injection hcs' with _ h1 h2
    omega
theorem agg_one {r : Reach} {b0 : Nat} {t : TypeId} {f0 : Field} {v : Value} {d : DataW H} {p : List MemPlace} (hs : P.underlying t = some (.struct #[f0])) (hone : oneCellFields P #[f0] = true) (hC : P.cellsOf t = 1)
    (hv : Value.okWide P w r b0 t v) (h : DataW.Trod enc P w base spare held t v d p) :
    ∃ (v0 : Value) (y0 : DataW H × List MemPlace) (n : Nat), v = .agg #[v0] ∧ DataW.trod enc P w base spare held n f0.type [v0] = some y0 := by
  obtain ⟨cs, rfl, hsz⟩ := okWide_struct hs hv
  have hsz1 : cs.size = 1 := hsz.trans hC
  obtain ⟨c0, rfl⟩ : ∃ c0, cs = #[c0] := by
    obtain ⟨l⟩ := cs
    match l, hsz1 with
    | [c0], _ => exact ⟨c0, rfl⟩
  obtain ⟨fuel, hf⟩ := h
  obtain ⟨y0, n, hx, _, h0⟩ := trod_struct1 hs hf
  obtain ⟨o0, k0⟩ := hone_of hone 0 f0 rfl
  exact ⟨c0, y0, n, rfl, by simpa [Value.cells, o0, k0] using h0⟩
theorem isIntl_of {fuel : Nat} {v : Value} {y : DataW H × List MemPlace} (h : DataW.trod enc Tryz.prog w base spare held fuel 28 [v] = some y) :
    ∃ (a : Option Addr) (cap : Nat) (l : List Int), v = .slice a l.length cap ∧ IsRec 1 cI 0 w a l.length l ∧ WfI l := by
  obtain ⟨a, len, cap, rfl⟩ := trod_slice_form Tryz.underlying28 h
  obtain ⟨zs, hz⟩ : ∃ zs, IsInts .i64 w a len zs := isInts_of Tryz.underlying28 Tryz.underlying3 (by kernel_rfl) (⟨fuel, h⟩ : DataW.Trod enc Tryz.prog w base spare held 28 (.slice a len cap) y.1 y.2)
  obtain rfl : zs.length = len := hz.2.1
  obtain ⟨h1, h2⟩ := isRec_ints hz
  exact ⟨a, cap, zs, rfl, h1, h2⟩
set_option maxRecDepth 100000 in
theorem isOrder_of {r : Reach} {b0 : Nat} {v : Value} {d : DataW H} {p : List MemPlace} (hv : Value.okWide Tryz.prog w r b0 30 v) (h : DataW.Trod enc Tryz.prog w base spare held 30 v d p) :
    ∃ (Al : Option Addr) (cl : Nat) (lv : List Int), v = .agg #[.slice Al lv.length cl] ∧ IsRec 1 cI 0 w Al lv.length lv ∧ WfI lv := by
  obtain ⟨v0, y0, n, rfl, h0⟩ := agg_one Tryz.underlying30 (by kernel_rfl) (by kernel_rfl) hv h
  obtain ⟨a, c, l, rfl, r, wf⟩ := isIntl_of h0
  exact ⟨a, c, l, rfl, r, wf⟩
end
end Go.Proofs.YtljojgpjgjfddaaGreat
