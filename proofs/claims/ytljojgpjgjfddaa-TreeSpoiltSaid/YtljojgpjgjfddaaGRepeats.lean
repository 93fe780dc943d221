/- The contract of graph.repeats. -/
import Derived.Test.YtljojgpjgjfddaaGName
import Derived.Test.YtljojgpjgjfddaaMaps
import Derived.DeepKeys4
namespace Go.Proofs.Ytljojgpjgjfddaa
open Go.RowKit Go.Maps
set_option linter.unusedVariables false

theorem lawStr : Keyed Try.prog 9 := string_keyed Try.underlying9
theorem zeroBool2 (w : World) : (zeroValue 4).run Try.prog w = .ok (.bool false) w := by kernel_rfl
theorem laidOutK : laidOutB Try.prog = true := by kernel_rfl
theorem rowArr2 : (163 : TypeId) < Try.prog.types.size := of_decide_eq_true (by kernel_rfl)
theorem cellsArr2 : Try.prog.cellsOf 163 = 2 := by kernel_rfl
theorem cellsInt : Try.prog.cellsOf 3 = 1 := by kernel_rfl
theorem deepArr2 : Try.prog.keyType 163 = true := by kernel_rfl
theorem wideArr2 : (match Try.prog.underlying 163 with | some (.array _ _) | some (.struct _) => true | _ => false) = true := by rw [Try.underlying163]
theorem deepArr2m : Try.prog.keyTypeAt 2 163 = true := by kernel_rfl
set_option maxRecDepth 100000 in
theorem lawArr2k : WideMaps.KeyLaw Try.prog 163 := deep_law_laid laidOutK (m := 2) (by omega) rowArr2 deepArr2m wideArr2
theorem lawArr2 : Keyed Try.prog 163 := Keyed.of_law lawArr2k
theorem formedArr2 {c0 c1 : Value} : (Value.agg #[c0, c1]).formed Try.prog 163 = true := by simp [Value.formed, Try.underlying163, cellsArr2]
/-- The key of a pair of ints. -/
def pk (x : Int × Int) : Lit := .string (keyBytes [.int .i64 x.1, .int .i64 x.2])
theorem keyArr2 {a b : Int} (ha : (Lit.int .i64 a).wf = true) (hb : (Lit.int .i64 b).wf = true) : keyOf Try.prog 163 (.agg #[.int .i64 a, .int .i64 b]) = some (pk (a, b)) := by
  unfold keyOf
  rw [Try.underlying163]
  simp only [deepArr2, formedArr2, Bool.and_self, if_true]
  have hs : ∃ n, Try.prog.types.size = n + 1 := ⟨Try.prog.types.size - 1, by have h : 0 < Try.prog.types.size := Nat.lt_of_le_of_lt (Nat.zero_le _) rowArr2; omega⟩
  obtain ⟨n, hn⟩ := hs
  rw [hn]
  simp [Program.keyLits, Try.underlying163, Try.underlying3, cellsArr2, cellsInt, Value.cells, ha, hb, List.range_succ, pk]
theorem pk_inj {x y : Int × Int} (hx : (Lit.int .i64 x.1).wf = true ∧ (Lit.int .i64 x.2).wf = true) (hy : (Lit.int .i64 y.1).wf = true ∧ (Lit.int .i64 y.2).wf = true) (h : pk x = pk y) : x = y := by
  have h1 := keyArr2 hx.1 hx.2
  have h2 := keyArr2 hy.1 hy.2
  rw [show (y.1, y.2) = y from rfl, ← h] at h2
  have := lawArr2.inj h1 h2
  simp at this
  exact Prod.ext this.1 this.2
end Go.Proofs.Ytljojgpjgjfddaa
