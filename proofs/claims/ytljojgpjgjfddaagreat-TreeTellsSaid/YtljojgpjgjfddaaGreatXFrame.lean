/- What a walk is told of an argument that is a tree. -/
import Derived.Test.YtljojgpjgjfddaaGreatOFrame
import Derived.Test.YtljojgpjgjfddaaGreatTVal
namespace Go.Proofs.YtljojgpjgjfddaaGreat
open Go.ChangeShapes Go.WideShapes Go.ChangeAt Go.RowKit Go.Deep
set_option linter.unusedVariables false

section
variable {H : Type} {enc : TypeId × Value → H} {w : World} {base : Nat} {spare : Nat → Bool} {held : Bool}
theorem isRows_of {fuel : Nat} {v : Value} {y : DataW H × List MemPlace} (h : DataW.trod enc Tryz.prog w base spare held fuel 54 [v] = some y) :
    ∃ (a : Option Addr) (cap : Nat) (T : List (List Int)), v = .slice a T.length cap ∧ IsRows w a T.length T ∧ ∀ r ∈ T, WfI r := by
  rcases open_slice Tryz.underlying54 h with ⟨hcs, _⟩ | ⟨x, len, cap, m, n, D, Pl, hcs, _, hl, hmx, hM, _, hi⟩
  · injection hcs with hcs
    exact ⟨none, 0, [], hcs, ⟨rfl, fun h => absurd h (by simp)⟩, by intro r hr; cases hr⟩
  · injection hcs with hcs
    have hlM : len ≤ m := by rw [hM]; split <;> omega
    have ce : Tryz.prog.cellsOf 28 = 1 := by kernel_rfl
    have each : ∀ i, ∃ r : List Int, i < len → (∃ a0 c0, w.cell? (x.add (i * 1)) = some (.slice a0 r.length c0) ∧ IsRec 1 cI 0 w a0 r.length r) ∧ WfI r := by
      intro i
      by_cases hil : i < len
      · obtain ⟨cs', h1, h2⟩ := hi i (by omega)
        rw [ce] at h1
        obtain ⟨_, hlen, hcell⟩ := World.cells?_some h1
        match cs', hlen with
        | [v0], _ =>
          obtain ⟨a0, c0, l0, rfl, r0, w0⟩ := isIntl_of h2
          have e0 := hcell 0 (by omega)
          rw [add_add] at e0
          exact ⟨l0, fun _ => ⟨⟨a0, c0, by simpa using e0, r0⟩, w0⟩⟩
      · exact ⟨[], fun h => absurd h hil⟩
    let R : Nat → List Int := fun i => Classical.choose (each i)
    have hR : ∀ i, i < len → (∃ a0 c0, w.cell? (x.add (i * 1)) = some (.slice a0 (R i).length c0) ∧ IsRec 1 cI 0 w a0 (R i).length (R i)) ∧ WfI (R i) := fun i => Classical.choose_spec (each i)
    refine ⟨some x, cap, (List.range len).map R, by rw [List.length_map, List.length_range]; exact hcs, ⟨rfl, fun h0 => ?_⟩, ?_⟩
    · rw [List.length_map, List.length_range] at h0
      obtain ⟨b, off, spot⟩ := x
      obtain ⟨a0, c0, g0, _⟩ := (hR 0 h0).1
      have hspot : spot = none := by simpa [Addr.add] using World.cell?_spot g0
      subst hspot
      have e0 : w.cell? ⟨b, off, none⟩ = some (.slice a0 (R 0).length c0) := by simpa [Addr.add] using g0
      refine ⟨b, off, rfl, lt_of_cell e0, fun i hi => ?_⟩
      have hi' : i < len := by simpa using hi
      obtain ⟨a0, c0, g0, r0⟩ := (hR i hi').1
      rw [Addr.add_lit, Nat.mul_one] at g0
      have eg : ((List.range len).map R).getD i [] = R i := by simp [List.getD, hi']
      rw [eg]
      exact ⟨a0, c0, r0, g0⟩
    · intro r hr
      rw [List.mem_map] at hr
      obtain ⟨i, hi, rfl⟩ := hr
      exact (hR i (List.mem_range.1 hi)).2
set_option maxRecDepth 100000 in
theorem isTree_of {r : Reach} {b0 : Nat} {v : Value} {d : DataW H} {p : List MemPlace} (hv : Value.okWide Tryz.prog w r b0 56 v) (h : DataW.Trod enc Tryz.prog w base spare held 56 v d p) :
    ∃ (aO aD : Option Addr) (cO cD : Nat) (x : Tr), v = .agg #[.int .i64 x.src, .slice aO x.out.length cO, .slice aD x.del.length cD] ∧ IsTree w aO aD x ∧ (Lit.int .i64 x.src).wf = true := by
  obtain ⟨v0, v1, v2, y0, y1, y2, n, rfl, _, _, h0, h1, h2⟩ := Joins.open_agg3 Tryz.underlying56 (by kernel_rfl) (by kernel_rfl) hv h
  obtain ⟨i, hi, _, hw⟩ := DataW.trod_int Tryz.underlying3 h0
  simp at hi
  subst hi
  obtain ⟨aO, cO, T, rfl, hT, _⟩ := isRows_of h1
  obtain ⟨aD, cD, l, rfl, hl, _⟩ := isIntl_of h2
  exact ⟨aO, aD, cO, cD, ⟨i, T, l⟩, rfl, ⟨hT, hl⟩, hw⟩
end
end Go.Proofs.YtljojgpjgjfddaaGreat
