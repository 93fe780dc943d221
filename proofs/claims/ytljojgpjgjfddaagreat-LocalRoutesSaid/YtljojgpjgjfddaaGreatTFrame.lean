/- What a walk is told of an argument that is an order or a table of routes. -/
import Derived.Test.YtljojgpjgjfddaaGreatCFrame
import Derived.Test.YtljojgpjgjfddaaGreatCTable
import Derived.Lib.SmallJoins
namespace Go.Proofs.YtljojgpjgjfddaaGreat
open Go.ChangeShapes Go.WideShapes Go.ChangeAt Go.RowKit Go.Deep
set_option linter.unusedVariables false

section
variable {H : Type} {enc : TypeId × Value → H} {P : Program} {w : World} {base : Nat} {spare : Nat → Bool} {held : Bool}

theorem trod_array2 {t e : TypeId} {fuel : Nat} {c0 c1 : Value} {x : DataW H × List MemPlace} (ht : P.underlying t = some (.array 2 e)) (hce : P.cellsOf e = 1)
    (h : DataW.trod enc P w base spare held fuel t [c0, c1] = some x) :
    ∃ y0 y1 n, DataW.trod enc P w base spare held n e [c0] = some y0 ∧ DataW.trod enc P w base spare held n e [c1] = some y1 := by
  cases fuel with
  | zero => simp [DataW.trod] at h
  | succ n =>
    unfold DataW.trod at h
    rw [ht] at h
    have r2 : List.range 2 = [0, 1] := rfl
    simp [r2, hce] at h
    obtain ⟨_, h⟩ := h
    cases h0 : DataW.trod enc P w base spare held n e [c0] with
    | none => simp [h0] at h
    | some y0 =>
      cases h1 : DataW.trod enc P w base spare held n e [c1] with
      | none => simp [h0, h1] at h
      | some y1 => exact ⟨y0, y1, n, h0, h1⟩
theorem agg_one {r : Reach} {b0 : Nat} {t : TypeId} {f0 : Field} {v : Value} {d : DataW H} {p : List MemPlace} (hs : P.underlying t = some (.struct #[f0])) (hone : oneCellFields P #[f0] = true) (hC : P.cellsOf t = 1)
    (hv : Value.okWide P w r b0 t v) (h : DataW.Trod enc P w base spare held t v d p) :
    ∃ (v0 : Value) (y0 : DataW H × List MemPlace) (n : Nat), v = .agg #[v0] ∧ DataW.trod enc P w base spare held n f0.type [v0] = some y0 := by
  obtain ⟨cs, rfl, hsz⟩ := okWide_struct hs hv
  have hsz1 : cs.size = 1 := hsz.trans hC
  obtain ⟨c0, rfl⟩ : ∃ c0, cs = #[c0] := by
    obtain ⟨l⟩ := cs
    match l, hsz1 with
    | [c0], _ => exact ⟨c0, rfl⟩
  obtain ⟨fuel, hf⟩ := h
  obtain ⟨y0, n, hx, _, h0⟩ := trod_struct1 hs hf
  obtain ⟨o0, k0⟩ := hone_of hone 0 f0 rfl
  exact ⟨c0, y0, n, rfl, by simpa [Value.cells, o0, k0] using h0⟩
theorem isIntl_of {fuel : Nat} {v : Value} {y : DataW H × List MemPlace} (h : DataW.trod enc Tryz.prog w base spare held fuel 28 [v] = some y) :
    ∃ (a : Option Addr) (cap : Nat) (l : List Int), v = .slice a l.length cap ∧ IsRec 1 cI 0 w a l.length l ∧ WfI l := by
  obtain ⟨a, len, cap, rfl⟩ := trod_slice_form Tryz.underlying28 h
  obtain ⟨zs, hz⟩ : ∃ zs, IsInts .i64 w a len zs := isInts_of Tryz.underlying28 Tryz.underlying3 (by kernel_rfl) (⟨fuel, h⟩ : DataW.Trod enc Tryz.prog w base spare held 28 (.slice a len cap) y.1 y.2)
  obtain rfl : zs.length = len := hz.2.1
  obtain ⟨h1, h2⟩ := isRec_ints hz
  exact ⟨a, cap, zs, rfl, h1, h2⟩
theorem isTabW_of {fuel : Nat} {v : Value} {y : DataW H × List MemPlace} (h : DataW.trod enc Tryz.prog w base spare held fuel 34 [v] = some y) :
    ∃ (a : Option Addr) (cap : Nat) (T : List Row2), v = .slice a T.length cap ∧ IsTab w a T.length T ∧ WfT T := by
  rcases open_slice Tryz.underlying34 h with ⟨hcs, _⟩ | ⟨x, len, cap, m, n, D, Pl, hcs, _, hl, hmx, hM, _, hi⟩
  · injection hcs with hcs
    exact ⟨none, 0, [], hcs, ⟨rfl, fun h => absurd h (by simp)⟩, by intro r hr; cases hr⟩
  · injection hcs with hcs
    have hlM : len ≤ m := by rw [hM]; split <;> omega
    have ce : Tryz.prog.cellsOf 91 = 2 := by kernel_rfl
    have each : ∀ i, ∃ r : Row2, i < len → (∃ a0 c0 a1 c1, w.cell? (x.add (i * 2)) = some (.slice a0 r.1.length c0) ∧ w.cell? (x.add (i * 2 + 1)) = some (.slice a1 r.2.length c1) ∧ IsRec 1 cI 0 w a0 r.1.length r.1 ∧ IsRec 1 cI 0 w a1 r.2.length r.2) ∧ WfI r.1 ∧ WfI r.2 := by
      intro i
      by_cases hil : i < len
      · obtain ⟨cs', h1, h2⟩ := hi i (by omega)
        rw [ce] at h1
        obtain ⟨_, hlen, hcell⟩ := World.cells?_some h1
        match cs', hlen with
        | [v0, v1], _ =>
          obtain ⟨y0, y1, k, t0, t1⟩ := trod_array2 Tryz.underlying91 (by kernel_rfl) h2
          obtain ⟨a0, c0, l0, rfl, r0, w0⟩ := isIntl_of t0
          obtain ⟨a1, c1, l1, rfl, r1, w1⟩ := isIntl_of t1
          have e0 := hcell 0 (by omega)
          have e1 := hcell 1 (by omega)
          rw [add_add] at e0 e1
          exact ⟨(l0, l1), fun _ => ⟨⟨a0, c0, a1, c1, by simpa using e0, by simpa using e1, r0, r1⟩, w0, w1⟩⟩
      · exact ⟨row0, fun h => absurd h hil⟩
    let R : Nat → Row2 := fun i => Classical.choose (each i)
    have hR : ∀ i, i < len → (∃ a0 c0 a1 c1, w.cell? (x.add (i * 2)) = some (.slice a0 (R i).1.length c0) ∧ w.cell? (x.add (i * 2 + 1)) = some (.slice a1 (R i).2.length c1) ∧ IsRec 1 cI 0 w a0 (R i).1.length (R i).1 ∧ IsRec 1 cI 0 w a1 (R i).2.length (R i).2) ∧ WfI (R i).1 ∧ WfI (R i).2 := fun i => Classical.choose_spec (each i)
    refine ⟨some x, cap, (List.range len).map R, by rw [List.length_map, List.length_range]; exact hcs, ⟨rfl, fun h0 => ?_⟩, ?_⟩
    · rw [List.length_map, List.length_range] at h0
      obtain ⟨b, off, spot⟩ := x
      obtain ⟨a0, c0, a1, c1, g0, _⟩ := (hR 0 h0).1
      have hspot : spot = none := by simpa [Addr.add] using World.cell?_spot g0
      subst hspot
      have e0 : w.cell? ⟨b, off, none⟩ = some (.slice a0 (R 0).1.length c0) := by simpa [Addr.add] using g0
      refine ⟨b, off, rfl, lt_of_cell e0, fun i hi => ?_⟩
      have hi' : i < len := by simpa using hi
      obtain ⟨a0, c0, a1, c1, g0, g1, r0, r1⟩ := (hR i hi').1
      rw [Addr.add_lit] at g0 g1
      have eg : ((List.range len).map R).getD i row0 = R i := by simp [List.getD, hi']
      rw [eg]
      exact ⟨a0, c0, a1, c1, g0, by rw [← Nat.add_assoc] at g1; exact g1, r0, r1⟩
    · intro r hr
      rw [List.mem_map] at hr
      obtain ⟨i, hi, rfl⟩ := hr
      exact (hR i (List.mem_range.1 hi)).2
set_option maxRecDepth 100000 in
theorem isOrder_of {r : Reach} {b0 : Nat} {v : Value} {d : DataW H} {p : List MemPlace} (hv : Value.okWide Tryz.prog w r b0 30 v) (h : DataW.Trod enc Tryz.prog w base spare held 30 v d p) :
    ∃ (Al : Option Addr) (cl : Nat) (lv : List Int), v = .agg #[.slice Al lv.length cl] ∧ IsRec 1 cI 0 w Al lv.length lv ∧ WfI lv := by
  obtain ⟨v0, y0, n, rfl, h0⟩ := agg_one Tryz.underlying30 (by kernel_rfl) (by kernel_rfl) hv h
  obtain ⟨a, c, l, rfl, r, wf⟩ := isIntl_of h0
  exact ⟨a, c, l, rfl, r, wf⟩
set_option maxRecDepth 100000 in
theorem isTable_of {r : Reach} {b0 : Nat} {v : Value} {d : DataW H} {p : List MemPlace} (hv : Value.okWide Tryz.prog w r b0 36 v) (h : DataW.Trod enc Tryz.prog w base spare held 36 v d p) :
    ∃ (At : Option Addr) (ct : Nat) (T : List Row2), v = .agg #[.slice At T.length ct] ∧ IsTab w At T.length T ∧ WfT T := by
  obtain ⟨v0, y0, n, rfl, h0⟩ := agg_one Tryz.underlying36 (by kernel_rfl) (by kernel_rfl) hv h
  obtain ⟨a, c, T, rfl, r, wf⟩ := isTabW_of h0
  exact ⟨a, c, T, rfl, r, wf⟩
end
end Go.Proofs.YtljojgpjgjfddaaGreat
