/- What a walk is told of an argument that is a plan, a list of dependencies, a list of ints. -/
import Derived.Test.YtljojgpjgjfddaaFrame
import Derived.Test.YtljojgpjgjfddaaLSplit
namespace Go.Proofs.Ytljojgpjgjfddaa
open Go.ChangeShapes Go.WideShapes Go.ChangeAt Go.RowKit Go.Deep
set_option linter.unusedVariables false

section
variable {H : Type} {enc : TypeId × Value → H} {P : Program} {w : World} {base : Nat} {spare : Nat → Bool} {held : Bool}

theorem isRec_of {α : Type} {m : Nat} {c : α → List Value} {d : α} {Wf : α → Prop} {t e : TypeId} {fs : Array Field} {a : Option Addr} {len cap fuel : Nat} {y : DataW H × List MemPlace} (ht : P.underlying t = some (.slice e)) (he : P.underlying e = some (.struct fs))
    (hone : oneCellFields P fs = true) (hC : P.cellsOf e = fs.size) (hm : fs.size = m) (hm0 : 0 < m)
    (hread : ∀ vs : List Value, vs.length = m → (∀ (j : Nat) (f : Field), fs[j]? = some f → ∃ (v : Value) (n : Nat) (y : DataW H × List MemPlace), vs[j]? = some v ∧ DataW.trod enc P w base spare held n f.type [v] = some y) → ∃ x, c x = vs ∧ Wf x)
    (h : DataW.trod enc P w base spare held fuel t [.slice a len cap] = some y) : ∃ xs : List α, xs.length = len ∧ IsRec m c d w a len xs ∧ (∀ x ∈ xs, Wf x) ∧ len ≤ maxLen := by
  rcases open_slice_fields ht he hone hC h with ⟨hcs, _⟩ | ⟨x, l, c', M, D, Pl, hcs, _, hl, hmx, hM, _, hi⟩
  · simp at hcs
    obtain ⟨rfl, rfl, rfl⟩ := hcs
    exact ⟨[], rfl, IsRec.nil w, by simp, by omega⟩
  · simp at hcs
    obtain ⟨rfl, rfl, rfl⟩ := hcs
    have hlM : len ≤ M := by rw [hM]; split <;> omega
    have hv : ∀ i, ∃ xx : α, i < len → (∀ j, j < m → w.cell? (x.add (i * m + j)) = (c xx)[j]?) ∧ Wf xx ∧ (c xx).length = m := by
      intro i
      by_cases hil : i < len
      · obtain ⟨ys, n', _, _, _, hfld⟩ := hi i (by omega)
        have hcell : ∀ j, ∃ v, j < m → w.cell? (x.add (i * m + j)) = some v ∧ ∀ f, fs[j]? = some f → ∃ (n : Nat) (y : DataW H × List MemPlace), DataW.trod enc P w base spare held n f.type [v] = some y := by
          intro j
          by_cases hj : j < m
          · have hjf : fs[j]? = some (fs[j]'(by omega)) := Array.getElem?_eq_getElem (by omega)
            obtain ⟨v, y, h1, _, h2⟩ := hfld j _ hjf
            rw [hm] at h1
            refine ⟨v, fun _ => ⟨h1, fun f hf => ?_⟩⟩
            rw [hjf] at hf
            injection hf with hf
            subst hf
            exact ⟨n', y, h2⟩
          · exact ⟨undef, fun h => absurd h hj⟩
        let V : Nat → Value := fun j => Classical.choose (hcell j)
        have hV : ∀ j, j < m → w.cell? (x.add (i * m + j)) = some (V j) ∧ ∀ f, fs[j]? = some f → ∃ (n : Nat) (y : DataW H × List MemPlace), DataW.trod enc P w base spare held n f.type [V j] = some y := fun j => Classical.choose_spec (hcell j)
        obtain ⟨xx, hxx, hwf⟩ := hread ((List.range m).map V) (by simp) (fun j f hf => by
          have hj : j < m := by rw [← hm]; exact (Array.getElem?_eq_some_iff.1 hf).1
          obtain ⟨n, y, hy⟩ := (hV j hj).2 f hf
          exact ⟨V j, n, y, by simp [hj], hy⟩)
        refine ⟨xx, fun _ => ⟨fun j hj => ?_, hwf, by rw [hxx]; simp⟩⟩
        rw [(hV j hj).1, hxx]
        simp [hj]
      · obtain ⟨xx, _⟩ : ∃ xx : α, True := ⟨d, trivial⟩
        exact ⟨xx, fun h => absurd h hil⟩
    let X : Nat → α := fun i => Classical.choose (hv i)
    have hX : ∀ i, i < len → (∀ j, j < m → w.cell? (x.add (i * m + j)) = (c (X i))[j]?) ∧ Wf (X i) ∧ (c (X i)).length = m := fun i => Classical.choose_spec (hv i)
    refine ⟨(List.range len).map X, by simp, ⟨by simp, fun h0 => ?_⟩, ?_, by omega⟩
    · obtain ⟨b, off, spot⟩ := x
      have hc0 := (hX 0 (by omega)).1 0 hm0
      have hl0 := (hX 0 (by omega)).2.2
      have hsome : (c (X 0))[0]? = some ((c (X 0))[0]'(by omega)) := List.getElem?_eq_getElem (by omega)
      rw [hsome] at hc0
      have hspot : spot = none := by simpa [Addr.add] using World.cell?_spot hc0
      subst hspot
      have e0 : w.cell? ⟨b, off, none⟩ = some ((c (X 0))[0]'(by omega)) := by simpa [Addr.add] using hc0
      refine ⟨b, off, rfl, lt_of_cell e0, fun i j hi hj => ?_⟩
      have h1 := (hX i hi).1 j hj
      have e1 : Addr.add ⟨b, off, none⟩ (i * m + j) = ⟨b, off + i * m + j, none⟩ := by
        unfold Addr.add; split
        · next h => (have h1 : i * m = 0 := by omega); (have h2 : j = 0 := by omega); simp
        · simp [Nat.add_assoc]
      rw [e1] at h1
      rw [h1]
      simp [hi]
    · intro xx hxx
      rw [List.mem_map] at hxx
      obtain ⟨i, hi', rfl⟩ := hxx
      exact (hX i (List.mem_range.1 hi')).2.1
end

theorem isRec_ints {w : World} {a : Option Addr} {len : Nat} {zs : List Int} (h : IsInts .i64 w a len zs) : IsRec 1 cI 0 w a len zs ∧ WfI zs := by
  refine ⟨⟨h.2.1, fun h0 => ?_⟩, h.2.2.1⟩
  obtain ⟨b, off, ha, hb, hc⟩ := h.2.2.2 h0
  refine ⟨b, off, ha, hb, fun i j hi hj => ?_⟩
  obtain rfl : j = 0 := by omega
  have := hc i hi
  simpa [cI] using this
theorem isRec_deps {w : World} {a : Option Addr} {len : Nat} {zs : List (List Int)} (h : IsStructs 3 w a len zs) : ∃ ds : List Dp, ds.length = len ∧ IsRec 3 cD d0 w a len ds ∧ WfD ds := by
  refine ⟨zs.map fun z => (z.getD 0 0, z.getD 1 0, z.getD 2 0), by simpa using h.2.1, ⟨by simpa using h.2.1, fun h0 => ?_⟩, ?_⟩
  · obtain ⟨b, off, e, hlt, hc⟩ := h.2.2.2 h0
    refine ⟨b, off, e, hlt, fun i j hi hj => ?_⟩
    have hl : i < zs.length := by rw [h.2.1]; exact hi
    have e1 : (zs.map fun z => (z.getD 0 0, z.getD 1 0, z.getD 2 0)).getD i d0 = ((zs.getD i []).getD 0 0, (zs.getD i []).getD 1 0, (zs.getD i []).getD 2 0) := by
      simp [List.getD, hl]
    rw [e1, hc i j hi hj]
    match j, hj with
    | 0, _ => rfl
    | 1, _ => rfl
    | 2, _ => rfl
  · intro d hd
    rw [List.mem_map] at hd
    obtain ⟨z, hz, rfl⟩ := hd
    obtain ⟨hzl, hwf⟩ := h.2.2.1 z hz
    have g : ∀ j, j < 3 → (Lit.int .i64 (z.getD j 0)).wf = true := by
      intro j hj
      have hjl : j < z.length := by omega
      exact hwf _ (by simp [List.getD, hjl])
    exact ⟨g 0 (by omega), g 1 (by omega), g 2 (by omega)⟩

section
variable {H : Type} {enc : TypeId × Value → H} {w : World} {base : Nat} {spare : Nat → Bool} {held : Bool}
theorem trod_slice_form {P : Program} {fuel : Nat} {t e : TypeId} {v : Value} {y : DataW H × List MemPlace} (ht : P.underlying t = some (.slice e)) (h : DataW.trod enc P w base spare held fuel t [v] = some y) : ∃ a len cap, v = .slice a len cap := by
  rcases open_slice ht h with ⟨hcs, _⟩ | ⟨a, len, cap, m, n, D, Pl, hcs, _⟩
  · simp at hcs; exact ⟨none, 0, 0, hcs⟩
  · simp at hcs; exact ⟨some a, len, cap, hcs⟩
theorem three {α : Type} {l : List α} (h : l.length = 3) : ∃ a b c, l = [a, b, c] := by
  match l, h with
  | [a, b, c], _ => exact ⟨a, b, c, rfl⟩
theorem six {α : Type} {l : List α} (h : l.length = 6) : ∃ a b c d e f, l = [a, b, c, d, e, f] := by
  match l, h with
  | [a, b, c, d, e, f], _ => exact ⟨a, b, c, d, e, f, rfl⟩
set_option maxRecDepth 100000 in
theorem isNodes_of {fuel : Nat} {v : Value} {y : DataW H × List MemPlace} (h : DataW.trod enc Try.prog w base spare held fuel 22 [v] = some y) :
    ∃ (a : Option Addr) (cap : Nat) (xs : List Nd), v = .slice a xs.length cap ∧ IsRec 3 cN nd0 w a xs.length xs ∧ ∀ x ∈ xs, WfN x := by
  obtain ⟨a, len, cap, rfl⟩ := trod_slice_form Try.underlying22 h
  obtain ⟨xs, hl, h1, h2, _⟩ := isRec_of (c := cN) (d := nd0) (Wf := WfN) (m := 3) Try.underlying22 Try.underlying105 (by kernel_rfl) (by kernel_rfl) (by decide) (by decide) (fun vs hvs hr => by
    obtain ⟨a, b, c, rfl⟩ := three hvs
    obtain ⟨v0, n0, y0, e0, h0⟩ := hr 0 _ rfl
    obtain ⟨v1, n1, y1, e1, h1⟩ := hr 1 _ rfl
    obtain ⟨v2, n2, y2, e2, h2⟩ := hr 2 _ rfl
    simp at e0 e1 e2
    subst e0; subst e1; subst e2
    obtain ⟨s, hs, _, hw⟩ := DataW.trod_string Try.underlying9 h0
    obtain ⟨b, hb, _⟩ := DataW.trod_bool Try.underlying4 h1
    obtain ⟨n, hn, _, hwn⟩ := DataW.trod_int Try.underlying3 h2
    simp at hs hb hn
    subst hs; subst hb; subst hn
    exact ⟨⟨s, b, n⟩, rfl, hw, hwn⟩) h
  subst hl
  exact ⟨a, cap, xs, rfl, h1, h2⟩
set_option maxRecDepth 100000 in
theorem isCables_of {fuel : Nat} {v : Value} {y : DataW H × List MemPlace} (h : DataW.trod enc Try.prog w base spare held fuel 23 [v] = some y) :
    ∃ (a : Option Addr) (cap : Nat) (xs : List Cb), v = .slice a xs.length cap ∧ IsRec 6 cC cb0 w a xs.length xs ∧ ∀ x ∈ xs, WfC x := by
  obtain ⟨a, len, cap, rfl⟩ := trod_slice_form Try.underlying23 h
  obtain ⟨xs, hl, h1, h2, _⟩ := isRec_of (c := cC) (d := cb0) (Wf := WfC) (m := 6) Try.underlying23 Try.underlying73 (by kernel_rfl) (by kernel_rfl) (by decide) (by decide) (fun vs hvs hr => by
    obtain ⟨a, b, c, d, e, f, rfl⟩ := six hvs
    obtain ⟨v0, n0, y0, e0, h0⟩ := hr 0 _ rfl
    obtain ⟨v1, n1, y1, e1, h1⟩ := hr 1 _ rfl
    obtain ⟨v2, n2, y2, e2, h2⟩ := hr 2 _ rfl
    obtain ⟨v3, n3, y3, e3, h3⟩ := hr 3 _ rfl
    obtain ⟨v4, n4, y4, e4, h4⟩ := hr 4 _ rfl
    obtain ⟨v5, n5, y5, e5, h5⟩ := hr 5 _ rfl
    simp at e0 e1 e2 e3 e4 e5
    subst e0; subst e1; subst e2; subst e3; subst e4; subst e5
    obtain ⟨i0, k0, _, w0⟩ := DataW.trod_int Try.underlying3 h0
    obtain ⟨i1, k1, _, w1⟩ := DataW.trod_int Try.underlying3 h1
    obtain ⟨i2, k2, _, w2⟩ := DataW.trod_int Try.underlying3 h2
    obtain ⟨i3, k3, _, w3⟩ := DataW.trod_int Try.underlying3 h3
    obtain ⟨i4, k4, _, w4⟩ := DataW.trod_int Try.underlying3 h4
    obtain ⟨i5, k5, _, w5⟩ := DataW.trod_int Try.underlying3 h5
    simp at k0 k1 k2 k3 k4 k5
    subst k0; subst k1; subst k2; subst k3; subst k4; subst k5
    exact ⟨⟨i0, i1, i2, i3, i4, i5⟩, rfl, w0, w1, w2, w3, w4, w5⟩) h
  subst hl
  exact ⟨a, cap, xs, rfl, h1, h2⟩
set_option maxRecDepth 100000 in
theorem isPlan_of {r : Reach} {b0 : Nat} {v : Value} {d : DataW H} {p : List MemPlace} (hv : Value.okWide Try.prog w r b0 25 v) (h : DataW.Trod enc Try.prog w base spare held 25 v d p) :
    ∃ (An Ac : Option Addr) (cn cc : Nat) (pl : Pl), v = .agg #[.slice An pl.ns.length cn, .slice Ac pl.cs.length cc] ∧ IsPlan w An Ac pl ∧ WfP pl := by
  obtain ⟨v0, v1, y0, y1, n, rfl, _, _, h0, h1⟩ := Joins.open_agg2 Try.underlying25 (by kernel_rfl) (by kernel_rfl) hv h
  obtain ⟨An, cn, ns, rfl, hn, wn⟩ := isNodes_of h0
  obtain ⟨Ac, cc, cs, rfl, hc, wc⟩ := isCables_of h1
  exact ⟨An, Ac, cn, cc, ⟨ns, cs⟩, rfl, ⟨hn, hc⟩, ⟨wn, wc⟩⟩
end
end Go.Proofs.Ytljojgpjgjfddaa
