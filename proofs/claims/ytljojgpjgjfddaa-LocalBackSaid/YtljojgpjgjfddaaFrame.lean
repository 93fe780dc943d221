/- What a walk is told of an argument: a slice of integers; a slice of structs whose fields are all ints. -/
import Derived.ProofKit
import Derived.OpenShut
import Derived.Below
import Derived.Deep.Slices
import Derived.Deep.Fields
import Derived.ChangeSame
import Derived.Lib.SmallJoins
namespace Go.Proofs.Ytljojgpjgjfddaa
open Go.ChangeShapes Go.WideShapes Go.ChangeAt Go.RowKit Go.Deep
set_option linter.unusedVariables false

/-- The slice (a, len) reads as the integers zs. -/
def IsInts (k : IntKind) (w : World) (a : Option Addr) (len : Nat) (zs : List Int) : Prop :=
  len ≤ maxLen ∧ zs.length = len ∧ (∀ n ∈ zs, (Lit.int k n).wf = true) ∧
  (0 < len → ∃ b off, a = some ⟨b, off, none⟩ ∧ b < w.heap.size ∧ ∀ i, i < len → w.cell? ⟨b, off + i, none⟩ = some (.int k (zs.getD i 0)))

/-- The slice (a, len) reads as structs of m ints each. -/
def IsStructs (m : Nat) (w : World) (a : Option Addr) (len : Nat) (zs : List (List Int)) : Prop :=
  len ≤ maxLen ∧ zs.length = len ∧ (∀ z ∈ zs, z.length = m ∧ ∀ n ∈ z, (Lit.int .i64 n).wf = true) ∧
  (0 < len → ∃ b off, a = some ⟨b, off, none⟩ ∧ b < w.heap.size ∧ ∀ i j, i < len → j < m → w.cell? ⟨b, off + i * m + j, none⟩ = some (.int .i64 ((zs.getD i []).getD j 0)))

theorem lt_of_cell {w : World} {b off : Nat} {v : Value} (h : w.cell? ⟨b, off, none⟩ = some v) : b < w.heap.size := by
  rcases Nat.lt_or_ge b w.heap.size with hlt | hge
  · exact hlt
  · simp [World.cell?, Array.getElem?_eq_none hge] at h


section
variable {H : Type} {enc : TypeId × Value → H} {P : Program} {w : World} {base : Nat} {spare : Nat → Bool} {held : Bool}

theorem isInts_of {k : IntKind} {t e : TypeId} {a : Option Addr} {len cap : Nat} {d : DataW H} {p : List MemPlace} (ht : P.underlying t = some (.slice e)) (he : P.underlying e = some (.int k)) (hC : P.cellsOf e = 1)
    (h : DataW.Trod enc P w base spare held t (.slice a len cap) d p) : ∃ zs, IsInts k w a len zs := by
  obtain ⟨fuel, hf⟩ := h
  rcases open_ints ht he hC hf with ⟨hcs, _⟩ | ⟨x, l, c, zs, hcs, _, hl, hm, hz, _, hcell, hwz⟩
  · simp [Value.cells] at hcs
    obtain ⟨rfl, rfl, rfl⟩ := hcs
    exact ⟨[], by omega, rfl, by simp, fun h => absurd h (by omega)⟩
  · simp [Value.cells] at hcs
    obtain ⟨rfl, rfl, rfl⟩ := hcs
    have hzl : len ≤ zs.length := by rw [hz]; split <;> omega
    refine ⟨zs.take len, by omega, by simp; omega, fun n hn => hwz n (List.mem_of_mem_take hn), fun h0 => ?_⟩
    obtain ⟨b, off, spot⟩ := x
    have hc0 := hcell 0 (by omega)
    have hspot : spot = none := by simpa [Addr.add] using World.cell?_spot hc0
    subst hspot
    have e0 : w.cell? ⟨b, off, none⟩ = some (.int k (zs.getD 0 0)) := by simpa [Addr.add] using hc0
    refine ⟨b, off, rfl, lt_of_cell e0, fun i hi => ?_⟩
    have := hcell i (by omega)
    have e1 : Addr.add ⟨b, off, none⟩ i = ⟨b, off + i, none⟩ := by unfold Addr.add; split <;> simp_all
    rw [e1] at this
    rw [this]
    simp [hi]

theorem open_slice_fields {t e : TypeId} {fs : Array Field} {fuel : Nat} {cs : List Value} {x : DataW H × List MemPlace} (ht : P.underlying t = some (.slice e)) (he : P.underlying e = some (.struct fs))
    (hone : oneCellFields P fs = true) (hC : P.cellsOf e = fs.size) (h : DataW.trod enc P w base spare held fuel t cs = some x) :
    (cs = [.slice none 0 0] ∧ x = (.nil, [])) ∨
    ∃ (a : Addr) (len cap m : Nat) (D : Nat → DataW H) (Pl : Nat → List MemPlace), cs = [.slice (some a) len cap] ∧ base ≤ a.block ∧ len ≤ cap ∧ cap ≤ maxLen ∧ m = (if spare a.block then cap else len) ∧
      x = (.slice ((List.range len).map D) ((List.range (m - len)).map fun j => D (len + j)), MemPlace.row a (m * fs.size) ++ (List.range m).flatMap Pl) ∧
      ∀ i, i < m → ∃ (ys : List (DataW H × List MemPlace)) (n : Nat), D i = .agg (ys.map (·.1)) ∧ Pl i = ys.flatMap (·.2) ∧ ys.length = fs.size ∧
        ∀ (j : Nat) (f : Field), fs[j]? = some f → ∃ (v : Value) (y : DataW H × List MemPlace), w.cell? (a.add (i * fs.size + j)) = some v ∧ ys[j]? = some y ∧ DataW.trod enc P w base spare held n f.type [v] = some y := by
  rcases open_slice ht h with h0 | ⟨a, len, cap, m, n, D, Pl, hcs, hb, hl, hm, hmm, hx, hi⟩
  · exact .inl h0
  · refine .inr ⟨a, len, cap, m, D, Pl, hcs, hb, hl, hm, hmm, by rw [hC] at hx; exact hx, fun i him => ?_⟩
    obtain ⟨cs', hc, ht'⟩ := hi i him
    rw [hC] at hc
    obtain ⟨ys, n', hn', hy, hlen, hyl, hf⟩ := DataW.trod_struct he ht'
    obtain ⟨_, hcl, hat⟩ := World.cells?_some hc
    simp only [Prod.mk.injEq] at hy
    refine ⟨ys, n', hy.1, hy.2, hyl, fun j f hj => ?_⟩
    obtain ⟨ho, hk⟩ := hone_of hone j f hj
    have hjl : j < fs.size := (Array.getElem?_eq_some_iff.1 hj).1
    have hcell := hat j hjl
    have hv : cs'[j]? = some (cs'[j]'(by omega)) := List.getElem?_eq_getElem (by omega)
    have h1 := hf j f hj
    rw [ho, hk] at h1
    have hone' : (cs'.drop j).take 1 = [cs'[j]'(by omega)] := by
      rw [List.drop_eq_getElem_cons (by omega)]
      rfl
    rw [hone'] at h1
    have hys : ys[j]? = some (ys[j]'(by omega)) := List.getElem?_eq_getElem (by omega)
    refine ⟨_, _, ?_, hys, h1.trans hys⟩
    rw [← Go.Deep.add_add, hcell, hv]

/-- All fields are ints. -/
def isI64 : Option TypeDesc → Bool
  | some (.int .i64) => true
  | _ => false
def intFields (P : Program) (fs : Array Field) : Bool := fs.toList.all fun f => isI64 (P.underlying f.type)
theorem intFields_at {fs : Array Field} (h : intFields P fs = true) (j : Nat) (f : Field) (hj : fs[j]? = some f) : P.underlying f.type = some (.int .i64) := by
  unfold intFields at h
  rw [List.all_eq_true] at h
  have hm : f ∈ fs.toList := by
    obtain ⟨hl, hf⟩ := Array.getElem?_eq_some_iff.1 hj
    rw [← hf]; simp
  have := h f hm
  unfold isI64 at this
  split at this
  · assumption
  · cases this

theorem isStructs_of {m : Nat} {t e : TypeId} {fs : Array Field} {a : Option Addr} {len cap : Nat} {d : DataW H} {p : List MemPlace} (ht : P.underlying t = some (.slice e)) (he : P.underlying e = some (.struct fs))
    (hone : oneCellFields P fs = true) (hC : P.cellsOf e = fs.size) (hm : fs.size = m) (hint : intFields P fs = true) (hm0 : 0 < m)
    (h : DataW.Trod enc P w base spare held t (.slice a len cap) d p) : ∃ zs, IsStructs m w a len zs := by
  obtain ⟨fuel, hf⟩ := h
  rcases open_slice_fields ht he hone hC hf with ⟨hcs, _⟩ | ⟨x, l, c, M, D, Pl, hcs, _, hl, hmx, hM, _, hi⟩
  · simp [Value.cells] at hcs
    obtain ⟨rfl, rfl, rfl⟩ := hcs
    exact ⟨[], by omega, rfl, by simp, fun h => absurd h (by omega)⟩
  · simp [Value.cells] at hcs
    obtain ⟨rfl, rfl, rfl⟩ := hcs
    have hlM : len ≤ M := by rw [hM]; split <;> omega
    have hv : ∀ i j, ∃ n : Int, i < len → j < m → w.cell? (x.add (i * m + j)) = some (.int .i64 n) ∧ (Lit.int .i64 n).wf = true := by
      intro i j
      by_cases hij : i < len ∧ j < m
      · obtain ⟨ys, n', _, _, _, hfld⟩ := hi i (by omega)
        have hj : fs[j]? = some (fs[j]'(by omega)) := Array.getElem?_eq_getElem (by omega)
        obtain ⟨v, y, hcell, _, hy⟩ := hfld j _ hj
        obtain ⟨n, hv, _, hwf⟩ := DataW.trod_int (intFields_at hint j _ hj) hy
        simp at hv
        subst hv
        rw [hm] at hcell
        exact ⟨n, fun _ _ => ⟨hcell, hwf⟩⟩
      · exact ⟨0, fun h1 h2 => absurd ⟨h1, h2⟩ hij⟩
    let N : Nat → Nat → Int := fun i j => Classical.choose (hv i j)
    have hN : ∀ i j, i < len → j < m → w.cell? (x.add (i * m + j)) = some (.int .i64 (N i j)) ∧ (Lit.int .i64 (N i j)).wf = true := fun i j => Classical.choose_spec (hv i j)
    refine ⟨(List.range len).map fun i => (List.range m).map fun j => N i j, by omega, by simp, ?_, fun h0 => ?_⟩
    · intro z hz
      simp only [List.mem_map, List.mem_range] at hz
      obtain ⟨i, hi', rfl⟩ := hz
      refine ⟨by simp, fun n hn => ?_⟩
      simp only [List.mem_map, List.mem_range] at hn
      obtain ⟨j, hj, rfl⟩ := hn
      exact (hN i j hi' hj).2
    · obtain ⟨b, off, spot⟩ := x
      have hc0 := (hN 0 0 (by omega) hm0).1
      have hspot : spot = none := by simpa [Addr.add] using World.cell?_spot hc0
      subst hspot
      have e0 : w.cell? ⟨b, off, none⟩ = some (.int .i64 (N 0 0)) := by simpa [Addr.add] using hc0
      refine ⟨b, off, rfl, lt_of_cell e0, fun i j hi hj => ?_⟩
      have := (hN i j hi hj).1
      have e1 : Addr.add ⟨b, off, none⟩ (i * m + j) = ⟨b, off + i * m + j, none⟩ := by
        unfold Addr.add; split
        · next h => (have h1 : i * m = 0 := by omega); (have h2 : j = 0 := by omega); simp
        · simp [Nat.add_assoc]
      rw [e1] at this
      rw [this]
      simp [hi, hj]
end
end Go.Proofs.Ytljojgpjgjfddaa
