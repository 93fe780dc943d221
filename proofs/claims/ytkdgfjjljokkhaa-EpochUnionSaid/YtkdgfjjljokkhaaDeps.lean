/- Lists of dependencies (three ints each) in memory, and what lifting them comes to. No program in sight. -/
import Derived.Test.YtkdgfjjljokkhaaWords
import Derived.Test.YtkdgfjjljokkhaaFrame
namespace Go.Proofs.Ytkdgfjjljokkhaa
open Go.RowKit
set_option linter.unusedVariables false

def d0 : Int × Int × Int := (0, 0, 0)
/-- The three cells of a dependency. -/
def cD (d : Int × Int × Int) : List Value := [.int .i64 d.1, .int .i64 d.2.1, .int .i64 d.2.2]
theorem cD_length (d : Int × Int × Int) : (cD d).length = 3 := rfl
theorem flat_length (ds : List (Int × Int × Int)) : (ds.flatMap cD).length = ds.length * 3 := by
  induction ds with
  | nil => rfl
  | cons d l ih => rw [List.flatMap_cons, List.length_append, ih, cD_length, List.length_cons]; omega
theorem flat_at (ds : List (Int × Int × Int)) (i : Nat) (hi : i < ds.length) :
    (ds.flatMap cD)[i * 3]? = some (.int .i64 (ds.getD i d0).1) ∧ (ds.flatMap cD)[i * 3 + 1]? = some (.int .i64 (ds.getD i d0).2.1) ∧ (ds.flatMap cD)[i * 3 + 2]? = some (.int .i64 (ds.getD i d0).2.2) := by
  induction ds generalizing i with
  | nil => simp at hi
  | cons d l ih =>
    rw [List.flatMap_cons]
    cases i with
    | zero => exact ⟨rfl, rfl, rfl⟩
    | succ j =>
      have h := ih j (by simpa using hi)
      have e1 : (j + 1) * 3 = (cD d).length + j * 3 := by rw [cD_length]; omega
      rw [e1, Nat.add_assoc, Nat.add_assoc, List.getElem?_append_right (by omega), List.getElem?_append_right (by omega), List.getElem?_append_right (by omega)]
      simp only [Nat.add_sub_cancel_left]
      simpa using h
theorem flat_one (ds : List (Int × Int × Int)) : ∀ u ∈ ds.flatMap cD, u.oneCell' = true := by
  intro u hu
  rw [List.mem_flatMap] at hu
  obtain ⟨d, _, hd⟩ := hu
  simp only [cD, List.mem_cons, List.not_mem_nil, or_false] at hd
  rcases hd with rfl | rfl | rfl <;> rfl

/-- The slice (a, len) reads as the dependencies ds. -/
def IsDeps (w : World) (a : Option Addr) (len : Nat) (ds : List (Int × Int × Int)) : Prop :=
  ds.length = len ∧ (0 < len → ∃ b off, a = some ⟨b, off, none⟩ ∧ b < w.heap.size ∧ ∀ i, i < len →
    w.cell? ⟨b, off + i * 3, none⟩ = some (.int .i64 (ds.getD i d0).1) ∧ w.cell? ⟨b, off + i * 3 + 1, none⟩ = some (.int .i64 (ds.getD i d0).2.1) ∧ w.cell? ⟨b, off + i * 3 + 2, none⟩ = some (.int .i64 (ds.getD i d0).2.2))

theorem IsDeps.below {w w' : World} {B len : Nat} {a : Option Addr} {ds : List (Int × Int × Int)} (h : IsDeps w a len ds) (hB : w.heap.size ≤ B) (hb : Below B w w') : IsDeps w' a len ds := by
  refine ⟨h.1, fun h0 => ?_⟩
  obtain ⟨b, off, e, hlt, hc⟩ := h.2 h0
  refine ⟨b, off, e, by have := hb.size; omega, fun i hi => ?_⟩
  have h2 := hc i hi
  have k : ∀ o, w'.cell? ⟨b, o, none⟩ = w.cell? ⟨b, o, none⟩ := fun o => hb.cell (p := ⟨b, o, none⟩) (by show b < B; omega)
  rw [k, k, k]; exact h2

theorem isDeps_of_structs {w : World} {a : Option Addr} {len : Nat} {zs : List (List Int)} (h : IsStructs 3 w a len zs) : IsDeps w a len (zs.map fun z => (z.getD 0 0, z.getD 1 0, z.getD 2 0)) := by
  refine ⟨by simpa using h.2.1, fun h0 => ?_⟩
  obtain ⟨b, off, e, hlt, hc⟩ := h.2.2.2 h0
  refine ⟨b, off, e, hlt, fun i hi => ?_⟩
  have hl : i < zs.length := by rw [h.2.1]; exact hi
  have e1 : (zs.map fun z => (z.getD 0 0, z.getD 1 0, z.getD 2 0)).getD i d0 = ((zs.getD i []).getD 0 0, (zs.getD i []).getD 1 0, (zs.getD i []).getD 2 0) := by
    simp [List.getD, hl]
  rw [e1]
  exact ⟨hc i 0 hi (by omega), hc i 1 hi (by omega), hc i 2 hi (by omega)⟩

/-- An owned row of dependencies reads as them. -/
theorem isDeps_of_own {w : World} {base e n : Nat} {v : Value} {ds : List (Int × Int × Int)} (h : w.ownsRow base e 3 v n (ds.flatMap cD)) : ∃ a cap, v = .slice a n cap ∧ IsDeps w a n ds := by
  have hl : ds.length = n := by have := h.1; rw [flat_length] at this; omega
  rcases h.2 with ⟨rfl, hn⟩ | ⟨g, cap, cur, rfl, hb, hg, _⟩
  · subst hn
    have : ds = [] := List.eq_nil_of_length_eq_zero hl
    subst this
    exact ⟨none, 0, rfl, rfl, fun h => absurd h (by omega)⟩
  · refine ⟨_, cap, rfl, hl, fun h0 => ⟨g, 0, rfl, (Array.getElem?_eq_some_iff.1 hg).1, fun i hi => ?_⟩⟩
    have hc := h.cells (g := g) rfl
    have fa := flat_at ds i (by omega)
    have e : ∀ j, (⟨g, 0, none⟩ : Addr).add j = ⟨g, 0 + j, none⟩ := fun j => by unfold Addr.add; split <;> simp_all
    have h1 := hc _ _ fa.1
    have h2 := hc _ _ fa.2.1
    have h3 := hc _ _ fa.2.2
    rw [e] at h1 h2 h3
    exact ⟨h1, h2, h3⟩

/-! Lifting. -/
def okD (d : Int × Int × Int) : Bool := decide (0 ≤ d.1 ∧ d.1 < 64 ∧ 0 ≤ d.2.1 ∧ d.2.1 < 64)
def liftD (c : Int) (d : Int × Int × Int) : Int × Int × Int := (8 * d.1 + c, 8 * d.2.1 + c, d.2.2)
def liftL (c : Int) (ds : List (Int × Int × Int)) : List (Int × Int × Int) := (ds.filter okD).map (liftD c)
theorem liftL_length (c : Int) (ds : List (Int × Int × Int)) : (liftL c ds).length ≤ ds.length := by
  unfold liftL; rw [List.length_map]; exact List.length_filter_le _ _
theorem take_snocD (ds : List (Int × Int × Int)) (k : Nat) (h : k < ds.length) : ds.take (k + 1) = ds.take k ++ [ds.getD k d0] := by
  rw [List.take_succ_eq_append_getElem h]; simp [List.getD, h]
theorem liftL_yes (c : Int) (ds : List (Int × Int × Int)) (k : Nat) (h : k < ds.length) (hd : okD (ds.getD k d0) = true) : liftL c (ds.take (k + 1)) = liftL c (ds.take k) ++ [liftD c (ds.getD k d0)] := by
  rw [take_snocD ds k h]; simp only [liftL, List.filter_append, List.map_append, List.filter_cons, hd]; rfl
theorem liftL_no (c : Int) (ds : List (Int × Int × Int)) (k : Nat) (h : k < ds.length) (hd : okD (ds.getD k d0) = false) : liftL c (ds.take (k + 1)) = liftL c (ds.take k) := by
  rw [take_snocD ds k h]; simp only [liftL, List.filter_append, List.map_append, List.filter_cons, hd]; simp
end Go.Proofs.Ytkdgfjjljokkhaa
