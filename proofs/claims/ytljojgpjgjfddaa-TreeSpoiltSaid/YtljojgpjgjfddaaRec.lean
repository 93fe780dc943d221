/- Slices of records (m cells each) in memory, whatever the records are. No program in sight. -/
import Derived.Test.YtljojgpjgjfddaaWords
namespace Go.Proofs.Ytljojgpjgjfddaa
open Go.RowKit
set_option linter.unusedVariables false

section
variable {α : Type} {m : Nat} {c : α → List Value} {d : α}

/-- The slice (a, len) reads as the records xs: record i has the cells c (xs i). -/
def IsRec (m : Nat) (c : α → List Value) (d : α) (w : World) (a : Option Addr) (len : Nat) (xs : List α) : Prop :=
  xs.length = len ∧ (0 < len → ∃ b off, a = some ⟨b, off, none⟩ ∧ b < w.heap.size ∧ ∀ i j, i < len → j < m → w.cell? ⟨b, off + i * m + j, none⟩ = (c (xs.getD i d))[j]?)

theorem IsRec.nil (w : World) : IsRec m c d w none 0 [] := ⟨rfl, fun h => absurd h (by omega)⟩
theorem IsRec.below {w w' : World} {B len : Nat} {a : Option Addr} {xs : List α} (h : IsRec m c d w a len xs) (hB : w.heap.size ≤ B) (hb : Below B w w') : IsRec m c d w' a len xs := by
  refine ⟨h.1, fun h0 => ?_⟩
  obtain ⟨b, off, e, hlt, hc⟩ := h.2 h0
  refine ⟨b, off, e, by have := hb.size; omega, fun i j hi hj => ?_⟩
  rw [hb.cell (p := ⟨b, off + i * m + j, none⟩) (by show b < B; omega)]; exact hc i j hi hj
theorem IsRec.grown {w w' : World} {len : Nat} {row : Option Nat} {a : Option Addr} {xs : List α} (h : IsRec m c d w a len xs) (hg : w.grownBy w' row) (hne : ∀ x : Addr, a = some x → some x.block ≠ row) : IsRec m c d w' a len xs := by
  refine ⟨h.1, fun h0 => ?_⟩
  obtain ⟨b, off, e, hlt, hc⟩ := h.2 h0
  refine ⟨b, off, e, by have := hg.size; omega, fun i j hi hj => ?_⟩
  have hb := hne ⟨b, off, none⟩ e
  rw [hg.cell_far ⟨b, off + i * m + j, none⟩ hlt hb]; exact hc i j hi hj
theorem IsRec.alloc {w : World} {len : Nat} {a : Option Addr} {xs : List α} (h : IsRec m c d w a len xs) (o : Obj) : IsRec m c d (w.alloc o) a len xs := h.below (Nat.le_refl _) ((Below.refl _ _).alloc (Nat.le_refl _) o)

theorem flatG_length (hc : ∀ x, (c x).length = m) (xs : List α) : (xs.flatMap c).length = xs.length * m := by
  induction xs with
  | nil => simp
  | cons x l ih => rw [List.flatMap_cons, List.length_append, ih, hc, List.length_cons, Nat.add_mul]; omega
theorem flatG_at (hc : ∀ x, (c x).length = m) (xs : List α) (i j : Nat) (hi : i < xs.length) (hj : j < m) : (xs.flatMap c)[i * m + j]? = (c (xs.getD i d))[j]? := by
  induction xs generalizing i with
  | nil => simp at hi
  | cons x l ih =>
    rw [List.flatMap_cons]
    cases i with
    | zero => rw [Nat.zero_mul, Nat.zero_add, List.getElem?_append_left (by rw [hc]; exact hj)]; rfl
    | succ i =>
      have e1 : (i + 1) * m + j = (c x).length + (i * m + j) := by rw [hc, Nat.add_mul]; omega
      rw [e1, List.getElem?_append_right (by omega), Nat.add_sub_cancel_left, ih i (by simpa using hi)]
      simp

theorem rec_of_own {w : World} {base e n : Nat} {v : Value} {xs : List α} (hc : ∀ x, (c x).length = m) (hm : 0 < m) (h : w.ownsRow base e m v n (xs.flatMap c)) :
    ∃ a cap, v = .slice a n cap ∧ n ≤ cap ∧ IsRec m c d w a n xs ∧ ∀ x, a = some x → base ≤ x.block := by
  have hl : xs.length = n := by
    have := h.1
    rw [flatG_length hc] at this
    exact Nat.eq_of_mul_eq_mul_right hm this
  rcases h.2 with ⟨rfl, hn⟩ | ⟨g, cap, cur, rfl, hb, hg, hnc, _⟩
  · subst hn
    have : xs = [] := List.eq_nil_of_length_eq_zero hl
    subst this
    exact ⟨none, 0, rfl, Nat.le_refl _, IsRec.nil w, by simp⟩
  · refine ⟨_, cap, rfl, hnc, ⟨hl, fun h0 => ⟨g, 0, rfl, (Array.getElem?_eq_some_iff.1 hg).1, fun i j hi hj => ?_⟩⟩, by intro x e; injection e with e; subst e; exact hb⟩
    have hcl := h.cells (g := g) rfl
    have e : ∀ k, (⟨g, 0, none⟩ : Addr).add k = ⟨g, 0 + k, none⟩ := fun k => by unfold Addr.add; split <;> simp_all
    have hf := flatG_at (d := d) hc xs i j (by omega) hj
    have hcj : j < (c (xs.getD i d)).length := by rw [hc]; exact hj
    have h1 := hcl (i * m + j) _ (by rw [hf]; exact List.getElem?_eq_getElem hcj)
    rw [e] at h1
    rw [← Nat.add_assoc] at h1
    rw [h1, List.getElem?_eq_getElem hcj]

theorem reads_of_rec {w : World} {a : Option Addr} {len : Nat} {xs : List α} (hc : ∀ x, (c x).length = m) (h : IsRec m c d w a len xs) : Reads w w.heap.size m a len (xs.flatMap c) := by
  refine ⟨by rw [flatG_length hc, h.1], fun h0 => ?_⟩
  obtain ⟨b, off, ha, hb, hcc⟩ := h.2 h0
  refine ⟨_, ha, hb, fun j u hu => ?_⟩
  have hj : j < (xs.flatMap c).length := by
    rcases Nat.lt_or_ge j (xs.flatMap c).length with h | h
    · exact h
    · rw [List.getElem?_eq_none h] at hu; cases hu
  rw [flatG_length hc] at hj
  have hm : 0 < m := by
    rcases Nat.eq_zero_or_pos m with h0 | h0
    · subst h0; simp at hj
    · exact h0
  have e : (⟨b, off, none⟩ : Addr).add j = ⟨b, off + j, none⟩ := by unfold Addr.add; split <;> simp_all
  rw [e]
  have hq : j / m < xs.length := Nat.div_lt_of_lt_mul (by rw [Nat.mul_comm]; exact hj)
  have hr : j % m < m := Nat.mod_lt _ hm
  have hjj : j = j / m * m + j % m := by rw [Nat.mul_comm]; exact (Nat.div_add_mod j m).symm
  have h1 := hcc (j / m) (j % m) (by rw [← h.1]; exact hq) hr
  rw [hjj, flatG_at (d := d) hc xs _ _ hq hr] at hu
  rw [Nat.add_assoc, ← hjj] at h1
  rw [h1, hu]
end
end Go.Proofs.Ytljojgpjgjfddaa
