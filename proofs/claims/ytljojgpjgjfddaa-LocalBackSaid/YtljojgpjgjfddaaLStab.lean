/- Stable order in plain Lean (for LocalBack): a list in order whose elements of each key come in their old order is the only one. No program in sight. -/
import Derived.Test.YtljojgpjgjfddaaGValid
namespace Go.Proofs.Ytljojgpjgjfddaa
set_option linter.unusedVariables false
set_option linter.unusedSimpArgs false

section
variable {α : Type} {key : α → Int}
/-- For each key the same elements in the same order. -/
def Stb (key : α → Int) (l l' : List α) : Prop := ∀ k, l'.filter (fun x => key x == k) = l.filter (fun x => key x == k)
def SrtK (key : α → Int) (l : List α) : Prop := l.Pairwise (fun x y => key x ≤ key y)
theorem Stb.refl (l : List α) : Stb key l l := fun _ => rfl
theorem Stb.trans {a b c : List α} (h : Stb key a b) (h2 : Stb key b c) : Stb key a c := fun k => (h2 k).trans (h k)
theorem Stb.symm {a b : List α} (h : Stb key a b) : Stb key b a := fun k => (h k).symm
theorem Stb.app {a b c d : List α} (h : Stb key a b) (h2 : Stb key c d) : Stb key (a ++ c) (b ++ d) := fun k => by
  rw [List.filter_append, List.filter_append, h k, h2 k]
/-- Two blocks without a common key change places. -/
theorem Stb.rot {u v : List α} (h : ∀ x ∈ u, ∀ y ∈ v, key x ≠ key y) : Stb key (u ++ v) (v ++ u) := fun k => by
  rw [List.filter_append, List.filter_append]
  by_cases hu : ∃ x ∈ u, key x = k
  · obtain ⟨x, hx, rfl⟩ := hu
    have : v.filter (fun y => key y == key x) = [] := by
      rw [List.filter_eq_nil_iff]
      intro y hy e
      exact h x hx y hy (by have e2 : key y = key x := by simpa using e
                            exact e2.symm)
    rw [this]; simp
  · have : u.filter (fun y => key y == k) = [] := by
      rw [List.filter_eq_nil_iff]
      intro y hy e
      exact hu ⟨y, hy, by simpa using e⟩
    rw [this]; simp
theorem Stb.mem {l l' : List α} (h : Stb key l l') {x : α} : x ∈ l' ↔ x ∈ l := by
  have a : x ∈ l.filter (fun y => key y == key x) ↔ x ∈ l ∧ (key x == key x) = true := List.mem_filter
  have b : x ∈ l'.filter (fun y => key y == key x) ↔ x ∈ l' ∧ (key x == key x) = true := List.mem_filter
  rw [h (key x)] at b
  simp only [beq_self_eq_true, and_true] at a b
  exact b.symm.trans a
theorem Stb.uniq : ∀ {l l' : List α}, SrtK key l → SrtK key l' → Stb key l l' → l = l'
  | [], l', _, _, h => by
    cases l' with
    | nil => rfl
    | cons y t => exact absurd ((h.mem (x := y)).1 (List.mem_cons_self ..)) (by simp)
  | x :: t, l', s, s', h => by
    cases l' with
    | nil => exact absurd ((h.mem (x := x)).2 (List.mem_cons_self ..)) (by simp)
    | cons y t' =>
      have kx : ∀ z ∈ x :: t, key x ≤ key z := fun z hz => by
        rcases List.mem_cons.1 hz with rfl | hz
        · exact Int.le_refl _
        · exact List.rel_of_pairwise_cons s hz
      have ky : ∀ z ∈ y :: t', key y ≤ key z := fun z hz => by
        rcases List.mem_cons.1 hz with rfl | hz
        · exact Int.le_refl _
        · exact List.rel_of_pairwise_cons s' hz
      have e : key x = key y := Int.le_antisymm (kx y ((h.mem).1 (List.mem_cons_self ..))) (ky x ((h.mem).2 (List.mem_cons_self ..)))
      have f := h (key x)
      rw [List.filter_cons, List.filter_cons, if_pos (by simp [e]), if_pos (by simp)] at f
      injection f with f1 f2
      subst f1
      have g : Stb key t t' := fun k => by
        have f := h k
        rw [List.filter_cons, List.filter_cons] at f
        by_cases q : key y = k
        · rw [if_pos (by simpa using q), if_pos (by simpa using q)] at f
          injection f
        · rw [if_neg (by simpa using q), if_neg (by simpa using q)] at f
          exact f
      rw [Stb.uniq (List.Pairwise.of_cons s) (List.Pairwise.of_cons s') g]
theorem Stb.length : ∀ {l l' : List α}, Stb key l l' → l'.length = l.length
  | [], l', h => by
    cases l' with
    | nil => rfl
    | cons y t => exact absurd ((h.mem (x := y)).1 (List.mem_cons_self ..)) (by simp)
  | x :: t, l', h => by
    obtain ⟨a, b, e, ha⟩ : ∃ a b, l' = a ++ x :: b ∧ ∀ z ∈ a, key z ≠ key x := by
      have f := h (key x)
      rw [List.filter_cons, if_pos (by simp)] at f
      clear h
      induction l' with
      | nil => simp at f
      | cons y r ih =>
        rw [List.filter_cons] at f
        by_cases q : key y = key x
        · rw [if_pos (by simpa using q)] at f
          injection f with f1 f2
          subst f1
          exact ⟨[], r, rfl, fun z hz => (by cases hz)⟩
        · rw [if_neg (by simpa using q)] at f
          obtain ⟨a, b, e, ha⟩ := ih f
          exact ⟨y :: a, b, by rw [e]; rfl, fun z hz => by
            rcases List.mem_cons.1 hz with rfl | hz
            · exact q
            · exact ha z hz⟩
    subst e
    have g : Stb key t (a ++ b) := fun k => by
      have f := h k
      rw [List.filter_append, List.filter_cons, List.filter_cons] at f
      rw [List.filter_append]
      by_cases q : key x = k
      · have ea : a.filter (fun y => key y == k) = [] := by
          rw [List.filter_eq_nil_iff]
          intro z hz e
          exact ha z hz (by rw [q]; simpa using e)
        rw [ea, if_pos (by simpa using q), if_pos (by simpa using q)] at f
        rw [ea]
        injection f
      · rw [if_neg (by simpa using q), if_neg (by simpa using q)] at f
        exact f
    have := Stb.length g
    simp only [List.length_append, List.length_cons] at this ⊢
    omega
/-- The elements by key, each key's in their old order. -/
def byKey (key : α → Int) (n : Nat) (l : List α) : List α := (List.range n).flatMap fun (i : Nat) => l.filter fun x => key x == (i : Int)
theorem byKey_filter (n : Nat) (l : List α) (k : Int) : (byKey key n l).filter (fun x => key x == k) = if 0 ≤ k ∧ k < n then l.filter (fun x => key x == k) else [] := by
  induction n with
  | zero => rw [if_neg (by omega)]; rfl
  | succ n ih =>
    unfold byKey at ih ⊢
    rw [List.range_succ, List.flatMap_append, List.filter_append, ih, List.flatMap_cons, List.flatMap_nil, List.append_nil, List.filter_filter]
    by_cases q : k = (n : Int)
    · subst q
      rw [if_neg (by omega), if_pos (by omega), List.nil_append]
      congr 1
      funext x
      simp
    · have : l.filter (fun x => key x == k && key x == (n : Int)) = [] := by
        rw [List.filter_eq_nil_iff]
        intro x _ e
        simp only [Bool.and_eq_true, beq_iff_eq] at e
        exact q (by omega)
      rw [this, List.append_nil]
      by_cases q2 : 0 ≤ k ∧ k < n
      · rw [if_pos q2, if_pos (by omega)]
      · rw [if_neg q2, if_neg (by omega)]
theorem byKey_stb {n : Nat} {l : List α} (h : ∀ x ∈ l, 0 ≤ key x ∧ key x < n) : Stb key l (byKey key n l) := fun k => by
  rw [byKey_filter]
  by_cases q : 0 ≤ k ∧ k < n
  · rw [if_pos q]
  · rw [if_neg q]
    symm
    rw [List.filter_eq_nil_iff]
    intro x hx e
    have := h x hx
    simp only [beq_iff_eq] at e
    omega
theorem byKey_srt (n : Nat) (l : List α) : SrtK key (byKey key n l) ∧ ∀ x ∈ byKey key n l, key x < n := by
  induction n with
  | zero => exact ⟨List.Pairwise.nil, fun x hx => (by simp [byKey] at hx)⟩
  | succ n ih =>
    have e : byKey key (n + 1) l = byKey key n l ++ l.filter fun x => key x == (n : Int) := by
      unfold byKey; rw [List.range_succ, List.flatMap_append]; simp
    have kf : ∀ x ∈ l.filter (fun x => key x == (n : Int)), key x = n := fun x hx => by simpa using (List.mem_filter.1 hx).2
    rw [e]
    refine ⟨List.pairwise_append.2 ⟨ih.1, ?_, fun x hx y hy => ?_⟩, fun x hx => ?_⟩
    · exact List.Pairwise.imp_of_mem (fun {x y} hx hy _ => by rw [kf x hx, kf y hy]; exact Int.le_refl _) (List.pairwise_of_forall (fun _ _ => trivial))
    · have := ih.2 x hx; have := kf y hy; omega
    · rcases List.mem_append.1 hx with hx | hx
      · have := ih.2 x hx; omega
      · have := kf x hx; omega
end
end Go.Proofs.Ytljojgpjgjfddaa
