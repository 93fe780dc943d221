/- The merging of slices.SortStableFunc in plain Lean: cuts, rotations, insertions and blocks. No program in sight. -/
import Derived.Test.YtljojgpjgjfddaaLStab
namespace Go.Proofs.Ytljojgpjgjfddaa
set_option linter.unusedVariables false
set_option linter.unusedSimpArgs false

section
variable {α : Type} {key : α → Int}
theorem SrtK.nil : SrtK key ([] : List α) := List.Pairwise.nil
theorem SrtK.app {l m : List α} : SrtK key (l ++ m) ↔ SrtK key l ∧ SrtK key m ∧ ∀ x ∈ l, ∀ y ∈ m, key x ≤ key y := List.pairwise_append
theorem SrtK.one (x : α) : SrtK key [x] := List.pairwise_singleton _ _
/-- Two lists in order, cut, the inner pieces exchanged, and both halves merged. -/
theorem sym_join {X U V Y S1 S2 : List α} (hA : SrtK key (X ++ U)) (hB : SrtK key (V ++ Y)) (hvu : ∀ u ∈ U, ∀ v ∈ V, key v < key u) (hxy : ∀ x ∈ X, ∀ y ∈ Y, key x ≤ key y)
    (s1 : SrtK key S1) (s2 : SrtK key S2) (t1 : Stb key (X ++ V) S1) (t2 : Stb key (U ++ Y) S2) : SrtK key (S1 ++ S2) ∧ Stb key ((X ++ U) ++ (V ++ Y)) (S1 ++ S2) := by
  obtain ⟨_, _, a3⟩ := SrtK.app.1 hA
  obtain ⟨_, _, b3⟩ := SrtK.app.1 hB
  refine ⟨SrtK.app.2 ⟨s1, s2, fun x hx y hy => ?_⟩, ?_⟩
  · rcases List.mem_append.1 (t1.mem.1 hx) with q | q <;> rcases List.mem_append.1 (t2.mem.1 hy) with r | r
    · exact a3 x q y r
    · exact hxy x q y r
    · exact Int.le_of_lt (hvu y r x q)
    · exact b3 x q y r
  · have h1 : Stb key (X ++ ((U ++ V) ++ Y)) (X ++ ((V ++ U) ++ Y)) := (Stb.refl X).app ((Stb.rot fun u hu v hv e => by have := hvu u hu v hv; omega).app (Stb.refl Y))
    have h2 := h1.trans (show Stb key (X ++ ((V ++ U) ++ Y)) (S1 ++ S2) from by
      have := t1.app t2
      rwa [show (X ++ V) ++ (U ++ Y) = X ++ ((V ++ U) ++ Y) by simp] at this)
    rwa [show X ++ ((U ++ V) ++ Y) = (X ++ U) ++ (V ++ Y) by simp] at h2
/-- An element put where it belongs. -/
theorem ins_ok {S1 S2 : List α} {x : α} (h : SrtK key (S1 ++ S2)) (h1 : ∀ y ∈ S1, key y ≤ key x) (h2 : ∀ y ∈ S2, key x < key y) : SrtK key (S1 ++ x :: S2) ∧ Stb key ((S1 ++ S2) ++ [x]) (S1 ++ x :: S2) := by
  obtain ⟨a1, a2, a3⟩ := SrtK.app.1 h
  refine ⟨SrtK.app.2 ⟨a1, List.pairwise_cons.2 ⟨fun y hy => Int.le_of_lt (h2 y hy), a2⟩, fun y hy z hz => ?_⟩, ?_⟩
  · rcases List.mem_cons.1 hz with rfl | hz
    · exact h1 y hy
    · exact a3 y hy z hz
  · have := (Stb.refl (key := key) S1).app (Stb.rot (key := key) (u := S2) (v := [x]) fun y hy z hz e => by
      rw [List.mem_singleton] at hz; subst hz
      have := h2 y hy; omega)
    simpa using this
variable {d : α}
theorem getD_app_l {l m : List α} {i : Nat} (h : i < l.length) : (l ++ m).getD i d = l.getD i d := by simp [List.getD, List.getElem?_append_left h]
theorem getD_app_r {l m : List α} {i : Nat} : (l ++ m).getD (l.length + i) d = m.getD i d := by
  simp [List.getD, List.getElem?_append_right]
theorem srt_le {l : List α} (h : SrtK key l) {i j : Nat} (hij : i ≤ j) (hj : j < l.length) : key (l.getD i d) ≤ key (l.getD j d) := by
  rcases Nat.lt_or_ge i j with q | q
  · have := List.pairwise_iff_getElem.1 h i j (by omega) hj q
    simpa [List.getD, hj, show i < l.length by omega] using this
  · rw [show i = j by omega]; exact Int.le_refl _
theorem mem_take_idx {l : List α} {k : Nat} {x : α} (h : x ∈ l.take k) : ∃ i, i < k ∧ i < l.length ∧ x = l.getD i d := by
  obtain ⟨i, hi, e⟩ := List.mem_iff_getElem.1 h
  rw [List.length_take] at hi
  rw [List.getElem_take] at e
  exact ⟨i, by omega, by omega, by simp [List.getD, ← e, show i < l.length by omega]⟩
theorem mem_drop_idx {l : List α} {k : Nat} {x : α} (h : x ∈ l.drop k) : ∃ i, k ≤ i ∧ i < l.length ∧ x = l.getD i d := by
  obtain ⟨i, hi, e⟩ := List.mem_iff_getElem.1 h
  rw [List.length_drop] at hi
  rw [List.getElem_drop] at e
  exact ⟨k + i, by omega, by omega, by simp [List.getD, ← e, show k + i < l.length by omega]⟩
/-- The cut that the search of symMerge finds: i elements of A stay in front, j elements of B come to the front. -/
theorem sym_cut {A B : List α} (hA : SrtK key A) (hB : SrtK key B) {i j : Nat} (hi : i ≤ A.length) (hj : j ≤ B.length)
    (h1 : 0 < i → j < B.length → key (A.getD (i - 1) d) ≤ key (B.getD j d)) (h2 : i < A.length → 0 < j → key (B.getD (j - 1) d) < key (A.getD i d)) :
    (∀ u ∈ A.drop i, ∀ v ∈ B.take j, key v < key u) ∧ ∀ x ∈ A.take i, ∀ y ∈ B.drop j, key x ≤ key y := by
  refine ⟨fun u hu v hv => ?_, fun x hx y hy => ?_⟩
  · obtain ⟨p, p1, p2, rfl⟩ := mem_drop_idx (d := d) hu
    obtain ⟨q, q1, q2, rfl⟩ := mem_take_idx (d := d) hv
    have a := srt_le (d := d) hA p1 p2
    have b := srt_le (d := d) hB (show q ≤ j - 1 by omega) (by omega)
    have := h2 (by omega) (by omega)
    omega
  · obtain ⟨p, p1, p2, rfl⟩ := mem_take_idx (d := d) hx
    obtain ⟨q, q1, q2, rfl⟩ := mem_drop_idx (d := d) hy
    have a := srt_le (d := d) hA (show p ≤ i - 1 by omega) (by omega)
    have b := srt_le (d := d) hB q1 q2
    have := h1 (by omega) (by omega)
    omega
/-- Two elements exchanged. -/
theorem swap_app (L1 L2 L3 : List α) (x y : α) : ((L1 ++ x :: L2 ++ y :: L3).set L1.length y).set (L1.length + 1 + L2.length) x = L1 ++ y :: L2 ++ x :: L3 := by
  have e1 : (L1 ++ x :: L2 ++ y :: L3).set L1.length y = L1 ++ y :: L2 ++ y :: L3 := by simp [List.set_append]
  rw [e1, show L1.length + 1 + L2.length = (L1 ++ y :: L2).length by simp; omega]
  simp [List.set_append]
/-- The other order of the two stores. -/
theorem swap_app' (L1 L2 L3 : List α) (x y : α) : ((L1 ++ x :: L2 ++ y :: L3).set (L1.length + 1 + L2.length) x).set L1.length y = L1 ++ y :: L2 ++ x :: L3 := by
  rw [List.set_comm _ _ (by omega), swap_app]
theorem SrtK.take {l : List α} (h : SrtK key l) (i : Nat) : SrtK key (l.take i) := List.Pairwise.sublist (List.take_sublist i l) h
theorem SrtK.drop {l : List α} (h : SrtK key l) (i : Nat) : SrtK key (l.drop i) := List.Pairwise.sublist (List.drop_sublist i l) h
/-- Blocks of one length, each in order. -/
def Blks (key : α → Int) (n : Nat) (l : List α) : Prop := ∃ LL : List (List α), l = LL.flatten ∧ ∀ L ∈ LL, SrtK key L ∧ L.length = n
theorem Blks.nil (n : Nat) : Blks key n ([] : List α) := ⟨[], rfl, fun L h => (by cases h)⟩
theorem Blks.snoc {n : Nat} {l m : List α} (h : Blks key n l) (hm : SrtK key m) (hl : m.length = n) : Blks key n (l ++ m) := by
  obtain ⟨LL, rfl, h2⟩ := h
  refine ⟨LL ++ [m], by simp, fun L hL => ?_⟩
  rcases List.mem_append.1 hL with q | q
  · exact h2 L q
  · rw [List.mem_singleton] at q; subst q; exact ⟨hm, hl⟩
theorem Blks.cases {n : Nat} {l : List α} (h : Blks key n l) (hn : 0 < n) : l = [] ∨ ∃ m r, l = m ++ r ∧ SrtK key m ∧ m.length = n ∧ Blks key n r := by
  obtain ⟨LL, rfl, h2⟩ := h
  cases LL with
  | nil => exact .inl rfl
  | cons L LL => exact .inr ⟨L, LL.flatten, by simp, (h2 L (List.mem_cons_self ..)).1, (h2 L (List.mem_cons_self ..)).2, LL, rfl, fun M hM => h2 M (List.mem_cons_of_mem _ hM)⟩
end
end Go.Proofs.Ytljojgpjgjfddaa
