/- The tree that tree.Make finds, in plain Lean: parents, where the search goes, what is needed, which cables it takes down; and that it ends. No program in sight. -/
import Derived.Test.YtljojgpjgjfddaaCOrder
namespace Go.Proofs.Ytljojgpjgjfddaa
open Go.RowKit Go.Maps
set_option linter.unusedVariables false
set_option linter.unusedSimpArgs false

def touchT (x : Cb) (j k : Nat) : Prop := (x.a = j ∧ x.b = k) ∨ (x.b = j ∧ x.a = k)
/-- The other end of a cable, as tree.other computes it. -/
def othZ (x : Cb) (u : Int) : Int := x.a + x.b - u
def othN (cs : List Cb) (u i : Nat) : Nat := (othZ (cs.getD i cb0) (u : Int)).toNat
def endT (x : Cb) (u : Int) : Bool := x.a == u || x.b == u
/-- Cable x leads from node v one level up. -/
def pOk (lv : List Int) (v : Nat) (x : Cb) : Bool :=
  decide (0 < lv.getD v 0) && ((x.a == (v : Int) && lvAt lv x.b == lv.getD v 0 - 1) || (x.b == (v : Int) && lvAt lv x.a == lv.getD v 0 - 1))
def parV (cs : List Cb) (lv : List Int) (v : Nat) : Int := match (List.range cs.length).find? (fun i => pOk lv v (cs.getD i cb0)) with
  | some i => (i : Int)
  | none => -1
theorem parV_spec {cs : List Cb} {lv : List Int} {v : Nat} {i : Nat} (h : parV cs lv v = (i : Int)) : i < cs.length ∧ pOk lv v (cs.getD i cb0) = true := by
  unfold parV at h
  cases hf : (List.range cs.length).find? (fun i => pOk lv v (cs.getD i cb0)) with
  | none => rw [hf] at h; simp at h
  | some j =>
    rw [hf] at h
    simp only at h
    obtain rfl : j = i := by omega
    exact ⟨List.mem_range.1 (List.mem_of_find?_eq_some hf), by have := List.find?_some (p := fun i => pOk lv v (cs.getD i cb0)) hf; exact this⟩
/-- The search goes from u, where it came over ov, over cable i. -/
def goB (cs : List Cb) (lv : List Int) (u : Nat) (ov : Int) (i : Nat) : Bool :=
  decide ((i : Int) ≠ ov) && endT (cs.getD i cb0) (u : Int) && (parV cs lv u == (i : Int) || parV cs lv (othN cs u i) == (i : Int))
def needT (cs : List Cb) (lv : List Int) (W : Nat → Bool) : Nat → Nat → Int → Bool
  | 0, _, _ => false
  | f + 1, u, ov => W u || (List.range cs.length).any fun i => goB cs lv u ov i && needT cs lv W f (othN cs u i) (i : Int)
def outT (cs : List Cb) (lv : List Int) (W : Nat → Bool) : Nat → Nat → Int → List (Nat × Int)
  | 0, _, _ => []
  | f + 1, u, ov => (List.range cs.length).flatMap fun i =>
      if goB cs lv u ov i = true then outT cs lv W f (othN cs u i) (i : Int) ++ (if needT cs lv W f (othN cs u i) (i : Int) = true then [(u, (i : Int))] else []) else []
def outAt (L : List (Nat × Int)) (u : Nat) : List Int := (L.filter fun x => x.1 == u).map (·.2)
/-- The search from u ends within f steps. -/
def FitsT (cs : List Cb) (lv : List Int) : Nat → Nat → Int → Prop
  | 0, _, _ => False
  | f + 1, u, ov => ∀ i, i < cs.length → goB cs lv u ov i = true → FitsT cs lv f (othN cs u i) (i : Int)
section
variable {ns : List Nd} {cs : List Cb} {lv : List Int}
theorem FitsT.more {f : Nat} : ∀ {u : Nat} {ov : Int}, FitsT cs lv f u ov → ∀ g, f ≤ g → FitsT cs lv g u ov := by
  induction f with
  | zero => intro u ov h; cases h
  | succ f ih =>
    intro u ov h g hg
    obtain ⟨g, rfl⟩ : ∃ k, g = k + 1 := ⟨g - 1, by omega⟩
    exact fun i hi hgo => ih (h i hi hgo) g (by omega)
theorem oth_touch {x : Cb} {u : Nat} (h : endT x (u : Int) = true) (a0 : 0 ≤ x.a) (b0 : 0 ≤ x.b) : ∃ v : Nat, othZ x (u : Int) = v ∧ touchT x u v := by
  unfold endT at h
  simp only [Bool.or_eq_true, beq_iff_eq] at h
  unfold othZ
  rcases h with h | h
  · exact ⟨x.b.toNat, by omega, .inl ⟨h, by omega⟩⟩
  · exact ⟨x.a.toNat, by omega, .inr ⟨h, by omega⟩⟩
theorem goB_inv (hv : validP ⟨ns, cs⟩ = 0) {u i : Nat} {ov : Int} (hi : i < cs.length) (h : goB cs lv u ov i = true) :
    (i : Int) ≠ ov ∧ touchT (cs.getD i cb0) u (othN cs u i) ∧ othN cs u i < ns.length ∧ (parV cs lv u = i ∨ parV cs lv (othN cs u i) = i) := by
  unfold goB at h
  simp only [Bool.and_eq_true, decide_eq_true_eq, Bool.or_eq_true, beq_iff_eq] at h
  have hm : cs.getD i cb0 ∈ cs := by simp [List.getD, hi]
  obtain ⟨⟨a0, a1⟩, b0, b1⟩ := cab_node hv hm
  obtain ⟨v, e, ht⟩ := oth_touch h.1.2 a0 b0
  have e2 : othN cs u i = v := by unfold othN; rw [e]; simp
  rw [e2]
  rw [e2] at h
  refine ⟨h.1.1, ht, ?_, h.2⟩
  rcases ht with ⟨_, h2⟩ | ⟨_, h2⟩ <;> omega
/-- A parent's cable leads one level up. -/
theorem par_level {v u i : Nat} (h : parV cs lv v = (i : Int)) (ht : touchT (cs.getD i cb0) v u) (hne : (cs.getD i cb0).a ≠ (cs.getD i cb0).b) : 0 < lv.getD v 0 ∧ lv.getD u 0 = lv.getD v 0 - 1 := by
  obtain ⟨_, hp⟩ := parV_spec h
  unfold pOk lvAt at hp
  simp only [Bool.and_eq_true, decide_eq_true_eq, Bool.or_eq_true, beq_iff_eq] at hp
  refine ⟨hp.1, ?_⟩
  rcases ht with ⟨h1, h2⟩ | ⟨h1, h2⟩
  · rcases hp.2 with ⟨q1, q2⟩ | ⟨q1, q2⟩
    · rw [h2, Int.toNat_natCast] at q2; exact q2
    · exact absurd (h1.trans q1.symm) hne
  · rcases hp.2 with ⟨q1, q2⟩ | ⟨q1, q2⟩
    · exact absurd (q1.trans h1.symm) hne
    · rw [h2, Int.toNat_natCast] at q2; exact q2
theorem touchT_symm {x : Cb} {j k : Nat} (h : touchT x j k) : touchT x k j := by
  rcases h with ⟨h1, h2⟩ | ⟨h1, h2⟩
  · exact .inr ⟨h2, h1⟩
  · exact .inl ⟨h2, h1⟩
/-- Downward: behind its parent's cable a node has only deeper ones. -/
theorem fits_down (hv : validP ⟨ns, cs⟩ = 0) (hab : ∀ y ∈ cs, y.a ≠ y.b) (hlt : ∀ j, j < ns.length → lv.getD j 0 < ns.length) (k : Nat) : ∀ u, u < ns.length → 0 ≤ lv.getD u 0 → (ns.length : Int) - lv.getD u 0 ≤ k → FitsT cs lv k u (parV cs lv u) := by
  induction k with
  | zero => intro u hu h0 hk; have := hlt u hu; omega
  | succ k ih =>
    intro u hu h0 hk i hi hgo
    have hm : cs.getD i cb0 ∈ cs := by simp [List.getD, hi]
    obtain ⟨hne, ht, hvn, hp⟩ := goB_inv hv hi hgo
    rcases hp with hp | hp
    · exact absurd hp.symm hne
    · obtain ⟨l1, l2⟩ := par_level hp (touchT_symm ht) (hab _ hm)
      have := ih (othN cs u i) hvn (by omega) (by omega)
      rw [hp] at this
      exact this
theorem fits_any_ov (hv : validP ⟨ns, cs⟩ = 0) (hab : ∀ y ∈ cs, y.a ≠ y.b) (hlt : ∀ j, j < ns.length → lv.getD j 0 < ns.length) (k : Nat) : ∀ u ov, u < ns.length → lv.getD u 0 ≤ k → FitsT cs lv (ns.length + k + 2) u ov := by
  induction k with
  | zero =>
    intro u ov hu hk i hi hgo
    have hm : cs.getD i cb0 ∈ cs := by simp [List.getD, hi]
    obtain ⟨hne, ht, hvn, hp⟩ := goB_inv hv hi hgo
    rcases hp with hp | hp
    · have := (par_level hp ht (hab _ hm)).1; omega
    · obtain ⟨l1, l2⟩ := par_level hp (touchT_symm ht) (hab _ hm)
      have h2 := fits_down hv hab hlt ns.length (othN cs u i) hvn (by omega) (by omega)
      rw [hp] at h2
      exact h2.more _ (by omega)
  | succ k ih =>
    intro u ov hu hk i hi hgo
    have hm : cs.getD i cb0 ∈ cs := by simp [List.getD, hi]
    obtain ⟨hne, ht, hvn, hp⟩ := goB_inv hv hi hgo
    rcases hp with hp | hp
    · have := (par_level hp ht (hab _ hm)).2
      exact (ih (othN cs u i) i hvn (by omega)).more _ (by omega)
    · obtain ⟨l1, l2⟩ := par_level hp (touchT_symm ht) (hab _ hm)
      have h2 := fits_down hv hab hlt ns.length (othN cs u i) hvn (by omega) (by omega)
      rw [hp] at h2
      exact h2.more _ (by omega)
/-- More wanted nodes: nothing falls away. -/
theorem needT_mono {W W' : Nat → Bool} (h : ∀ v, W v = true → W' v = true) (f : Nat) : ∀ u ov, needT cs lv W f u ov = true → needT cs lv W' f u ov = true := by
  induction f with
  | zero => intro u ov hn; cases hn
  | succ f ih =>
    intro u ov hn
    unfold needT at hn ⊢
    rw [Bool.or_eq_true] at hn ⊢
    rcases hn with hn | hn
    · exact .inl (h u hn)
    · right
      rw [List.any_eq_true] at hn ⊢
      obtain ⟨i, hi, hx⟩ := hn
      rw [Bool.and_eq_true] at hx
      exact ⟨i, hi, by rw [Bool.and_eq_true]; exact ⟨hx.1, ih _ _ hx.2⟩⟩
theorem outT_mono {W W' : Nat → Bool} (h : ∀ v, W v = true → W' v = true) (f : Nat) : ∀ u ov x, x ∈ outT cs lv W f u ov → x ∈ outT cs lv W' f u ov := by
  induction f with
  | zero => intro u ov x hx; cases hx
  | succ f ih =>
    intro u ov x hx
    unfold outT at hx ⊢
    rw [List.mem_flatMap] at hx ⊢
    obtain ⟨i, hi, hx⟩ := hx
    refine ⟨i, hi, ?_⟩
    split at hx
    · rename_i hg
      rw [if_pos hg]
      rcases List.mem_append.1 hx with hx | hx
      · exact List.mem_append_left _ (ih _ _ x hx)
      · split at hx
        · rename_i hn
          rw [if_pos (needT_mono h f _ _ hn)]
          exact List.mem_append_right _ hx
        · cases hx
    · cases hx
theorem outAt_mem {L : List (Nat × Int)} {u : Nat} {c : Int} : c ∈ outAt L u ↔ (u, c) ∈ L := by
  unfold outAt
  rw [List.mem_map]
  constructor
  · rintro ⟨⟨a, b⟩, hx, rfl⟩
    obtain ⟨h1, h2⟩ := List.mem_filter.1 hx
    have : a = u := by simpa using h2
    rw [← this]; exact h1
  · intro h
    exact ⟨(u, c), List.mem_filter.2 ⟨h, by simp⟩, rfl⟩
end
end Go.Proofs.Ytljojgpjgjfddaa
