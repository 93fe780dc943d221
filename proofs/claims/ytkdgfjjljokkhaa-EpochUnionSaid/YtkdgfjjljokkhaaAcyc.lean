/- The plain law of the laws' own search for cycles: what is left when channels to which nothing leads are removed again and again; and that of two lists with different channels. No program in sight. -/
import Derived.Test.YtkdgfjjljokkhaaDeps
namespace Go.Proofs.Ytkdgfjjljokkhaa
set_option linter.unusedVariables false

/-- The dependencies to whose first channel some dependency leads. -/
def keepR (r : List (Int × Int × Int)) : List (Int × Int × Int) := r.filter fun d => r.any fun e => e.2.1 == d.1
theorem keepR_length (r : List (Int × Int × Int)) : (keepR r).length ≤ r.length := List.length_filter_le _ _
def acycF : Nat → List (Int × Int × Int) → Bool
  | 0, _ => true
  | n + 1, r => if r = [] then true else if (keepR r).length = r.length then false else acycF n (keepR r)
def acyc (r : List (Int × Int × Int)) : Bool := acycF (r.length + 1) r

/-- R is a part of r, not empty, in which each dependency has one that leads to it. -/
def Closed (r : List (Int × Int × Int)) (R : Int × Int × Int → Prop) : Prop := (∃ d, R d) ∧ (∀ d, R d → d ∈ r) ∧ ∀ d, R d → ∃ e, R e ∧ e.2.1 = d.1

theorem closed_keep {r : List (Int × Int × Int)} {R : Int × Int × Int → Prop} (h : Closed r R) : Closed (keepR r) R := by
  refine ⟨h.1, fun d hd => ?_, h.2.2⟩
  unfold keepR
  rw [List.mem_filter]
  refine ⟨h.2.1 d hd, ?_⟩
  obtain ⟨e, he, hed⟩ := h.2.2 d hd
  rw [List.any_eq_true]
  exact ⟨e, h.2.1 e he, by simpa using hed⟩

theorem acycF_false_of {r : List (Int × Int × Int)} {R : Int × Int × Int → Prop} : ∀ (n : Nat) (r : List (Int × Int × Int)), r.length < n → Closed r R → acycF n r = false
  | 0, _, h, _ => absurd h (by omega)
  | n + 1, r, h, hc => by
    unfold acycF
    have hne : r ≠ [] := by
      rintro rfl
      obtain ⟨d, hd⟩ := hc.1
      have := hc.2.1 d hd
      simp at this
    rw [if_neg hne]
    by_cases hl : (keepR r).length = r.length
    · rw [if_pos hl]
    · rw [if_neg hl]
      have := keepR_length r
      exact acycF_false_of (r := r) n (keepR r) (by omega) (closed_keep hc)

theorem keepR_all {r : List (Int × Int × Int)} (h : (keepR r).length = r.length) : ∀ d ∈ r, ∃ e ∈ r, e.2.1 = d.1 := by
  intro d hd
  unfold keepR at h
  rw [List.length_filter_eq_length_iff] at h
  have := h d hd
  rw [List.any_eq_true] at this
  obtain ⟨e, he, hq⟩ := this
  exact ⟨e, he, by simpa using hq⟩

theorem keepR_sub (r : List (Int × Int × Int)) : ∀ d ∈ keepR r, d ∈ r := fun d hd => (List.mem_filter.1 hd).1

theorem acycF_false_to : ∀ (n : Nat) (r : List (Int × Int × Int)), acycF n r = false → ∃ R, Closed r R
  | 0, _, h => by simp [acycF] at h
  | n + 1, r, h => by
    unfold acycF at h
    by_cases hne : r = []
    · rw [if_pos hne] at h; cases h
    · rw [if_neg hne] at h
      by_cases hl : (keepR r).length = r.length
      · refine ⟨fun d => d ∈ r, ?_, fun d hd => hd, fun d hd => ?_⟩
        · cases r with
          | nil => exact absurd rfl hne
          | cons d l => exact ⟨d, List.mem_cons_self⟩
        · obtain ⟨e, he, hq⟩ := keepR_all hl d hd
          exact ⟨e, he, hq⟩
      · rw [if_neg hl] at h
        obtain ⟨R, h1, h2, h3⟩ := acycF_false_to n (keepR r) h
        exact ⟨R, h1, fun d hd => keepR_sub r d (h2 d hd), h3⟩

theorem acyc_false_iff (r : List (Int × Int × Int)) : acyc r = false ↔ ∃ R, Closed r R := by
  unfold acyc
  exact ⟨acycF_false_to _ r, fun ⟨R, h⟩ => acycF_false_of (r := r) _ r (by omega) h⟩

/-- Two lists, lifted for different virtual classes, have a closed part together exactly if one of them has one. -/
theorem acyc_union (a b : List (Int × Int × Int)) (v u : Int) (hv0 : 0 ≤ v) (hv : v < 8) (hu0 : 0 ≤ u) (hu : u < 8) (hne : v ≠ u) :
    acyc (a.map (liftD v) ++ b.map (liftD u)) = (acyc a && acyc b) := by
  have key : acyc (a.map (liftD v) ++ b.map (liftD u)) = false ↔ (acyc a = false ∨ acyc b = false) := by
    rw [acyc_false_iff, acyc_false_iff, acyc_false_iff]
    constructor
    · rintro ⟨R, ⟨d, hd⟩, hsub, hcl⟩
      have hin := hsub d hd
      rw [List.mem_append] at hin
      rcases hin with hin | hin
      · left
        refine ⟨fun x => x ∈ a ∧ R (liftD v x), ?_, fun x hx => hx.1, fun x hx => ?_⟩
        · obtain ⟨x, hx, rfl⟩ := List.mem_map.1 hin
          exact ⟨x, hx, hd⟩
        · obtain ⟨e, he, hq⟩ := hcl _ hx.2
          have hein := hsub e he
          rw [List.mem_append] at hein
          rcases hein with hein | hein
          · obtain ⟨y, hy, rfl⟩ := List.mem_map.1 hein
            refine ⟨y, ⟨hy, he⟩, ?_⟩
            simp only [liftD] at hq
            omega
          · obtain ⟨y, hy, rfl⟩ := List.mem_map.1 hein
            simp only [liftD] at hq
            omega
      · right
        refine ⟨fun x => x ∈ b ∧ R (liftD u x), ?_, fun x hx => hx.1, fun x hx => ?_⟩
        · obtain ⟨x, hx, rfl⟩ := List.mem_map.1 hin
          exact ⟨x, hx, hd⟩
        · obtain ⟨e, he, hq⟩ := hcl _ hx.2
          have hein := hsub e he
          rw [List.mem_append] at hein
          rcases hein with hein | hein
          · obtain ⟨y, hy, rfl⟩ := List.mem_map.1 hein
            simp only [liftD] at hq
            omega
          · obtain ⟨y, hy, rfl⟩ := List.mem_map.1 hein
            refine ⟨y, ⟨hy, he⟩, ?_⟩
            simp only [liftD] at hq
            omega
    · rintro (⟨R, ⟨d, hd⟩, hsub, hcl⟩ | ⟨R, ⟨d, hd⟩, hsub, hcl⟩)
      · refine ⟨fun x => ∃ y, R y ∧ x = liftD v y, ⟨_, d, hd, rfl⟩, ?_, ?_⟩
        · rintro x ⟨y, hy, rfl⟩
          exact List.mem_append.2 (.inl (List.mem_map.2 ⟨y, hsub y hy, rfl⟩))
        · rintro x ⟨y, hy, rfl⟩
          obtain ⟨e, he, hq⟩ := hcl y hy
          exact ⟨liftD v e, ⟨e, he, rfl⟩, by simp only [liftD]; rw [hq]⟩
      · refine ⟨fun x => ∃ y, R y ∧ x = liftD u y, ⟨_, d, hd, rfl⟩, ?_, ?_⟩
        · rintro x ⟨y, hy, rfl⟩
          exact List.mem_append.2 (.inr (List.mem_map.2 ⟨y, hsub y hy, rfl⟩))
        · rintro x ⟨y, hy, rfl⟩
          obtain ⟨e, he, hq⟩ := hcl y hy
          exact ⟨liftD u e, ⟨e, he, rfl⟩, by simp only [liftD]; rw [hq]⟩
  cases h1 : acyc a <;> cases h2 : acyc b <;> cases h3 : acyc (a.map (liftD v) ++ b.map (liftD u)) <;> simp_all

theorem liftL_all (c : Int) (ds : List (Int × Int × Int)) (h : ∀ d ∈ ds, okD d = true) : liftL c ds = ds.map (liftD c) := by
  unfold liftL; rw [List.filter_eq_self.2 h]
end Go.Proofs.Ytkdgfjjljokkhaa
