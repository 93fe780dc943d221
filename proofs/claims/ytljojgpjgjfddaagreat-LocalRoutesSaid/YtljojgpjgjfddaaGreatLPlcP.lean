/- The places of nodes in an order, in plain Lean: the index of a node in the sorted list is the number of nodes above it. No program in sight. -/
import Derived.Test.YtljojgpjgjfddaaGreatNB
import Derived.Shelf.SlSortCmp.NoneTotal
namespace Go.Proofs.YtljojgpjgjfddaaGreat
open Go.RowKit Go.Maps Go.Sort Go.Shelf
set_option linter.unusedVariables false
set_option linter.unusedSimpArgs false

/-- The comparison of two nodes by level, then by number. -/
def cfP (n : Nat) (lv : List Int) (a b : Fin n) : Int := orL [cmpZ (lv.getD a.val 0) (lv.getD b.val 0), cmpZ (a.val : Int) (b.val : Int)]
def ltP (lv : List Int) (a b : Nat) : Prop := lv.getD a 0 < lv.getD b 0 ∨ (lv.getD a 0 = lv.getD b 0 ∧ a < b)
theorem cfP_neg (n : Nat) (lv : List Int) (a b : Fin n) : cfP n lv a b < 0 ↔ ltP lv a.val b.val := by
  have key : ∀ (p q : Int) (i j : Nat), orL [cmpZ p q, cmpZ (i : Int) (j : Int)] < 0 ↔ p < q ∨ (p = q ∧ i < j) := by
    intro p q i j
    unfold orL cmpZ
    split <;> split <;> (try split) <;> (try split) <;> (try unfold orL) <;> (try split) <;> (try unfold orL) <;> omega
  exact key _ _ _ _
theorem ltP_iff (n : Nat) (lv : List Int) (a b : Fin n) : ltOf (cfP n lv) a b = true ↔ ltP lv a.val b.val := by unfold ltOf; rw [decide_eq_true_iff]; exact cfP_neg n lv a b
theorem ltP_not (n : Nat) (lv : List Int) (a b : Fin n) : ltOf (cfP n lv) a b = false ↔ ¬ ltP lv a.val b.val := by rw [← ltP_iff]; simp
theorem swoP (n : Nat) (lv : List Int) : SWO (ltOf (cfP n lv)) where
  irrefl x := by rw [ltP_not]; unfold ltP; omega
  trans x y z h1 h2 := by rw [ltP_iff] at *; unfold ltP at *; omega
  ntrans x y z h1 h2 := by rw [ltP_not] at *; unfold ltP at *; omega
theorem totP (n : Nat) (lv : List Int) (x y : Fin n) (h1 : ltOf (cfP n lv) x y = false) (h2 : ltOf (cfP n lv) y x = false) : x = y := by
  rw [ltP_not] at h1 h2
  unfold ltP at h1 h2
  exact Fin.ext (by omega)
theorem above_ltP {lv : List Int} {a b : Nat} (ha : a < lv.length) (hb : b < lv.length) : aboveB lv (a : Int) (b : Int) = true ↔ 0 ≤ lv.getD a 0 ∧ 0 ≤ lv.getD b 0 ∧ ltP lv a b := by
  have h := cfP_neg lv.length lv ⟨a, ha⟩ ⟨b, hb⟩
  unfold cfP at h
  unfold aboveB hasB lvAt
  simp only [Int.toNat_natCast] at h ⊢
  simp only [Bool.and_eq_true, decide_eq_true_eq]
  rw [h]
  constructor
  · rintro ⟨⟨⟨_, h1⟩, _, h2⟩, h3⟩; exact ⟨h1, h2, h3⟩
  · rintro ⟨h1, h2, h3⟩; exact ⟨⟨⟨⟨by omega, by omega⟩, h1⟩, ⟨by omega, by omega⟩, h2⟩, h3⟩
/-- The nodes with a level, in order. -/
def liveN (lv : List Int) (k : Nat) : List Nat := (List.range k).filter fun v => decide (0 ≤ lv.getD v 0)
theorem liveN_succ (lv : List Int) (k : Nat) : liveN lv (k + 1) = liveN lv k ++ (if 0 ≤ lv.getD k 0 then [k] else []) := by
  unfold liveN
  rw [List.range_succ, List.filter_append]
  by_cases h : 0 ≤ lv.getD k 0
  · rw [if_pos h]; simp only [List.filter_cons, List.filter_nil, decide_eq_true h, if_pos]
  · rw [if_neg h]; simp only [List.filter_cons, List.filter_nil, decide_eq_false h, Bool.false_eq_true, if_false]
theorem liveN_len (lv : List Int) (k : Nat) : (liveN lv k).length ≤ k := by
  unfold liveN
  have := List.length_filter_le (fun v => decide (0 ≤ lv.getD v 0)) (List.range k)
  simpa using this
theorem mem_liveN {lv : List Int} {k v : Nat} : v ∈ liveN lv k ↔ v < k ∧ 0 ≤ lv.getD v 0 := by unfold liveN; simp
def liveF (n : Nat) (lv : List Int) : List (Fin n) := (liveN lv n).pmap (fun v h => (⟨v, h⟩ : Fin n)) fun v h => (mem_liveN.1 h).1
theorem liveF_val (n : Nat) (lv : List Int) : (liveF n lv).map (fun a : Fin n => a.val) = liveN lv n := by
  unfold liveF; rw [List.map_pmap]; simp
/-- .. sorted. -/
def ordF (n : Nat) (lv : List Int) : List (Fin n) := (liveF n lv).mergeSort fun x y => !(ltOf (cfP n lv)) y x
theorem ordF_perm (n : Nat) (lv : List Int) : (ordF n lv).Perm (liveF n lv) := List.mergeSort_perm _ _
theorem liveN_nodup (lv : List Int) (n : Nat) : (liveN lv n).Nodup := List.nodup_range.filter _
theorem liveF_nodup (n : Nat) (lv : List Int) : (liveF n lv).Nodup := by
  have h := liveN_nodup lv n
  rw [← liveF_val] at h
  exact List.Pairwise.of_map (fun a : Fin n => a.val) (fun a b hab e => hab (by rw [e])) h
theorem ordF_sorted (n : Nat) (lv : List Int) : (ordF n lv).Pairwise fun x y => ltP lv x.val y.val := by
  have nd : (ordF n lv).Nodup := (ordF_perm n lv).nodup_iff.2 (liveF_nodup n lv)
  have h := List.pairwise_mergeSort (le := fun x y => !(ltOf (cfP n lv)) y x) (fun a b c h1 h2 => by
    simp only [Bool.not_eq_true', ltP_not] at *
    unfold ltP at *; omega) (fun a b => by
    simp only [Bool.or_eq_true, Bool.not_eq_true', ltP_not]
    unfold ltP; omega) (liveF n lv)
  refine (h.and nd).imp fun {a b} hab => ?_
  obtain ⟨h1, h2⟩ := hab
  simp only [Bool.not_eq_true', ltP_not] at h1
  have h3 : a.val ≠ b.val := fun e => h2 (Fin.ext e)
  unfold ltP at *; omega
theorem mem_ordF {n : Nat} {lv : List Int} {v : Fin n} : v ∈ ordF n lv ↔ 0 ≤ lv.getD v.val 0 := by
  rw [(ordF_perm n lv).mem_iff]
  unfold liveF
  rw [List.mem_pmap]
  constructor
  · rintro ⟨a, ha, rfl⟩; exact (mem_liveN.1 ha).2
  · intro h; exact ⟨v.val, mem_liveN.2 ⟨v.isLt, h⟩, rfl⟩
/-- The node at an index has that many above it. -/
theorem ordF_place {lv : List Int} {k : Nat} (hk : k < (ordF lv.length lv).length) : placeN lv lv.length ((ordF lv.length lv)[k]).val = k := by
  have hp := ordF_perm lv.length lv
  have hs := ordF_sorted lv.length lv
  have hv : 0 ≤ lv.getD ((ordF lv.length lv)[k]).val 0 := mem_ordF.1 (List.getElem_mem hk)
  have e1 : placeN lv lv.length ((ordF lv.length lv)[k]).val = (ordF lv.length lv).countP (fun a => decide (aboveB lv (a.val : Int) (((ordF lv.length lv)[k]).val : Int) = true)) := by
    unfold placeN
    rw [hp.countP_eq]
    have : (liveF lv.length lv).countP (fun a => decide (aboveB lv (a.val : Int) (((ordF lv.length lv)[k]).val : Int) = true)) = ((liveF lv.length lv).map (fun a : Fin lv.length => a.val)).countP (fun y : Nat => aboveB lv (y : Int) (((ordF lv.length lv)[k]).val : Int)) := by
      rw [List.countP_map]
      apply List.countP_congr
      intro a _
      simp
    rw [this, liveF_val]
    unfold liveN
    rw [List.countP_filter]
    apply List.countP_congr
    intro y hy
    rw [List.mem_range] at hy
    constructor
    · intro h
      have := ((above_ltP hy ((ordF lv.length lv)[k]).isLt).1 h).1
      simp [h, this]
      simpa using this
    · intro h
      simp only [Bool.and_eq_true] at h
      exact h.1
  rw [e1]
  have hmem : ∀ a ∈ ordF lv.length lv, 0 ≤ lv.getD a.val 0 := fun a ha => mem_ordF.1 ha
  generalize hS : ordF lv.length lv = S at *
  have hcnt : S.countP (fun a => decide (aboveB lv (a.val : Int) ((S[k]).val : Int) = true)) = (S.take k).countP (fun a => decide (aboveB lv (a.val : Int) ((S[k]).val : Int) = true)) + (S.drop k).countP (fun a => decide (aboveB lv (a.val : Int) ((S[k]).val : Int) = true)) := by
    have hg : ∀ (f : Fin lv.length → Bool), S.countP f = (S.take k).countP f + (S.drop k).countP f := fun f => by
      have := List.countP_append (p := f) (l₁ := S.take k) (l₂ := S.drop k)
      rw [List.take_append_drop] at this
      exact this
    exact hg _
  rw [hcnt]
  have c1 : (S.take k).countP (fun a => decide (aboveB lv (a.val : Int) ((S[k]).val : Int) = true)) = (S.take k).length := by
    rw [List.countP_eq_length]
    intro a ha
    obtain ⟨i, hi, rfl⟩ := List.mem_iff_getElem.1 ha
    rw [List.length_take] at hi
    rw [List.getElem_take]
    have h1 := List.pairwise_iff_getElem.1 hs i k (by omega) hk (by omega)
    have h2 : 0 ≤ lv.getD (S[i]'(by omega)).val 0 := hmem _ (List.getElem_mem _)
    simp only [decide_eq_true_eq]
    exact (above_ltP (S[i]'(by omega)).isLt (S[k]).isLt).2 ⟨h2, hv, h1⟩
  have c2 : (S.drop k).countP (fun a => decide (aboveB lv (a.val : Int) ((S[k]).val : Int) = true)) = 0 := by
    rw [List.countP_eq_zero]
    intro a ha
    obtain ⟨i, hi, rfl⟩ := List.mem_iff_getElem.1 ha
    rw [List.length_drop] at hi
    rw [List.getElem_drop]
    simp only [decide_eq_true_eq]
    intro h
    have h3 := ((above_ltP (S[k + i]'(by omega)).isLt (S[k]).isLt).1 h).2.2
    by_cases e : i = 0
    · subst e; unfold ltP at h3; simp at h3
    · have h1 := List.pairwise_iff_getElem.1 hs k (k + i) hk (by omega) (by omega)
      unfold ltP at h1 h3
      omega
  rw [c1, c2, List.length_take]
  omega
/-- What order.Places answers. -/
def placesL (lv : List Int) : List Int := (List.range lv.length).map fun v => if 0 ≤ lv.getD v 0 then (placeN lv lv.length v : Int) else -1
/-- The places after k rounds. -/
def plcAt (lv : List Int) (k v : Nat) : Int := if 0 ≤ lv.getD v 0 ∧ placeN lv lv.length v < k then (placeN lv lv.length v : Int) else -1
theorem plcAt_zero (lv : List Int) (v : Nat) : plcAt lv 0 v = -1 := by unfold plcAt; rw [if_neg (by omega)]
theorem ordF_ex {lv : List Int} {v : Nat} (hv : v < lv.length) (h : 0 ≤ lv.getD v 0) : ∃ k, ∃ hk : k < (ordF lv.length lv).length, ((ordF lv.length lv)[k]).val = v := by
  have hm : (⟨v, hv⟩ : Fin lv.length) ∈ ordF lv.length lv := mem_ordF.2 h
  obtain ⟨k, hk, e⟩ := List.mem_iff_getElem.1 hm
  exact ⟨k, hk, by rw [e]⟩
theorem plcAt_step {lv : List Int} {k v : Nat} (hk : k < (ordF lv.length lv).length) (hv : v < lv.length) :
    plcAt lv (k + 1) v = if v = ((ordF lv.length lv)[k]).val then (k : Int) else plcAt lv k v := by
  have hp := ordF_place hk
  have hl : 0 ≤ lv.getD ((ordF lv.length lv)[k]).val 0 := mem_ordF.1 (List.getElem_mem hk)
  by_cases e : v = ((ordF lv.length lv)[k]).val
  · rw [if_pos e]
    unfold plcAt
    rw [e, hp, if_pos ⟨hl, by omega⟩]
  · rw [if_neg e]
    unfold plcAt
    by_cases h0 : 0 ≤ lv.getD v 0
    · obtain ⟨j, hj, ej⟩ := ordF_ex hv h0
      have hpj := ordF_place hj
      rw [ej] at hpj
      have hne : placeN lv lv.length v ≠ k := fun e2 => e (by
        have : j = k := by omega
        subst this
        exact ej.symm)
      by_cases h1 : placeN lv lv.length v < k
      · rw [if_pos ⟨h0, by omega⟩, if_pos ⟨h0, h1⟩]
      · rw [if_neg (by omega), if_neg (by omega)]
    · rw [if_neg (by omega), if_neg (by omega)]
theorem plcAt_end {lv : List Int} {v : Nat} (hv : v < lv.length) : plcAt lv (ordF lv.length lv).length v = (placesL lv).getD v 0 := by
  have e : (placesL lv).getD v 0 = if 0 ≤ lv.getD v 0 then (placeN lv lv.length v : Int) else -1 := by unfold placesL; simp [List.getD, hv]
  rw [e]
  unfold plcAt
  by_cases h0 : 0 ≤ lv.getD v 0
  · obtain ⟨j, hj, ej⟩ := ordF_ex hv h0
    have hpj := ordF_place hj
    rw [ej] at hpj
    rw [if_pos h0, if_pos ⟨h0, by omega⟩]
  · rw [if_neg (by omega), if_neg h0]
end Go.Proofs.YtljojgpjgjfddaaGreat
