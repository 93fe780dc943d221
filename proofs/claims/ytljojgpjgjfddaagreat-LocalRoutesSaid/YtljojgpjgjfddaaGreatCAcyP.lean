/- What the reference's Acyclic computes, and that it answers as the search for a cycle does. No program in sight. -/
import Derived.Test.YtljojgpjgjfddaaGreatCInsP
import Derived.Test.YtljojgpjgjfddaaGreatCCycle
namespace Go.Proofs.YtljojgpjgjfddaaGreat
open Go.RowKit Go.Maps Go.Sort Go.Shelf
set_option linter.unusedVariables false

def reachB (l : List Dp) (x : Dp) : Bool := l.any fun y => y.2.1 == x.1
def stepA (l : List Dp) : List Dp := l.filter (reachB l)
def acyR : Nat → List Dp → Bool
  | 0, _ => true
  | n + 1, l => if l = [] then true else if (stepA l).length = l.length then false else acyR n (stepA l)
def acyclicR (l : List Dp) : Bool := acyR l.length l
theorem stepA_le (l : List Dp) : (stepA l).length ≤ l.length := List.length_filter_le _ _
theorem acyR_more (n : Nat) (l : List Dp) (h : l.length ≤ n) : acyR n l = acyclicR l := by
  induction n using Nat.strongRecOn generalizing l with
  | _ n ih =>
    unfold acyclicR
    cases n with
    | zero => have : l.length = 0 := by omega
              rw [this]
    | succ n =>
      cases hl : l.length with
      | zero =>
        have : l = [] := List.eq_nil_of_length_eq_zero hl
        subst this; simp [acyR]
      | succ m =>
        unfold acyR
        split
        · rfl
        · split
          · rfl
          · rename_i h1 h2
            have h3 := stepA_le l
            rw [ih n (by omega) (stepA l) (by omega), ih m (by omega) (stepA l) (by omega)]
theorem acyclicR_step (l : List Dp) (h : l ≠ []) : acyclicR l = if (stepA l).length = l.length then false else acyclicR (stepA l) := by
  have hl : 0 < l.length := List.length_pos_iff.2 h
  obtain ⟨n, hn⟩ : ∃ n, l.length = n + 1 := ⟨l.length - 1, by omega⟩
  have h3 := stepA_le l
  conv => lhs; unfold acyclicR
  rw [hn]
  conv => lhs; unfold acyR
  rw [if_neg h, hn]
  split
  · rfl
  · exact acyR_more n _ (by omega)
theorem acyclicR_nil : acyclicR [] = true := rfl
theorem mem_stepA {l : List Dp} {x : Dp} : x ∈ stepA l ↔ x ∈ l ∧ ∃ y ∈ l, y.2.1 = x.1 := by
  unfold stepA reachB
  rw [List.mem_filter, List.any_eq_true]
  simp
/-- With a rank that falls along each dependency it answers true. -/
theorem acy_of_rank (rank : Int → Nat) (l : List Dp) (h : ∀ d ∈ l, rank d.2.1 < rank d.1) : acyclicR l = true := by
  obtain ⟨n, hn⟩ : ∃ n, l.length = n := ⟨_, rfl⟩
  induction n using Nat.strongRecOn generalizing l with
  | _ n ih =>
    rcases Classical.em (l = []) with rfl | hne
    · rfl
    · have hlt : (stepA l).length < l.length := by
        rcases Nat.lt_or_ge (stepA l).length l.length with h1 | h1
        · exact h1
        · exfalso
          have he : stepA l = l := (List.filter_sublist).eq_of_length (by have := stepA_le l; unfold stepA at this h1; omega)
          -- an element of the greatest rank
          have hmax : ∃ x ∈ l, ∀ y ∈ l, rank y.1 ≤ rank x.1 := by
            have gen : ∀ m : List Dp, m ≠ [] → ∃ x ∈ m, ∀ y ∈ m, rank y.1 ≤ rank x.1 := by
              intro m
              induction m with
              | nil => intro h; exact absurd rfl h
              | cons a m ihm =>
                intro _
                rcases Classical.em (m = []) with rfl | hm
                · exact ⟨a, List.mem_cons_self .., fun y hy => by simp at hy; subst hy; exact Nat.le_refl _⟩
                · obtain ⟨x, hx, hy⟩ := ihm hm
                  rcases Nat.le_total (rank a.1) (rank x.1) with hax | hax
                  · exact ⟨x, List.mem_cons_of_mem _ hx, fun y h => by
                      rcases List.mem_cons.1 h with rfl | h
                      · exact hax
                      · exact hy y h⟩
                  · exact ⟨a, List.mem_cons_self .., fun y h => by
                      rcases List.mem_cons.1 h with rfl | h
                      · exact Nat.le_refl _
                      · exact Nat.le_trans (hy y h) hax⟩
            exact gen l hne
          obtain ⟨x, hx, hy⟩ := hmax
          rw [← he] at hx
          obtain ⟨hxl, y, hyl, e⟩ := mem_stepA.1 hx
          have h2 := h y hyl
          have h3 := hy y hyl
          rw [e] at h2
          omega
      rw [acyclicR_step l hne, if_neg (by omega)]
      exact ih _ (by omega) (stepA l) (fun d hd => h d (mem_stepA.1 hd).1) rfl
/-- A set of dependencies each of which another one leads to stays. -/
theorem not_acy (S : Dp → Prop) (l : List Dp) (h0 : ∃ x ∈ l, S x) (h : ∀ x ∈ l, S x → ∃ y ∈ l, S y ∧ y.2.1 = x.1) : acyclicR l = false := by
  obtain ⟨n, hn⟩ : ∃ n, l.length = n := ⟨_, rfl⟩
  induction n using Nat.strongRecOn generalizing l with
  | _ n ih =>
    obtain ⟨x, hx, hs⟩ := h0
    have hne : l ≠ [] := fun e => by subst e; cases hx
    rw [acyclicR_step l hne]
    split
    · rfl
    · rename_i h1
      have h2 := stepA_le l
      have keep : ∀ x ∈ l, S x → x ∈ stepA l := fun x hx hs => by
        obtain ⟨y, hy, _, e⟩ := h x hx hs
        exact mem_stepA.2 ⟨hx, y, hy, e⟩
      refine ih _ (by omega) (stepA l) ⟨x, keep x hx hs, hs⟩ (fun x hx hs => ?_) rfl
      obtain ⟨y, hy, hys, e⟩ := h x (mem_stepA.1 hx).1 hs
      exact ⟨y, keep y hy hys, hys, e⟩
theorem mem_nxD {L : List Dp} {c x : Int} : x ∈ nxD L c ↔ ∃ d ∈ L, d.1 = c ∧ d.2.1 = x := by
  unfold nxD
  rw [List.mem_map]
  constructor
  · rintro ⟨d, hd, rfl⟩
    obtain ⟨h1, h2⟩ := List.mem_filter.1 hd
    exact ⟨d, h1, by simpa using h2, rfl⟩
  · rintro ⟨d, hd, h1, h2⟩
    exact ⟨d, List.mem_filter.2 ⟨hd, by simpa using h1⟩, h2⟩
/-- What Cycle answers: a cycle, or there is none. -/
theorem cycD_spec (ds : List Dp) :
    (cycD ds ≠ [] ∧ acyclicR ds = false ∧ (cycD ds).Nodup ∧ ∀ i, i < (cycD ds).length → ∃ d ∈ ds, d.1 = (cycD ds).getD i 0 ∧ d.2.1 = (cycD ds).getD ((i + 1) % (cycD ds).length) 0) ∨
      (cycD ds = [] ∧ acyclicR ds = true) := by
  have hmem : ∀ x, x ∈ unionD ds [] ↔ x ∈ ds := fun x => by rw [mem_unionD]; simp
  have hs := cycOf_spec (nx := nxD (unionD ds [])) (U := nodesU (unionD ds [])) (keys := keysL (unionD ds [])) (nodesU_next _) (nodesU_keys _) (k := (nodesU (unionD ds [])).length) (Nat.le_refl _)
  change (cycD ds ≠ [] ∧ IsCyc (nxD (unionD ds [])) (cycD ds)) ∨ (cycD ds = [] ∧ _) at hs
  rcases hs with ⟨h1, hc⟩ | ⟨h1, rank, hr⟩
  · obtain ⟨_, hn, hc⟩ := hc
    have hed : ∀ i, i < (cycD ds).length → ∃ d ∈ ds, d.1 = (cycD ds).getD i 0 ∧ d.2.1 = (cycD ds).getD ((i + 1) % (cycD ds).length) 0 := fun i hi => by
      obtain ⟨d, hd, e1, e2⟩ := mem_nxD.1 (hc i hi)
      exact ⟨d, (hmem d).1 hd, e1, e2⟩
    refine .inl ⟨h1, ?_, hn, hed⟩
    have hpos : 0 < (cycD ds).length := List.length_pos_iff.2 h1
    refine not_acy (fun d => d.1 ∈ cycD ds) ds ?_ ?_
    · obtain ⟨d, hd, e1, _⟩ := hed 0 hpos
      refine ⟨d, hd, ?_⟩
      rw [e1]; simp [List.getD, hpos]
    · intro x hx hxm
      obtain ⟨i, hi, hix⟩ := List.mem_iff_getElem.1 hxm
      -- the place before i
      have hj : ∃ j, j < (cycD ds).length ∧ (j + 1) % (cycD ds).length = i := by
        rcases Nat.eq_zero_or_pos i with h0 | h0
        · subst h0; exact ⟨(cycD ds).length - 1, by omega, by rw [show (cycD ds).length - 1 + 1 = (cycD ds).length by omega]; exact Nat.mod_self _⟩
        · exact ⟨i - 1, by omega, by rw [show i - 1 + 1 = i by omega]; exact Nat.mod_eq_of_lt hi⟩
      obtain ⟨j, hj, hji⟩ := hj
      obtain ⟨d, hd, e1, e2⟩ := hed j hj
      refine ⟨d, hd, ?_, ?_⟩
      · rw [e1]; simp [List.getD, hj]
      · rw [e2, hji, ← hix]; simp [List.getD, hi]
  · refine .inr ⟨h1, ?_⟩
    refine acy_of_rank rank ds fun d hd => ?_
    have hk : d.1 ∈ keysL (unionD ds []) := mem_keysL.2 ⟨d, (hmem d).2 hd, rfl⟩
    exact hr d.1 hk d.2.1 (mem_nxD.2 ⟨d, (hmem d).2 hd, rfl, rfl⟩)
end Go.Proofs.YtljojgpjgjfddaaGreat
