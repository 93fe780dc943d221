/- Plain laws: the parts of a whole are in order and agree. No walk. -/
import Derived.Test.YtljojgpjgjfddaaLAgree
namespace Go.Proofs.Ytljojgpjgjfddaa
open Go.RowKit Go.Maps
set_option linter.unusedVariables false

theorem keysE_ranksOf (cs : List Cb) (r : List Int) (i : Int) : keysE (ranksOf cs r i) = chansAt cs i := by
  unfold keysE ranksOf; rw [List.map_map]; exact List.map_id _
theorem chTo_sorted (cs : List Cb) (node : Int) (k : Nat) : (chTo cs node k).Pairwise (· < ·) := by
  induction k with
  | zero => exact List.Pairwise.nil
  | succ k ih =>
    rw [chTo_succ, List.pairwise_append]
    refine ⟨ih, ?_, ?_⟩
    · split
      · simp; omega
      · exact List.Pairwise.nil
    · intro a ha c hc
      have := chTo_mem cs node k a ha
      split at hc
      · simp at hc; omega
      · simp at hc
theorem sortE_of_sorted {E : Ens} (h : (keysE E).Pairwise (· < ·)) : sortE E = keysE E := by
  unfold sortE
  refine List.mergeSort_of_pairwise ?_
  refine h.imp ?_
  intro a b hab
  simp [leI]; omega
theorem sortE_ranksOf (cs : List Cb) (r : List Int) (i : Int) : sortE (ranksOf cs r i) = chansAt cs i := by
  rw [sortE_of_sorted (by rw [keysE_ranksOf]; exact chTo_sorted cs i cs.length), keysE_ranksOf]
theorem mem_chansAt {cs : List Cb} {node c : Int} : c ∈ chansAt cs node ↔ 0 ≤ c ∧ c < 2 * cs.length ∧ atB (cs.getD (c / 2).toNat cb0) node = true := by
  unfold chansAt chTo
  rw [List.mem_flatMap]
  constructor
  · rintro ⟨i, hi, hc⟩
    rw [List.mem_range] at hi
    split at hc
    · rename_i hat
      simp at hc
      have e : (c / 2).toNat = i := by omega
      rw [e]
      exact ⟨by omega, by omega, hat⟩
    · simp at hc
  · rintro ⟨h0, h1, h2⟩
    refine ⟨(c / 2).toNat, List.mem_range.2 (by omega), ?_⟩
    rw [if_pos h2]
    simp
    omega
theorem lookE_map (l : List Int) (f : Int → Int) (c : Int) : lookE (l.map fun x => (x, f x)) c = if c ∈ l then some (f c) else none := by
  unfold lookE
  induction l with
  | nil => rfl
  | cons x l ih =>
    rw [List.map_cons, List.find?_cons]
    by_cases e : x = c
    · subst e; simp
    · have h2 : ¬ c = x := fun h => e h.symm
      simp only [beq_eq_false_iff_ne.2 e]
      rw [ih]
      simp [h2]
theorem lookE_ranksOf (cs : List Cb) (r : List Int) (node c : Int) : lookE (ranksOf cs r node) c = if c ∈ chansAt cs node then some (r.getD c.toNat 0) else none := lookE_map _ (fun c => r.getD c.toNat 0) c
theorem ends_at {cs : List Cb} {c : Int} (h0 : 0 ≤ c) (h1 : c < 2 * cs.length) : c ∈ chansAt cs (chEnds cs c).1 ∧ c ∈ chansAt cs (chEnds cs c).2 := by
  constructor <;> rw [mem_chansAt] <;> refine ⟨h0, h1, ?_⟩ <;> unfold chEnds atB <;> split <;> simp

/-! Which nodes are there? -/
theorem twice_false {l : List Int} (h : l.Nodup) : twiceB eqI 0 l = false := by
  unfold twiceB twTo
  rw [List.any_eq_false]
  intro j hj
  rw [List.mem_range] at hj
  simp only [Bool.not_eq_true]
  rw [List.any_eq_false]
  intro y hy
  rw [List.mem_take_iff_getElem] at hy
  obtain ⟨i, hi, rfl⟩ := hy
  have e : l.getD j 0 = l[j] := by simp [List.getD, hj]
  rw [e]
  have := (List.pairwise_iff_getElem.1 h) i j (by omega) hj (by omega)
  simpa [eqI] using this
theorem twice_true {l : List Int} {i j : Nat} (hij : i < j) (hj : j < l.length) (e : l.getD i 0 = l.getD j 0) : twiceB eqI 0 l = true := by
  unfold twiceB twTo
  rw [List.any_eq_true]
  refine ⟨j, List.mem_range.2 hj, ?_⟩
  rw [List.any_eq_true]
  have e1 : l.getD i 0 = l[i] := by have : i < l.length := by omega
                                    simp [List.getD, this]
  refine ⟨l.getD i 0, ?_, by unfold eqI; rw [e]; exact beq_self_eq_true _⟩
  rw [List.mem_take_iff_getElem]
  exact ⟨i, by omega, e1.symm⟩
theorem find_iff {xs : List Pt} {i : Nat} : (findPt xs xs.length i).isSome = true ↔ (i : Int) ∈ nodesOf xs := by
  rw [← any_take_iff (Nat.le_refl _)]
  have e : (nodesOf xs).take xs.length = nodesOf xs := List.take_of_length_le (by simp [nodesOf])
  rw [e, List.any_eq_true]
  constructor
  · rintro ⟨y, hy, h⟩
    have : y = i := by simpa [eqI] using h
    rw [← this]; exact hy
  · intro h
    exact ⟨i, h, by simp [eqI]⟩
theorem has_false_iff {n : Nat} {xs : List Pt} : (hasL n xs xs.length).contains false = true ↔ ∃ i, i < n ∧ (i : Int) ∉ nodesOf xs := by
  rw [List.contains_iff_mem, hasL, List.mem_map]
  constructor
  · rintro ⟨i, hi, h⟩
    refine ⟨i, List.mem_range.1 hi, fun hm => ?_⟩
    rw [find_iff.2 hm] at h; cases h
  · rintro ⟨i, hi, h⟩
    refine ⟨i, List.mem_range.2 hi, ?_⟩
    rw [Bool.eq_false_iff]
    exact fun h2 => h (find_iff.1 h2)
theorem find_unique {xs : List Pt} (hn : (nodesOf xs).Nodup) {q : Nat} (hq : q < xs.length) {i : Nat} (h : (xs.getD q pt0).node = i) : findPt xs xs.length i = some q := by
  have hm : (i : Int) ∈ nodesOf xs := by
    rw [nodesOf, List.mem_map]
    exact ⟨xs.getD q pt0, by simp [List.getD, hq], h⟩
  obtain ⟨q', hq'⟩ := Option.isSome_iff_exists.1 (find_iff.2 hm)
  obtain ⟨h1, h2⟩ := findPt_some hq'
  have e : q' = q := by
    refine Classical.byContradiction fun hne => ?_
    have hl : (nodesOf xs).length = xs.length := by simp [nodesOf]
    have g : ∀ k (hk : k < xs.length), (nodesOf xs)[k]'(by omega) = (xs.getD k pt0).node := by
      intro k hk
      simp [nodesOf, List.getD, hk]
    have pw := List.pairwise_iff_getElem.1 hn
    rcases Nat.lt_or_gt_of_ne hne with hlt | hlt
    · exact pw q' q (by omega) (by omega) hlt (by rw [g q' h1, g q hq, h2, h])
    · exact pw q q' (by omega) (by omega) hlt (by rw [g q' h1, g q hq, h2, h])
  rw [hq', e]

section
variable (p : Pl) (ds : List Dp) (r : List Int)
theorem splitL_length : (splitL p ds r).length = p.ns.length := by simp [splitL]
theorem splitL_get {i : Nat} (h : i < p.ns.length) : (splitL p ds r).getD i pt0 = splitPt p ds r i := by simp [splitL, h]
theorem nodes_split : nodesOf (splitL p ds r) = (List.range p.ns.length).map fun i : Nat => (i : Int) := by
  unfold nodesOf splitL
  rw [List.map_map]
  rfl
theorem range_nodup (n : Nat) : ((List.range n).map fun i : Nat => (i : Int)).Nodup := by
  unfold List.Nodup
  rw [List.pairwise_map]
  refine List.nodup_range.imp ?_
  intro a b h
  omega
theorem arr_split_err : arrErr p.ns (splitL p ds r) = 0 := by
  refine arr0 ?_ ?_ ?_
  · rw [List.all_eq_true]
    intro x hx
    unfold splitL at hx
    rw [List.mem_map] at hx
    obtain ⟨i, hi, rfl⟩ := hx
    rw [List.mem_range] at hi
    simp [isNodeB, splitPt]
    omega
  · rw [nodes_split]; exact twice_false (range_nodup _)
  · rw [Bool.eq_false_iff]
    intro h
    obtain ⟨i, hi, hn⟩ := has_false_iff.1 h
    rw [nodes_split] at hn
    exact hn (List.mem_map.2 ⟨i, List.mem_range.2 hi, rfl⟩)
theorem arr_split : arrL p.ns.length (splitL p ds r) = splitL p ds r := by
  refine List.ext_getElem (by simp [arrL, splitL]) ?_
  intro i h1 h2
  have hi : i < p.ns.length := by simpa [arrL] using h1
  have hf : findPt (splitL p ds r) (splitL p ds r).length i = some i := find_unique (by rw [nodes_split]; exact range_nodup _) (by rw [splitL_length]; exact hi) (by rw [splitL_get p ds r hi]; rfl)
  have e1 : (arrL p.ns.length (splitL p ds r))[i] = arrPt (splitL p ds r) i := by simp [arrL]
  have e2 : (splitL p ds r)[i] = (splitL p ds r).getD i pt0 := by simp [List.getD, h2]
  rw [e1, e2]
  unfold arrPt
  rw [hf]
theorem split_form (ps : List Pt) (hl : ps.length = p.ns.length) (h : ∀ i, i < p.ns.length → sortE (ps.getD i pt0).ranks = chansAt p.cs i) : formB p.cs ps = true := by
  unfold formB
  rw [List.all_eq_true]
  intro i hi
  rw [List.mem_range, hl] at hi
  exact decide_eq_true (h i hi)
theorem rank_split {node : Nat} (hn : node < p.ns.length) {c : Int} (hc : c ∈ chansAt p.cs node) : rankAt (splitL p ds r) node c = r.getD c.toNat 0 := by
  unfold rankAt
  rw [Int.toNat_natCast, splitL_get p ds r hn]
  show (lookE (ranksOf p.cs r node) c).getD 0 = _
  rw [lookE_ranksOf, if_pos hc]
  rfl
/-- The parts of a whole agree. -/
theorem agree_split (h : validP p = 0) : agreeErr p (splitL p ds r) = 0 := by
  obtain ⟨ns, cs⟩ := p
  refine agr0 h (arr_split_err _ ds r) ?_ ?_
  · rw [arr_split ⟨ns, cs⟩ ds r]
    refine split_form ⟨ns, cs⟩ _ (splitL_length _ ds r) fun i hi => ?_
    rw [splitL_get _ ds r hi]
    exact sortE_ranksOf cs r i
  · rw [arr_split ⟨ns, cs⟩ ds r]
    unfold sumB
    rw [List.all_eq_true]
    intro c hc
    rw [List.mem_range] at hc
    obtain ⟨⟨n1, n2⟩, n3, n4⟩ := ends_node h c hc
    obtain ⟨m1, m2⟩ := ends_at (cs := cs) (c := c) (by omega) (by show (c : Int) < 2 * cs.length; simp only at hc; omega)
    obtain ⟨f, hf⟩ : ∃ f : Nat, (chEnds cs c).1 = f := ⟨_, (Int.toNat_of_nonneg n1).symm⟩
    obtain ⟨t, ht⟩ : ∃ t : Nat, (chEnds cs c).2 = t := ⟨_, (Int.toNat_of_nonneg n3).symm⟩
    show decide (rankAt _ (chEnds cs c).1 c = rankAt _ (chEnds cs c).2 c) = true
    rw [hf] at m1 n2 ⊢
    rw [ht] at m2 n4 ⊢
    rw [rank_split ⟨ns, cs⟩ ds r (by simp only; omega) m1, rank_split ⟨ns, cs⟩ ds r (by simp only; omega) m2]
    exact decide_eq_true rfl
end
end Go.Proofs.Ytljojgpjgjfddaa
