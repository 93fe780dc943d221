/- The plain laws of LocalAgrees on the whole: the ranks that Join lays are those of each part; the dependencies in the order of the nodes. -/
import Derived.Test.YtljojgpjgjfddaaLAgr22
import Derived.Test.YtljojgpjgjfddaaLPlain
import Derived.Test.YtljojgpjgjfddaaLClone
import Derived.Test.YtljojgpjgjfddaaLAwake
namespace Go.Proofs.Ytljojgpjgjfddaa
open Go.RowKit Go.Maps
set_option linter.unusedVariables false

theorem IsParts.nodup {w : World} {a : Option Addr} {len : Nat} {xs : List Pt} (h : IsParts w a len xs) : ∀ x ∈ xs, (keysE x.ranks).Nodup := by
  intro x hx
  obtain ⟨i, hi, rfl⟩ := List.getElem_of_mem hx
  obtain ⟨b, off, ad, cd, m, _, _, _, _, _, _, _, im⟩ := h.at_ i (by rw [← h.1]; exact hi)
  have e : xs.getD i pt0 = xs[i] := by simp [List.getD, hi]
  rw [e] at im
  exact im.nodup
theorem fold_const {ps : List Pt} {c v : Int} (h : ∀ y ∈ ps, lookE y.ranks c = none ∨ lookE y.ranks c = some v) (acc : Int) : (ps.foldl (fun acc x => (lookE x.ranks c).getD acc) acc = v) ∨ (ps.foldl (fun acc x => (lookE x.ranks c).getD acc) acc = acc ∧ ∀ y ∈ ps, lookE y.ranks c = none) := by
  induction ps generalizing acc with
  | nil => exact .inr ⟨rfl, by simp⟩
  | cons x l ih =>
    rw [List.foldl_cons]
    rcases h x (by simp) with e | e
    · rw [e]
      rcases ih (fun y hy => h y (by simp [hy])) acc with h1 | ⟨h1, h2⟩
      · exact .inl h1
      · exact .inr ⟨h1, fun y hy => by rcases List.mem_cons.1 hy with rfl | hy; exact e; exact h2 y hy⟩
    · rw [e]
      rcases ih (fun y hy => h y (by simp [hy])) v with h1 | ⟨h1, h2⟩
      · exact .inl h1
      · exact .inl h1
/-- If the parts agree, the whole has each part's ranks. -/
theorem join_rank {p : Pl} {xs : List Pt} (h : agreeErr p xs = 0) (hn : ∀ x ∈ xs, (keysE x.ranks).Nodup) {x : Pt} (hx : x ∈ xs) {c r : Int} (hl : lookE x.ranks c = some r) : joinRk (arrL p.ns.length xs) c = r := by
  obtain ⟨ns, cs⟩ := p
  obtain ⟨hv, ha, hf, hs⟩ := agr_ok h
  simp only at ha hf hs ⊢
  have hp := (sum_law hv ha hn hf).trans hs
  have h1 : ∀ y ∈ arrL ns.length xs, lookE y.ranks c = none ∨ lookE y.ranks c = some r := by
    intro y hy
    unfold arrL at hy
    rw [List.mem_map] at hy
    obtain ⟨i, hi, rfl⟩ := hy
    have hm := (arr_mem ha (List.mem_range.1 hi)).1
    have h2 := List.all_eq_true.1 (List.all_eq_true.1 hp x hx) _ hm
    have h3 := List.all_eq_true.1 h2 _ (lookE_mem hl)
    unfold okE at h3
    cases ho : lookE (arrPt xs i).ranks c with
    | none => exact .inl rfl
    | some o => simp only [ho] at h3; simp at h3; rw [h3]; exact .inr rfl
  rcases fold_const h1 0 with h2 | ⟨_, h2⟩
  · exact h2
  · have hb := (arr_ok ha).1 x hx
    have hm : x ∈ arrL ns.length xs := by unfold arrL; rw [List.mem_map]; exact ⟨x.node.toNat, List.mem_range.2 (by omega), arr_self ha hx⟩
    rw [h2 x hm] at hl; cases hl
theorem join_key {p : Pl} {xs : List Pt} (h : agreeErr p xs = 0) (hn : ∀ x ∈ xs, (keysE x.ranks).Nodup) {x : Pt} (hx : x ∈ xs) {c r : Int} (hl : lookE x.ranks c = some r) : 0 ≤ c ∧ c < 2 * p.cs.length := by
  obtain ⟨ns, cs⟩ := p
  obtain ⟨hv, ha, hf, hs⟩ := agr_ok h
  simp only at ha hf hs ⊢
  have hb := (arr_ok ha).1 x hx
  refine form_key hf (k := x.node.toNat) (by simp [arrL]; omega) ?_
  rw [arrL_get (by omega), arr_self ha hx]
  exact lookE_some.1 (by rw [hl]; rfl)
/-- The dependencies of node i's part among the first j parts. -/
def innD (xs : List Pt) (i j : Nat) : List Dp := ((xs.take j).filter fun x => x.node == (i : Int)).flatMap (·.deps)
theorem innD_yes (xs : List Pt) (i j : Nat) (hj : j < xs.length) (h : (xs.getD j pt0).node = i) : innD xs i (j + 1) = innD xs i j ++ (xs.getD j pt0).deps := by
  unfold innD; rw [take_snocG pt0 xs j hj, List.filter_append, List.flatMap_append, List.filter_cons, if_pos (by simp only [h]; exact beq_self_eq_true _)]; simp
theorem innD_no (xs : List Pt) (i j : Nat) (hj : j < xs.length) (h : (xs.getD j pt0).node ≠ i) : innD xs i (j + 1) = innD xs i j := by
  unfold innD; rw [take_snocG pt0 xs j hj, List.filter_append, List.flatMap_append, List.filter_cons, if_neg (by simpa using h)]; simp
theorem filter_one {l : List Pt} (hn : (nodesOf l).Nodup) {x : Pt} (hx : x ∈ l) : (l.filter fun y => y.node == x.node) = [x] := by
  induction l with
  | nil => cases hx
  | cons y r ih =>
    unfold nodesOf at hn
    rw [List.map_cons, List.nodup_cons] at hn
    rcases List.mem_cons.1 hx with rfl | hx
    · rw [List.filter_cons, if_pos (by simp)]
      congr 1
      rw [List.filter_eq_nil_iff]
      intro z hz e
      exact hn.1 (List.mem_map.2 ⟨z, hz, by simpa using e⟩)
    · have hne : y.node ≠ x.node := fun e => hn.1 (List.mem_map.2 ⟨x, hx, e.symm⟩)
      rw [List.filter_cons, if_neg (by simpa using hne)]
      exact ih hn.2 hx
theorem innD_all {ns : List Nd} {xs : List Pt} (h : arrErr ns xs = 0) {i : Nat} (hi : i < ns.length) : innD xs i xs.length = (arrPt xs i).deps := by
  obtain ⟨hm, hnode⟩ := arr_mem h hi
  unfold innD
  rw [List.take_length, ← hnode, filter_one (arr_ok h).2.1 hm]; simp
theorem innD_len {xs : List Pt} (i j : Nat) (h : ∀ x ∈ xs, x.deps.length ≤ 100) : (innD xs i j).length ≤ 100 * xs.length := by
  unfold innD
  have : ∀ l : List Pt, (∀ x ∈ l, x.deps.length ≤ 100) → (l.flatMap (·.deps)).length ≤ 100 * l.length := by
    intro l
    induction l with
    | nil => simp
    | cons y r ih =>
      intro hl
      rw [List.flatMap_cons, List.length_append, List.length_cons]
      have := ih fun x hx => hl x (by simp [hx])
      have := hl y (by simp)
      omega
  refine Nat.le_trans (this _ fun x hx => h x (List.mem_of_mem_take (List.mem_filter.1 hx).1)) ?_
  have := List.length_filter_le (fun x : Pt => x.node == (i : Int)) (xs.take j)
  have : (xs.take j).length ≤ xs.length := by rw [List.length_take]; omega
  omega
theorem arrPt_deps {xs : List Pt} (h : ∀ x ∈ xs, x.deps.length ≤ 100) (i : Nat) : (arrPt xs i).deps.length ≤ 100 := by
  unfold arrPt
  split
  · rename_i q hq
    have := (findPt_some hq).1
    exact h _ (by simp [List.getD, this])
  · simp [pt0]
theorem joinD_small {n : Nat} {xs : List Pt} (h : ∀ x ∈ xs, x.deps.length ≤ 100) : (joinD (arrL n xs)).length ≤ 100 * n := by
  unfold joinD arrL
  induction n with
  | zero => simp
  | succ n ih =>
    rw [List.range_succ, List.map_append, List.flatMap_append, List.length_append]
    have := arrPt_deps h n
    simp at ih ⊢
    omega
end Go.Proofs.Ytljojgpjgjfddaa
