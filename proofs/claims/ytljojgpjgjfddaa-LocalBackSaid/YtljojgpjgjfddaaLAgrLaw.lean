/- The plain laws of LocalAgrees: counting the parts of each node, exact channels, equal ranks. No program in sight. -/
import Derived.Test.YtljojgpjgjfddaaLVerdict
import Derived.Test.YtljojgpjgjfddaaLLaw
namespace Go.Proofs.Ytljojgpjgjfddaa
open Go.RowKit Go.Maps
set_option linter.unusedVariables false

def cntP (xs : List Pt) (k i : Nat) : Nat := ((nodesOf xs).take k).count (i : Int)
def cntL (n : Nat) (xs : List Pt) : List Int := (List.range n).map fun i => ((cntP xs xs.length i : Nat) : Int)
theorem cntL_length (n : Nat) (xs : List Pt) : (cntL n xs).length = n := by simp [cntL]
theorem cntP_step (xs : List Pt) (k i : Nat) (hk : k < xs.length) : cntP xs (k + 1) i = if (i : Int) = (xs.getD k pt0).node then cntP xs k i + 1 else cntP xs k i := by
  have hn : (nodesOf xs).getD k 0 = (xs.getD k pt0).node := by simp [nodesOf, List.getD, hk]
  unfold cntP
  rw [take_snocG 0 (nodesOf xs) k (by simpa [nodesOf] using hk), List.count_append, hn, List.count_singleton]
  by_cases e : (i : Int) = (xs.getD k pt0).node
  · rw [if_pos e, if_pos (by simp [e])]
  · rw [if_neg e, if_neg (by simpa using fun h => e h.symm)]; rfl
theorem cntP_le (xs : List Pt) (k i : Nat) : cntP xs k i ≤ xs.length := by
  unfold cntP
  refine Nat.le_trans List.count_le_length ?_
  rw [List.length_take]
  have : (nodesOf xs).length = xs.length := by simp [nodesOf]
  omega
theorem cntP_all (xs : List Pt) (i : Nat) : cntP xs xs.length i = (nodesOf xs).count (i : Int) := by
  unfold cntP
  rw [List.take_of_length_le (by simp [nodesOf])]
theorem twice_iff {l : List Int} : twiceB eqI 0 l = true ↔ ¬ l.Nodup := by
  constructor
  · intro h hn; rw [twice_false hn] at h; cases h
  · intro h
    refine Classical.byContradiction fun h2 => h ?_
    rw [List.nodup_iff_pairwise_ne, List.pairwise_iff_getElem]
    intro i j hi hj hij e
    exact h2 (twice_true hij hj (by simpa [List.getD, hi, hj] using e))
theorem cnt_twice {ns : List Nd} {xs : List Pt} (h : (xs.all fun x => isNodeB ns x.node) = true) : ((cntL ns.length xs).any fun x => decide (1 < x)) = twiceB eqI 0 (nodesOf xs) := by
  rw [Bool.eq_iff_iff, twice_iff, List.nodup_iff_count, List.any_eq_true]
  constructor
  · rintro ⟨x, hx, h1⟩ hn
    unfold cntL at hx
    rw [List.mem_map] at hx
    obtain ⟨i, hi, rfl⟩ := hx
    rw [cntP_all] at h1
    have := hn (i : Int)
    simp at h1; omega
  · intro hn
    refine Classical.byContradiction fun h2 => hn fun a => ?_
    by_cases ha : a ∈ nodesOf xs
    · unfold nodesOf at ha
      rw [List.mem_map] at ha
      obtain ⟨x, hx, rfl⟩ := ha
      have hb := List.all_eq_true.1 h x hx
      have hb' : 0 ≤ x.node ∧ x.node < ns.length := by simpa [isNodeB] using hb
      refine Classical.byContradiction fun h3 => h2 ⟨((cntP xs xs.length x.node.toNat : Nat) : Int), ?_, ?_⟩
      · unfold cntL; rw [List.mem_map]; exact ⟨x.node.toNat, List.mem_range.2 (by omega), rfl⟩
      · rw [cntP_all, show ((x.node.toNat : Nat) : Int) = x.node by omega]; simp; unfold nodesOf at h3; unfold nodesOf; omega
    · rw [List.count_eq_zero.2 ha]; omega
theorem cnt_none {ns : List Nd} {xs : List Pt} : ((cntL ns.length xs).any fun x => (0 : Int) == x) = (hasL ns.length xs xs.length).contains false := by
  rw [Bool.eq_iff_iff, has_false_iff, List.any_eq_true]
  constructor
  · rintro ⟨x, hx, h1⟩
    unfold cntL at hx
    rw [List.mem_map] at hx
    obtain ⟨i, hi, rfl⟩ := hx
    rw [cntP_all] at h1
    refine ⟨i, List.mem_range.1 hi, List.count_eq_zero.1 ?_⟩
    simp at h1; omega
  · rintro ⟨i, hi, hm⟩
    refine ⟨((cntP xs xs.length i : Nat) : Int), ?_, ?_⟩
    · unfold cntL; rw [List.mem_map]; exact ⟨i, List.mem_range.2 hi, rfl⟩
    · rw [cntP_all, List.count_eq_zero.2 hm]; rfl

theorem arr_ok {ns : List Nd} {xs : List Pt} (h : arrErr ns xs = 0) : (∀ x ∈ xs, 0 ≤ x.node ∧ x.node < ns.length) ∧ (nodesOf xs).Nodup ∧ ∀ i, i < ns.length → (i : Int) ∈ nodesOf xs := by
  unfold arrErr at h
  split at h
  · cases h
  · rename_i h1
    split at h
    · cases h
    · rename_i h2
      split at h
      · cases h
      · rename_i h3
        refine ⟨fun x hx => ?_, ?_, fun i hi => ?_⟩
        · have h1' : (xs.all fun x => isNodeB ns x.node) = true := by simpa using h1
          have := List.all_eq_true.1 h1' x hx
          simpa [isNodeB] using this
        · rw [twice_iff] at h2; exact Classical.not_not.1 h2
        · rw [has_false_iff] at h3
          exact Classical.byContradiction fun hn => h3 ⟨i, hi, hn⟩
theorem arr_mem {ns : List Nd} {xs : List Pt} (h : arrErr ns xs = 0) {i : Nat} (hi : i < ns.length) : arrPt xs i ∈ xs ∧ (arrPt xs i).node = i := by
  have hm := (arr_ok h).2.2 i hi
  have hs := find_iff.2 hm
  unfold arrPt
  cases hf : findPt xs xs.length i with
  | none => rw [hf] at hs; cases hs
  | some q =>
    have := findPt_some hf
    exact ⟨by simp [List.getD, this.1], this.2⟩
theorem arr_self {ns : List Nd} {xs : List Pt} (h : arrErr ns xs = 0) {x : Pt} (hx : x ∈ xs) : arrPt xs x.node.toNat = x := by
  obtain ⟨q, hq, rfl⟩ := List.getElem_of_mem hx
  have hb := (arr_ok h).1 _ hx
  have e : xs.getD q pt0 = xs[q] := by simp [List.getD, hq]
  have := find_unique (arr_ok h).2.1 hq (i := xs[q].node.toNat) (by rw [e]; omega)
  unfold arrPt
  rw [this]
  exact e
theorem arrL_get {n : Nat} {xs : List Pt} {i : Nat} (hi : i < n) : (arrL n xs).getD i pt0 = arrPt xs i := by simp [arrL, hi]
theorem perm_of_sub {l1 l2 : List Int} (h1 : l1.Nodup) (h2 : l2.Nodup) (hs : l1.Subset l2) (hl : l2.length ≤ l1.length) : l1.Perm l2 := by
  refine (List.perm_ext_iff_of_nodup h1 h2).2 fun x => ⟨fun h => hs h, fun h => ?_⟩
  refine Classical.byContradiction fun hn => ?_
  have h3 : (x :: l1).Nodup := List.nodup_cons.2 ⟨hn, h1⟩
  have := List.Nodup.length_le_of_subset h3 (l₂ := l2) (fun y hy => by
    rcases List.mem_cons.1 hy with rfl | hy
    · exact h
    · exact hs hy)
  simp at this; omega
theorem exact0_iff {cs : List Cb} {E : Ens} {node : Int} (hn : (keysE E).Nodup) : exactE cs (sortE E) node = 0 ↔ sortE E = chansAt cs node := by
  have s2 : (chansAt cs node).Pairwise (· < ·) := chTo_sorted cs node cs.length
  have nd2 : (chansAt cs node).Nodup := s2.imp (fun {a b} hab => by omega)
  cases hall : ((chansAt cs node).all fun c => (lookE E c).isSome) with
  | false =>
    rw [exact_7 hall]
    constructor
    · intro h; cases h
    · intro h
      rw [List.all_eq_false] at hall
      obtain ⟨c, hc, hl⟩ := hall
      rw [← h, sort_mem] at hc
      exact absurd (lookE_some.2 hc) hl
  | true =>
    by_cases hle : E.length = (chansAt cs node).length
    · rw [exact_0 hall hle]
      refine ⟨fun _ => ?_, fun _ => rfl⟩
      have hs : (chansAt cs node).Subset (keysE E) := fun c hc => lookE_some.1 (List.all_eq_true.1 hall c hc)
      have hp : (chansAt cs node).Perm (keysE E) := perm_of_sub nd2 hn hs (by simp [keysE, hle])
      unfold sortE
      rw [mergeSort_of_perm_i hp.symm]
      exact List.mergeSort_of_pairwise (s2.imp fun {a b} h => by simp [leI]; omega)
    · rw [exact_8 hall hle]
      constructor
      · intro h; cases h
      · intro h; exact absurd (by rw [← h, sortE_length]) hle
def exactB (cs : List Cb) (x : Pt) : Bool := exactE cs (sortE x.ranks) x.node == 0
theorem form_law {ns : List Nd} {cs : List Cb} {xs : List Pt} (h : arrErr ns xs = 0) (hn : ∀ x ∈ xs, (keysE x.ranks).Nodup) : xs.all (exactB cs) = formB cs (arrL ns.length xs) := by
  have hla : (arrL ns.length xs).length = ns.length := by simp [arrL]
  rw [Bool.eq_iff_iff, List.all_eq_true]
  unfold formB
  rw [List.all_eq_true, hla]
  constructor
  · intro hx i hi
    have hi' := List.mem_range.1 hi
    obtain ⟨hm, hnode⟩ := arr_mem h hi'
    have := hx _ hm
    unfold exactB at this
    rw [beq_iff_eq, exact0_iff (hn _ hm), hnode] at this
    rw [decide_eq_true_iff, arrL_get hi']; exact this
  · intro hi x hx
    have hb := (arr_ok h).1 x hx
    have h1 := of_decide_eq_true (hi x.node.toNat (List.mem_range.2 (by omega)))
    rw [arrL_get (by omega), arr_self h hx] at h1
    unfold exactB
    rw [beq_iff_eq, exact0_iff (hn _ hx), h1, show ((x.node.toNat : Nat) : Int) = x.node by omega]
def okE (y : Pt) (c r : Int) : Bool := match lookE y.ranks c with | some o => o == r | none => true
def pairB (x y : Pt) : Bool := x.ranks.all fun e => okE y e.1 e.2
theorem atB_iff {c : Cb} {n : Int} : atB c n = true ↔ c.a = n ∨ c.b = n := by unfold atB; simp
theorem ends_of_at {cs : List Cb} {c n : Int} (h : c ∈ chansAt cs n) : (chEnds cs c).1 = n ∨ (chEnds cs c).2 = n := by
  have := (mem_chansAt.1 h).2.2
  rw [atB_iff] at this
  unfold chEnds
  split
  · exact this
  · exact this.symm
theorem sum_law {ns : List Nd} {cs : List Cb} {xs : List Pt} (hv : validP ⟨ns, cs⟩ = 0) (h : arrErr ns xs = 0) (hn : ∀ x ∈ xs, (keysE x.ranks).Nodup) (hf : formB cs (arrL ns.length xs) = true) :
    (xs.all fun x => xs.all fun y => pairB x y) = sumB cs (arrL ns.length xs) := by
  have keys : ∀ x ∈ xs, ∀ c, c ∈ keysE x.ranks ↔ c ∈ chansAt cs x.node := by
    intro x hx c
    have h1 := List.all_eq_true.1 ((form_law (cs := cs) h hn).trans hf) x hx
    unfold exactB at h1
    rw [beq_iff_eq, exact0_iff (hn _ hx)] at h1
    rw [← h1, sort_mem]
  have rk : ∀ x ∈ xs, ∀ c, rankAt (arrL ns.length xs) x.node c = (lookE x.ranks c).getD 0 := by
    intro x hx c
    have hb := (arr_ok h).1 x hx
    unfold rankAt
    rw [arrL_get (by omega), arr_self h hx]
  rw [Bool.eq_iff_iff, List.all_eq_true]
  unfold sumB
  rw [List.all_eq_true]
  constructor
  · intro hp c hc
    have hc' := List.mem_range.1 hc
    obtain ⟨⟨a0, a1⟩, b0, b1⟩ := ends_node hv c hc'
    obtain ⟨mx, nx⟩ := arr_mem h (i := (chEnds cs c).1.toNat) (by omega)
    obtain ⟨my, ny⟩ := arr_mem h (i := (chEnds cs c).2.toNat) (by omega)
    have ea := ends_at (cs := cs) (c := (c : Int)) (by omega) (by omega)
    generalize arrPt xs (chEnds cs c).1.toNat = x at *
    generalize arrPt xs (chEnds cs c).2.toNat = y at *
    have nx' : (chEnds cs c).1 = x.node := by omega
    have ny' : (chEnds cs c).2 = y.node := by omega
    rw [decide_eq_true_iff, nx', ny', rk x mx, rk y my]
    rw [nx', ny'] at ea
    have kx := (keys x mx c).2 ea.1
    have ky := (keys y my c).2 ea.2
    have hxy := List.all_eq_true.1 (hp x mx) y my
    obtain ⟨r, hr⟩ := Option.isSome_iff_exists.1 (lookE_some.2 kx)
    obtain ⟨o, ho⟩ := Option.isSome_iff_exists.1 (lookE_some.2 ky)
    have := List.all_eq_true.1 hxy _ (lookE_mem hr)
    unfold okE at this
    simp only [ho] at this
    rw [hr, ho]
    simp at this
    simp [this]
  · intro hc x hx
    rw [List.all_eq_true]
    intro y hy
    unfold pairB
    rw [List.all_eq_true]
    rintro ⟨c, r⟩ hm
    have hr := lookE_of_mem (hn x hx) hm
    unfold okE
    cases ho : lookE y.ranks c with
    | none => rfl
    | some o =>
      have kx := (keys x hx c).1 (lookE_some.1 (by rw [hr]; rfl))
      have ky := (keys y hy c).1 (lookE_some.1 (by rw [ho]; rfl))
      have bx := mem_chansAt.1 kx
      have hq := of_decide_eq_true (hc c.toNat (List.mem_range.2 (by omega)))
      rw [show ((c.toNat : Nat) : Int) = c by omega] at hq
      show (o == r) = true
      rw [beq_iff_eq]
      have same : x.node = y.node → o = r := by
        intro e
        have : x = y := by rw [← arr_self h hx, ← arr_self h hy, e]
        subst this
        rw [ho] at hr; injection hr
      rcases ends_of_at kx with e1 | e1 <;> rcases ends_of_at ky with e2 | e2
      · exact same (by rw [← e1, ← e2])
      · rw [e1, e2, rk x hx, rk y hy, hr, ho] at hq; simpa using hq.symm
      · rw [e1, e2, rk x hx, rk y hy, hr, ho] at hq; simpa using hq
      · exact same (by rw [← e1, ← e2])
end Go.Proofs.Ytljojgpjgjfddaa
