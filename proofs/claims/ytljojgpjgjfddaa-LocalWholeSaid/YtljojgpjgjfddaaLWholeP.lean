/- Right parts that agree: the ranks of the whole rise along each dependency. No program in sight. -/
import Derived.Test.YtljojgpjgjfddaaLFaultLaw
import Derived.Test.YtljojgpjgjfddaaLAgrJoin
import Derived.Test.YtljojgpjgjfddaaLAcyF
import Derived.Test.YtljojgpjgjfddaaCAcyP
namespace Go.Proofs.Ytljojgpjgjfddaa
open Go.RowKit Go.Maps
set_option linter.unusedVariables false

theorem depsErr_inv {p : Pl} {node : Int} {E : Ens} : ∀ {ds : List Dp}, depsErr p node E ds = 0 → ∀ d ∈ ds, fitsB p d node = true ∧ rankE E d.1 < rankE E d.2.1 := by
  intro ds
  induction ds with
  | nil => intro _ d hd; cases hd
  | cons x l ih =>
    intro h d hd
    unfold depsErr at h
    split at h
    · cases h
    · rename_i h1
      split at h
      · cases h
      · rename_i h2
        rcases List.mem_cons.1 hd with rfl | hd
        · exact ⟨by simpa using h1, by omega⟩
        · exact ih h d hd
theorem checkErr_inv {p : Pl} {x : Pt} (h : checkErr p x = 0) : validP p = 0 ∧ (∀ c ∈ chansAt p.cs x.node, (lookE x.ranks c).isSome = true) ∧ depsErr p x.node x.ranks x.deps = 0 := by
  unfold checkErr at h
  split at h
  · cases h
  · rename_i h1
    split at h
    · cases h
    · split at h
      · cases h
      · rename_i h3
        split at h
        · cases h
        · exact ⟨by simpa using h1, fun c hc => by
            have h4 : ∀ y, y ∈ chansAt p.cs x.node → ¬lookE x.ranks y = none := by simpa using h3
            have h5 := h4 c hc
            cases hl : lookE x.ranks c with
            | none => exact absurd hl h5
            | some r => rfl, h⟩
theorem arrPt_mem (xs : List Pt) (i : Nat) : arrPt xs i ∈ xs ∨ arrPt xs i = pt0 := by
  unfold arrPt
  cases h : findPt xs xs.length i with
  | none => exact .inr rfl
  | some q =>
    left
    unfold findPt at h
    have hq := List.mem_range.1 (List.mem_of_find?_eq_some h)
    simp [List.getD, hq]
theorem joinD_mem {n : Nat} {xs : List Pt} {d : Dp} (h : d ∈ joinD (arrL n xs)) : ∃ x ∈ xs, d ∈ x.deps := by
  unfold joinD arrL at h
  rw [List.mem_flatMap] at h
  obtain ⟨x, hx, hd⟩ := h
  obtain ⟨i, _, rfl⟩ := List.mem_map.1 hx
  rcases arrPt_mem xs i with hm | hm
  · exact ⟨_, hm, hd⟩
  · rw [hm] at hd; cases hd
theorem whole_dep {p : Pl} {xs : List Pt} (ha : agreeErr p xs = 0) (hn : ∀ x ∈ xs, (keysE x.ranks).Nodup) (hc : ∀ x ∈ xs, checkErr p x = 0) {d : Dp} (hd : d ∈ joinD (arrL p.ns.length xs)) :
    0 ≤ d.1 ∧ d.1 < 2 * p.cs.length ∧ 0 ≤ d.2.1 ∧ d.2.1 < 2 * p.cs.length ∧ joinRk (arrL p.ns.length xs) d.1 < joinRk (arrL p.ns.length xs) d.2.1 := by
  obtain ⟨x, hx, hdx⟩ := joinD_mem hd
  obtain ⟨_, hs, he⟩ := checkErr_inv (hc x hx)
  obtain ⟨hf, hr⟩ := depsErr_inv he d hdx
  obtain ⟨f, t, m⟩ := d
  obtain ⟨_, _, ⟨f0, f1⟩, ⟨t0, t1⟩, e1, e2⟩ := fits_inv hf
  have c1 := (ends_at f0 f1).2
  have c2 := (ends_at t0 t1).1
  rw [e1] at c1
  rw [e2] at c2
  have g : ∀ c, c ∈ chansAt p.cs x.node → joinRk (arrL p.ns.length xs) c = rankE x.ranks c := fun c hc' => by
    have hsome := hs c hc'
    cases hl : lookE x.ranks c with
    | none => rw [hl] at hsome; cases hsome
    | some r => rw [join_rank ha hn hx hl]; unfold rankE; rw [hl]; rfl
  refine ⟨f0, f1, t0, t1, ?_⟩
  show joinRk _ f < joinRk _ t
  rw [g f c1, g t c2]
  exact hr
theorem bound_of (g : Int → Int) (m : Nat) : ∃ M : Int, ∀ c : Int, 0 ≤ c → c < m → g c ≤ M := by
  induction m with
  | zero => exact ⟨0, fun c h1 h2 => by omega⟩
  | succ m ih =>
    obtain ⟨M, hM⟩ := ih
    refine ⟨max M (g m), fun c h1 h2 => ?_⟩
    rcases Int.lt_or_le c m with h | h
    · have := hM c h1 h; omega
    · obtain rfl : c = m := by omega
      omega
theorem whole_acy {p : Pl} {xs : List Pt} (ha : agreeErr p xs = 0) (hn : ∀ x ∈ xs, (keysE x.ranks).Nodup) (hc : ∀ x ∈ xs, checkErr p x = 0) :
    acyclicR (joinD (arrL p.ns.length xs)) = true ∧ acyclicRF (joinD (arrL p.ns.length xs)) = true := by
  constructor
  · obtain ⟨M, hM⟩ := bound_of (joinRk (arrL p.ns.length xs)) (2 * p.cs.length)
    refine acy_of_rank (fun c => (M - joinRk (arrL p.ns.length xs) c).toNat) _ fun d hd => ?_
    obtain ⟨f0, f1, t0, t1, h⟩ := whole_dep ha hn hc hd
    have := hM d.2.1 t0 (by omega)
    omega
  · obtain ⟨M, hM⟩ := bound_of (fun c => - joinRk (arrL p.ns.length xs) c) (2 * p.cs.length)
    refine acy_of_rankF (fun c => (M + joinRk (arrL p.ns.length xs) c).toNat) _ fun d hd => ?_
    obtain ⟨f0, f1, t0, t1, h⟩ := whole_dep ha hn hc hd
    have := hM d.1 f0 (by omega)
    omega
theorem whole_cyc {p : Pl} {xs : List Pt} (ha : agreeErr p xs = 0) (hn : ∀ x ∈ xs, (keysE x.ranks).Nodup) (hc : ∀ x ∈ xs, checkErr p x = 0) : cycD (joinD (arrL p.ns.length xs)) = [] := by
  rcases cycD_spec (joinD (arrL p.ns.length xs)) with ⟨_, h, _⟩ | ⟨h, _⟩
  · rw [(whole_acy ha hn hc).1] at h; cases h
  · exact h
end Go.Proofs.Ytljojgpjgjfddaa
