/- Plain law: exchanged ranks are found. No walk. -/
import Derived.Test.YtljojgpjgjfddaaLCheck
namespace Go.Proofs.Ytljojgpjgjfddaa
open Go.RowKit Go.Maps
set_option linter.unusedVariables false

theorem split0_inv {p : Pl} {ds : List Dp} {r : List Int} (h : splitErr p ds r = 0) : validP p = 0 ∧ r.length = 2 * p.cs.length ∧ ∀ d ∈ ds, fitsB p d d.2.2 = true := by
  unfold splitErr at h
  by_cases h1 : validP p ≠ 0 ∨ r.length ≠ 2 * p.cs.length
  · rw [if_pos h1] at h; cases h
  · rw [if_neg h1] at h
    by_cases h2 : (ds.all fun d => fitsB p d d.2.2) = false
    · rw [if_pos h2] at h; cases h
    · have h2' : (ds.all fun d => fitsB p d d.2.2) = true := by simpa using h2
      refine ⟨?_, ?_, fun d hd => List.all_eq_true.1 h2' d hd⟩
      · exact Classical.byContradiction fun hn => h1 (.inl hn)
      · exact Classical.byContradiction fun hn => h1 (.inr hn)
theorem split0_of {p : Pl} {ds : List Dp} {r s : List Int} (h : splitErr p ds r = 0) (hs : s.length = r.length) : splitErr p ds s = 0 := by
  obtain ⟨h1, h2, h3⟩ := split0_inv h
  refine split0 ?_ (List.all_eq_true.2 h3)
  rintro (h | h)
  · exact h h1
  · exact h (hs.trans h2)
theorem fits_inv {p : Pl} {f t n node : Int} (h : fitsB p (f, t, n) node = true) : (0 ≤ node ∧ node < p.ns.length) ∧ n = node ∧ (0 ≤ f ∧ f < 2 * p.cs.length) ∧ (0 ≤ t ∧ t < 2 * p.cs.length) ∧ (chEnds p.cs f).2 = node ∧ (chEnds p.cs t).1 = node := by
  unfold fitsB isNodeB existsB at h
  simp only [Bool.and_eq_true, decide_eq_true_eq] at h
  exact ⟨h.1.1.1.1.1, h.1.1.1.1.2, h.1.1.1.2, h.1.1.2, h.1.2, h.2⟩
theorem depsErr_11 {p : Pl} {node : Int} {E : Ens} {ds : List Dp} (hf : ∀ d ∈ ds, fitsB p d node = true) (hb : ∃ d ∈ ds, rankE E d.2.1 ≤ rankE E d.1) : depsErr p node E ds = 11 := by
  induction ds with
  | nil => obtain ⟨d, hd, _⟩ := hb; cases hd
  | cons d l ih =>
    rw [depsErr, if_neg (by rw [hf d (List.mem_cons_self ..)]; simp)]
    by_cases h : rankE E d.2.1 ≤ rankE E d.1
    · rw [if_pos h]
    · rw [if_neg h]
      refine ih (fun x hx => hf x (List.mem_cons_of_mem _ hx)) ?_
      obtain ⟨x, hx, hr⟩ := hb
      rcases List.mem_cons.1 hx with rfl | hx
      · exact absurd hr h
      · exact ⟨x, hx, hr⟩
theorem check_split_pre {p : Pl} {ds : List Dp} {s : List Int} (hv : validP p = 0) {i : Nat} (hi : i < p.ns.length) : checkErr p (splitPt p ds s i) = depsErr p i (ranksOf p.cs s i) (ownDeps ds i) := by
  refine chkD hv ?_ ?_ ?_
  · simp [isNodeB, splitPt]; omega
  · rw [List.all_eq_true]
    intro c hc
    have hc' : c ∈ chansAt p.cs i := hc
    show (lookE (ranksOf p.cs s i) c).isSome = true
    rw [lookE_ranksOf, if_pos hc']; rfl
  · show (ranksOf p.cs s i).length = _
    unfold ranksOf; rw [List.length_map]; rfl
theorem rankE_ranksOf {cs : List Cb} {s : List Int} {node c : Int} (h : c ∈ chansAt cs node) : rankE (ranksOf cs s node) c = s.getD c.toNat 0 := by
  unfold rankE; rw [lookE_ranksOf, if_pos h]; rfl
theorem fault_law {p : Pl} {ds : List Dp} {r : List Int} {f t n : Nat} (h : splitErr p ds r = 0) (hd : ((f : Int), (t : Int), (n : Int)) ∈ ds) :
    n < p.ns.length ∧ f < r.length ∧ t < r.length ∧ checkErr p (splitPt p ds ((r.set f (max (r.getD f 0) (r.getD t 0))).set t (min (r.getD f 0) (r.getD t 0))) n) = 11 := by
  obtain ⟨h1, h2, h3⟩ := split0_inv h
  obtain ⟨⟨n0, n1⟩, _, ⟨f0, f1⟩, ⟨t0, t1⟩, ef, et⟩ := fits_inv (h3 _ hd)
  have hn : n < p.ns.length := by omega
  have hf : f < r.length := by omega
  have ht : t < r.length := by omega
  refine ⟨hn, hf, ht, ?_⟩
  rw [check_split_pre h1 hn]
  refine depsErr_11 ?_ ⟨_, List.mem_filter.2 ⟨hd, by simp⟩, ?_⟩
  · intro d hdd
    obtain ⟨hd1, hd2⟩ := List.mem_filter.1 hdd
    have := h3 d hd1
    have e : d.2.2 = n := by simpa using hd2
    rw [← e]; exact this
  · have mf : (f : Int) ∈ chansAt p.cs n := by have := (ends_at f0 f1).2; rw [ef] at this; exact this
    have mt : (t : Int) ∈ chansAt p.cs n := by have := (ends_at t0 t1).1; rw [et] at this; exact this
    show rankE _ (t : Int) ≤ rankE _ (f : Int)
    rw [rankE_ranksOf mf, rankE_ranksOf mt, Int.toNat_natCast, Int.toNat_natCast]
    by_cases e : f = t
    · subst e; exact Int.le_refl _
    · simp only [List.getD_eq_getElem?_getD]
      rw [List.getElem?_set_self (by simpa using ht), List.getElem?_set_ne (Ne.symm e), List.getElem?_set_self hf]
      simp only [Option.getD_some]
      omega
end Go.Proofs.Ytljojgpjgjfddaa
