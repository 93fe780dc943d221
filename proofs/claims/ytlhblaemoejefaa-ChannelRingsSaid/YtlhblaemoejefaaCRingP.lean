/- Plain facts of the circles of 3 to 9 switches: their dependencies, and what Cycle finds with and without one of them, evaluated. No program in sight. -/
import Derived.Test.YtlhblaemoejefaaCAwP
namespace Go.Proofs.Ytlhblaemoejefaa
open Go.RowKit Go.Maps Go.Sort Go.Shelf
set_option linter.unusedVariables false
def ringD (m : Nat) : List Dp := setOfD (depA (ringP m).cs (ringL m) (ringT m) m (2 * m))
def okC (ds : List Dp) (n : Nat) : Bool :=
  decide (sortedDB (setOfD ds)) && decide ((dedI ((setOfD ds).map (·.1))).Pairwise fun x y => leI x y = true) && decide ((cycOf (nxD (setOfD ds)) ((nodesU (setOfD ds)).length + 1) (dedI ((setOfD ds).map (·.1)))).length = n)
theorem okC_len {ds : List Dp} {n : Nat} (h : okC ds n = true) : (cycD ds).length = n := by
  unfold okC at h
  simp only [Bool.and_eq_true, decide_eq_true_eq] at h
  rw [cycD_eval rfl h.1.1 rfl (h.1.2.imp (fun {a b} hab => by simpa [leI] using hab))]
  exact h.2
def wfB (ds : List Dp) : Bool := ds.all fun d => (Lit.int .i64 d.1).wf && (Lit.int .i64 d.2.1).wf && (Lit.int .i64 d.2.2).wf
theorem wfB_ok {ds : List Dp} (h : wfB ds = true) : WfD ds := fun d hd => by
  have := List.all_eq_true.1 h d hd
  simp only [Bool.and_eq_true] at this
  exact ⟨this.1.1, this.1.2, this.2⟩
def okR (m : Nat) : Bool :=
  orderB (ringP m) (ringL m) && tableB (ringP m) (ringT m) && decide (sortedDB (ringD m)) && decide ((ringD m).length = m) && wfB (ringD m) && okC (ringD m) m && (List.range m).all fun k => okC ((ringD m).eraseIdx k) 0
theorem okR_all (m : Nat) (h1 : 3 ≤ m) (h2 : m ≤ 9) : okR m = true := by
  have : m = 3 ∨ m = 4 ∨ m = 5 ∨ m = 6 ∨ m = 7 ∨ m = 8 ∨ m = 9 := by omega
  rcases this with rfl | rfl | rfl | rfl | rfl | rfl | rfl <;> decide +kernel
structure RingFacts (m : Nat) : Prop where
  order : orderB (ringP m) (ringL m) = true
  table : tableB (ringP m) (ringT m) = true
  deps : depsD (ringP m) (ringL m) (ringT m) = ringD m
  len : (ringD m).length = m
  wf : WfD (ringD m)
  cyc : (cycD (ringD m)).length = m
  cut : ∀ k, k < m → (cycD ((ringD m).eraseIdx k)).length = 0
theorem ring_facts (m : Nat) (h1 : 3 ≤ m) (h2 : m ≤ 9) : RingFacts m := by
  have h := okR_all m h1 h2
  unfold okR at h
  simp only [Bool.and_eq_true, decide_eq_true_eq] at h
  obtain ⟨⟨⟨⟨⟨⟨q1, q2⟩, q3⟩, q4⟩, q5⟩, q6⟩, q7⟩ := h
  refine ⟨q1, q2, depsD_eval ?_ q3, q4, wfB_ok q5, okC_len q6, fun k hk => okC_len (List.all_eq_true.1 q7 k (List.mem_range.2 hk))⟩
  unfold ringD
  simp [ringP]
end Go.Proofs.Ytlhblaemoejefaa
