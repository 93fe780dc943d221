/- What tree.reach and tree.ways compute, in plain Lean. No program in sight. -/
import Derived.Test.YtljojgpjgjfddaaGreatTPathP
namespace Go.Proofs.YtljojgpjgjfddaaGreat
open Go.RowKit Go.Maps
set_option linter.unusedVariables false
set_option linter.unusedSimpArgs false

/-- A tree: source, rows, deliveries. -/
structure Tr where
  src : Int
  out : List (List Int)
  del : List Int
def isEndB (cs : List Cb) (c u : Int) : Bool := decide (0 ≤ c) && decide (c < cs.length) && endT (cs.getD c.toNat cb0) u
def ascB : List Int → Bool
  | [] => true
  | [_] => true
  | a :: b :: l => decide (a < b) && ascB (b :: l)
def goR (cs : List Cb) (g : List Int → Nat → Int → List Int × Bool) (u : Nat) : List Int → List Int → List Int × Bool
  | [], ov => (ov, true)
  | o :: r, ov => if (g ov (othN cs u o.toNat) o).2 = true then goR cs g u r (g ov (othN cs u o.toNat) o).1 else ((g ov (othN cs u o.toNat) o).1, false)
def visR (cs : List Cb) (out : List (List Int)) : Nat → List Int → Nat → Int → List Int × Bool
  | 0, ov, _, _ => (ov, false)
  | f + 1, ov, u, c => if ov.getD u 0 = -2 then goR cs (visR cs out f) u (out.getD u []) (ov.set u c) else (ov, false)
def cntR (ov : List Int) : Nat := ov.countP (· == -2)
def over0 (n : Nat) : List Int := List.replicate n (-2)
def reachR (n : Nat) (cs : List Cb) (x : Tr) : List Int × Bool := visR cs x.out (n + 1) (over0 n) x.src.toNat (-1)
/-- The rows are ascending lists of cables of their nodes. -/
def rowsOk (cs : List Cb) (out : List (List Int)) : Bool := (List.range out.length).all fun u => ascB (out.getD u []) && (out.getD u []).all fun c => isEndB cs c (u : Int)
def delOk (n : Nat) (ov : List Int) (l : List Int) : Bool := l.all fun v => decide (0 ≤ v) && decide (v < n) && decide (ov.getD v.toNat 0 ≠ -2)
def rowFine (ov : List Int) (x : Tr) (u : Nat) : Bool :=
  !((ov.getD u 0 == -2 && decide (0 < (x.out.getD u []).length)) || (decide (0 ≤ ov.getD u 0) && (x.out.getD u []).length == 0 && !(x.del.any fun d => d == (u : Int))))
def waysB1 (ns : List Nd) (cs : List Cb) (x : Tr) : Bool := decide (validP ⟨ns, cs⟩ = 0) && decide (0 ≤ x.src) && decide (x.src < ns.length) && decide (x.out.length = ns.length) && rowsOk cs x.out
def waysB (ns : List Nd) (cs : List Cb) (x : Tr) : Bool := waysB1 ns cs x && ((reachR ns.length cs x).2 && ascB x.del && delOk ns.length (reachR ns.length cs x).1 x.del && (List.range ns.length).all (rowFine (reachR ns.length cs x).1 x))
section
variable {cs : List Cb} {out : List (List Int)}
theorem ascB_getD {l : List Int} : ascB l = true ↔ ∀ i, i + 1 < l.length → l.getD i 0 < l.getD (i + 1) 0 := by
  induction l with
  | nil => simp [ascB]
  | cons a l ih =>
    cases l with
    | nil => simp [ascB]
    | cons b l =>
      rw [ascB, Bool.and_eq_true, decide_eq_true_eq, ih]
      constructor
      · rintro ⟨h1, h2⟩ i hi
        cases i with
        | zero => simpa using h1
        | succ i => have := h2 i (by simp at hi ⊢; omega); simpa using this
      · intro h
        refine ⟨by have := h 0 (by simp); simpa using this, fun i hi => ?_⟩
        have := h (i + 1) (by simp at hi ⊢; omega)
        simpa using this
theorem goR_false {g : List Int → Nat → Int → List Int × Bool} {u : Nat} {l m : List Int} {ov : List Int} (h : (goR cs g u l ov).2 = false) : goR cs g u (l ++ m) ov = goR cs g u l ov := by
  induction l generalizing ov with
  | nil => cases h
  | cons o r ih =>
    rw [List.cons_append]
    unfold goR at h ⊢
    split
    · rename_i hb
      rw [if_pos hb] at h
      exact ih h
    · rfl
theorem goR_snoc {g : List Int → Nat → Int → List Int × Bool} {u : Nat} {l : List Int} {o : Int} {ov : List Int} (h : (goR cs g u l ov).2 = true) : goR cs g u (l ++ [o]) ov = g (goR cs g u l ov).1 (othN cs u o.toNat) o := by
  induction l generalizing ov with
  | nil =>
    show goR cs g u [o] ov = g ov (othN cs u o.toNat) o
    rw [goR]
    split
    · rename_i hb
      rw [goR]
      generalize g ov (othN cs u o.toNat) o = q at *
      obtain ⟨q1, q2⟩ := q
      simp only at hb
      rw [hb]
    · rename_i hb
      generalize g ov (othN cs u o.toNat) o = q at *
      obtain ⟨q1, q2⟩ := q
      simp only [Bool.not_eq_true] at hb
      rw [hb]
  | cons p r ih =>
    rw [List.cons_append]
    unfold goR at h ⊢
    split
    · rename_i hb
      rw [if_pos hb] at h
      exact ih h
    · rename_i hb
      rw [if_neg hb] at h
      cases h
theorem goR_keeps {g : List Int → Nat → Int → List Int × Bool} {P : List Int → Prop} {u : Nat} {l : List Int} (hg : ∀ o ∈ l, ∀ ov v, P ov → P (g ov v o).1) : ∀ ov, P ov → P (goR cs g u l ov).1 := by
  induction l with
  | nil => intro ov h; exact h
  | cons o r ih =>
    intro ov h
    unfold goR
    have h1 := hg o (List.mem_cons_self ..) ov (othN cs u o.toNat) h
    split
    · exact ih (fun o ho => hg o (List.mem_cons_of_mem _ ho)) _ h1
    · exact h1
theorem visR_len (f : Nat) : ∀ ov u c, (visR cs out f ov u c).1.length = ov.length := by
  induction f with
  | zero => intro ov u c; rfl
  | succ f ih =>
    intro ov u c
    unfold visR
    split
    · exact goR_keeps (P := fun q => q.length = ov.length) (fun o _ q v hq => (ih q v o).trans hq) _ (by simp)
    · rfl
theorem cnt_set {ov : List Int} {u : Nat} {c : Int} (hu : u < ov.length) (h : ov.getD u 0 = -2) (hc : c ≠ -2) : cntR (ov.set u c) + 1 = cntR ov := by
  unfold cntR
  have e : ov[u] = -2 := by rw [← h]; simp [List.getD, hu]
  rw [List.countP_set hu]
  have h1 : (ov[u] == -2) = true := by rw [e]; rfl
  have h2 : (c == -2) = false := by simpa using hc
  rw [h1, h2]
  have h3 : 0 < ov.countP (· == -2) := by
    rw [List.countP_pos_iff]
    exact ⟨ov[u], List.getElem_mem hu, h1⟩
  simp only [if_true, if_false, Bool.false_eq_true]
  omega
theorem visR_cnt (hout : ∀ u, ∀ o ∈ out.getD u [], o ≠ -2) (f : Nat) : ∀ ov u c, u < ov.length → c ≠ -2 → cntR (visR cs out f ov u c).1 ≤ cntR ov := by
  induction f with
  | zero => intro ov u c _ _; exact Nat.le_refl _
  | succ f ih =>
    intro ov u c hu hc
    unfold visR
    split
    · rename_i h
      have h0 := cnt_set hu h hc
      refine Nat.le_trans ?_ (by omega : cntR (ov.set u c) ≤ cntR ov)
      refine goR_keeps (P := fun q => cntR q ≤ cntR (ov.set u c)) (fun o ho q v hq => ?_) _ (Nat.le_refl _)
      by_cases hv : v < q.length
      · exact Nat.le_trans (ih q v o hv (hout u o ho)) hq
      · have : (visR cs out f q v o).1 = q := by
          cases f with
          | zero => rfl
          | succ f =>
            unfold visR
            rw [if_neg]
            simp [List.getD, List.getElem?_eq_none (by omega : q.length ≤ v)]
        rw [this]
        exact hq
    · exact Nat.le_refl _
theorem cnt_over0 (n : Nat) : cntR (over0 n) = n := by
  unfold cntR over0
  rw [List.countP_replicate]
  simp
end
end Go.Proofs.YtljojgpjgjfddaaGreat
