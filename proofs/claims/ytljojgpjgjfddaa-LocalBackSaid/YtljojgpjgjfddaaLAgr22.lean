/- The contract of the law's own agree: it answers as Agree does. -/
import Derived.Test.YtljojgpjgjfddaaLAgrLaw
import Derived.Test.YtljojgpjgjfddaaLJoin
import Derived.Test.YtljojgpjgjfddaaLIdx
namespace Go.Proofs.Ytljojgpjgjfddaa
open Go.RowKit Go.Maps
set_option linter.unusedVariables false

def RelCn (ns : List Nd) (xs : List Pt) (w2 : World) (i : Value) (wr : World) : Prop :=
  ∃ k : Nat, k ≤ xs.length ∧ i = .int .i64 k ∧ RBlk wr w2.heap.size 3 1 ns.length (fun i => [.int .i64 ((cntP xs k i : Nat) : Int)]) ∧ (∀ x ∈ xs.take k, isNodeB ns x.node = true) ∧ Below w2.heap.size w2 wr
def RelEx (cs : List Cb) (xs : List Pt) (w4 : World) (i : Value) (wr : World) : Prop :=
  ∃ k : Nat, k ≤ xs.length ∧ i = .int .i64 k ∧ (∀ x ∈ xs.take k, exactB cs x = true) ∧ Below w4.heap.size w4 wr
def RelO (xs : List Pt) (w5 : World) (i : Value) (wr : World) : Prop :=
  ∃ k : Nat, k ≤ xs.length ∧ i = .int .i64 k ∧ (∀ x ∈ xs.take k, (xs.all fun y => pairB x y) = true) ∧ Below w5.heap.size w5 wr
def RelI (x : Pt) (xs : List Pt) (w6 : World) (i : Value) (wr : World) : Prop :=
  ∃ k : Nat, k ≤ xs.length ∧ i = .int .i64 k ∧ (∀ y ∈ xs.take k, pairB x y = true) ∧ Below w6.heap.size w6 wr
/-- What has been walked of x's ranks fits y. -/
def midP (E : Ens) (y : Pt) (left : Lit → Bool) : Prop := ∀ c r, lookE E c = some r → left (.int .i64 c) = false → okE y c r = true
theorem midP_start {H : Type} {D : DataW H} {E : Ens} (h : Ents D E) (y : Pt) : midP E y (Maps.has D) := by
  intro c r hl hn
  rw [h.has_ c, hl] at hn; cases hn
theorem midP_step {E : Ens} {y : Pt} {left : Lit → Bool} {x v : Int} (h : midP E y left) (hx : lookE E x = some v) (hk : okE y x v = true) : midP E y (fun z => left z && !z.sameKey (.int .i64 x)) := by
  intro c r hl hn
  by_cases e : c = x
  · subst e; rw [hx] at hl; injection hl with hl; subst hl; exact hk
  · refine h c r hl ?_
    have : (Lit.int .i64 c).sameKey (.int .i64 x) = false := by simp [Lit.sameKey, e]
    simpa [this] using hn
theorem midP_end {x y : Pt} {left : Lit → Bool} (hn : (keysE x.ranks).Nodup) (h : midP x.ranks y left) (hl : ∀ kl, left kl = false) : pairB x y = true := by
  unfold pairB
  rw [List.all_eq_true]
  rintro ⟨c, r⟩ hm
  exact h c r (lookE_of_mem hn hm) (hl _)
theorem mem_take_snoc {α : Type} {d : α} {P : α → Prop} {l : List α} {k : Nat} (hk : k < l.length) (h : ∀ x ∈ l.take k, P x) (hx : P (l.getD k d)) : ∀ x ∈ l.take (k + 1), P x := by
  intro y hy
  rw [take_snocG d l k hk, List.mem_append] at hy
  rcases hy with hy | hy
  · exact h y hy
  · simp only [List.mem_singleton] at hy; rw [hy]; exact hx
theorem all_of_take {α : Type} {p : α → Bool} {l : List α} (h : ∀ x ∈ l.take l.length, p x = true) : l.all p = true := by rw [List.take_length] at h; exact List.all_eq_true.2 h
theorem allBad2 {α : Type} {p : α → Bool} {l : List α} {x : α} (hm : x ∈ l) (h : p x = false) : l.all p = false := by rw [List.all_eq_false]; exact ⟨x, hm, by rw [h]; simp⟩
theorem pair_bad {x y : Pt} {c r : Int} (hl : lookE x.ranks c = some r) (h : okE y c r = false) : pairB x y = false := by
  unfold pairB; rw [List.all_eq_false]; exact ⟨(c, r), lookE_mem hl, by rw [h]; simp⟩

end Go.Proofs.Ytljojgpjgjfddaa
