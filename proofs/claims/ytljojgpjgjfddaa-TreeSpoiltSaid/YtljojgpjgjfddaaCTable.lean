/- Tables of routes in memory; the contracts of routes.across, of routes.Valid and of the function inside it. -/
import Derived.Test.YtljojgpjgjfddaaCOrder
namespace Go.Proofs.Ytljojgpjgjfddaa
open Go.RowKit Go.Maps
set_option linter.unusedVariables false

abbrev Row2 := List Int × List Int
def row0 : Row2 := ([], [])
def WfT (T : List Row2) : Prop := ∀ r ∈ T, WfI r.1 ∧ WfI r.2
def IsTab (w : World) (a : Option Addr) (len : Nat) (T : List Row2) : Prop :=
  T.length = len ∧ (0 < len → ∃ b off, a = some ⟨b, off, none⟩ ∧ b < w.heap.size ∧ ∀ i, i < len → ∃ a0 c0 a1 c1, w.cell? ⟨b, off + i * 2, none⟩ = some (.slice a0 (T.getD i row0).1.length c0) ∧ w.cell? ⟨b, off + i * 2 + 1, none⟩ = some (.slice a1 (T.getD i row0).2.length c1) ∧
    IsRec 1 cI 0 w a0 (T.getD i row0).1.length (T.getD i row0).1 ∧ IsRec 1 cI 0 w a1 (T.getD i row0).2.length (T.getD i row0).2)
theorem IsTab.below {w w' : World} {B len : Nat} {a : Option Addr} {T : List Row2} (h : IsTab w a len T) (hB : w.heap.size ≤ B) (hb : Below B w w') : IsTab w' a len T := by
  refine ⟨h.1, fun h0 => ?_⟩
  obtain ⟨b, off, e, hlt, hc⟩ := h.2 h0
  refine ⟨b, off, e, by have := hb.size; omega, fun i hi => ?_⟩
  obtain ⟨a0, c0, a1, c1, h1, h2, h3, h4⟩ := hc i hi
  exact ⟨a0, c0, a1, c1, (hb.cell (by show b < B; omega)).trans h1, (hb.cell (by show b < B; omega)).trans h2, h3.below hB hb, h4.below hB hb⟩
theorem IsTab.at_ {w : World} {a : Option Addr} {len : Nat} {T : List Row2} (h : IsTab w a len T) (k : Nat) (hk : k < len) :
    ∃ b off a0 c0 a1 c1, a = some ⟨b, off, none⟩ ∧ b < w.heap.size ∧ T.getD k row0 ∈ T ∧ w.cell? ⟨b, off + k * 2, none⟩ = some (.slice a0 (T.getD k row0).1.length c0) ∧ w.cell? ⟨b, off + k * 2 + 1, none⟩ = some (.slice a1 (T.getD k row0).2.length c1) ∧
    IsRec 1 cI 0 w a0 (T.getD k row0).1.length (T.getD k row0).1 ∧ IsRec 1 cI 0 w a1 (T.getD k row0).2.length (T.getD k row0).2 := by
  obtain ⟨b, off, e, hlt, hc⟩ := h.2 (by omega)
  obtain ⟨a0, c0, a1, c1, h1, h2, h3, h4⟩ := hc k hk
  have hl : k < T.length := by rw [h.1]; exact hk
  exact ⟨b, off, a0, c0, a1, c1, e, hlt, by simp [List.getD, hl], h1, h2, h3, h4⟩

def acrossV (x : Cb) (node : Int) : Int × Bool := if node = x.a then (x.b, true) else if node = x.b then (x.a, true) else (0, false)
def permB (cs : List Cb) (node to_ number : Int) : Bool :=
  if node == to_ || number == -2 then node == to_ && number == -2 else if number == -1 then true else if number < 0 ∨ (cs.length : Int) ≤ number then false else (acrossV (cs.getD number.toNat cb0) node).2
def rowOk (cs : List Cb) (n node : Nat) (l : List Int) : Bool := decide (l.length = n) && (List.range l.length).all fun t => permB cs node t (l.getD t 0)
def phOf (x : Row2) (j : Nat) : List Int := if j = 0 then x.1 else x.2
def tabOk (cs : List Cb) (n : Nat) (T : List Row2) (u : Nat) : Bool := rowOk cs n u (phOf (T.getD u row0) 0) && rowOk cs n u (phOf (T.getD u row0) 1)
def tableB (p : Pl) (T : List Row2) : Bool := decide (validP p = 0) && decide (T.length = p.ns.length) && (List.range T.length).all (tabOk p.cs p.ns.length T)
section
variable {p : Pl} {T : List Row2}
theorem tb1 (h : validP p ≠ 0) : tableB p T = false := by unfold tableB; rw [decide_eq_false h]; rfl
theorem tb2 (h : T.length ≠ p.ns.length) : tableB p T = false := by unfold tableB; rw [decide_eq_false h]; simp
theorem tb3 {u : Nat} (hu : u < T.length) (h : tabOk p.cs p.ns.length T u = false) : tableB p T = false := by
  unfold tableB
  have : (List.range T.length).all (tabOk p.cs p.ns.length T) = false := by rw [List.all_eq_false]; exact ⟨u, List.mem_range.2 hu, by rw [h]; simp⟩
  rw [this]; simp
theorem tb0 (h1 : validP p = 0) (h2 : T.length = p.ns.length) (h3 : (List.range T.length).all (tabOk p.cs p.ns.length T) = true) : tableB p T = true := by
  unfold tableB; rw [decide_eq_true h1, decide_eq_true h2, h3]; rfl
end
def RelT1 (cs : List Cb) (n : Nat) (T : List Row2) (w2 : World) (i : Value) (wr : World) : Prop :=
  ∃ k : Nat, k ≤ T.length ∧ i = .int .i64 k ∧ (List.range k).all (tabOk cs n T) = true ∧ Below w2.heap.size w2 wr
def RelT2 (cs : List Cb) (n : Nat) (x : Row2) (u : Nat) (w3 : World) (i : Value) (wr : World) : Prop :=
  ∃ j : Nat, j ≤ 2 ∧ i = .int .i64 j ∧ (∀ q, q < j → rowOk cs n u (phOf x q) = true) ∧ Below w3.heap.size w3 wr
def RelT3 (cs : List Cb) (l : List Int) (u : Nat) (w4 : World) (i : Value) (wr : World) : Prop :=
  ∃ t : Nat, t ≤ l.length ∧ i = .int .i64 t ∧ ((List.range t).all fun t => permB cs u t (l.getD t 0)) = true ∧ Below w4.heap.size w4 wr
end Go.Proofs.Ytljojgpjgjfddaa
