/- Plans in plain Lean, and how they lie in memory. No program in sight. -/
import Derived.Test.YtljojgpjgjfddaaRec
namespace Go.Proofs.Ytljojgpjgjfddaa
open Go.RowKit
set_option linter.unusedVariables false

structure Nd where
  name : ByteArray
  sw : Bool
  ports : Int
structure Cb where
  a : Int
  ap : Int
  b : Int
  bp : Int
  dl : Int
  cp : Int
structure Pl where
  ns : List Nd
  cs : List Cb
def nd0 : Nd := ⟨ByteArray.empty, false, 0⟩
def cb0 : Cb := ⟨0, 0, 0, 0, 0, 0⟩
def cN (x : Nd) : List Value := [.string x.name, .bool x.sw, .int .i64 x.ports]
def cC (x : Cb) : List Value := [.int .i64 x.a, .int .i64 x.ap, .int .i64 x.b, .int .i64 x.bp, .int .i64 x.dl, .int .i64 x.cp]

/-- All numbers fit an int; names are of some length. -/
def WfN (x : Nd) : Prop := x.name.size ≤ maxLen ∧ (Lit.int .i64 x.ports).wf = true
def WfC (x : Cb) : Prop := (Lit.int .i64 x.a).wf = true ∧ (Lit.int .i64 x.ap).wf = true ∧ (Lit.int .i64 x.b).wf = true ∧ (Lit.int .i64 x.bp).wf = true ∧ (Lit.int .i64 x.dl).wf = true ∧ (Lit.int .i64 x.cp).wf = true
def WfP (p : Pl) : Prop := (∀ x ∈ p.ns, WfN x) ∧ ∀ x ∈ p.cs, WfC x

/-- The two slices of a plan read as p. -/
def IsPlan (w : World) (An Ac : Option Addr) (p : Pl) : Prop := IsRec 3 cN nd0 w An p.ns.length p.ns ∧ IsRec 6 cC cb0 w Ac p.cs.length p.cs
theorem IsPlan.below {w w' : World} {B : Nat} {An Ac : Option Addr} {p : Pl} (h : IsPlan w An Ac p) (hB : w.heap.size ≤ B) (hb : Below B w w') : IsPlan w' An Ac p := ⟨h.1.below hB hb, h.2.below hB hb⟩
theorem IsPlan.alloc {w : World} {An Ac : Option Addr} {p : Pl} (h : IsPlan w An Ac p) (o : Obj) : IsPlan (w.alloc o) An Ac p := ⟨h.1.alloc o, h.2.alloc o⟩

theorem node_at {w : World} {A : Option Addr} {len : Nat} {ns : List Nd} (h : IsRec 3 cN nd0 w A len ns) (k : Nat) (hk : k < len) :
    ∃ b off, A = some ⟨b, off, none⟩ ∧ b < w.heap.size ∧ ns.getD k nd0 ∈ ns ∧ w.cell? ⟨b, off + k * 3, none⟩ = some (.string (ns.getD k nd0).name) ∧ w.cell? ⟨b, off + k * 3 + 1, none⟩ = some (.bool (ns.getD k nd0).sw) ∧ w.cell? ⟨b, off + k * 3 + 1 + 1, none⟩ = some (.int .i64 (ns.getD k nd0).ports) := by
  obtain ⟨b, off, ha, hb, hc⟩ := h.2 (by omega)
  have hl : k < ns.length := by rw [h.1]; exact hk
  exact ⟨b, off, ha, hb, by simp [List.getD, hl], hc k 0 hk (by omega), hc k 1 hk (by omega), hc k 2 hk (by omega)⟩
theorem cable_at {w : World} {A : Option Addr} {len : Nat} {cs : List Cb} (h : IsRec 6 cC cb0 w A len cs) (k : Nat) (hk : k < len) :
    ∃ b off, A = some ⟨b, off, none⟩ ∧ b < w.heap.size ∧ cs.getD k cb0 ∈ cs ∧ w.cell? ⟨b, off + k * 6, none⟩ = some (.int .i64 (cs.getD k cb0).a) ∧ w.cell? ⟨b, off + k * 6 + 1, none⟩ = some (.int .i64 (cs.getD k cb0).ap) ∧
      w.cell? ⟨b, off + k * 6 + 2, none⟩ = some (.int .i64 (cs.getD k cb0).b) ∧ w.cell? ⟨b, off + k * 6 + 3, none⟩ = some (.int .i64 (cs.getD k cb0).bp) ∧ w.cell? ⟨b, off + k * 6 + 4, none⟩ = some (.int .i64 (cs.getD k cb0).dl) ∧ w.cell? ⟨b, off + k * 6 + 5, none⟩ = some (.int .i64 (cs.getD k cb0).cp) := by
  obtain ⟨b, off, ha, hb, hc⟩ := h.2 (by omega)
  have hl : k < cs.length := by rw [h.1]; exact hk
  exact ⟨b, off, ha, hb, by simp [List.getD, hl], hc k 0 hk (by omega), hc k 1 hk (by omega), hc k 2 hk (by omega), hc k 3 hk (by omega), hc k 4 hk (by omega), hc k 5 hk (by omega)⟩

/-! What graph.Valid computes. -/
def isLetter (c : UInt8) : Bool := 97 ≤ c && c ≤ 122
def isDigit (c : UInt8) : Bool := 48 ≤ c && c ≤ 57
/-- A name's bytes from place i on are alright. -/
def okByte (i : Nat) (c : UInt8) : Bool := isLetter c || (decide (i ≠ 0) && isDigit c)
def okName (s : ByteArray) : Bool := decide (1 ≤ s.size) && decide (s.size ≤ 20) && (List.range s.size).all fun i => okByte i (s.data.getD i 0)
def okNode (x : Nd) : Bool := okName x.name && (if x.sw then decide (1 ≤ x.ports) && decide (x.ports ≤ 8) else decide (x.ports = 1))
def hasPort (ns : List Nd) (node port : Int) : Bool := decide (0 ≤ node) && decide (node < ns.length) && decide (0 ≤ port) && decide (port < (ns.getD node.toNat nd0).ports)
def okPorts (ns : List Nd) (x : Cb) : Bool := hasPort ns x.a x.ap && hasPort ns x.b x.bp
/-- Among the first k elements some element occurs twice. -/
def twTo {β : Type} (eq : β → β → Bool) (d : β) (l : List β) (k : Nat) : Bool := (List.range k).any fun j => (l.take j).any fun y => eq y (l.getD j d)
def twiceB {β : Type} (eq : β → β → Bool) (d : β) (l : List β) : Bool := twTo eq d l l.length
theorem twTo_succ {β : Type} (eq : β → β → Bool) (d : β) (l : List β) (k : Nat) : twTo eq d l (k + 1) = (twTo eq d l k || (l.take k).any fun y => eq y (l.getD k d)) := by
  unfold twTo; rw [List.range_succ, List.any_append]; simp
theorem twTo_mono {β : Type} (eq : β → β → Bool) (d : β) (l : List β) (k : Nat) (h : twTo eq d l k = true) : ∀ n, k ≤ n → twTo eq d l n = true := by
  intro n hn
  induction n with
  | zero => have : k = 0 := by omega
            subst this; exact h
  | succ n ih =>
    rw [twTo_succ]
    by_cases hk : k = n + 1
    · subst hk; rw [twTo_succ] at h; exact h
    · rw [ih (by omega)]; rfl
def endsOf (cs : List Cb) : List (Int × Int) := cs.flatMap fun x => [(x.a, x.ap), (x.b, x.bp)]
def sameName (x y : Nd) : Bool := x.name.data.toList == y.name.data.toList
def samePair (x y : Int × Int) : Bool := x.1 == y.1 && x.2 == y.2
def repeatsB (p : Pl) : Bool := twiceB sameName nd0 p.ns || twiceB samePair (0, 0) (endsOf p.cs)
def okForm (x : Cb) : Bool := decide (1 ≤ x.dl) && decide (x.dl ≤ 100) && decide (1 ≤ x.cp) && decide (x.cp ≤ 1000)
def validP (p : Pl) : Int :=
  if 16 < p.ns.length ∨ 32 < p.cs.length then 5
  else if p.ns.all okNode = false then 1
  else if p.cs.all (okPorts p.ns) = false then 2
  else if repeatsB p = true then 8
  else if (p.cs.all fun x => decide (x.a ≠ x.b)) = false then 12
  else if p.cs.all okForm = false then 3
  else 0
end Go.Proofs.Ytljojgpjgjfddaa
