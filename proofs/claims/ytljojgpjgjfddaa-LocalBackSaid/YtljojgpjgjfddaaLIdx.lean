/- The contracts of slices.Index, Contains at ints, and of slices.IndexFunc, ContainsFunc with the law's own predicate. -/
import Derived.Test.YtljojgpjgjfddaaLKeys
namespace Go.Proofs.Ytljojgpjgjfddaa
open Go.RowKit Go.Maps
set_option linter.unusedVariables false

def RelIx (p : Int → Bool) (l : List Int) (i : Value) : Prop := ∃ k : Nat, k ≤ l.length ∧ i = .int .i64 k ∧ ∀ x ∈ l.take k, p x = false
def IdxP (p : Int → Bool) (l : List Int) (w : World) (e : Ending) (w' : World) : Prop := w = w' ∧ ∃ n : Int, e = .returned (.int .i64 n) ∧ decide (0 ≤ n) = l.any p
theorem IdxP.yes {p : Int → Bool} {l : List Int} {w : World} {k : Nat} {x : Int} (hm : x ∈ l) (hx : p x = true) : IdxP p l w (.returned (.int .i64 k)) w :=
  ⟨rfl, k, rfl, by rw [decide_eq_true (by omega)]; exact (List.any_eq_true.2 ⟨x, hm, hx⟩).symm⟩
theorem IdxP.no {p : Int → Bool} {l : List Int} {w : World} (h : ∀ x ∈ l.take l.length, p x = false) : IdxP p l w (.returned (.int .i64 (-1))) w := by
  rw [List.take_length] at h
  refine ⟨rfl, -1, rfl, ?_⟩
  have : l.any p = false := by rw [List.any_eq_false]; intro x hx; rw [h x hx]; simp
  rw [this]; rfl
theorem RelIx.step {p : Int → Bool} {l : List Int} {k : Nat} (hk : k < l.length) (h : ∀ x ∈ l.take k, p x = false) (hx : p (l.getD k 0) = false) : RelIx p l (.int .i64 ((k + 1 : Nat) : Int)) :=
  ⟨k + 1, by omega, rfl, fun y hy => by
    rw [take_snocG 0 l k hk, List.mem_append] at hy
    rcases hy with hy | hy
    · exact h y hy
    · simp at hy; rw [hy]; exact hx⟩

set_option maxHeartbeats 1000000 in
theorem idxI_any (v : Int) (l : List Int) (a : Option Addr) (c : Nat) (w : World) (hl : l.length ≤ 1000000) (h : IsRec 1 cI 0 w a l.length l) :
    Calls Try.prog 51 #[.slice a l.length c, .int .i64 v] w (IdxP (fun x => v == x) l w) := by
  have H := Lib.hid h
  clear h
  go_enter Try.func51, Try.ntmps51
  go_wp2_with fail
  go_loop [8] (fun i => RelIx (fun x => v == x) l i) (fun i => l.length - (RowKit.intOf i).toNat)
  case atStart => exact ⟨0, Nat.zero_le _, rfl, by simp⟩
  case round =>
    obtain ⟨k, hk, rfl, hall⟩ := hrel
    have HA := Lib.hid hall
    clear hall
    by_cases hkr : k < l.length
    · obtain ⟨b1, o1, ha1, hb1, hm1, e1⟩ := int_at H.out k hkr
      have HS := Lib.hid (fun hx => RelIx.step hkr HA.out hx)
      have HY : Hid ((v == l.getD k 0) = true → IdxP (fun x => v == x) l w (.returned (.int .i64 k)) w) := fun hx => IdxP.yes hm1 hx
      subst ha1
      generalize l.getD k 0 = x at *
      clear hm1
      cases hq : v == x with
      | false =>
        have R := Lib.hid (HS.out hq)
        clear HS HY
        go_wp2_with fail
        exact ⟨by simpa using R.out, by simp [RowKit.intOf]; omega⟩
      | true =>
        have F := Lib.hid (HY.out hq)
        clear HS HY
        go_wp2_with fail
        go_ret
        exact F.out
    · obtain rfl : k = l.length := by omega
      have F := Lib.hid (IdxP.no (w := w) HA.out)
      go_wp2_with fail
      go_ret
      exact F.out
theorem contI_any (v : Int) (l : List Int) (a : Option Addr) (c : Nat) (w : World) (hl : l.length ≤ 1000000) (h : IsRec 1 cI 0 w a l.length l) :
    Calls Try.prog 38 #[.slice a l.length c, .int .i64 v] w fun e w' => e = .returned (.bool (l.any fun x => v == x)) ∧ w = w' := by
  have H := Lib.hid h
  clear h
  go_enter Try.func38, Try.ntmps38
  go_wp2_with fail
  refine (idxI_any v l a c w hl H.out).mono ?_
  rintro e w' ⟨rfl, n, rfl, hn⟩
  have HN := Lib.hid hn
  clear hn
  go_wp2_with fail
  go_ret
  refine ⟨?_, rfl⟩
  rw [← HN.out]
  rfl
end Go.Proofs.Ytljojgpjgjfddaa
