/- Generic words and contracts for the Channel and Tree texts (written by gen_cbase.py out of the Local texts): dependencies, ints, rows of records that the call writes. -/
import Derived.Test.YtljojgpjgjfddaaGreatLClone
import Derived.Test.YtljojgpjgjfddaaGreatGValid
import Derived.Test.YtljojgpjgjfddaaGreatIMap
import Derived.Deep.QuietTactic
import Derived.BigQuiet
import Derived.BigRegion
import Derived.Deep.RegionLaw
import Derived.Deep.RegionHeld3
import Derived.LoopTactic
import Derived.IntWalk
import Derived.Maps.RangeWalk
namespace Go.Proofs.YtljojgpjgjfddaaGreat
open Go.RowKit Go.Maps
set_option linter.unusedVariables false

theorem own_mono {w : World} {base base' : Nat} {e : TypeId} {size : Nat} {v : Value} {n : Nat} {xs : List Value} (h : w.ownsRow base e size v n xs) (hb : base' ≤ base) : w.ownsRow base' e size v n xs := by
  refine ⟨h.1, ?_⟩
  rcases h.2 with h | ⟨g, cap, cur, h1, h2, h3⟩
  · exact .inl h
  · exact .inr ⟨g, cap, cur, h1, by omega, h3⟩
theorem own_keptJ {w w' : World} {base : Nat} {e : TypeId} {size n g : Nat} {v : Value} {xs : List Value} (h : w.ownsRow base e size v n xs) (hg : w.grownBy w' (some g)) (hne : ∀ q, v.ownBlock = some q → q ≠ g) : w'.ownsRow base e size v n xs :=
  h.kept hg (by
    cases hb : v.ownBlock with
    | none => exact .inl rfl
    | some q => exact .inr (by intro e; first | (injection e with e; exact hne q hb e) | (injection e with e; exact hne q hb e.symm)))
theorem cD_len3 (x : Dp) : (cD x).length = 3 := rfl
theorem cD_oneJ (l : List Dp) : ∀ u ∈ l.flatMap cD, u.oneCell' = true := by
  intro u hu
  rw [List.mem_flatMap] at hu
  obtain ⟨d, _, hd⟩ := hu
  simp only [cD, List.mem_cons, List.not_mem_nil, or_false] at hd
  rcases hd with rfl | rfl | rfl <;> rfl
theorem fieldsOf_of {P : Program} {t : TypeId} {fs : Array Field} (h : P.underlying t = some (.struct fs)) : P.fieldsOf t = fs := by unfold Program.fieldsOf; rw [h]
def RelEqD (l1 l2 : List Dp) (w : World) (i : Value) (wr : World) : Prop :=
  ∃ k : Nat, k ≤ l1.length ∧ i = .int .i64 k ∧ l1.take k = l2.take k ∧ Below w.heap.size w wr
theorem eqDepD (a b c d e f : Int) (w : World) : (Op.equalIn 10000 69 (.agg #[.int .i64 a, .int .i64 b, .int .i64 c]) (.agg #[.int .i64 d, .int .i64 e, .int .i64 f])).run Tryz.prog w = .ok (a == d && b == e && c == f) w := by
  have u3 := Tryz.underlying3
  have a3 := Tryz.isAgg3
  have z3 := Tryz.sizeOf3
  have ht := Tryz.underlying69
  have hf := fieldsOf_of ht
  rw [show (10000 : Nat) = 9999 + 1 from rfl, run_equalIn_struct w 9999 69 _ _ (by rw [hf]; exact ht) (by kernel_rfl), hf]
  simp only [Op.eqFields]
  go_simp
  by_cases h1 : a = d <;> by_cases h2 : b = e <;> by_cases h3 : c = f <;> simp [h1, h2, h3]
def RelIx (p : Int → Bool) (l : List Int) (i : Value) : Prop := ∃ k : Nat, k ≤ l.length ∧ i = .int .i64 k ∧ ∀ x ∈ l.take k, p x = false
def IdxP (p : Int → Bool) (l : List Int) (w : World) (e : Ending) (w' : World) : Prop := w = w' ∧ ∃ n : Int, e = .returned (.int .i64 n) ∧ decide (0 ≤ n) = l.any p
theorem IdxP.yes {p : Int → Bool} {l : List Int} {w : World} {k : Nat} {x : Int} (hm : x ∈ l) (hx : p x = true) : IdxP p l w (.returned (.int .i64 k)) w :=
  ⟨rfl, k, rfl, by rw [decide_eq_true (by omega)]; exact (List.any_eq_true.2 ⟨x, hm, hx⟩).symm⟩
theorem IdxP.no {p : Int → Bool} {l : List Int} {w : World} (h : ∀ x ∈ l.take l.length, p x = false) : IdxP p l w (.returned (.int .i64 (-1))) w := by
  rw [List.take_length] at h
  refine ⟨rfl, -1, rfl, ?_⟩
  have : l.any p = false := by rw [List.any_eq_false]; intro x hx; rw [h x hx]; simp
  rw [this]; rfl
theorem RelIx.step {p : Int → Bool} {l : List Int} {k : Nat} (hk : k < l.length) (h : ∀ x ∈ l.take k, p x = false) (hx : p (l.getD k 0) = false) : RelIx p l (.int .i64 ((k + 1 : Nat) : Int)) :=
  ⟨k + 1, by omega, rfl, fun y hy => by
    rw [take_snocG 0 l k hk, List.mem_append] at hy
    rcases hy with hy | hy
    · exact h y hy
    · simp at hy; rw [hy]; exact hx⟩
set_option maxHeartbeats 1000000 in
theorem idxI_any (v : Int) (l : List Int) (a : Option Addr) (c : Nat) (w : World) (hl : l.length ≤ 1000000) (h : IsRec 1 cI 0 w a l.length l) :
    Calls Tryz.prog 78 #[.slice a l.length c, .int .i64 v] w (IdxP (fun x => v == x) l w) := by
  have H := Lib.hid h
  clear h
  go_enter Tryz.func78, Tryz.ntmps78
  go_wp2_with fail
  go_loop [8] (fun i => RelIx (fun x => v == x) l i) (fun i => l.length - (RowKit.intOf i).toNat)
  case atStart => exact ⟨0, Nat.zero_le _, rfl, by simp⟩
  case round =>
    obtain ⟨k, hk, rfl, hall⟩ := hrel
    have HA := Lib.hid hall
    clear hall
    by_cases hkr : k < l.length
    · obtain ⟨b1, o1, ha1, hb1, hm1, e1⟩ := int_at H.out k hkr
      have HS := Lib.hid (fun hx => RelIx.step hkr HA.out hx)
      have HY : Hid ((v == l.getD k 0) = true → IdxP (fun x => v == x) l w (.returned (.int .i64 k)) w) := fun hx => IdxP.yes hm1 hx
      subst ha1
      generalize l.getD k 0 = x at *
      clear hm1
      cases hq : v == x with
      | false =>
        have R := Lib.hid (HS.out hq)
        clear HS HY
        go_wp2_with fail
        exact ⟨by simpa using R.out, by simp [RowKit.intOf]; omega⟩
      | true =>
        have F := Lib.hid (HY.out hq)
        clear HS HY
        go_wp2_with fail
        go_ret
        exact F.out
    · obtain rfl : k = l.length := by omega
      have F := Lib.hid (IdxP.no (w := w) HA.out)
      go_wp2_with fail
      go_ret
      exact F.out
theorem mem_take_snoc {α : Type} {d : α} {P : α → Prop} {l : List α} {k : Nat} (hk : k < l.length) (h : ∀ x ∈ l.take k, P x) (hx : P (l.getD k d)) : ∀ x ∈ l.take (k + 1), P x := by
  intro y hy
  rw [take_snocG d l k hk, List.mem_append] at hy
  rcases hy with hy | hy
  · exact h y hy
  · simp only [List.mem_singleton] at hy; rw [hy]; exact hx
theorem all_of_take {α : Type} {p : α → Bool} {l : List α} (h : ∀ x ∈ l.take l.length, p x = true) : l.all p = true := by rw [List.take_length] at h; exact List.all_eq_true.2 h
end Go.Proofs.YtljojgpjgjfddaaGreat
