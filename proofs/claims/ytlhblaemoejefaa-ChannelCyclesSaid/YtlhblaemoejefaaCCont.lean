/- The contracts of slices.Contains at ints, and of slices.IndexFunc and ContainsFunc at dependencies with the law's own predicate. -/
import Derived.Test.YtlhblaemoejefaaCRef2
namespace Go.Proofs.Ytlhblaemoejefaa
open Go.RowKit Go.Maps Go.Sort Go.Shelf
set_option linter.unusedVariables false

def leadB (x y : Int) (d : Dp) : Bool := d.1 == x && d.2.1 == y
set_option maxHeartbeats 1000000 in
theorem lead_any (d : Dp) (x y : Int) (ga gb : Nat) (w : World) (ha : ga < w.heap.size) (hb : gb < w.heap.size) (hx : w.cell? ⟨ga, 0, none⟩ = some (.int .i64 x)) (hy : w.cell? ⟨gb, 0, none⟩ = some (.int .i64 y)) :
    Calls Try.prog 31 #[.agg #[.int .i64 d.1, .int .i64 d.2.1, .int .i64 d.2.2], .pointer (some ⟨ga, 0, none⟩), .pointer (some ⟨gb, 0, none⟩)] w fun e w' => e = .returned (.bool (leadB x y d)) ∧ Below w.heap.size w w' := by
  have BW : Hid (Below w.heap.size w (w.alloc (.cells #[.int .i64 d.1, .int .i64 d.2.1, .int .i64 d.2.2] 28))) := (Below.refl _ _).alloc (Nat.le_refl _) _
  have kx : (w.alloc (.cells #[.int .i64 d.1, .int .i64 d.2.1, .int .i64 d.2.2] 28)).cell? ⟨ga, 0, none⟩ = some (.int .i64 x) := (World.cell?_alloc_lt w _ ⟨ga, 0, none⟩ ha).trans hx
  have ky : (w.alloc (.cells #[.int .i64 d.1, .int .i64 d.2.1, .int .i64 d.2.2] 28)).cell? ⟨gb, 0, none⟩ = some (.int .i64 y) := (World.cell?_alloc_lt w _ ⟨gb, 0, none⟩ hb).trans hy
  cases h1 : d.1 == x with
  | true =>
    have F : Hid (leadB x y d = (d.2.1 == y)) := by rw [Hid]; unfold leadB; rw [h1]; rfl
    go_enter Try.func31, Try.ntmps31
    go_wp2_with fail
    go_ret
    exact ⟨by rw [F.out]; rfl, BW.out⟩
  | false =>
    have F : Hid (leadB x y d = false) := by rw [Hid]; unfold leadB; rw [h1]; rfl
    go_enter Try.func31, Try.ntmps31
    go_wp2_with fail
    go_ret
    exact ⟨by rw [F.out]; rfl, BW.out⟩
def RelIfD (p : Dp → Bool) (l : List Dp) (w0 : World) (i : Value) (wr : World) : Prop := ∃ k : Nat, k ≤ l.length ∧ i = .int .i64 k ∧ (∀ q ∈ l.take k, p q = false) ∧ Below w0.heap.size w0 wr
set_option maxRecDepth 100000 in
set_option maxHeartbeats 1000000 in
theorem idxFD_any (x y : Int) (ga gb : Nat) (l : List Dp) (a : Option Addr) (c : Nat) (w : World) (hl : l.length ≤ 1000000) (h : IsRec 3 cD d0 w a l.length l) (ha : ga < w.heap.size) (hb : gb < w.heap.size) (hx : w.cell? ⟨ga, 0, none⟩ = some (.int .i64 x)) (hy : w.cell? ⟨gb, 0, none⟩ = some (.int .i64 y)) :
    Calls Try.prog 57 #[.slice a l.length c, .func (.func 31) #[] #[.pointer (some ⟨ga, 0, none⟩), .pointer (some ⟨gb, 0, none⟩)]] w fun e w' =>
      (∃ n : Int, e = .returned (.int .i64 n) ∧ decide (0 ≤ n) = l.any (leadB x y)) ∧ Below w.heap.size w w' := by
  have H := Lib.hid h
  have LE : Hid (∀ d w', Below w.heap.size w w' → Calls Try.prog 31 #[.agg #[.int .i64 d.1, .int .i64 d.2.1, .int .i64 d.2.2], .pointer (some ⟨ga, 0, none⟩), .pointer (some ⟨gb, 0, none⟩)] w' fun e w'' => e = .returned (.bool (leadB x y d)) ∧ Below w'.heap.size w' w'') := fun d w' hw =>
    lead_any d x y ga gb w' (by have := hw.size; omega) (by have := hw.size; omega) ((hw.cell (p := ⟨ga, 0, none⟩) ha).trans hx) ((hw.cell (p := ⟨gb, 0, none⟩) hb).trans hy)
  clear h hx hy
  go_enter Try.func57, Try.ntmps57
  go_wp2_with fail
  go_loopw [8] (fun i wr => RelIfD (leadB x y) l w i wr) (fun i _ => l.length - (RowKit.intOf i).toNat)
  case atStart => exact ⟨0, Nat.zero_le _, rfl, by simp, Below.refl _ _⟩
  case round =>
    obtain ⟨k, hk, rfl, hall, bel⟩ := hrel
    have HA := Lib.hid hall
    have BE := Lib.hid bel
    clear hall
    by_cases hkr : k < l.length
    · obtain ⟨b1, o1, ha1, hb1, hm1, e0, e1, e2⟩ := dep_at (H.out.below (Nat.le_refl _) bel) k hkr
      have HS : Hid (leadB x y (l.getD k d0) = false → ∀ w', Below w.heap.size w w' → RelIfD (leadB x y) l w (.int .i64 ((k + 1 : Nat) : Int)) w') := fun hx w' hb => ⟨k + 1, by omega, rfl, fun q hq => by
        rw [take_snocG d0 l k hkr, List.mem_append, List.mem_singleton] at hq
        rcases hq with hq | rfl
        · exact HA.out q hq
        · exact hx, hb⟩
      have HY : Hid (leadB x y (l.getD k d0) = true → l.any (leadB x y) = true) := fun hx => List.any_eq_true.2 ⟨_, hm1, hx⟩
      have HC := Lib.hid (LE.out (l.getD k d0) wr bel)
      generalize l.getD k d0 = d at *
      subst ha1
      obtain ⟨x0, x1, x2⟩ := d
      simp only at e0 e1 e2 HC
      have i2 : (k : Int) < (l.length : Int) := by omega
      clear hm1 bel
      go_wp2_with fail
      refine HC.out.mono ?_
      rintro e w2 ⟨rfl, bel2⟩
      have B2 : Hid (Below w.heap.size w w2) := BE.out.trans (bel2.mono BE.out.size)
      clear bel2 e0 e1 e2
      cases hq : leadB x y (x0, x1, x2) with
      | true =>
        have F : Hid (decide ((0 : Int) ≤ (k : Int)) = l.any (leadB x y)) := by rw [Hid, HY.out hq]; simp
        clear HS HY hq
        go_wp2_with fail
        go_ret
        exact ⟨⟨_, rfl, F.out⟩, B2.out⟩
      | false =>
        have R := Lib.hid (HS.out hq w2 B2.out)
        clear HS HY hq
        go_wp2_with fail
        exact ⟨by simpa using R.out, by simp [RowKit.intOf]; omega⟩
    · obtain rfl : k = l.length := by omega
      have F : Hid (decide ((0 : Int) ≤ -1) = l.any (leadB x y)) := by
        have h1 := HA.out
        rw [List.take_length] at h1
        have : l.any (leadB x y) = false := by rw [List.any_eq_false]; intro q hq; rw [h1 q hq]; simp
        rw [Hid, this]; rfl
      clear bel
      go_wp2_with fail
      go_ret
      exact ⟨⟨_, rfl, F.out⟩, BE.out⟩
set_option maxHeartbeats 1000000 in
theorem contFD_any (x y : Int) (ga gb : Nat) (l : List Dp) (a : Option Addr) (c : Nat) (w : World) (hl : l.length ≤ 1000000) (h : IsRec 3 cD d0 w a l.length l) (ha : ga < w.heap.size) (hb : gb < w.heap.size) (hx : w.cell? ⟨ga, 0, none⟩ = some (.int .i64 x)) (hy : w.cell? ⟨gb, 0, none⟩ = some (.int .i64 y)) :
    Calls Try.prog 30 #[.slice a l.length c, .func (.func 31) #[] #[.pointer (some ⟨ga, 0, none⟩), .pointer (some ⟨gb, 0, none⟩)]] w fun e w' => e = .returned (.bool (l.any (leadB x y))) ∧ Below w.heap.size w w' := by
  have HC := Lib.hid (idxFD_any x y ga gb l a c w hl h ha hb hx hy)
  clear h hx hy
  go_enter Try.func30, Try.ntmps30
  go_wp2_with fail
  refine HC.out.mono ?_
  rintro e w2 ⟨⟨n, rfl, hn⟩, bel⟩
  have HN := Lib.hid hn
  have BE := Lib.hid bel
  clear hn bel
  go_wp2_with fail
  go_ret
  exact ⟨by rw [← HN.out]; rfl, BE.out⟩
end Go.Proofs.Ytlhblaemoejefaa
