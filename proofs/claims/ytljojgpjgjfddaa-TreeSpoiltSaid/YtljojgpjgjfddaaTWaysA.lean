/- The contracts of tree.ascending, of tree.isEnd at any cable, of the predicate of tree.ways and of slices.ContainsFunc with it. -/
import Derived.Test.YtljojgpjgjfddaaTReachB
namespace Go.Proofs.Ytljojgpjgjfddaa
open Go.RowKit Go.Maps
set_option linter.unusedVariables false
set_option linter.unusedSimpArgs false

def RelAsc (l : List Int) (w : World) (i : Value) (wr : World) : Prop := ∃ k : Nat, 1 ≤ k ∧ (k = 1 ∨ k ≤ l.length) ∧ i = .int .i64 k ∧ (∀ j, j + 1 < k → l.getD j 0 < l.getD (j + 1) 0) ∧ Below w.heap.size w wr
set_option maxHeartbeats 1000000 in
theorem tasc_any (l : List Int) (a : Option Addr) (c : Nat) (w : World) (hl : l.length ≤ 1000000) (h : IsRec 1 cI 0 w a l.length l) :
    Calls Try.prog 103 #[.slice a l.length c] w fun e w' => e = .returned (.bool (ascB l)) ∧ Below w.heap.size w w' := by
  have H := Lib.hid h
  clear h
  go_enter Try.func103, Try.ntmps103
  go_wp2_with fail
  go_loopw [3] (fun i wr => RelAsc l w i wr) (fun i _ => l.length + 1 - (RowKit.intOf i).toNat)
  case atStart => exact ⟨1, Nat.le_refl _, .inl rfl, rfl, by intro j hj; omega, Below.refl _ _⟩
  case round =>
    obtain ⟨k, hk1, hk2, rfl, hall, bel⟩ := hrel
    have HA := Lib.hid hall
    have BE := Lib.hid bel
    clear hall
    by_cases hkr : k < l.length
    · obtain ⟨b1, o1, ha1, hb1, hm1, e1⟩ := int_at (H.out.below (Nat.le_refl _) bel) k hkr
      obtain ⟨b2, o2, ha2, hb2, hm2, e2⟩ := int_at (H.out.below (Nat.le_refl _) bel) (k - 1) (by omega)
      rw [ha1] at ha2
      injection ha2 with ha2
      injection ha2 with q1 q2
      subst q1; subst q2
      have ki : (k : Int) < (l.length : Int) := by omega
      have HS : Hid (l.getD (k - 1) 0 < l.getD k 0 → RelAsc l w (.int .i64 ((k + 1 : Nat) : Int)) wr ∧ ∀ n, RelAsc l w (.int .i64 ((k + 1 : Nat) : Int)) (wr.drewN n)) := fun h => by
        have h2 : ∀ j, j + 1 < k + 1 → l.getD j 0 < l.getD (j + 1) 0 := fun j hj => by
          by_cases e : j + 1 = k
          · rw [e, show j = k - 1 by omega]; exact h
          · exact HA.out j (by omega)
        exact ⟨⟨k + 1, by omega, .inr (by omega), rfl, h2, BE.out⟩, fun n => ⟨k + 1, by omega, .inr (by omega), rfl, h2, below_drewN BE.out n⟩⟩
      have HF : Hid (¬ l.getD (k - 1) 0 < l.getD k 0 → ascB l = false) := fun h => by
        cases hq : ascB l with
        | false => rfl
        | true =>
          have := ascB_getD.1 hq (k - 1) (by omega)
          rw [show k - 1 + 1 = k by omega] at this
          exact absurd this h
      generalize l.getD (k - 1) 0 = y at *
      generalize l.getD k 0 = x at *
      subst ha1
      have k1 : IntKind.i64.wrap ((k : Int) - 1) = ((k - 1 : Nat) : Int) := by rw [show ((k : Int) - 1) = ((k - 1 : Nat) : Int) by omega]; exact IntWalk.i64_in _ (by omega)
      have kj : ((k - 1 : Nat) : Int) < (l.length : Int) := by omega
      obtain ⟨j, hj⟩ : ∃ j, k - 1 = j := ⟨_, rfl⟩
      rw [hj] at k1 kj e2
      clear hm1 hm2 bel
      by_cases hxy : y < x
      · have R := Lib.hid (HS.out hxy)
        have hyx : ¬ x ≤ y := by omega
        clear HS HF
        go_wp2_with fail
        go_quiet (fail)
        clear k1
        go_wp2_with fail
        exact ⟨by simpa using R.out.2 _, by simp [RowKit.intOf]; omega⟩
      · have F := Lib.hid (HF.out hxy)
        have hyx : x ≤ y := by omega
        clear HS HF
        go_wp2_with fail
        go_quiet (fail)
        go_wp2_with fail
        go_ret
        exact ⟨by rw [F.out]; rfl, below_drewN BE.out _⟩
    · have F : Hid (ascB l = true) := ascB_getD.2 fun j hj => HA.out j (by omega)
      clear bel
      go_wp2_with fail
      go_ret
      exact ⟨by rw [F.out]; rfl, BE.out⟩
theorem tendg_any (ns : List Nd) (cs : List Cb) (An Ac : Option Addr) (cn cc : Nat) (c u : Int) (w : World) (hl : cs.length ≤ 1000000) (h : IsRec 6 cC cb0 w Ac cs.length cs) :
    Calls Try.prog 59 #[.agg #[.slice An ns.length cn, .slice Ac cs.length cc], .int .i64 c, .int .i64 u] w fun e w' => e = .returned (.bool (isEndB cs c u)) ∧ Below w.heap.size w w' := by
  by_cases h0 : 0 ≤ c
  · by_cases h1 : c < cs.length
    · obtain ⟨k, rfl⟩ : ∃ k : Nat, c = k := ⟨c.toNat, by omega⟩
      have E : isEndB cs (k : Int) u = endT (cs.getD k cb0) u := by unfold isEndB; rw [decide_eq_true h0, decide_eq_true h1, Int.toNat_natCast]; rfl
      rw [E]
      exact tend_any ns cs An Ac cn cc k u w hl (by omega) h
    · have E : Hid (isEndB cs c u = false) := by rw [Hid]; unfold isEndB; rw [decide_eq_false h1]; simp
      have B : Hid (Below w.heap.size w (w.alloc (.cells #[.slice An ns.length cn, .slice Ac cs.length cc] 25))) := (Below.refl _ _).alloc (Nat.le_refl _) _
      clear h
      go_enter Try.func59, Try.ntmps59
      go_wp2_with fail
      go_ret
      exact ⟨by rw [E.out]; rfl, B.out⟩
  · have E : Hid (isEndB cs c u = false) := by rw [Hid]; unfold isEndB; rw [decide_eq_false h0]; simp
    have B : Hid (Below w.heap.size w (w.alloc (.cells #[.slice An ns.length cn, .slice Ac cs.length cc] 25))) := (Below.refl _ _).alloc (Nat.le_refl _) _
    clear h
    go_enter Try.func59, Try.ntmps59
    go_wp2_with fail
    go_ret
    exact ⟨by rw [E.out]; rfl, B.out⟩
set_option maxHeartbeats 1000000 in
theorem tways1_any (ns : List Nd) (cs : List Cb) (An Ac : Option Addr) (cn cc ga gb : Nat) (c u : Int) (w : World) (hl : cs.length ≤ 1000000) (ha : ga < w.heap.size) (hb : gb < w.heap.size) (h0 : w.cell? ⟨ga, 0, none⟩ = some (.slice An ns.length cn)) (h1 : w.cell? ⟨ga, 1, none⟩ = some (.slice Ac cs.length cc))
    (hy : w.cell? ⟨gb, 0, none⟩ = some (.int .i64 u)) (h : IsRec 6 cC cb0 w Ac cs.length cs) :
    Calls Try.prog 102 #[.int .i64 c, .pointer (some ⟨ga, 0, none⟩), .pointer (some ⟨gb, 0, none⟩)] w fun e w' => e = .returned (.bool (!isEndB cs c u)) ∧ Below w.heap.size w w' := by
  have HC := Lib.hid (tendg_any ns cs An Ac cn cc c u w hl h)
  clear h
  go_enter Try.func102, Try.ntmps102
  go_wp2_with fail
  refine HC.out.mono ?_
  rintro e w2 ⟨rfl, bel⟩
  have BE := Lib.hid bel
  clear bel HC
  go_wp2_with fail
  go_ret
  exact ⟨rfl, BE.out⟩
def RelIF (p : Int → Bool) (l : List Int) (w0 : World) (i : Value) (wr : World) : Prop := ∃ k : Nat, k ≤ l.length ∧ i = .int .i64 k ∧ (∀ q ∈ l.take k, p q = false) ∧ Below w0.heap.size w0 wr
set_option maxRecDepth 100000 in
set_option maxHeartbeats 1000000 in
theorem idxFI_any (p : Int → Bool) (ga gb : Nat) (l : List Int) (a : Option Addr) (c : Nat) (w : World) (hl : l.length ≤ 1000000) (h : IsRec 1 cI 0 w a l.length l)
    (hp : ∀ x w', Below w.heap.size w w' → Calls Try.prog 102 #[.int .i64 x, .pointer (some ⟨ga, 0, none⟩), .pointer (some ⟨gb, 0, none⟩)] w' fun e w'' => e = .returned (.bool (p x)) ∧ Below w'.heap.size w' w'') :
    Calls Try.prog 130 #[.slice a l.length c, .func (.func 102) #[] #[.pointer (some ⟨ga, 0, none⟩), .pointer (some ⟨gb, 0, none⟩)]] w fun e w' =>
      (∃ n : Int, e = .returned (.int .i64 n) ∧ decide (0 ≤ n) = l.any p) ∧ Below w.heap.size w w' := by
  have H := Lib.hid h
  have HP := Lib.hid hp
  clear h hp
  go_enter Try.func130, Try.ntmps130
  go_wp2_with fail
  go_loopw [8] (fun i wr => RelIF p l w i wr) (fun i _ => l.length - (RowKit.intOf i).toNat)
  case atStart => exact ⟨0, Nat.zero_le _, rfl, by simp, Below.refl _ _⟩
  case round =>
    obtain ⟨k, hk, rfl, hall, bel⟩ := hrel
    have HA := Lib.hid hall
    have BE := Lib.hid bel
    clear hall
    by_cases hkr : k < l.length
    · obtain ⟨b1, o1, ha1, hb1, hm1, e1⟩ := int_at (H.out.below (Nat.le_refl _) bel) k hkr
      have HS : Hid (p (l.getD k 0) = false → ∀ w', Below w.heap.size w w' → RelIF p l w (.int .i64 ((k + 1 : Nat) : Int)) w') := fun hx w' hb => ⟨k + 1, by omega, rfl, fun q hq => by
        rw [take_snocG 0 l k hkr, List.mem_append, List.mem_singleton] at hq
        rcases hq with hq | rfl
        · exact HA.out q hq
        · exact hx, hb⟩
      have HY : Hid (p (l.getD k 0) = true → l.any p = true) := fun hx => List.any_eq_true.2 ⟨_, hm1, hx⟩
      have HC := Lib.hid (HP.out (l.getD k 0) wr bel)
      generalize l.getD k 0 = d at *
      subst ha1
      have i2 : (k : Int) < (l.length : Int) := by omega
      clear hm1 bel
      go_wp2_with fail
      refine HC.out.mono ?_
      rintro e w2 ⟨rfl, bel2⟩
      have B2 : Hid (Below w.heap.size w w2) := BE.out.trans (bel2.mono BE.out.size)
      clear bel2 e1
      cases hq : p d with
      | true =>
        have F : Hid (decide ((0 : Int) ≤ (k : Int)) = l.any p) := by rw [Hid, HY.out hq]; simp
        clear HS HY hq
        go_wp2_with fail
        go_ret
        exact ⟨⟨_, rfl, F.out⟩, B2.out⟩
      | false =>
        have R := Lib.hid (HS.out hq w2 B2.out)
        clear HS HY hq
        go_wp2_with fail
        exact ⟨by simpa using R.out, by simp [RowKit.intOf]; omega⟩
    · obtain rfl : k = l.length := by omega
      have F : Hid (decide ((0 : Int) ≤ -1) = l.any p) := by
        have h1 := HA.out
        rw [List.take_length] at h1
        have : l.any p = false := by rw [List.any_eq_false]; intro q hq; rw [h1 q hq]; simp
        rw [Hid, this]; rfl
      clear bel
      go_wp2_with fail
      go_ret
      exact ⟨⟨_, rfl, F.out⟩, BE.out⟩
set_option maxHeartbeats 1000000 in
theorem contFI_any (p : Int → Bool) (ga gb : Nat) (l : List Int) (a : Option Addr) (c : Nat) (w : World) (hl : l.length ≤ 1000000) (h : IsRec 1 cI 0 w a l.length l)
    (hp : ∀ x w', Below w.heap.size w w' → Calls Try.prog 102 #[.int .i64 x, .pointer (some ⟨ga, 0, none⟩), .pointer (some ⟨gb, 0, none⟩)] w' fun e w'' => e = .returned (.bool (p x)) ∧ Below w'.heap.size w' w'') :
    Calls Try.prog 104 #[.slice a l.length c, .func (.func 102) #[] #[.pointer (some ⟨ga, 0, none⟩), .pointer (some ⟨gb, 0, none⟩)]] w fun e w' => e = .returned (.bool (l.any p)) ∧ Below w.heap.size w w' := by
  have HC := Lib.hid (idxFI_any p ga gb l a c w hl h hp)
  clear h hp
  go_enter Try.func104, Try.ntmps104
  go_wp2_with fail
  refine HC.out.mono ?_
  rintro e w2 ⟨⟨n, rfl, hn⟩, bel⟩
  have HN := Lib.hid hn
  have BE := Lib.hid bel
  clear hn bel
  go_wp2_with fail
  go_ret
  exact ⟨by rw [← HN.out]; rfl, BE.out⟩
end Go.Proofs.Ytljojgpjgjfddaa
