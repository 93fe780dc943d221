/- The contract of the reference's Union. -/
import Derived.Test.YtlhblaemoejefaaCRef3
namespace Go.Proofs.Ytlhblaemoejefaa
open Go.RowKit Go.Maps Go.Sort Go.Shelf
set_option linter.unusedVariables false

/-- The value reads as the list, and has room. -/
def Lst (w : World) (v : Value) (l : List Dp) : Prop := ∃ a c, v = .slice a l.length c ∧ l.length ≤ c ∧ (a = none → c = 0) ∧ IsRec 3 cD d0 w a l.length l
theorem Lst.nil (w : World) : Lst w (.slice none 0 0) [] := ⟨none, 0, rfl, Nat.le_refl _, fun _ => rfl, IsRec.nil w⟩
theorem Lst.below {w w' : World} {v : Value} {l : List Dp} (h : Lst w v l) {B : Nat} (hB : w.heap.size ≤ B) (hb : Below B w w') : Lst w' v l := by
  obtain ⟨a, c, h1, h2, h3, h4⟩ := h
  exact ⟨a, c, h1, h2, h3, h4.below hB hb⟩
def insT (L l : List Dp) (k : Nat) : List Dp := (l.take k).foldl insL L
theorem insT_len (L l : List Dp) (k : Nat) : (insT L l k).length ≤ L.length + k := by
  unfold insT
  have : ∀ (m : List Dp) (L : List Dp), (m.foldl insL L).length ≤ L.length + m.length := by
    intro m
    induction m with
    | nil => intro L; simp
    | cons x m ih => intro L; have h1 := ih (insL L x); have h2 := insL_len L x; show (m.foldl insL (insL L x)).length ≤ _; simp; omega
  have h := this (l.take k) L
  rw [List.length_take] at h
  omega
def RelU20 (L l : List Dp) (w0 : World) (B : Nat) (v i : Value) (wr : World) : Prop :=
  ∃ k : Nat, k ≤ l.length ∧ i = .int .i64 k ∧ Lst wr v (insT L l k) ∧ Below B w0 wr
set_option maxRecDepth 100000 in
set_option maxHeartbeats 4000000 in
theorem union20_any (l1 l2 : List Dp) (a1 a2 : Option Addr) (c1 c2 : Nat) (w : World) (hl1 : l1.length ≤ 400000) (hl2 : l2.length ≤ 400000) (h1 : IsRec 3 cD d0 w a1 l1.length l1) (h2 : IsRec 3 cD d0 w a2 l2.length l2) :
    Calls Try.prog 20 #[.slice a1 l1.length c1, .slice a2 l2.length c2] w fun e w' => ∃ v, e = .returned v ∧ Lst w' v (unionD l1 l2) ∧ Below w.heap.size w w' := by
  have H1 := Lib.hid h1
  have H2 := Lib.hid h2
  have E := Lib.hid (union_ref l1 l2)
  clear h1 h2
  go_enter Try.func20, Try.ntmps20
  go_wp2_with fail
  go_loopw [5, 6] (fun v i wr => RelU20 [] l1 w w.heap.size v i wr) (fun _ i _ => l1.length - (RowKit.intOf i).toNat)
  case atStart => exact ⟨0, Nat.zero_le _, rfl, Lst.nil w, Below.refl _ _⟩
  case round =>
    obtain ⟨k, hk, rfl, hv, bel⟩ := hrel
    have BE := Lib.hid bel
    have hll := insT_len [] l1 k
    simp only [List.length_nil] at hll
    by_cases hkr : k < l1.length
    · obtain ⟨b1, o1, ha1, hb1, hm1, e0, e1, e2⟩ := dep_at (H1.out.below (Nat.le_refl _) bel) k hkr
      have TS : Hid (insT [] l1 (k + 1) = insL (insT [] l1 k) (l1.getD k d0)) := by rw [Hid]; unfold insT; rw [take_snocG d0 l1 k hkr, List.foldl_append]; rfl
      obtain ⟨av, cv, rfl, hvc, hvn, hvr⟩ := hv
      generalize insT [] l1 k = L at *
      have HC := Lib.hid (insert20_any L (l1.getD k d0) av cv wr (by omega) hvc hvn hvr)
      generalize l1.getD k d0 = x at *
      subst ha1
      obtain ⟨x0, x1, x2⟩ := x
      simp only at e0 e1 e2 HC
      have i2 : (k : Int) < (l1.length : Int) := by omega
      clear hm1 hvr hvn bel
      go_wp2_with fail
      refine HC.out.mono ?_
      rintro e w2 ⟨a3, c3, rfl, q1, q2, q3, bel2⟩
      have R : Hid (RelU20 [] l1 w w.heap.size (.slice a3 (insL L (x0, x1, x2)).length c3) (.int .i64 ((k + 1 : Nat) : Int)) w2) := ⟨k + 1, by omega, rfl, by rw [TS.out]; exact ⟨a3, c3, rfl, q1, q2, q3⟩, BE.out.trans (bel2.mono BE.out.size)⟩
      clear q1 q2 q3 bel2 e0 e1 e2 TS
      go_wp2_with fail
      exact ⟨by simpa using R.out, by simp [RowKit.intOf]; omega⟩
    · obtain rfl : k = l1.length := by omega
      have TF : insT [] l1 l1.length = l1.foldl insL [] := by unfold insT; rw [List.take_length]
      rw [TF] at hv hll
      have HV := Lib.hid hv
      have E2 : Hid (l2.foldl insL (l1.foldl insL []) = unionD l1 l2) := E.out
      generalize l1.foldl insL [] = L0 at *
      clear hv TF
      obtain ⟨wa, hwa⟩ : ∃ wa, wa = wr := ⟨_, rfl⟩
      subst hwa
      go_wp2_with fail
      clear bel
      go_loopw [5, 7] (fun v i wr' => RelU20 L0 l2 wa wa.heap.size v i wr') (fun _ i _ => l2.length - (RowKit.intOf i).toNat)
      case atStart => exact ⟨0, Nat.zero_le _, rfl, HV.out, Below.refl _ _⟩
      case round =>
        obtain ⟨j, hj, rfl, hv, bel⟩ := hrel
        have BE2 : Hid (Below w.heap.size w wr) := BE.out.trans (bel.mono BE.out.size)
        have BL := Lib.hid bel
        have hl2' := insT_len L0 l2 j
        by_cases hjr : j < l2.length
        · obtain ⟨b1, o1, ha1, hb1, hm1, e0, e1, e2⟩ := dep_at (H2.out.below (Nat.le_refl _) BE2.out) j hjr
          have TS : Hid (insT L0 l2 (j + 1) = insL (insT L0 l2 j) (l2.getD j d0)) := by rw [Hid]; unfold insT; rw [take_snocG d0 l2 j hjr, List.foldl_append]; rfl
          obtain ⟨av, cv, rfl, hvc, hvn, hvr⟩ := hv
          generalize insT L0 l2 j = L at *
          have HC := Lib.hid (insert20_any L (l2.getD j d0) av cv wr (by omega) hvc hvn hvr)
          generalize l2.getD j d0 = x at *
          subst ha1
          obtain ⟨x0, x1, x2⟩ := x
          simp only at e0 e1 e2 HC
          have i2 : (j : Int) < (l2.length : Int) := by omega
          clear hm1 hvr hvn bel
          go_wp2_with fail
          refine HC.out.mono ?_
          rintro e w2 ⟨a3, c3, rfl, q1, q2, q3, bel2⟩
          have R : Hid (RelU20 L0 l2 wa wa.heap.size (.slice a3 (insL L (x0, x1, x2)).length c3) (.int .i64 ((j + 1 : Nat) : Int)) w2) := ⟨j + 1, by omega, rfl, by rw [TS.out]; exact ⟨a3, c3, rfl, q1, q2, q3⟩, BL.out.trans (bel2.mono BL.out.size)⟩
          clear q1 q2 q3 bel2 e0 e1 e2 TS
          go_wp2_with fail
          exact ⟨by simpa using R.out, by simp [RowKit.intOf]; omega⟩
        · obtain rfl : j = l2.length := by omega
          have TF : insT L0 l2 l2.length = l2.foldl insL L0 := by unfold insT; rw [List.take_length]
          rw [TF, E2.out] at hv
          have HV2 := Lib.hid hv
          clear hv TF bel
          go_wp2_with fail
          go_ret
          exact ⟨_, rfl, HV2.out, BE2.out⟩
end Go.Proofs.Ytlhblaemoejefaa
