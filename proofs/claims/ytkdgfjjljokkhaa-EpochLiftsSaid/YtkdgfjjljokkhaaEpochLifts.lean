/- The walk of the law EpochLifts. -/
import Derived.Test.YtkdgfjjljokkhaaRefLift
import Derived.Laws.StructEq
namespace Go.Proofs.Ytkdgfjjljokkhaa.epochLiftsW
open Go.RowKit
set_option linter.unusedVariables false

theorem eqRDep (a b c x y z : Int) (w : World) : (Op.equalIn 10000 59 (.agg #[.int .i64 a, .int .i64 b, .int .i64 c]) (.agg #[.int .i64 x, .int .i64 y, .int .i64 z])).run Try.prog w = .ok (a == x && b == y && c == z) w := by
  rw [show (10000 : Nat) = 9999 + 1 from rfl, run_equalIn_agg w 9999 59 _ _ (by kernel_rfl) (by kernel_rfl)]
  simp only [Program.fieldsOf, Try.underlying59]
  go_simp
  by_cases h1 : a = x <;> by_cases h2 : b = y <;> by_cases h3 : c = z <;> simp [h1, h2, h3]

theorem liftAll_length (c : Int) (ds : List (Int × Int × Int)) : (liftAll c ds).length ≤ ds.length := by
  unfold liftAll; split
  · simp
  · exact liftL_length c ds

def clsV (e c k : Int) : Int := if 0 ≤ e ∧ 1 ≤ k ∧ k ≤ 4 ∧ 0 ≤ c ∧ c < k then c + k * (e % 2) else 0
def clsE (e c k : Int) : Int := if 0 ≤ e ∧ 1 ≤ k ∧ k ≤ 4 ∧ 0 ≤ c ∧ c < k then 0 else 2
theorem class_any (e c k : Int) (w : World) : Calls Try.prog 20 #[.int .i64 e, .int .i64 c, .int .i64 k] w fun r w' => r = .returned (.tuple #[.int .i64 (clsV e c k), .int .i64 (clsE e c k)]) ∧ w = w' := by
  unfold clsV clsE
  by_cases h : 0 ≤ e ∧ 1 ≤ k ∧ k ≤ 4 ∧ 0 ≤ c ∧ c < k
  · rw [if_pos h, if_pos h]; exact class_ok e c k w h.1 h.2.1 h.2.2.1 h.2.2.2.1 h.2.2.2.2
  · rw [if_neg h, if_neg h]; exact class_err e c k w h
theorem rclass_any (e c k : Int) (w : World) : Calls Try.prog 24 #[.int .i64 e, .int .i64 c, .int .i64 k] w fun r w' => r = .returned (.tuple #[.int .i64 (clsV e c k), .int .i64 (clsE e c k)]) ∧ w = w' := by
  unfold clsV clsE
  by_cases h : 0 ≤ e ∧ 1 ≤ k ∧ k ≤ 4 ∧ 0 ≤ c ∧ c < k
  · rw [if_pos h, if_pos h]; exact rclass_ok e c k w h.1 h.2.1 h.2.2.1 h.2.2.2.1 h.2.2.2.2
  · rw [if_neg h, if_neg h]; exact rclass_err e c k w h

def Rel (n : Nat) (w1 : World) (i : Value) (wr : World) : Prop := ∃ k : Nat, k ≤ n ∧ i = .int .i64 k ∧ Below w1.heap.size w1 wr

set_option maxRecDepth 100000 in
set_option maxHeartbeats 4000000 in
theorem walk (a0 : Option Addr) (len0 cap0 : Nat) (z0 : List (List Int)) (a1 a2 a3 : Int) (w : World) (w0 : IsStructs 3 w a0 len0 z0) (w1 : (Lit.int .i64 a1).wf = true) (w2 : (Lit.int .i64 a2).wf = true) (w3 : (Lit.int .i64 a3).wf = true) :
    Calls Try.prog 8 #[.slice a0 len0 cap0, .int .i64 a1, .int .i64 a2, .int .i64 a3] w fun e w' => e = .returned (.bool true) ∧ Below w.heap.size w w' := by
  have hd := isDeps_of_structs w0
  have hm := w0.1
  unfold maxLen at hm
  clear w0 w1 w2 w3
  generalize (z0.map fun z => (z.getD 0 0, z.getD 1 0, z.getD 2 0)) = ds at hd
  by_cases hlen : 60 < len0
  · clear hd
    go_enter Try.func8, Try.ntmps8
    go_wp2_with fail
    refine (awake_any _).mono ?_
    rintro r w1 ⟨rfl, l1⟩
    go_wp2
    go_ret
    exact ⟨rfl, l1⟩
  have hl : len0 ≤ 60 := by omega
  have hds : ds.length ≤ 60 := by have := hd.1; omega
  have HD := Lib.hid hd
  clear hd hlen
  go_enter Try.func8, Try.ntmps8
  go_wp2_with fail
  refine (awake_any _).mono ?_
  rintro r w1 ⟨rfl, l1⟩
  have H1 := Lib.hid (HD.out.below (Nat.le_refl _) l1)
  clear HD
  go_wp2_with fail
  refine (class_any _ _ _ _).mono ?_
  rintro r w2 ⟨rfl, rfl⟩
  go_wp2_with fail
  refine (rclass_any _ _ _ _).mono ?_
  rintro r w2 ⟨rfl, rfl⟩
  generalize clsV a1 a2 a3 = vv
  generalize clsE a1 a2 a3 = ve
  go_wp2_with fail
  refine (deps_any a0 len0 cap0 ds _ (by omega) H1.out).mono ?_
  rintro r w2 ⟨a13, cap13, rfl, hd2, l2⟩
  have l2' : Below w.heap.size w w2 := l1.trans (l2.mono l1.size)
  have H2 := Lib.hid (H1.out.below (Nat.le_refl _) l2)
  have B2 := Lib.hid hd2
  clear H1 hd2 l1 l2
  generalize hn : ds.length = n at *
  have HN := Lib.hid hn
  clear hn
  have hcb : Blk (w2.alloc (.cells #[.int .i64 vv, .int .i64 a2, .int .i64 a3] 3)) w2.heap.size 3 #[.int .i64 vv, .int .i64 a2, .int .i64 a3] := Blk.new _ _ _
  have l3 : Below w.heap.size w (w2.alloc (.cells #[.int .i64 vv, .int .i64 a2, .int .i64 a3] 3)) := l2'.alloc l2'.size _
  have l23 : Below w2.heap.size w2 (w2.alloc (.cells #[.int .i64 vv, .int .i64 a2, .int .i64 a3] 3)) := (Below.refl _ _).alloc (Nat.le_refl _) _
  have H3 := Lib.hid (H2.out.below (Nat.le_refl _) l23)
  have B3 := Lib.hid (B2.out.below (Nat.le_refl _) l23)
  clear H2 B2 l23 l2'
  go_wp2_with fail
  generalize w2.alloc (.cells #[.int .i64 vv, .int .i64 a2, .int .i64 a3] 3) = w3 at *
  generalize w2.heap.size = cb at *
  have HCB := Lib.hid hcb
  have hcbl : cb < w3.heap.size := hcb.lt
  clear hcb
  go_loopw [55] (fun i wr => Rel 3 w3 i wr) (fun i _ => 3 - (intOf i).toNat)
  case atStart => exact ⟨0, by omega, rfl, Below.refl _ _⟩
  case round =>
    obtain ⟨k, hk, rfl, bel⟩ := hrel
    by_cases hlt : k < 3
    · obtain ⟨c, hc⟩ : ∃ c, wr.cell? ⟨cb, k, none⟩ = some (.int .i64 c) := by
        have h := HCB.out
        rw [show wr.cell? ⟨cb, k, none⟩ = w3.cell? ⟨cb, k, none⟩ from bel.cell (p := ⟨cb, k, none⟩) hcbl, h.cell k]
        rcases (by omega : k = 0 ∨ k = 1 ∨ k = 2) with rfl | rfl | rfl
        · exact ⟨_, rfl⟩
        · exact ⟨_, rfl⟩
        · exact ⟨_, rfl⟩
      have HA := Lib.hid (H3.out.below (Nat.le_refl _) bel)
      have HB := Lib.hid (B3.out.below (Nat.le_refl _) bel)
      have LL := liftAll_length c ds
      rw [HN.out] at LL
      go_wp2_with fail
      refine (lift_any c a0 len0 cap0 ds _ (by omega) HA.out).mono ?_
      rintro r w4 ⟨a4, cap4, rfl, d4, l4⟩
      have bel4 : Below w3.heap.size w3 w4 := bel.trans (l4.mono bel.size)
      have HB4 := Lib.hid (HB.out.below (Nat.le_refl _) l4)
      have D4 := Lib.hid d4
      clear HA HB l4 bel hc d4
      generalize hes : liftAll c ds = es at *
      have HES := Lib.hid hes
      clear hes
      generalize hm' : es.length = m at *
      have HM := Lib.hid hm'
      clear hm'
      go_wp2_with fail
      refine (deps_any a4 m cap4 es _ (by omega) D4.out).mono ?_
      rintro r w5 ⟨a5, cap5, rfl, d5, l5⟩
      rw [HM.out] at d5 ⊢
      have bel5 : Below w3.heap.size w3 w5 := bel4.trans (l5.mono bel4.size)
      have HB5 := Lib.hid (HB4.out.below (Nat.le_refl _) l5)
      have D5 := Lib.hid d5
      clear HB4 l5 bel4 d5 D4
      go_wp2_with fail
      have hr := rlift_any c a13 n cap13 ds w5 (by omega) HB5.out
      rw [HES.out] at hr
      refine hr.mono ?_
      clear hr
      rintro r w6 ⟨a6, cap6, rfl, d6, l6⟩
      rw [HM.out] at d6 ⊢
      have bel6 : Below w3.heap.size w3 w6 := bel5.trans (l6.mono bel5.size)
      have D56 := Lib.hid (D5.out.below (Nat.le_refl _) l6)
      have D6 := Lib.hid d6
      clear HB5 l6 bel5 d6 D5
      go_wp2_with fail
      go_loopw [73] (fun i wr => Rel m w6 i wr) (fun i _ => m - (intOf i).toNat)
      case atStart => exact ⟨0, Nat.zero_le _, rfl, Below.refl _ _⟩
      case round =>
        obtain ⟨j, hj, rfl, bel7⟩ := hrel
        by_cases hjm : j < m
        · have E5 := D56.out.below (Nat.le_refl _) bel7
          have E6 := D6.out.below (Nat.le_refl _) bel7
          obtain ⟨b5, o5, e5, g5, hc5⟩ := E5.2 (by omega)
          obtain ⟨b6, o6, e6, g6, hc6⟩ := E6.2 (by omega)
          obtain ⟨x0, x1, x2⟩ := hc5 j hjm
          obtain ⟨y0, y1, y2⟩ := hc6 j hjm
          clear hc5 hc6 E5 E6
          subst e5 e6
          generalize es.getD j d0 = d at *
          obtain ⟨f, t, nd⟩ := d
          simp only at x0 x1 x2 y0 y1 y2
          have x2' : wr.cell? ⟨b5, o5 + j * 3 + 1 + 1, none⟩ = some (.int .i64 nd) := x2
          have y2' : wr.cell? ⟨b6, o6 + j * 3 + 1 + 1, none⟩ = some (.int .i64 nd) := y2
          clear x2 y2
          have eq := eqRDep f t nd f t nd
          have hji : (j : Int) < (m : Int) := by omega
          have hj0 : (0 : Int) ≤ (j : Int) := by omega
          have R : Hid (∀ q, Rel m w6 (.int .i64 ((j + 1 : Nat) : Int)) (wr.drewN q)) := fun q => ⟨j + 1, by omega, rfl, ⟨bel7.os, bel7.tape, bel7.output, bel7.size, bel7.block⟩⟩
          go_wp2_with fail
          go_quiet (fail)
          go_wp2
          exact ⟨by simpa using R.out _, by simp [intOf]; omega⟩
        · have R : Hid (Rel 3 w3 (.int .i64 ((k + 1 : Nat) : Int)) wr) := ⟨k + 1, by omega, rfl, bel6.trans (bel7.mono bel6.size)⟩
          go_wp2_with fail
          exact ⟨by simpa using R.out, by simp [intOf]; omega⟩
    · have HA := Lib.hid (H3.out.below (Nat.le_refl _) bel)
      have HB := Lib.hid (B3.out.below (Nat.le_refl _) bel)
      have belw : Below w.heap.size w wr := l3.trans (bel.mono l3.size)
      clear H3 B3 bel l3 HCB
      go_wp2_with fail
      refine (deps_any a0 len0 cap0 ds _ (by omega) HA.out).mono ?_
      rintro r w4 ⟨a4, cap4, rfl, d4, l4⟩
      rw [HN.out] at d4 ⊢
      have belw4 : Below w.heap.size w w4 := belw.trans (l4.mono belw.size)
      have HB4 := Lib.hid (HB.out.below (Nat.le_refl _) l4)
      have D4 := Lib.hid d4
      clear HA HB l4 belw d4
      go_wp2_with fail
      go_loopw [90] (fun i wr => Rel n w4 i wr) (fun i _ => n - (intOf i).toNat)
      case atStart => exact ⟨0, Nat.zero_le _, rfl, Below.refl _ _⟩
      case round =>
        obtain ⟨j, hj, rfl, bel7⟩ := hrel
        by_cases hjm : j < n
        · have E5 := D4.out.below (Nat.le_refl _) bel7
          have E6 := HB4.out.below (Nat.le_refl _) bel7
          obtain ⟨b5, o5, e5, g5, hc5⟩ := E5.2 (by omega)
          obtain ⟨b6, o6, e6, g6, hc6⟩ := E6.2 (by omega)
          obtain ⟨x0, x1, x2⟩ := hc5 j hjm
          obtain ⟨y0, y1, y2⟩ := hc6 j hjm
          clear hc5 hc6 E5 E6
          subst e5 e6
          generalize ds.getD j d0 = d at *
          obtain ⟨f, t, nd⟩ := d
          simp only at x0 x1 x2 y0 y1 y2
          have x2' : wr.cell? ⟨b5, o5 + j * 3 + 1 + 1, none⟩ = some (.int .i64 nd) := x2
          have y2' : wr.cell? ⟨b6, o6 + j * 3 + 1 + 1, none⟩ = some (.int .i64 nd) := y2
          clear x2 y2
          have eq := eqRDep f t nd f t nd
          have hji : (j : Int) < (n : Int) := by omega
          have hj0 : (0 : Int) ≤ (j : Int) := by omega
          have wb := bel7.alloc bel7.size (.cells #[.int .i64 f, .int .i64 t, .int .i64 nd] 59)
          have R : Hid (∀ q, Rel n w4 (.int .i64 ((j + 1 : Nat) : Int)) ((wr.alloc (.cells #[.int .i64 f, .int .i64 t, .int .i64 nd] 59)).drewN q)) := fun q => ⟨j + 1, by omega, rfl, ⟨wb.os, wb.tape, wb.output, wb.size, wb.block⟩⟩
          clear wb
          go_wp2_with fail
          go_quiet (fail)
          go_wp2
          exact ⟨by simpa using R.out _, by simp [intOf]; omega⟩
        · have belf : Below w.heap.size w wr := belw4.trans (bel7.mono belw4.size)
          go_wp2
          go_ret
          exact ⟨rfl, belf⟩
end Go.Proofs.Ytkdgfjjljokkhaa.epochLiftsW
