/- The contracts of tree.parents, of slices.IndexFunc at cables with its predicate, and of tree.isNode. -/
import Derived.Test.YtljojgpjgjfddaaTSmall
namespace Go.Proofs.Ytljojgpjgjfddaa
open Go.RowKit Go.Maps
set_option linter.unusedVariables false
set_option linter.unusedSimpArgs false

theorem tisnode_any (ns : List Nd) (An Ac : Option Addr) (cn lc cc : Nat) (u : Int) (w : World) (hl : ns.length ≤ 1000000) :
    Calls Try.prog 93 #[.agg #[.slice An ns.length cn, .slice Ac lc cc], .int .i64 u] w fun e w' => e = .returned (.bool (isNodeB ns u)) ∧ w.alloc (.cells #[.slice An ns.length cn, .slice Ac lc cc] 25) = w' := by
  by_cases h1 : 0 ≤ u
  · have hf : Hid (isNodeB ns u = decide (u < ns.length)) := by simp [Hid, isNodeB, h1]
    go_enter Try.func93, Try.ntmps93
    go_wp2
    go_ret
    exact ⟨by rw [hf.out]; rfl, rfl⟩
  · have hf : Hid (isNodeB ns u = false) := by simp [Hid, isNodeB, h1]
    go_enter Try.func93, Try.ntmps93
    go_wp2
    go_ret
    exact ⟨by rw [hf.out]; rfl, rfl⟩
/-- Levels are small. -/
def SmallI (l : List Int) : Prop := ∀ x ∈ l, -1 ≤ x ∧ x ≤ 1000000
set_option maxHeartbeats 2000000 in
theorem par1_any (x : Cb) (ga gb u : Nat) (lv : List Int) (Al : Option Addr) (cl : Nat) (w : World) (hga : ga < w.heap.size) (hgb : gb < w.heap.size) (hl : lv.length ≤ 1000000) (hs : SmallI lv)
    (hx : w.cell? ⟨ga, 0, none⟩ = some (.slice Al lv.length cl)) (hy : w.cell? ⟨gb, 0, none⟩ = some (.int .i64 (u : Int))) (hu : u < lv.length) (h : IsRec 1 cI 0 w Al lv.length lv) (a0 : 0 ≤ x.a ∧ x.a < lv.length) (b0 : 0 ≤ x.b ∧ x.b < lv.length) :
    Calls Try.prog 95 #[.agg #[.int .i64 x.a, .int .i64 x.ap, .int .i64 x.b, .int .i64 x.bp, .int .i64 x.dl, .int .i64 x.cp], .pointer (some ⟨ga, 0, none⟩), .pointer (some ⟨gb, 0, none⟩)] w fun e w' => e = .returned (.bool (pOk lv u x)) ∧ Below w.heap.size w w' := by
  obtain ⟨xa, xap, xb, xbp, xd, xc⟩ := x
  simp only at a0 b0 ⊢
  obtain ⟨ia, rfl⟩ : ∃ i : Nat, xa = i := ⟨xa.toNat, by omega⟩
  obtain ⟨ib, rfl⟩ : ∃ i : Nat, xb = i := ⟨xb.toNat, by omega⟩
  obtain ⟨w1, hw1⟩ : ∃ w1 : World, w.alloc (.cells #[.int .i64 ia, .int .i64 xap, .int .i64 ib, .int .i64 xbp, .int .i64 xd, .int .i64 xc] 73) = w1 := ⟨_, rfl⟩
  have BW : Hid (Below w.heap.size w w1) := by rw [Hid, ← hw1]; exact (Below.refl _ _).alloc (Nat.le_refl _) _
  have k0 : w1.cell? ⟨w.heap.size, 0, none⟩ = some (.int .i64 ia) := by rw [← hw1]; simp [go_sem]
  have k2 : w1.cell? ⟨w.heap.size, 2, none⟩ = some (.int .i64 ib) := by rw [← hw1]; simp [go_sem]
  have kx : w1.cell? ⟨ga, 0, none⟩ = some (.slice Al lv.length cl) := (BW.out.cell (p := ⟨ga, 0, none⟩) hga).trans hx
  have ky : w1.cell? ⟨gb, 0, none⟩ = some (.int .i64 (u : Int)) := (BW.out.cell (p := ⟨gb, 0, none⟩) hgb).trans hy
  have H1 := h.below (Nat.le_refl _) BW.out
  obtain ⟨bl, ol, hal, hbl, mu, eu⟩ := int_at H1 u hu
  obtain ⟨_, _, hal2, _, ma, ea⟩ := int_at H1 ia (by omega)
  obtain ⟨_, _, hal3, _, mb, eb⟩ := int_at H1 ib (by omega)
  rw [hal] at hal2 hal3
  injection hal2 with hal2
  injection hal2 with q1 q2
  subst q1; subst q2
  injection hal3 with hal3
  injection hal3 with q1 q2
  subst q1; subst q2
  have su := hs _ mu
  have sa := hs _ ma
  have sb := hs _ mb
  have E : Hid (pOk lv u ⟨ia, xap, ib, xbp, xd, xc⟩ = (decide (0 < lv.getD u 0) && (((ia : Int) == (u : Int) && lv.getD ib 0 == lv.getD u 0 - 1) || ((ib : Int) == (u : Int) && lv.getD ia 0 == lv.getD u 0 - 1)))) := by
    rw [Hid]; unfold pOk lvAt; simp only [Int.toNat_natCast]
  have ja : (ia : Int) < (lv.length : Int) := by omega
  have jb : (ib : Int) < (lv.length : Int) := by omega
  have ju : (u : Int) < (lv.length : Int) := by omega
  have ja0 : (0 : Int) ≤ (ia : Int) := by omega
  have jb0 : (0 : Int) ≤ (ib : Int) := by omega
  have ju0 : (0 : Int) ≤ (u : Int) := by omega
  generalize lv.getD u 0 = lu at *
  generalize lv.getD ia 0 = la at *
  generalize lv.getD ib 0 = lb at *
  have qw : IntKind.i64.wrap (lu - 1) = lu - 1 := IntWalk.i64_in _ (by omega)
  subst hal
  have HW1 := Lib.hid hw1
  clear hx hy h H1 mu ma mb hs hw1 a0 b0
  go_enter Try.func95, Try.ntmps95
  go_wp2_with fail
  rw [HW1.out]
  cases c0 : decide (0 < lu) with
  | false =>
    have F : Hid (pOk lv u ⟨ia, xap, ib, xbp, xd, xc⟩ = false) := by rw [Hid, E.out, c0]; rfl
    have c0' : ¬ 0 < lu := by simpa using c0
    clear c0
    go_quiet (fail)
    go_wp2_with fail
    go_ret
    exact ⟨by rw [F.out]; rfl, below_drewN BW.out _⟩
  | true =>
    have c0' : 0 < lu := by simpa using c0
    rw [c0] at E
    simp only [Bool.true_and] at E
    clear c0
    have HL : Hid (∀ b, pOk lv u ⟨ia, xap, ib, xbp, xd, xc⟩ = b → ∀ n, Ending.returned (.bool b) = .returned (.bool (pOk lv u ⟨ia, xap, ib, xbp, xd, xc⟩)) ∧ Below w.heap.size w (w1.drewN n)) := fun b hb n => ⟨by rw [hb], below_drewN BW.out _⟩
    cases c1 : ((ia : Int) == (u : Int)) with
    | true =>
      cases c2 : (lb == lu - 1) with
      | true =>
        have F : Hid (pOk lv u ⟨ia, xap, ib, xbp, xd, xc⟩ = true) := by rw [Hid, E.out, c1, c2]; rfl
        clear E
        go_quiet (fail)
        go_wp2_with fail
        go_ret
        exact ⟨by rw [F.out]; rfl, below_drewN BW.out _⟩
      | false =>
        cases c3 : ((ib : Int) == (u : Int)) with
        | true =>
          have F : Hid (pOk lv u ⟨ia, xap, ib, xbp, xd, xc⟩ = (la == lu - 1)) := by rw [Hid, E.out, c1, c2, c3]; simp
          clear E
          go_quiet (fail)
          go_wp2_with fail
          go_ret
          exact ⟨by rw [F.out]; rfl, below_drewN BW.out _⟩
        | false =>
          have F : Hid (pOk lv u ⟨ia, xap, ib, xbp, xd, xc⟩ = false) := by rw [Hid, E.out, c1, c2, c3]; simp
          clear E
          go_quiet (fail)
          go_wp2_with fail
          go_ret
          exact ⟨by rw [F.out]; rfl, below_drewN BW.out _⟩
    | false =>
      cases c3 : ((ib : Int) == (u : Int)) with
      | true =>
        have F : Hid (pOk lv u ⟨ia, xap, ib, xbp, xd, xc⟩ = (la == lu - 1)) := by rw [Hid, E.out, c1, c3]; simp
        clear E
        go_quiet (fail)
        go_wp2_with fail
        go_ret
        exact ⟨by rw [F.out]; rfl, below_drewN BW.out _⟩
      | false =>
        have F : Hid (pOk lv u ⟨ia, xap, ib, xbp, xd, xc⟩ = false) := by rw [Hid, E.out, c1, c3]; simp
        clear E
        go_quiet (fail)
        go_wp2_with fail
        go_ret
        exact ⟨by rw [F.out]; rfl, below_drewN BW.out _⟩
end Go.Proofs.Ytljojgpjgjfddaa
