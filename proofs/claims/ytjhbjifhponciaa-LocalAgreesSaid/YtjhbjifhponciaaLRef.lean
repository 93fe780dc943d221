/- The contracts of fairlinkref22: ends, Fits, At, Exact. -/
import Derived.Test.YtjhbjifhponciaaLRange
import Derived.Test.YtjhbjifhponciaaR14b
namespace Go.Proofs.Ytjhbjifhponciaa
open Go.RowKit Go.Maps
set_option linter.unusedVariables false

/-- What ends answers: the two nodes, and whether there is such a channel. -/
def endsR (cs : List Cb) (c : Int) : Int × Int × Bool := if existsN cs.length c then ((chEnds cs c).1, (chEnds cs c).2, true) else (0, 0, false)

theorem rends_any (cs : List Cb) (An Ac : Option Addr) (ln cn cc : Nat) (c : Int) (w : World) (hl : cs.length ≤ 1000000) (h : IsRec 6 cC cb0 w Ac cs.length cs) :
    Calls Try.prog 38 #[.agg #[.slice An ln cn, .slice Ac cs.length cc], .int .i64 c] w fun e w' =>
      e = .returned (.tuple #[.int .i64 (endsR cs c).1, .int .i64 (endsR cs c).2.1, .bool (endsR cs c).2.2]) ∧ Below w.heap.size w w' := by
  by_cases hex : existsN cs.length c = true
  · have hb : 0 ≤ c ∧ c < 2 * cs.length := by simpa [existsN] using hex
    obtain ⟨h0, h1⟩ := hb
    obtain ⟨k, hk⟩ : ∃ k : Nat, c / 2 = k := ⟨(c / 2).toNat, by omega⟩
    have hkl : k < cs.length := by omega
    obtain ⟨bb, off, ha, hbb, hmem, c0, c1, c2, c3, c4, c5⟩ := cable_at (h.alloc (.cells #[.slice An ln cn, .slice Ac cs.length cc] 25)) k hkl
    have HE : Hid (endsR cs c = if c % 2 = 0 then ((cs.getD k cb0).a, (cs.getD k cb0).b, true) else ((cs.getD k cb0).b, (cs.getD k cb0).a, true)) := by
      show _ = _; unfold endsR; rw [if_pos hex]; unfold chEnds; rw [hk]
      split <;> rfl
    generalize cs.getD k cb0 = x at *
    subst ha
    obtain ⟨xa, xap, xb, xbp, xdl, xcp⟩ := x
    simp only at c0 c1 c2 c3 c4 c5 HE
    clear hmem h hex
    have BW : Hid (Below w.heap.size w ((w.alloc (.cells #[.slice An ln cn, .slice (some ⟨bb, off, none⟩) cs.length cc] 25)).alloc (.cells #[.int .i64 xa, .int .i64 xap, .int .i64 xb, .int .i64 xbp, .int .i64 xdl, .int .i64 xcp] 73))) :=
      ((Below.refl _ _).alloc (Nat.le_refl _) _).alloc (by simp) _
    by_cases hm : c % 2 = 0
    · rw [if_pos hm] at HE
      go_enter Try.func38, Try.ntmps38
      go_wp2_with fail
      go_quiet (fail)
      go_wp2_with fail
      go_ret3
      exact ⟨by rw [HE.out]; rfl, below_drewN BW.out _⟩
    · rw [if_neg hm] at HE
      have hm1 : c % 2 = 1 := by omega
      clear hm
      go_enter Try.func38, Try.ntmps38
      go_wp2_with fail
      go_quiet (fail)
      go_wp2_with fail
      go_ret3
      exact ⟨by rw [HE.out]; rfl, below_drewN BW.out _⟩
  · have HE : Hid (endsR cs c = (0, 0, false)) := by show _ = _; unfold endsR; rw [if_neg hex]
    have hb : c < 0 ∨ (0 ≤ c ∧ 2 * (cs.length : Int) ≤ c) := by
      simp [existsN] at hex
      rcases Int.lt_or_le c 0 with h | h
      · exact .inl h
      · exact .inr ⟨h, hex h⟩
    have BW : Hid (Below w.heap.size w (w.alloc (.cells #[.slice An ln cn, .slice Ac cs.length cc] 25))) := (Below.refl _ _).alloc (Nat.le_refl _) _
    clear hex h
    rcases hb with h1 | ⟨h1, h2⟩
    all_goals
      go_enter Try.func38, Try.ntmps38
      go_wp2_with fail
      go_ret3
      exact ⟨by rw [HE.out]; rfl, BW.out⟩

def atR (cs : List Cb) (c node : Int) : Bool := (endsR cs c).2.2 && ((endsR cs c).1 == node || (endsR cs c).2.1 == node)
theorem rat_any (cs : List Cb) (An Ac : Option Addr) (ln cn cc : Nat) (c node : Int) (w : World) (hl : cs.length ≤ 1000000) (h : IsRec 6 cC cb0 w Ac cs.length cs) (r : Bool) (hr : atR cs c node = r) :
    Calls Try.prog 39 #[.agg #[.slice An ln cn, .slice Ac cs.length cc], .int .i64 c, .int .i64 node] w fun e w' => e = .returned (.bool r) ∧ Below w.heap.size w w' := by
  have H := Lib.hid (h.alloc (.cells #[.slice An ln cn, .slice Ac cs.length cc] 25))
  have BA : Hid (Below w.heap.size w (w.alloc (.cells #[.slice An ln cn, .slice Ac cs.length cc] 25))) := (Below.refl _ _).alloc (Nat.le_refl _) _
  have HR : Hid (((endsR cs c).2.2 && ((endsR cs c).1 == node || (endsR cs c).2.1 == node)) = r) := hr
  clear h hr
  go_enter Try.func39, Try.ntmps39
  go_wp2_with fail
  refine (rends_any cs An Ac ln cn cc c _ hl H.out).mono ?_
  rintro e w2 ⟨rfl, bel2⟩
  have BF := Lib.hid (BA.out.trans (bel2.mono (by simp)))
  clear bel2
  generalize (endsR cs c).1 = ef at *
  generalize (endsR cs c).2.1 = et at *
  generalize (endsR cs c).2.2 = eb at *
  cases eb with
  | false =>
    go_wp2_with fail
    go_ret
    exact ⟨by rw [← HR.out]; rfl, BF.out⟩
  | true =>
    cases q1 : (ef == node) with
    | true =>
      rw [q1] at HR
      go_wp2_with fail
      go_ret
      exact ⟨by rw [← HR.out]; rfl, BF.out⟩
    | false =>
      rw [q1] at HR
      cases q2 : (et == node) with
      | true =>
        rw [q2] at HR
        go_wp2_with fail
        go_ret
        exact ⟨by rw [← HR.out]; rfl, BF.out⟩
      | false =>
        rw [q2] at HR
        go_wp2_with fail
        go_ret
        exact ⟨by rw [← HR.out]; rfl, BF.out⟩

def fitsR (cs : List Cb) (f t n node : Int) : Bool := (endsR cs f).2.2 && (endsR cs t).2.2 && ((endsR cs f).2.1 == node) && ((endsR cs t).1 == node) && (n == node)
set_option maxRecDepth 100000 in
theorem rfits_any (cs : List Cb) (An Ac : Option Addr) (ln cn cc : Nat) (f t n node : Int) (w : World) (hl : cs.length ≤ 1000000) (h : IsRec 6 cC cb0 w Ac cs.length cs) (r : Bool) (hr : fitsR cs f t n node = r) :
    Calls Try.prog 13 #[.agg #[.slice An ln cn, .slice Ac cs.length cc], .agg #[.int .i64 f, .int .i64 t, .int .i64 n], .int .i64 node] w fun e w' => e = .returned (.bool r) ∧ Below w.heap.size w w' := by
  obtain ⟨w1, hw1⟩ : ∃ w1 : World, (w.alloc (.cells #[.slice An ln cn, .slice Ac cs.length cc] 25)).alloc (.cells #[.int .i64 f, .int .i64 t, .int .i64 n] 38) = w1 := ⟨_, rfl⟩
  have BA0 : Below w.heap.size w w1 := by rw [← hw1]; exact ((Below.refl _ _).alloc (Nat.le_refl _) _).alloc (by simp) _
  have BA := Lib.hid BA0
  have H := Lib.hid (h.below (Nat.le_refl _) BA0)
  have s0 : w1.cell? ⟨w.heap.size, 0, none⟩ = some (.slice An ln cn) := by rw [← hw1]; simp [go_sem]
  have s1 : w1.cell? ⟨w.heap.size, 1, none⟩ = some (.slice Ac cs.length cc) := by rw [← hw1]; simp [go_sem]
  have t1 : w1.cell? ⟨w.heap.size + 1, 1, none⟩ = some (.int .i64 t) := by rw [← hw1]; simp [go_sem]
  have t2 : w1.cell? ⟨w.heap.size + 1, 2, none⟩ = some (.int .i64 n) := by rw [← hw1]; simp [go_sem]
  have t0 : w1.cell? ⟨w.heap.size + 1, 0, none⟩ = some (.int .i64 f) := by rw [← hw1]; simp [go_sem]
  have sz1 : w.heap.size + 1 < w1.heap.size := by rw [← hw1]; simp
  have HW1 := Lib.hid hw1
  have HR : Hid (((endsR cs f).2.2 && (endsR cs t).2.2 && ((endsR cs f).2.1 == node) && ((endsR cs t).1 == node) && (n == node)) = r) := hr
  clear h hr hw1 BA0
  go_enter Try.func13, Try.ntmps13
  go_wp2_with fail
  rw [HW1.out]
  refine (rends_any cs An Ac ln cn cc f _ hl H.out).mono ?_
  rintro e w2 ⟨rfl, bel2⟩
  have H2 := Lib.hid (H.out.below (Nat.le_refl _) bel2)
  have u0 : w2.cell? ⟨w.heap.size, 0, none⟩ = some (.slice An ln cn) := (bel2.cell (by show w.heap.size < _; omega)).trans s0
  have u1 : w2.cell? ⟨w.heap.size, 1, none⟩ = some (.slice Ac cs.length cc) := (bel2.cell (by show w.heap.size < _; omega)).trans s1
  have v1 : w2.cell? ⟨w.heap.size + 1, 1, none⟩ = some (.int .i64 t) := (bel2.cell (by exact sz1)).trans t1
  have v2 : w2.cell? ⟨w.heap.size + 1, 2, none⟩ = some (.int .i64 n) := (bel2.cell (by exact sz1)).trans t2
  have sz2 : w.heap.size + 1 < w2.heap.size := by have := bel2.size; omega
  have BB2 := Lib.hid (BA.out.trans (bel2.mono (by omega)))
  clear bel2 s0 s1 t0 t1 t2
  generalize (endsR cs f).1 = ef at *
  generalize (endsR cs f).2.1 = et at *
  generalize (endsR cs f).2.2 = eb at *
  go_wp2_with fail
  refine (rends_any cs An Ac ln cn cc t _ hl H2.out).mono ?_
  rintro e w3 ⟨rfl, bel3⟩
  have v2 : w3.cell? ⟨w.heap.size + 1, 2, none⟩ = some (.int .i64 n) := (bel3.cell (by exact sz2)).trans v2
  have BF := Lib.hid (BB2.out.trans (bel3.mono (by omega)))
  clear bel3 u0 u1 v1
  generalize (endsR cs t).1 = gf at *
  generalize (endsR cs t).2.1 = gt at *
  generalize (endsR cs t).2.2 = gb at *
  cases eb with
  | false =>
    go_wp2_with fail
    go_ret
    exact ⟨by rw [← HR.out]; rfl, BF.out⟩
  | true =>
    cases gb with
    | false =>
      go_wp2_with fail
      go_ret
      exact ⟨by rw [← HR.out]; rfl, BF.out⟩
    | true =>
      cases q1 : (et == node) with
      | false =>
        rw [q1] at HR
        go_wp2_with fail
        go_ret
        exact ⟨by rw [← HR.out]; rfl, BF.out⟩
      | true =>
        rw [q1] at HR
        cases q2 : (gf == node) with
        | false =>
          rw [q2] at HR
          go_wp2_with fail
          go_ret
          exact ⟨by rw [← HR.out]; rfl, BF.out⟩
        | true =>
          rw [q2] at HR
          cases q3 : (n == node) with
          | false =>
            rw [q3] at HR
            go_wp2_with fail
            go_ret
            exact ⟨by rw [← HR.out]; rfl, BF.out⟩
          | true =>
            rw [q3] at HR
            go_wp2_with fail
            go_ret
            exact ⟨by rw [← HR.out]; rfl, BF.out⟩
end Go.Proofs.Ytjhbjifhponciaa
